/- Texts put together: LSame, LawZ. -/
import Derived.Test.YtjphfdlpcakpeaaGreatDoorRMatN
import Derived.Test.YtjphfdlpcakpeaaGreatDoorRRatT
import Derived.Test.YtjphfdlpcakpeaaGreatDoorLinPZ
import Derived.Test.YtjphfdlpcakpeaaGreatDoorLawLinearInverts
import Derived.Test.YtjphfdlpcakpeaaGreatDoorRLinZ

/- The law package's same of layer 22: equal vectors. -/

namespace Go.Proofs.YtjphfdlpcakpeaaGreatDoor
open Go.RowKit Tally

set_option maxHeartbeats 4000000 in
set_option maxRecDepth 100000 in
theorem lsame_yes {w : World} {v u : Value} {n N : Nat} {f : Nat → Rat} (hx : RatsR w v n f) (hy : rRatsR w u n f) (rf : ∀ k, k < n → Rg N (f k)) (hN : N ≤ 1000000000000) (ht : Tab w) :
    Calls Tryz.prog 13 #[v, u] w fun e w' => e = .returned (.bool true) ∧ Below w.heap.size w w' := by
  obtain ⟨a, c, rfl⟩ := hx.shape
  obtain ⟨a2, c2, rfl⟩ := hy.shape
  obtain ⟨h1, h2, b, o, h3, h4⟩ := hx.parts
  obtain ⟨k1, k2, b2, o2, k3, k4⟩ := hy.parts
  have H3 := Lib.hid h3
  have H4 := Lib.hid h4
  have K3 := Lib.hid k3
  have K4 := Lib.hid k4
  have RF := Lib.hid rf
  have HT := Lib.hid ht
  clear hx hy h3 h4 k3 k4 rf ht
  have hq : ((n : Int) == (n : Int)) = true := beq_self_eq_true _
  go_enter Tryz.func13, Tryz.ntmps13
  go_wp2_with fail
  go_loopw [5] (fun i wr => ∃ (k : Nat), i = .int .i64 k ∧ k ≤ n ∧ Below w.heap.size w wr) (fun i _ => n - (intOf i).toNat)
  case atStart => exact ⟨0, rfl, by omega, Below.refl _ _⟩
  case round =>
    obtain ⟨k, rfl, hk, hbr⟩ := hrel
    have HB := Lib.hid hbr
    clear hbr
    by_cases hkn : k = n
    · obtain rfl : n = k := hkn.symm
      go_wp2
      go_ret
      exact ⟨rfl, HB.out⟩
    have hkl : k < n := by omega
    have hki : (k : Int) < (n : Int) := by omega
    obtain rfl := H3.out (by omega)
    obtain rfl := K3.out (by omega)
    obtain ⟨x, hx4, hxq⟩ := H4.out k hkl
    obtain ⟨y, hy4, hyq⟩ := K4.out k hkl
    obtain ⟨x0, x1, x2, x3⟩ := hx4.at HB.out
    obtain ⟨y0, y1, y2, y3⟩ := hy4.at HB.out
    have HX := Lib.hid (show RatR wr (.agg #[.bool x.n1, .slice x.a1 x.k1 x.c1, .bool x.n2, .slice x.a2 x.k2 x.c2]) (f k) from RatR.below hxq HB.out)
    have HY := Lib.hid (show RRatR wr (.agg #[.bool y.n1, .slice y.a1 y.k1 y.c1, .bool y.n2, .slice y.a2 y.k2 y.c2]) (f k) from RRatR.below hyq HB.out)
    have r1 := RF.out k hkl
    have HTr := Lib.hid (HT.out.below HB.out)
    obtain ⟨X, hX⟩ : ∃ X : ByteArray, ratText (f k) = X := ⟨_, rfl⟩
    have HXX := Lib.hid hX
    clear hx4 hxq hy4 hyq hX
    go_wp2_with fail
    have HL := Lib.hid (fun (w' : World) (hb : Below wr.heap.size wr w') => (⟨hb, keepc hb x0, keepc hb x1, keepc hb x2, keepc hb x3, keepc hb y0, keepc hb y1, keepc hb y2, keepc hb y3⟩ : Below wr.heap.size wr w' ∧ w'.cell? ⟨b, o + k * 4, none⟩ = some (.bool x.n1) ∧ w'.cell? ⟨b, o + k * 4 + 1, none⟩ = some (.slice x.a1 x.k1 x.c1) ∧ w'.cell? ⟨b, o + k * 4 + 2, none⟩ = some (.bool x.n2) ∧ w'.cell? ⟨b, o + k * 4 + 3, none⟩ = some (.slice x.a2 x.k2 x.c2) ∧ w'.cell? ⟨b2, o2 + k * 4, none⟩ = some (.bool y.n1) ∧ w'.cell? ⟨b2, o2 + k * 4 + 1, none⟩ = some (.slice y.a1 y.k1 y.c1) ∧ w'.cell? ⟨b2, o2 + k * 4 + 2, none⟩ = some (.bool y.n2) ∧ w'.cell? ⟨b2, o2 + k * 4 + 3, none⟩ = some (.slice y.a2 y.k2 y.c2)))
    have HI := Lib.hid (fun (w' : World) (hs : Below wr.heap.size wr w' ∧ w'.cell? ⟨b, o + k * 4, none⟩ = some (.bool x.n1) ∧ w'.cell? ⟨b, o + k * 4 + 1, none⟩ = some (.slice x.a1 x.k1 x.c1) ∧ w'.cell? ⟨b, o + k * 4 + 2, none⟩ = some (.bool x.n2) ∧ w'.cell? ⟨b, o + k * 4 + 3, none⟩ = some (.slice x.a2 x.k2 x.c2) ∧ w'.cell? ⟨b2, o2 + k * 4, none⟩ = some (.bool y.n1) ∧ w'.cell? ⟨b2, o2 + k * 4 + 1, none⟩ = some (.slice y.a1 y.k1 y.c1) ∧ w'.cell? ⟨b2, o2 + k * 4 + 2, none⟩ = some (.bool y.n2) ∧ w'.cell? ⟨b2, o2 + k * 4 + 3, none⟩ = some (.slice y.a2 y.k2 y.c2)) => hs.1)
    have HS := Lib.hid (Below.refl wr.heap.size wr)
    go_region_held3 (fun w' => Below wr.heap.size wr w' ∧ w'.cell? ⟨b, o + k * 4, none⟩ = some (.bool x.n1) ∧ w'.cell? ⟨b, o + k * 4 + 1, none⟩ = some (.slice x.a1 x.k1 x.c1) ∧ w'.cell? ⟨b, o + k * 4 + 2, none⟩ = some (.bool x.n2) ∧ w'.cell? ⟨b, o + k * 4 + 3, none⟩ = some (.slice x.a2 x.k2 x.c2) ∧ w'.cell? ⟨b2, o2 + k * 4, none⟩ = some (.bool y.n1) ∧ w'.cell? ⟨b2, o2 + k * 4 + 1, none⟩ = some (.slice y.a1 y.k1 y.c1) ∧ w'.cell? ⟨b2, o2 + k * 4 + 2, none⟩ = some (.bool y.n2) ∧ w'.cell? ⟨b2, o2 + k * 4 + 3, none⟩ = some (.slice y.a2 y.k2 y.c2))
      (first | assumption | with_reducible exact HL.out _ (Below.drew HS.out) | with_reducible exact HL.out _ (bt (HI.out _ (by assumption)) (by assumption)))
      (first | (go_at_call 24; (with_reducible refine (rattext_any (HX.out.below (HI.out _ (by assumption))) (HTr.out.below (HI.out _ (by assumption))) r1 hN).mono ?_); rintro e w1 ⟨rfl, hb1⟩; rw [HXX.out]) | (go_at_call 33; (with_reducible refine (rrattext_any (HY.out.below (HI.out _ (by assumption))) r1 hN).mono ?_); rintro e w2 ⟨rfl, hb2⟩; rw [HXX.out]))
    have HB1 := Lib.hid (bt HB.out (bt (bt (Below.drew HS.out) hb1) hb2))
    clear x0 x1 x2 x3 y0 y1 y2 y3 hb1 hb2 HL HI HS
    go_wp2
    refine ⟨⟨k + 1, by go_num, by omega, HB1.out⟩, ?_⟩
    simp [intOf]; omega
end Go.Proofs.YtjphfdlpcakpeaaGreatDoor

/- What Apply, Check of both give for small matrices and vectors. -/

namespace Go.Proofs.YtjphfdlpcakpeaaGreatDoor
open Go.RowKit Tally

theorem heads_pair {w : World} {g n c n2 c2 : Nat} {a a2 : Option Addr} {T : TypeId} (h : w.heap[g]? = some (.cells #[.slice a n c, .slice a2 n2 c2] T (0, 0))) : HeadsR w (.slice (some ⟨g, 0, none⟩) 2 2) 2 (fun i => if i = 0 then n else n2) := by
  obtain ⟨h0, h1⟩ := two_cells h
  refine ⟨_, g, 0, 2, rfl, Nat.le_refl _, by decide, fun _ => rfl, fun i hi => ?_⟩
  match i, hi with
  | 0, _ => exact ⟨a, c, h0⟩
  | 1, _ => exact ⟨a2, c2, h1⟩
def AppOk (m n : Nat) (L : Nat → Nat) : Prop := IsMat m L ∧ n = colsN m L
noncomputable def appLen (m n : Nat) (L : Nat → Nat) : Nat := open Classical in if AppOk m n L then m else 0
noncomputable def appCode (m n : Nat) (L : Nat → Nat) : Int := open Classical in if AppOk m n L then 0 else 1
def appSum (n : Nat) (A : Mx) (x : Nat → Rat) : Nat → Rat := fun i => sumTo n (fun j => A i j * x j)
theorem appLen_le {m n : Nat} {L : Nat → Nat} {i : Nat} (h : i < appLen m n L) : AppOk m n L ∧ i < m := by
  unfold appLen at h
  split at h
  · rename_i q; exact ⟨q, h⟩
  · exact absurd h (Nat.not_lt_zero _)
def GivesApp (w : World) (k : Nat) (f : Nat → Rat) (cd : Int) (e : Ending) (w' : World) : Prop :=
  ∃ (a : Option Addr) (c : Nat), e = .returned (.tuple #[.slice a k c, .int .i64 cd]) ∧ RatsR w' (.slice a k c) k f ∧ Below w.heap.size w w'
def rGivesApp (w : World) (k : Nat) (f : Nat → Rat) (cd : Int) (e : Ending) (w' : World) : Prop :=
  ∃ (a : Option Addr) (c : Nat), e = .returned (.tuple #[.slice a k c, .int .i64 cd]) ∧ rRatsR w' (.slice a k c) k f ∧ Below w.heap.size w w'
theorem rats_none (w : World) (f : Nat → Rat) : RatsR w (.slice none 0 0) 0 f := ⟨[], rfl, ⟨none, 0, 0, 0, rfl, Nat.le_refl _, Nat.zero_le _, fun h => absurd h (by decide), fun k x h => by simp at h⟩, fun k x h => by simp at h⟩
theorem rrats_none (w : World) (f : Nat → Rat) : rRatsR w (.slice none 0 0) 0 f := ⟨[], rfl, ⟨none, 0, 0, 0, rfl, Nat.le_refl _, Nat.zero_le _, fun h => absurd h (by decide), fun k x h => by simp at h⟩, fun k x h => by simp at h⟩

section
variable {w : World} {v u t : Value} {m n q d e0 e1 : Nat} {L : Nat → Nat} {Z : Nat → Nat → Int} {x y : Nat → Int}

theorem app_sizes (hok : AppOk m n L) (hz : ∀ i, i < m → Small (L i) (Z i)) (hxs : Small n x) (hd : d ≤ 255) (he : e0 ≤ 255) :
    (∀ i, i < m → ∀ k, k < n → Rg 11 (ratM d Z i k)) ∧ (∀ k, k < n → Rg 11 (ratV e0 x k)) ∧ (∀ i, i < m → ∀ k, k ≤ n → Rg 11 (sumTo k (fun j => ratM d Z i j * ratV e0 x j))) := by
  have hn : n ≤ 24 := by have := hok.1.2.2; have := hok.2; omega
  have hl : ∀ i, i < m → Small n (Z i) := fun i hi k hk => hz i hi k (by have := hok.1.1 i hi; have := hok.2; omega)
  exact ⟨fun i hi k hk => Rg.mono (int16_fw (hl i hi k hk).1 (hl i hi k hk).2 hd : Rg 5 (ratM d Z i k)) (by decide), fun k hk => Rg.mono (int16_fw (hxs k hk).1 (hxs k hk).2 he : Rg 5 (ratV e0 x k)) (by decide),
    fun i hi k hk => Rg.of (FewD.fw (sum_few (d := d) (e := e0) (n := n) (by omega) hd he (hl i hi) hxs k hk))⟩

theorem apply_some (h : MatsR w v m L (ratM d Z)) (hz : ∀ i, i < m → Small (L i) (Z i)) (hd : d ≤ 255) (hx : RatsR w u n (ratV e0 x)) (hxs : Small n x) (he : e0 ≤ 255) :
    Calls Tryz.prog 18 #[v, u] w (GivesApp w (appLen m n L) (appSum n (ratM d Z) (ratV e0 x)) (appCode m n L)) := by
  by_cases hok : AppOk m n L
  · obtain ⟨s1, s2, s3⟩ := app_sizes hok hz hxs hd he
    rw [show appLen m n L = m by unfold appLen; rw [if_pos hok], show appCode m n L = 0 by unfold appCode; rw [if_pos hok]]
    exact apply_yes h hok.1 hok.2.symm hx s1 s2 s3 (by decide)
  · rw [show appLen m n L = 0 by unfold appLen; rw [if_neg hok], show appCode m n L = 1 by unfold appCode; rw [if_neg hok]]
    refine (apply_no h hx hok).mono ?_
    rintro e w' ⟨rfl, hb⟩
    exact ⟨none, 0, rfl, rats_none _ _, hb⟩
theorem rapply_some (h : rMatsR w v m L (ratM d Z)) (hz : ∀ i, i < m → Small (L i) (Z i)) (hd : d ≤ 255) (hx : rRatsR w u n (ratV e0 x)) (hxs : Small n x) (he : e0 ≤ 255) :
    Calls Tryz.prog 19 #[v, u] w (rGivesApp w (appLen m n L) (appSum n (ratM d Z) (ratV e0 x)) (appCode m n L)) := by
  by_cases hok : AppOk m n L
  · obtain ⟨s1, s2, s3⟩ := app_sizes hok hz hxs hd he
    rw [show appLen m n L = m by unfold appLen; rw [if_pos hok], show appCode m n L = 0 by unfold appCode; rw [if_pos hok]]
    exact rapply_yes h hok.1 hok.2.symm hx s1 s2 s3 (by decide)
  · rw [show appLen m n L = 0 by unfold appLen; rw [if_neg hok], show appCode m n L = 1 by unfold appCode; rw [if_neg hok]]
    refine (rapply_no h hx hok).mono ?_
    rintro e w' ⟨rfl, hb⟩
    exact ⟨none, 0, rfl, rrats_none _ _, hb⟩
theorem check_some (h : MatsR w v m L (ratM d Z)) (hz : ∀ i, i < m → Small (L i) (Z i)) (hd : d ≤ 255) (hx : RatsR w u n (ratV e0 x)) (hxs : Small n x) (he : e0 ≤ 255) (hy : RatsR w t q (ratV e1 y)) (hys : Small q y) (he1 : e1 ≤ 255) (X : Bool)
    (hX : X = true ↔ AppOk m n L ∧ m = q ∧ ∀ k, k < m → sumTo n (fun j => ratM d Z k j * ratV e0 x j) = ratV e1 y k) :
    Calls Tryz.prog 22 #[v, u, t] w fun e w' => e = .returned (.bool X) ∧ Below w.heap.size w w' := by
  by_cases hok : AppOk m n L
  · obtain ⟨s1, s2, s3⟩ := app_sizes hok hz hxs hd he
    exact check_yes h hok.1 hok.2.symm hx hy s1 s2 s3 (fun k hk => Rg.mono (int16_fw (hys k hk).1 (hys k hk).2 he1 : Rg 5 (ratV e1 y k)) (by decide)) (by decide) X (hX.trans ⟨fun a => a.2, fun a => ⟨hok, a⟩⟩)
  · obtain rfl : X = false := by
      rcases hx2 : X with _ | _
      · rfl
      · exact absurd (hX.1 hx2).1 hok
    exact check_no h hx hy hok
theorem rcheck_some (h : rMatsR w v m L (ratM d Z)) (hz : ∀ i, i < m → Small (L i) (Z i)) (hd : d ≤ 255) (hx : rRatsR w u n (ratV e0 x)) (hxs : Small n x) (he : e0 ≤ 255) (hy : rRatsR w t q (ratV e1 y)) (hys : Small q y) (he1 : e1 ≤ 255) (X : Bool)
    (hX : X = true ↔ AppOk m n L ∧ m = q ∧ ∀ k, k < m → sumTo n (fun j => ratM d Z k j * ratV e0 x j) = ratV e1 y k) :
    Calls Tryz.prog 23 #[v, u, t] w fun e w' => e = .returned (.bool X) ∧ Below w.heap.size w w' := by
  by_cases hok : AppOk m n L
  · obtain ⟨s1, s2, s3⟩ := app_sizes hok hz hxs hd he
    exact rcheck_yes h hok.1 hok.2.symm hx hy s1 s2 s3 (fun k hk => Rg.mono (int16_fw (hys k hk).1 (hys k hk).2 he1 : Rg 5 (ratV e1 y k)) (by decide)) (by decide) X (hX.trans ⟨fun a => a.2, fun a => ⟨hok, a⟩⟩)
  · obtain rfl : X = false := by
      rcases hx2 : X with _ | _
      · rfl
      · exact absurd (hX.1 hx2).1 hok
    exact rcheck_no h hx hy hok
end
end Go.Proofs.YtjphfdlpcakpeaaGreatDoor
