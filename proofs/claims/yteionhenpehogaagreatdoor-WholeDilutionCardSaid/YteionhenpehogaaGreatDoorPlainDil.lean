import Derived.Test.YteionhenpehogaaGreatDoorPlainSS
namespace Tally
open Graph.Plain (ReachF IsReach)
theorem cmpQ_selfD (p : Rat) : cmpQ p p = 0 := by unfold cmpQ; rw [Int.sub_self]; rfl
section
variable {n : Nat} {Z : Nat → Nat → Int} {D : Nat → Int} {o : Nat → Bool} {x y : Nat → Rat}
theorem Sol.placesD (hx : Sol n Z D o x) {i : Nat} (hi : i < (plc o n).length) : x (plAt o n i) = plD o n D i + sumTo (plc o n).length (fun k => plB o n Z i k * x (plAt o n k)) := by
 obtain ⟨h1, h2⟩ := plAt_mem hi
 rw [hx.2 _ h1 h2]
 have e1 : sumTo (plc o n).length (fun k => plB o n Z i k * x (plAt o n k)) = sumTo n (fun h => part (Z h (plAt o n i)) * x h) := by
  refine (plc_sumQ (o := o) (n := n) (fun h => part (Z h (plAt o n i)) * x h)).trans ?_
  refine sumTo_congr fun k hk => ?_
  by_cases q : o k = true
  ·rw [if_pos q]
  ·rw [if_neg q, hx.1 k hk (by simpa using q)]; grind
 rw [e1]; rfl
theorem Sol.nonnegD (hs : Shares n Z D) (ho : IsReach n (inner Z) (direct n D) o) (hx : Sol n Z D o x) : ∀ e, e < n → 0 ≤ x e := by
 intro e he
 by_cases q : o e = true
 ·obtain ⟨i, hi, rfl⟩ := plAt_of he q
  exact fed_nonneg (x := fun i => x (plAt o n i)) (plB_pos hs) (plD_pos hs ho) (pl_sum hs ho) (plD_pos hs ho) (pl_fed hs ho) (fun i hi => hx.placesD hi) i hi
 ·rw [hx.1 e he (by simpa using q)]; exact Rat.le_refl
theorem Sol.posD (hs : Shares n Z D) (ho : IsReach n (inner Z) (direct n D) o) (hx : Sol n Z D o x) {e : Nat} (he : e < n) (h : o e = true) : 0 < x e := by
 have hn := hx.nonnegD hs ho
 have ht : ∀ e, 1 ≤ e → e < n → ∀ k, k < n → 0 ≤ part (Z k e) * x k := fun e _ he k hk => mul_nn (part_nonneg (hs.pos k e hk he)) (hn k hk)
 have key := (ho.iff he).1 h (fun a => a < n → 1 ≤ a ∧ o a = true ∧ 0 < x a)
  (fun a ha _ => by
   have hoa := ho.init a ha.2.1 ha
   refine ⟨ha.1, hoa, ?_⟩
   rw [hx.2 a ha.2.1 hoa]
   have h1 := part_pos ha.2.2
   have h2 := sum_nonneg (ht a ha.1 ha.2.1)
   grind)
  (fun a b ha hb hS hz _ => by
   obtain ⟨a1, a2, a3⟩ := hS ha
   obtain ⟨_, b1, zab⟩ := inner_zero _ _ hz
   have hob := ho.closed a b ha hb a2 hz
   refine ⟨b1, hob, ?_⟩
   rw [hx.2 b hb hob]
   have h1 := part_nonneg (hs.dpos b b1 hb)
   have h2 := sum_ge (ht b b1 hb) ha
   have h3 := mul_pp (part_pos zab) a3
   grind)
 exact (key he).2.2
theorem Sol.pos_iffD (hs : Shares n Z D) (ho : IsReach n (inner Z) (direct n D) o) (hx : Sol n Z D o x) {e : Nat} (he : e < n) : 0 < x e ↔ o e = true := by
 refine ⟨fun h => ?_, hx.posD hs ho he⟩
 cases q : o e
 ·rw [hx.1 e he q] at h; exact absurd h (by decide)
 ·rfl
end
section
variable {H H' : Hds} {k : Nat}
theorem best_set {h e day : Int} {j : Nat} (h1 : H'.ho = H.ho) (h2 : H'.en = H.en) (h3 : H'.da = H.da) : H'.best h e day j = H.best h e day j := by
 induction j with
 | zero => rfl
 | succ j ih =>
  unfold Hds.best
  have hh : H'.hits h e day j ↔ H.hits h e day j := by unfold Hds.hits; rw [h1, h2, h3]
  by_cases q : H.hits h e day j
  ·rw [if_pos q, if_pos (hh.2 q), ih]
   cases H.best h e day j <;> simp only [h3]
  ·rw [if_neg q, if_neg (fun z => q (hh.1 z)), ih]
theorem at_set {h e day : Int} {i0 : Nat} (h1 : H'.ho = H.ho) (h2 : H'.en = H.en) (h3 : H'.da = H.da) (h4 : ∀ i, i ≠ i0 → H'.sh i = H.sh i) (hne : H.ho i0 ≠ h) : H'.at h e day k = H.at h e day k := by
 unfold Hds.at
 rw [best_set h1 h2 h3]
 cases hb : H.best h e day k with
 | none => rfl
 | some i =>
  have := (best_some hb).2.1
  exact h4 i fun q => hne (by rw [← q]; exact this)
theorem best_agree {h e day : Int} {j : Nat} (hc : ∀ i, i < j → H'.ho i = H.ho i ∧ H'.en i = H.en i ∧ H'.da i = H.da i ∧ H'.sh i = H.sh i) : H'.best h e day j = H.best h e day j := by
 induction j with
 | zero => rfl
 | succ j ih =>
  have h1 := ih fun i hi => hc i (by omega)
  unfold Hds.best
  obtain ⟨c1, c2, c3, _⟩ := hc j (by omega)
  have hh : H'.hits h e day j ↔ H.hits h e day j := by unfold Hds.hits; rw [c1, c2, c3]
  by_cases q : H.hits h e day j
  ·rw [if_pos q, if_pos (hh.2 q), h1]
   cases hb : H.best h e day j with
   | none => rfl
   | some i => simp only [c3, (hc i (by have := (best_some hb).1; omega)).2.2.1]
  ·rw [if_neg q, if_neg (fun z => q (hh.1 z)), h1]
theorem at_agree {h e day : Int} {j : Nat} (hc : ∀ i, i < j → H'.ho i = H.ho i ∧ H'.en i = H.en i ∧ H'.da i = H.da i ∧ H'.sh i = H.sh i) : H'.at h e day j = H.at h e day j := by
 unfold Hds.at
 rw [best_agree hc]
 cases hb : H.best h e day j with
 | none => rfl
 | some i => exact (hc i (best_some hb).1).2.2.2
theorem at_more {h e day : Int} (hc : ∀ i, i < k → H'.ho i = H.ho i ∧ H'.en i = H.en i ∧ H'.da i = H.da i ∧ H'.sh i = H.sh i) (hne : H'.ho k ≠ h) : H'.at h e day (k + 1) = H.at h e day k := by
 have : H'.at h e day (k + 1) = H'.at h e day k := by
  unfold Hds.at
  rw [show H'.best h e day (k + 1) = H'.best h e day k from by
   show (if H'.hits h e day k then _ else _) = _
   rw [if_neg (fun q => hne q.1)]]
 rw [this, at_agree hc]
end
section
variable {n : Nat} {Z Z' : Nat → Nat → Int} {D : Nat → Int} {o o' : Nat → Bool} {x y : Nat → Rat}
theorem dil_reach (ho : IsReach n (inner Z) (direct n D) o) {p : Nat} (hp : o p = false) (hz : ∀ a b, a < n → b < n → a ≠ p → Z' a b = Z a b) : IsReach n (inner Z') (direct n D) o := by
 have hin : ∀ a b, a < n → b < n → a ≠ p → inner Z' a b = inner Z a b := fun a b ha hb hne => by unfold inner; rw [hz a b ha hb hne]
 refine ⟨ho.init, fun a b ha hb hoa h => ?_, fun e he h => ?_⟩
 ·have hne : a ≠ p := fun q => by rw [q, hp] at hoa; exact absurd hoa (by decide)
  exact ho.closed a b ha hb hoa (by rw [← hin a b ha hb hne]; exact h)
 ·have key := (ho.iff he).1 h (fun a => a < n → o a = true ∧ ReachF n (inner Z') (direct n D) a) (fun a ha h1 => ⟨ho.init a h1 ha, ReachF.init ha⟩) (fun a b ha hb hS hzz _ => by
   obtain ⟨a1, a2⟩ := hS ha
   have hne : a ≠ p := fun q => by rw [q, hp] at a1; exact absurd a1 (by decide)
   exact ⟨ho.closed a b ha hb a1 hzz, a2.step ha hb (by rw [hin a b ha hb hne]; exact hzz)⟩)
  exact (key he).2
theorem dil_sol {p : Nat} (hpn : p < n) (hp : o p = false) (hz : ∀ a b, a < n → b < n → a ≠ p → Z' a b = Z a b) (hx : Sol n Z D o x) : Sol n Z' D o x := by
 refine ⟨hx.1, fun e he h => ?_⟩
 rw [hx.2 e he h]
 congr 1
 refine sumTo_congr fun a ha => ?_
 by_cases q : a = p
 ·subst q; rw [hx.1 a ha hp]; grind
 ·rw [hz a e ha he q]
theorem dil_same {D' : Nat → Int} (hs : Shares n Z' D') (ho : IsReach n (inner Z) (direct n D) o) (hx : Sol n Z D o x) (ho' : IsReach n (inner Z') (direct n D') o') (hy : Sol n Z' D' o' y) {p : Nat} (hpn : p < n) (hp : o p = false)
  (hz : ∀ a b, a < n → b < n → a ≠ p → Z' a b = Z a b) (hd : ∀ e, e < n → D' e = D e) : ∀ e, e < n → x e = y e := by
 have hD : direct n D = direct n D' := by
  funext e
  refine propext ⟨fun h => ⟨h.1, h.2.1, by rw [hd e h.2.1]; exact h.2.2⟩, fun h => ⟨h.1, h.2.1, by rw [← hd e h.2.1]; exact h.2.2⟩⟩
 have h1 := dil_reach ho hp hz
 rw [hD] at h1
 have h2 := dil_sol hpn hp hz hx
 have he := h1.unique ho'
 refine Sol.unique hs ho' ⟨fun e hen h => h2.1 e hen (by rw [he e hen]; exact h), fun e hen h => ?_⟩ hy
 rw [hd e hen]
 exact h2.2 e hen (by rw [he e hen]; exact h)
end
end Tally
