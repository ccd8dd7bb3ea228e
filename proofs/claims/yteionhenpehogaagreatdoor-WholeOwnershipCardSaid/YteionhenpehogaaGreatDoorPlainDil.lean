import Derived.Test.YteionhenpehogaaGreatDoorPlainSS
namespace Tally
open Graph.Plain (ReachF IsReach)
section
variable {n : Nat} {Z : Nat → Nat → Int} {D : Nat → Int} {o : Nat → Bool} {x y : Nat → Rat}
theorem Sol.placesD (hx : Sol n Z D o x) {i : Nat} (hi : i < (plc o n).length) : x (plAt o n i) = plD o n D i + sumTo (plc o n).length (fun k => plB o n Z i k * x (plAt o n k)) := by
 obtain ⟨h1, h2⟩ := plAt_mem hi
 rw [hx.2 _ h1 h2]
 have e1 : sumTo (plc o n).length (fun k => plB o n Z i k * x (plAt o n k)) = sumTo n (fun h => part (Z h (plAt o n i)) * x h) := by
  refine (plc_sumQ (o := o) (n := n) (fun h => part (Z h (plAt o n i)) * x h)).trans ?_
  refine sumTo_congr fun k hk => ?_
  by_cases q : o k = true
  ·rw [if_pos q]
  ·rw [if_neg q, hx.1 k hk (by simpa using q)]; grind
 rw [e1]; rfl
theorem Sol.nonnegD (hs : Shares n Z D) (ho : IsReach n (inner Z) (direct n D) o) (hx : Sol n Z D o x) : ∀ e, e < n → 0 ≤ x e := by
 intro e he
 by_cases q : o e = true
 ·obtain ⟨i, hi, rfl⟩ := plAt_of he q
  exact fed_nonneg (x := fun i => x (plAt o n i)) (plB_pos hs) (plD_pos hs ho) (pl_sum hs ho) (plD_pos hs ho) (pl_fed hs ho) (fun i hi => hx.placesD hi) i hi
 ·rw [hx.1 e he (by simpa using q)]; exact Rat.le_refl
theorem Sol.posD (hs : Shares n Z D) (ho : IsReach n (inner Z) (direct n D) o) (hx : Sol n Z D o x) {e : Nat} (he : e < n) (h : o e = true) : 0 < x e := by
 have hn := hx.nonnegD hs ho
 have ht : ∀ e, 1 ≤ e → e < n → ∀ k, k < n → 0 ≤ part (Z k e) * x k := fun e _ he k hk => mul_nn (part_nonneg (hs.pos k e hk he)) (hn k hk)
 have key := (ho.iff he).1 h (fun a => a < n → 1 ≤ a ∧ o a = true ∧ 0 < x a)
  (fun a ha _ => by
   have hoa := ho.init a ha.2.1 ha
   refine ⟨ha.1, hoa, ?_⟩
   rw [hx.2 a ha.2.1 hoa]
   have h1 := part_pos ha.2.2
   have h2 := sum_nonneg (ht a ha.1 ha.2.1)
   grind)
  (fun a b ha hb hS hz _ => by
   obtain ⟨a1, a2, a3⟩ := hS ha
   obtain ⟨_, b1, zab⟩ := inner_zero _ _ hz
   have hob := ho.closed a b ha hb a2 hz
   refine ⟨b1, hob, ?_⟩
   rw [hx.2 b hb hob]
   have h1 := part_nonneg (hs.dpos b b1 hb)
   have h2 := sum_ge (ht b b1 hb) ha
   have h3 := mul_pp (part_pos zab) a3
   grind)
 exact (key he).2.2
theorem Sol.pos_iffD (hs : Shares n Z D) (ho : IsReach n (inner Z) (direct n D) o) (hx : Sol n Z D o x) {e : Nat} (he : e < n) : 0 < x e ↔ o e = true := by
 refine ⟨fun h => ?_, hx.posD hs ho he⟩
 cases q : o e
 ·rw [hx.1 e he q] at h; exact absurd h (by decide)
 ·rfl
end
section
variable {H H' : Hds} {k : Nat}
end
section
variable {n : Nat} {Z Z' : Nat → Nat → Int} {D : Nat → Int} {o o' : Nat → Bool} {x y : Nat → Rat}
end
end Tally
namespace Tally
open Graph.Plain (ReachF IsReach Great IsClosed hold)
section
variable {n : Nat} {Z : Nat → Nat → Int} {D E : Nat → Int} {o p : Nat → Bool} {x y : Nat → Rat}
theorem reach_add (hs : Shares n Z D) (hs2 : Shares n Z E) (ho : IsReach n (inner Z) (direct n D) o) (hp : IsReach n (inner Z) (direct n E) p) : IsReach n (inner Z) (direct n fun e => D e + E e) (fun e => o e || p e) := by
 refine ⟨fun a ha hI => ?_, fun a b ha hb hab hz => ?_, fun e he h => ?_⟩
 ·have h1 := hs.dpos a hI.1 ha
  have h2 := hs2.dpos a hI.1 ha
  have h3 : 0 < D a + E a := hI.2.2
  by_cases q : 0 < D a
  ·rw [ho.init a ha ⟨hI.1, ha, q⟩]; rfl
  ·rw [hp.init a ha ⟨hI.1, ha, by omega⟩]; exact Bool.or_true _
 ·rcases Bool.or_eq_true_iff.1 hab with q | q
  ·rw [ho.closed a b ha hb q hz]; rfl
  ·rw [hp.closed a b ha hb q hz]; exact Bool.or_true _
 ·rcases Bool.or_eq_true_iff.1 h with q | q
  ·exact (ho.sound e he q).mono fun a ha => ReachF.init ⟨ha.1, ha.2.1, by have := hs2.dpos a ha.1 ha.2.1; have := ha.2.2; show 0 < D a + E a; omega⟩
  ·exact (hp.sound e he q).mono fun a ha => ReachF.init ⟨ha.1, ha.2.1, by have := hs.dpos a ha.1 ha.2.1; have := ha.2.2; show 0 < D a + E a; omega⟩
theorem Sol.add (hs : Shares n Z D) (hs2 : Shares n Z E) (ho : IsReach n (inner Z) (direct n D) o) (hp : IsReach n (inner Z) (direct n E) p) (hx : Sol n Z D o x) (hy : Sol n Z E p y) : Sol n Z (fun e => D e + E e) (fun e => o e || p e) (fun e => x e + y e) := by
 refine ⟨fun e he h => ?_, fun e he h => ?_⟩
 ·obtain ⟨a, b⟩ := Bool.or_eq_false_iff.1 h
  show x e + y e = 0
  rw [hx.1 e he a, hy.1 e he b]; grind
 ·have h1 : 1 ≤ e := by
   rcases Bool.or_eq_true_iff.1 h with q | q
   ·exact reach_pos ho he q
   ·exact reach_pos hp he q
  show x e + y e = part (D e + E e) + sumTo n (fun h => part (Z h e) * (x h + y h))
  rw [hx.eq hs ho h1 he, hy.eq hs2 hp h1 he, part_add, sumTo_congr (f := fun h => part (Z h e) * (x h + y h)) (g := fun h => part (Z h e) * x h + part (Z h e) * y h) (fun k _ => by grind), sumTo_add]
  grind
end
section
variable {n : Nat} {Z : Nat → Nat → Int} {D : Nat → Int} {o g r : Nat → Bool} {s : Nat → Rat}
theorem whole_rest (hs : Shares n Z D) (ho : IsReach n (inner Z) (direct n D) o) (hx : Sol n Z D o s) (hD : ∀ e, 1 ≤ e → e < n → isum n (fun h => if h = 0 then 0 else Z h e) + D e = 10000) {e : Nat} (h1 : 1 ≤ e) (he : e < n) :
  1 - s e = sumTo n (fun h => if h = 0 then 0 else part (Z h e) * (1 - s h)) := by
 have hn : 0 < n := by omega
 have h0 := hx.zero ho hn
 have e1 : sumTo n (fun h => if h = 0 then 0 else part (Z h e) * (1 - s h)) = sumTo n (fun h => part (if h = 0 then 0 else Z h e) + (-1) * (part (Z h e) * s h)) := by
  refine sumTo_congr fun k hk => ?_
  by_cases q : k = 0
  ·subst q; rw [if_pos rfl, if_pos rfl, h0, part_zero]; grind
  ·rw [if_neg q, if_neg q]; grind
 rw [e1, sumTo_add, sumTo_mul, sum_part, hx.eq hs ho h1 he]
 have h2 := hD e h1 he
 have h3 : part (isum n (fun h => if h = 0 then 0 else Z h e)) + part (D e) = 1 := by rw [← part_add, h2, part_one]
 grind
theorem whole_one (hx : Sol n Z D o s) {e : Nat} (he : e < n) (h : o e = false) : 1 - s e = 1 := by rw [hx.1 e he h]; grind
theorem whole_nonneg (hs : Shares n Z D) (ho : IsReach n (inner Z) (direct n D) o) (hx : Sol n Z D o s) (hD : ∀ e, 1 ≤ e → e < n → isum n (fun h => if h = 0 then 0 else Z h e) + D e = 10000) : ∀ e, e < n → 0 ≤ 1 - s e := by
 intro e he
 by_cases q : o e = true
 ·obtain ⟨i, hi, rfl⟩ := plAt_of he q
  refine fed_nonneg (x := fun i => 1 - s (plAt o n i)) (c := fun i => sumTo n (fun h => if h = 0 ∨ o h = true then 0 else part (Z h (plAt o n i)))) (plB_pos hs) (plD_pos hs ho) (pl_sum hs ho) (fun i hi => sum_nonneg fun k hk => ?_) (pl_fed hs ho) (fun i hi => ?_) i hi
  ·by_cases z : k = 0 ∨ o k = true
   ·rw [if_pos z]; exact Rat.le_refl
   ·rw [if_neg z]; exact part_nonneg (hs.pos _ _ hk (plAt_mem hi).1)
  ·obtain ⟨a, b⟩ := plAt_mem hi
   have h0 := reach_zero ho (show 0 < n by omega)
   show 1 - s (plAt o n i) = _
   rw [whole_rest hs ho hx hD (reach_pos ho a b) a]
   have e1 : sumTo (plc o n).length (fun k => plB o n Z i k * (1 - s (plAt o n k))) = sumTo n (fun h => if o h = true then part (Z h (plAt o n i)) * (1 - s h) else 0) := plc_sumQ (o := o) (n := n) (fun h => part (Z h (plAt o n i)) * (1 - s h))
   rw [e1, ← sumTo_add]
   refine sumTo_congr fun k hk => ?_
   by_cases z : k = 0
   ·subst z; rw [if_pos rfl, if_pos (.inl rfl), if_neg (by rw [h0]; decide)]; grind
   ·by_cases t : o k = true
    ·rw [if_neg z, if_pos (.inr t), if_pos t]; grind
    ·rw [if_neg z, if_neg (by rintro (q | q); exact z q; exact t q), if_neg t, whole_one hx hk (by simpa using t)]; grind
 ·rw [whole_one hx he (by simpa using q)]; decide
end
end Tally
namespace Tally
open Graph.Plain (ReachF IsReach R cnt)
section
variable {n : Nat} {Z : Nat → Nat → Int}
noncomputable def anc (n : Nat) (Z : Nat → Nat → Int) (k : Nat) : Nat := cnt (fun h => @decide (R n Z h k) (Classical.propDecidable _)) n
end
end Tally
