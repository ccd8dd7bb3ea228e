/- A law for regions whose order is open: a fact that bears what has come up so far, kept by each operation. -/
import Derived.Test.YtikpafocankggaaGreatDoorRat
import Derived.RegionTactic
namespace Go.Proofs.YtikpafocankggaaGreatDoor
open Go.RowKit Tally
section
variable {P : Program} {ops : Array Oper} {Q : Exit → Act → World → Prop} {md : Region.Mode}
def leftOf (l : Array Bool) : Nat := (l.toList.filter fun b => !b).length
theorem leftOf_set {l : Array Bool} {i : Nat} (hi : i < l.size) (h : l.getD i true = false) : leftOf (l.setIfInBounds i true) + 1 = leftOf l := by
 have h' : l[i] = false := by simpa [Array.getD, hi] using h
 unfold leftOf
 have e : (l.setIfInBounds i true).toList = l.toList.set i true := by simp [Array.setIfInBounds, hi]
 rw [e]
 have hl : i < l.toList.length := by simpa using hi
 have hg : l.toList[i] = false := by simpa using h'
 generalize l.toList = m at *
 clear e h h' hi
 induction m generalizing i with
 | nil => simp at hl
 | cons x m ih =>
  cases i with
  | zero =>
   simp at hg
   subst hg
   simp
  | succ i =>
   simp only [List.set_cons_succ, List.filter_cons]
   have := ih (i := i) (by simpa using hl) (by simpa using hg)
   split
   ·simp only [List.length_cons]; omega
   ·exact this
theorem leftOf_zero {l : Array Bool} (h : leftOf l = 0) (i : Nat) : l.getD i true = true := by
 by_cases hi : i < l.size
 ·have h1 : l.toList.filter (fun b => !b) = [] := List.length_eq_zero_iff.1 h
  have h2 := List.filter_eq_nil_iff.1 h1 l[i] (by simp)
  simpa [Array.getD, hi] using h2
 ·simp [Array.getD, hi]
theorem wpAny_inv (I : Array Bool → Act → World → Prop) (size : ∀ l a w, I l a w → l.size = ops.size)
  (step : ∀ l a w i o, I l a w → ops[i]? = some o → l.getD i true = false → (∀ e ∈ o.after, Region.binds md e = true → l.getD e.on false = true) → wpOp P ops Q i (I (l.setIfInBounds i true)) a w)
  (fin : ∀ l a w, I l a w → Region.ready md ops l = [] → Q .normal a w) : ∀ (fuel : Nat) (l : Array Bool) (a : Act) (w : World), I l a w → leftOf l ≤ fuel → wpAny P md ops Q fuel l a w := by
 intro fuel
 induction fuel with
 | zero =>
  intro l a w h hf
  have h0 : Region.ready md ops l = [] := by
   rcases hr : Region.ready md ops l with _ | ⟨i, rest⟩
   ·rfl
   ·have hi : i ∈ Region.ready md ops l := by rw [hr]; exact List.mem_cons_self
    have := (mem_ready.1 hi).1
    rw [leftOf_zero (by omega)] at this
    cases this
  exact ⟨h0, fin l a w h h0⟩
 | succ fuel ih =>
  intro l a w h hf
  refine ⟨fin l a w h, fun i hi => ?_⟩
  obtain ⟨hu, o, ho, ha⟩ := mem_ready.1 hi
  refine wpOp_mono (fun a' w' h' => ih _ a' w' h' ?_) (step l a w i o h ho hu ha)
  have hlt : i < l.size := by rw [size l a w h]; exact (Array.getElem?_eq_some_iff.1 ho).1
  have := leftOf_set hlt hu
  omega
theorem all_listed (hord : ∀ (i : Nat) (o : Oper), ops[i]? = some o → ∀ e ∈ o.after, Region.binds md e = true → e.on < i) {l : Array Bool} (hs : l.size = ops.size) (h : Region.ready md ops l = []) : ∀ i, i < ops.size → l.getD i false = true := by
 intro i
 induction i using Nat.strongRecOn with
 | ind i ih =>
  intro hi
  by_cases hl : l.getD i true = false
  ·exfalso
   have : i ∈ Region.ready md ops l := mem_ready.2 ⟨hl, ops[i], by simp [hi], fun e he hb => by
    have hlt := hord i ops[i] (by simp [hi]) e he hb
    exact ih e.on hlt (by omega)⟩
   rw [h] at this
   cases this
  ·have hi' : i < l.size := by omega
   simp [Array.getD, hi'] at hl ⊢
   exact hl
theorem wp_region_inv {id : Nat} {a : Act} {w : World} (hm : P.follows .mixedOrders = true) (I : Act → Array Bool → Act → World → Prop)
  (h0 : I a (Array.replicate ops.size false) a w.drew) (size : ∀ l a' w', I a l a' w' → l.size = ops.size)
  (hord : ∀ (i : Nat) (o : Oper), ops[i]? = some o → ∀ e ∈ o.after, Region.binds .any e = true → e.on < i)
  (step : ∀ l a' w' i o, I a l a' w' → ops[i]? = some o → l.getD i true = false → (∀ e ∈ o.after, Region.binds .any e = true → l.getD e.on false = true) → wpOp P ops Q i (I a (l.setIfInBounds i true)) a' w')
  (fin : ∀ l a' w', I a l a' w' → (∀ i, i < ops.size → l.getD i false = true) → Q .normal a' w') : (Code.region id ops true).wp P Q a w := by
 refine wp_region_any hm ?_
 refine wpAny_inv (I a) size step (fun l a' w' h hr => fin l a' w' h (all_listed hord (size l a' w' h) hr)) ops.size _ a _ h0 ?_
 unfold leftOf
 refine Nat.le_trans (List.length_filter_le _ _) ?_
 simp
def ordL : Nat → List Oper → Bool
 | _, [] => true
 | i, o :: os => o.after.toList.all (fun e => !Region.binds .any e || Nat.ble (e.on + 1) i) && ordL (i + 1) os
theorem ordL_spec : ∀ (os : List Oper) (k : Nat), ordL k os = true → ∀ (i : Nat) (o : Oper), os[i]? = some o → ∀ e ∈ o.after, Region.binds .any e = true → e.on < k + i
 | [], _, _, i, o, h, _, _, _ => by simp at h
 | x :: os, k, h, i, o, ho, e, he, hb => by
  simp only [ordL, Bool.and_eq_true] at h
  cases i with
  | zero =>
   simp at ho
   subst ho
   have := List.all_eq_true.1 h.1 e (by simpa using he)
   simp only [hb, Bool.not_true, Bool.false_or] at this
   have := Nat.le_of_ble_eq_true this
   omega
  | succ i =>
   have := ordL_spec os (k + 1) h.2 i o (by simpa using ho) e he hb
   omega
theorem region_ord (h : ordL 0 ops.toList = true) (i : Nat) (o : Oper) (ho : ops[i]? = some o) : ∀ e ∈ o.after, Region.binds .any e = true → e.on < i := by
 intro e he hb
 have := ordL_spec ops.toList 0 h i o (by simpa using ho) e he hb
 omega
theorem not_listed {l : Array Bool} {i : Nat} (h : l.getD i true = false) : l.getD i false = false := by
 by_cases hi : i < l.size
 ·simp [Array.getD, hi] at h ⊢; exact h
 ·simp [Array.getD, hi]
theorem ptr_inj {g g' : Nat} (h : Value.pointer (some ⟨g, 0, none⟩) = Value.pointer (some ⟨g', 0, none⟩)) : g = g' := by
 injection h with h
 injection h with h
 injection h with h
theorem listed_old {l : Array Bool} {i k : Nat} (h : (l.setIfInBounds i true).getD k false = true) (hn : i ≠ k) : l.getD k false = true := by
 rwa [Go.getD_set_ne false hn] at h
theorem listed_new {l : Array Bool} {i k : Nat} (h : l.getD k false = true) (hn : i ≠ k) : (l.setIfInBounds i true).getD k false = true := by
 rw [Go.getD_set_ne false hn]; exact h
end
end Go.Proofs.YtikpafocankggaaGreatDoor
