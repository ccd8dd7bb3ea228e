/- An own row of numbers: its block, a number of it stored; a row's first numbers. -/
import Derived.Test.YteionhenpehogaaGreatDoorLinT
namespace Go.Proofs.YteionhenpehogaaGreatDoor
open Go.RowKit Tally

theorem flat_src2 {w : World} {b o : Nat} {L : List Num} (h : ∀ k x, L[k]? = some x → Four w b (o + k * 4) x) : ∀ j u, (flat L)[j]? = some u → w.cell? ⟨b, o + j, none⟩ = some u := by
  intro j u hu
  have := flat_src h j u hu
  rwa [show (⟨b, o, none⟩ : Addr).add j = ⟨b, o + j, none⟩ from by simp [Addr.add]] at this
theorem below_put {B g o : Nat} {a w : World} {x : Num} (h : Below B a w) (hg : B ≤ g) : Below B a (putN w g o x) :=
  (((h.setCell (p := ⟨g, o, none⟩) hg _).setCell (p := ⟨g, o + 1, none⟩) hg _).setCell (p := ⟨g, o + 2, none⟩) hg _).setCell (p := ⟨g, o + 3, none⟩) hg _
/-- an own row of numbers: its block, its slice, a number of it -/
theorem own_block {w : World} {base m : Nat} {v : Value} {L : List Num} (h : OwnG notInt w base 37 4 v m (flat L)) (hl : L.length = m) (hm : 0 < m) :
    ∃ g c cur, v = .slice (some ⟨g, 0, none⟩) m c ∧ base ≤ g ∧ w.heap[g]? = some (.cells cur 37 (0, 0)) ∧ NoInt w g ∧ m ≤ c ∧ c ≤ 9223372036854775807 ∧ ∀ k x, L[k]? = some x → Four w g (k * 4) x := by
  have hs := h.sli hl
  rcases h.own.2 with ⟨rfl, h0⟩ | ⟨g, cap, cur, rfl, hb, hg, h1, h2, h3, h4⟩
  · omega
  · obtain ⟨a, b, o, c, e, _, _, r3, r4⟩ := hs
    injection e with e1 e2 e3
    have := r3 (by omega)
    rw [← e1] at this
    injection this with this
    injection this with q1 q2
    subst q1
    subst q2
    refine ⟨g, cap, cur, rfl, hb, hg, fun o K x e => ?_, h1, by simpa [maxLen] using h2, fun k x hx => ?_⟩
    · exact h.free g rfl o _ e K x rfl
    · have := r4 k x hx
      rwa [Nat.zero_add] at this
theorem cell_put {w : World} {g o i : Nat} {x : Num} {cur : Array Value} {T : TypeId} (h : w.heap[g]? = some (.cells cur T (0, 0))) (hi : i < o ∨ o + 4 ≤ i) : (putN w g o x).cell? ⟨g, i, none⟩ = w.cell? ⟨g, i, none⟩ := by
  have s1 := Joins.block_setCell (i := o) h (.bool x.n1)
  have s2 := Joins.block_setCell (i := o + 1) s1 (.slice x.a1 x.k1 x.c1)
  have s3 := Joins.block_setCell (i := o + 2) s2 (.bool x.n2)
  have s4 := Joins.block_setCell (i := o + 3) s3 (.slice x.a2 x.k2 x.c2)
  rw [Lib.cell_of_heap h, show putN w g o x = _ from rfl, putN, Lib.cell_of_heap s4]
  rw [Array.getElem?_setIfInBounds_ne (by omega), Array.getElem?_setIfInBounds_ne (by omega), Array.getElem?_setIfInBounds_ne (by omega), Array.getElem?_setIfInBounds_ne (by omega)]
theorem cell_put4 {w : World} {g o : Nat} {x : Num} {cur : Array Value} {T : TypeId} (h : w.heap[g]? = some (.cells cur T (0, 0))) (hi : o + 4 ≤ cur.size) : Four (putN w g o x) g o x := by
  have s1 := Joins.block_setCell (i := o) h (.bool x.n1)
  have s2 := Joins.block_setCell (i := o + 1) s1 (.slice x.a1 x.k1 x.c1)
  have s3 := Joins.block_setCell (i := o + 2) s2 (.bool x.n2)
  have s4 := Joins.block_setCell (i := o + 3) s3 (.slice x.a2 x.k2 x.c2)
  refine ⟨?_, ?_, ?_, ?_⟩ <;> (unfold putN; rw [Lib.cell_of_heap s4])
  · rw [Array.getElem?_setIfInBounds_ne (by omega), Array.getElem?_setIfInBounds_ne (by omega), Array.getElem?_setIfInBounds_ne (by omega), Array.getElem?_setIfInBounds_self_of_lt (by omega)]
  · rw [Array.getElem?_setIfInBounds_ne (by omega), Array.getElem?_setIfInBounds_ne (by omega), Array.getElem?_setIfInBounds_self_of_lt (by simp; omega)]
  · rw [Array.getElem?_setIfInBounds_ne (by omega), Array.getElem?_setIfInBounds_self_of_lt (by simp; omega)]
  · rw [Array.getElem?_setIfInBounds_self_of_lt (by simp; omega)]
theorem cell_size {w : World} {g i : Nat} {u : Value} {cur : Array Value} {T : TypeId} (h : w.heap[g]? = some (.cells cur T (0, 0))) (hc : w.cell? ⟨g, i, none⟩ = some u) : i < cur.size := by
  rw [Lib.cell_of_heap h] at hc
  exact (Array.getElem?_eq_some_iff.1 hc).1
/-- a number is stored in an own row -/
theorem rats_put {w : World} {g m cap c : Nat} {L : List Num} {x : Num} {q : Rat} {f : Nat → Rat} {cur : Array Value} {T : TypeId} (hl : L.length = m) (hg : w.heap[g]? = some (.cells cur T (0, 0))) (hni : NoInt w g) (h1 : m ≤ cap) (h2 : cap ≤ 9223372036854775807)
    (h4 : ∀ k x, L[k]? = some x → Four w g (k * 4) x) (hn : NumsR w L f) (hc : c < m) (hx : RatN w x q) : RatsR (putN w g (c * 4) x) (.slice (some ⟨g, 0, none⟩) m cap) m fun k => if k = c then q else f k := by
  have hni1 := noInt_one hni
  refine ⟨L.set c x, by simp [hl], ⟨_, g, 0, cap, by simp [hl], by simp [hl]; omega, h2, fun _ => rfl, fun k y hk => ?_⟩, fun k y hk => ?_⟩
  · rw [Nat.zero_add]
    by_cases e : k = c
    · subst e
      rw [List.getElem?_set_self (by omega)] at hk
      obtain rfl : x = y := by simpa using hk
      have h5 := h4 k L[k] (List.getElem?_eq_getElem (by omega))
      have := cell_size hg h5.2.2.2
      exact cell_put4 hg (by omega)
    · rw [List.getElem?_set_ne (Ne.symm e)] at hk
      obtain ⟨q0, q1, q2, q3⟩ := h4 k y hk
      refine ⟨?_, ?_, ?_, ?_⟩
      · rw [cell_put hg (by omega)]; exact q0
      · rw [cell_put hg (by omega)]; exact q1
      · rw [cell_put hg (by omega)]; exact q2
      · rw [cell_put hg (by omega)]; exact q3
  · show RatN _ y (if k = c then q else f k)
    by_cases e : k = c
    · subst e
      rw [if_pos rfl]
      rw [List.getElem?_set_self (by omega)] at hk
      obtain rfl : x = y := by simpa using hk
      exact RatR.stay hx putN_stay hni1
    · rw [if_neg e]
      rw [List.getElem?_set_ne (Ne.symm e)] at hk
      exact RatR.stay (hn k y hk) putN_stay hni1
theorem three_cells {w : World} {b : Nat} {x y z : Value} {T : TypeId} (h : w.heap[b]? = some (.cells #[x, y, z] T (0, 0))) : w.cell? ⟨b, 0, none⟩ = some x ∧ w.cell? ⟨b, 1, none⟩ = some y ∧ w.cell? ⟨b, 2, none⟩ = some z :=
  ⟨by rw [Lib.cell_of_heap h]; rfl, by rw [Lib.cell_of_heap h]; rfl, by rw [Lib.cell_of_heap h]; rfl⟩
theorem RatsR.take {w : World} {a : Option Addr} {n m c : Nat} {f : Nat → Rat} (h : RatsR w (.slice a n c) n f) (hm : m ≤ n) : RatsR w (.slice a m c) m f := by
  obtain ⟨L, h1, ⟨a', b', o, c', e, r1, r2, r3, r4⟩, h3⟩ := h
  injection e with e1 e2 e3
  subst e1
  subst e3
  refine ⟨L.take m, by simp; omega, ⟨a, b', o, c, by rw [List.length_take, Nat.min_eq_left (by omega)], by simp; omega, r2, fun hp => r3 (by simp at hp; omega), fun k x hx => ?_⟩, fun k x hx => ?_⟩
  · rw [List.getElem?_take] at hx
    split at hx
    · exact r4 k x hx
    · cases hx
  · rw [List.getElem?_take] at hx
    split at hx
    · exact h3 k x hx
    · cases hx
end Go.Proofs.YteionhenpehogaaGreatDoor
