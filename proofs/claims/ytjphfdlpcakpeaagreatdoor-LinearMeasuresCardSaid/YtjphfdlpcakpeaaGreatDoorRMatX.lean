/- A matrix of the reference that a function has made by appending: rows with spare places. -/
import Derived.Test.YtjphfdlpcakpeaaGreatDoorLawLinearCramer
import Derived.Test.YtjphfdlpcakpeaaGreatDoorRLinA
namespace Go.Proofs.YtjphfdlpcakpeaaGreatDoor
open Go.RowKit Tally

/-- a row of numbers in a block, maybe with more behind them -/
def RowX (w : World) (b n : Nat) (f : Nat → Rat) : Prop :=
  ∃ (L : List Num) (cur : Array Value) (T : TypeId), L.length = n ∧ w.heap[b]? = some (.cells cur T (0, 0)) ∧ NoInt w b ∧ (∀ k x, L[k]? = some x → Four w b (k * 4) x) ∧ rNumsR w L f
theorem RowX.noInt {w : World} {b n : Nat} {f : Nat → Rat} (h : RowX w b n f) : NoInt w b := by
  obtain ⟨_, _, _, _, _, h3, _⟩ := h; exact h3
theorem RowX.lt {w : World} {b n : Nat} {f : Nat → Rat} (h : RowX w b n f) : b < w.heap.size := by
  obtain ⟨_, _, _, _, h2, _⟩ := h; exact (Array.getElem?_eq_some_iff.1 h2).1
theorem noInt_block {w w' : World} {b : Nat} (h : NoInt w b) (e : w'.heap[b]? = w.heap[b]?) : NoInt w' b := fun o K x q => h o K x (by rw [← World.cell?_of_block (w := w) (w' := w') (a := ⟨b, o, none⟩) e]; exact q)
theorem four_block {w w' : World} {b o : Nat} {x : Num} (h : Four w b o x) (e : w'.heap[b]? = w.heap[b]?) : Four w' b o x := by
  have c : ∀ j, w'.cell? ⟨b, j, none⟩ = w.cell? ⟨b, j, none⟩ := fun j => World.cell?_of_block (a := ⟨b, j, none⟩) e
  exact ⟨(c _).trans h.1, (c _).trans h.2.1, (c _).trans h.2.2.1, (c _).trans h.2.2.2⟩
theorem RowX.below {w w' : World} {b n : Nat} {f : Nat → Rat} (h : RowX w b n f) (hb : Below w.heap.size w w') : RowX w' b n f := by
  have hl := h.lt
  obtain ⟨L, cur, T, h1, h2, h3, h4, h5⟩ := h
  exact ⟨L, cur, T, h1, blk_next h2 hb, noInt_block h3 (hb.block b hl), fun k x hx => (h4 k x hx).below hb, h5.below hb⟩
theorem RowX.congr {w : World} {b n : Nat} {f g : Nat → Rat} (h : RowX w b n f) (e : ∀ k, k < n → f k = g k) : RowX w b n g := by
  obtain ⟨L, cur, T, h1, h2, h3, h4, h5⟩ := h
  exact ⟨L, cur, T, h1, h2, h3, h4, h5.congr (fun k hk => e k (by omega))⟩
theorem RowX.elem {w : World} {b n k : Nat} {f : Nat → Rat} (h : RowX w b n f) (hk : k < n) : ∃ x, Four w b (k * 4) x ∧ rRatN w x (f k) := by
  obtain ⟨L, cur, T, h1, h2, h3, h4, h5⟩ := h
  have hx : L[k]? = some L[k] := List.getElem?_eq_getElem (by omega)
  exact ⟨L[k], h4 k _ hx, h5 k _ hx⟩
theorem RowX.unfrozen {w : World} {b n : Nat} {f : Nat → Rat} (h : RowX w b n f) (k : Nat) : w.frozen? ⟨b, k, none⟩ = false := by
  obtain ⟨_, _, _, _, h2, _⟩ := h
  exact Lib.frozen_of_heap h2 k
/-- a row away from the blocks that change -/
theorem RowX.stay {w w' : World} {b n D : Nat} {f : Nat → Rat} (h : RowX w b n f) (hs : Stay D (D + 1) w w') (hb : b ≠ D) (hn : NoInt w D) : RowX w' b n f := by
  have hl := h.lt
  obtain ⟨L, cur, T, h1, h2, h3, h4, h5⟩ := h
  have e := hs.block b hl (by omega)
  exact ⟨L, cur, T, h1, e.trans h2, noInt_block h3 e, fun k x hx => four_block (h4 k x hx) e, h5.stay hs (noInt_one hn)⟩
theorem noInt_put {w : World} {b o : Nat} {x : Num} {cur : Array Value} {T : TypeId} (h : w.heap[b]? = some (.cells cur T (0, 0))) (hn : NoInt w b) : NoInt (putN w b o x) b := by
  have s1 := Joins.block_setCell (i := o) h (.bool x.n1)
  have s2 := Joins.block_setCell (i := o + 1) s1 (.slice x.a1 x.k1 x.c1)
  have s3 := Joins.block_setCell (i := o + 2) s2 (.bool x.n2)
  have s4 := Joins.block_setCell (i := o + 3) s3 (.slice x.a2 x.k2 x.c2)
  have hc := cells_of_noInt h hn
  have set : ∀ {A : Array Value} {v : Value} {i : Nat}, (∀ u ∈ A, notInt u) → notInt v → ∀ u ∈ A.setIfInBounds i v, notInt u := fun {A v i} hA hv u hu => by
    rcases Array.mem_or_eq_of_mem_setIfInBounds hu with q | q
    · exact hA u q
    · rw [q]; exact hv
  exact noInt_of_cells s4 (set (set (set (set hc (fun _ _ e => by cases e)) (fun _ _ e => by cases e)) (fun _ _ e => by cases e)) (fun _ _ e => by cases e))
/-- a number is stored in the row -/
theorem RowX.put {w : World} {b n k : Nat} {f : Nat → Rat} {x : Num} {q : Rat} (h : RowX w b n f) (hk : k < n) (hx : rRatN w x q) : RowX (putN w b (k * 4) x) b n (fun j => if j = k then q else f j) := by
  obtain ⟨L, cur, T, h1, h2, h3, h4, h5⟩ := h
  have hni1 := noInt_one h3
  have s1 := Joins.block_setCell (i := k * 4) h2 (.bool x.n1)
  have s2 := Joins.block_setCell (i := k * 4 + 1) s1 (.slice x.a1 x.k1 x.c1)
  have s3 := Joins.block_setCell (i := k * 4 + 2) s2 (.bool x.n2)
  have s4 := Joins.block_setCell (i := k * 4 + 3) s3 (.slice x.a2 x.k2 x.c2)
  refine ⟨L.set k x, _, T, by simp [h1], s4, noInt_put h2 h3, fun j y hj => ?_, fun j y hj => ?_⟩
  · by_cases e : j = k
    · subst e
      rw [List.getElem?_set_self (by omega)] at hj
      obtain rfl : x = y := by simpa using hj
      have h6 := h4 j L[j] (List.getElem?_eq_getElem (by omega))
      have := cell_size h2 h6.2.2.2
      exact cell_put4 h2 (by omega)
    · rw [List.getElem?_set_ne (Ne.symm e)] at hj
      obtain ⟨q0, q1, q2, q3⟩ := h4 j y hj
      refine ⟨?_, ?_, ?_, ?_⟩
      · rw [cell_put h2 (by omega)]; exact q0
      · rw [cell_put h2 (by omega)]; exact q1
      · rw [cell_put h2 (by omega)]; exact q2
      · rw [cell_put h2 (by omega)]; exact q3
  · show rRatN _ y (if j = k then q else f j)
    by_cases e : j = k
    · subst e
      rw [if_pos rfl]
      rw [List.getElem?_set_self (by omega)] at hj
      obtain rfl : x = y := by simpa using hj
      exact RRatR.stay hx putN_stay hni1
    · rw [if_neg e]
      rw [List.getElem?_set_ne (Ne.symm e)] at hj
      exact RRatR.stay (h5 j y hj) putN_stay hni1

/-- the matrix: block G has the rows' headers (and maybe more), block g i the numbers of row i -/
structure MatX (w : World) (G m n : Nat) (g cp : Nat → Nat) (A : Mx) : Prop where
  outer : ∃ (cur : Array Value) (T : TypeId), w.heap[G]? = some (.cells cur T (0, 0)) ∧ ∀ u ∈ cur, OnlySl u
  head : ∀ i, i < m → w.cell? ⟨G, i, none⟩ = some (.slice (some ⟨g i, 0, none⟩) n (cp i))
  row : ∀ i, i < m → RowX w (g i) n (A i)
  cap : ∀ i, i < m → n ≤ cp i ∧ cp i ≤ 9223372036854775807
  apart : ∀ i, i < m → g i ≠ G
  inj : ∀ i j, i < m → j < m → g i = g j → i = j

section
variable {w w' : World} {G m n : Nat} {g cp : Nat → Nat} {A B : Mx}
theorem MatX.headFree (h : MatX w G m n g cp A) (i : Nat) : w.frozen? ⟨G, i, none⟩ = false := by
  obtain ⟨cur, T, h1, _⟩ := h.outer
  exact Lib.frozen_of_heap h1 i
theorem notInt_sl {u : Value} (h : OnlySl u) : notInt u := by
  obtain ⟨a, k, c, rfl⟩ := h
  intro K x e
  cases e
theorem MatX.headNo (h : MatX w G m n g cp A) : NoInt w G := by
  obtain ⟨cur, T, h1, h2⟩ := h.outer
  exact noInt_of_cells h1 fun u hu => notInt_sl (h2 u hu)
theorem MatX.noInt (h : MatX w G m n g cp A) : ∀ b, RowsP m g b → NoInt w b := by
  rintro b ⟨i, hi, rfl⟩
  exact (h.row i hi).noInt
theorem MatX.below (h : MatX w G m n g cp A) (hb : Below w.heap.size w w') : MatX w' G m n g cp A := by
  obtain ⟨cur, T, h1, h2⟩ := h.outer
  exact ⟨⟨cur, T, blk_next h1 hb, h2⟩, fun i hi => keepc hb (h.head i hi), fun i hi => (h.row i hi).below hb, h.cap, h.apart, h.inj⟩
theorem MatX.congr (h : MatX w G m n g cp A) (e : ∀ i, i < m → ∀ k, k < n → A i k = B i k) : MatX w G m n g cp B :=
  ⟨h.outer, h.head, fun i hi => (h.row i hi).congr (e i hi), h.cap, h.apart, h.inj⟩
theorem MatX.glt (h : MatX w G m n g cp A) {i : Nat} (hi : i < m) : g i < w.heap.size := (h.row i hi).lt
theorem MatX.Glt (h : MatX w G m n g cp A) : G < w.heap.size := by
  obtain ⟨cur, T, h1, _⟩ := h.outer
  exact (Array.getElem?_eq_some_iff.1 h1).1
/-- the matrix stands where another block changes -/
theorem MatX.stay {D : Nat} (h : MatX w G m n g cp A) (hs : Stay D (D + 1) w w') (hG : G ≠ D) (hg : ∀ i, i < m → g i ≠ D) (hn : NoInt w D) : MatX w' G m n g cp A := by
  have hGl := h.Glt
  obtain ⟨cur, T, h1, h2⟩ := h.outer
  have e := hs.block G hGl (by omega)
  exact ⟨⟨cur, T, e.trans h1, h2⟩, fun i hi => by rw [World.cell?_of_block (w := w) (a := ⟨G, i, none⟩) e]; exact h.head i hi, fun i hi => (h.row i hi).stay hs (hg i hi) hn, h.cap, h.apart, h.inj⟩
/-- an element is stored -/
theorem MatX.put (h : MatX w G m n g cp A) {i k : Nat} {x : Num} {q : Rat} (hi : i < m) (hk : k < n) (hx : rRatN w x q) :
    MatX (putN w (g i) (k * 4) x) G m n g cp (fun a b => if a = i ∧ b = k then q else A a b) := by
  have hst := putN_stay (w := w) (b := g i) (o := k * 4) (x := x)
  have hni := (h.row i hi).noInt
  have hap := h.apart i hi
  have hGl := h.Glt
  obtain ⟨cur, T, h1, h2⟩ := h.outer
  have e := hst.block G hGl (by omega)
  refine ⟨⟨cur, T, e.trans h1, h2⟩, fun a ha => by rw [World.cell?_of_block (w := w) (a := ⟨G, a, none⟩) e]; exact h.head a ha, fun a ha => ?_, h.cap, h.apart, h.inj⟩
  by_cases ea : a = i
  · subst ea
    exact ((h.row a ha).put hk hx).congr (fun j hj => by
      by_cases e2 : j = k
      · simp [e2]
      · simp [e2])
  · have hne : g a ≠ g i := fun q => ea (h.inj a i ha hi q)
    exact ((h.row a ha).stay hst hne hni).congr (fun j hj => by simp [ea])
/-- two headers are exchanged -/
theorem MatX.swap (h : MatX w G m n g cp A) {i r : Nat} (hi : i < m) (hr : r < m) :
    MatX ((w.setCell ⟨G, i, none⟩ (.slice (some ⟨g r, 0, none⟩) n (cp r))).setCell ⟨G, r, none⟩ (.slice (some ⟨g i, 0, none⟩) n (cp i))) G m n (fun a => g (swapI i r a)) (fun a => cp (swapI i r a)) (swapR A i r) := by
  have hhi := h.head i hi
  have hhr := h.head r hr
  have hhd := h.headNo
  obtain ⟨cur, T, h1, h2⟩ := h.outer
  have s1 := Joins.block_setCell (i := i) h1 (.slice (some ⟨g r, 0, none⟩) n (cp r))
  have s2 := Joins.block_setCell (i := r) s1 (.slice (some ⟨g i, 0, none⟩) n (cp i))
  have hst : Stay G (G + 1) w ((w.setCell ⟨G, i, none⟩ (.slice (some ⟨g r, 0, none⟩) n (cp r))).setCell ⟨G, r, none⟩ (.slice (some ⟨g i, 0, none⟩) n (cp i))) := ((Stay.refl G (G + 1) w).setCell (Nat.le_refl _) (Nat.lt_succ_self _) _ _).setCell (Nat.le_refl _) (Nat.lt_succ_self _) _ _
  have hsw : ∀ a, a < m → swapI i r a < m := fun a ha => by unfold swapI; split <;> (try split) <;> omega
  have z1 := cell_size h1 hhi
  have z2 := cell_size h1 hhr
  refine ⟨⟨_, T, s2, fun u hu => ?_⟩, fun a ha => ?_, fun a ha => (h.row _ (hsw a ha)).stay hst (h.apart _ (hsw a ha)) hhd, fun a ha => h.cap _ (hsw a ha), fun a ha => h.apart _ (hsw a ha), fun a b ha hb e => ?_⟩
  · rcases Array.mem_or_eq_of_mem_setIfInBounds hu with q | q
    · rcases Array.mem_or_eq_of_mem_setIfInBounds q with q | q
      · exact h2 u q
      · exact ⟨_, _, _, q⟩
    · exact ⟨_, _, _, q⟩
  · rw [Lib.cell_of_heap s2]
    by_cases e1 : a = r
    · subst e1
      rw [Array.getElem?_setIfInBounds_self_of_lt (by simp; omega)]
      simp only [swapI]
      by_cases e2 : a = i
      · subst e2; simp
      · simp [e2]
    · rw [Array.getElem?_setIfInBounds_ne (Ne.symm e1)]
      by_cases e2 : a = i
      · subst e2
        rw [Array.getElem?_setIfInBounds_self_of_lt (by omega)]
        simp [swapI]
      · rw [Array.getElem?_setIfInBounds_ne (Ne.symm e2)]
        have := h.head a ha
        rw [Lib.cell_of_heap h1] at this
        rw [this]
        simp [swapI, e1, e2]
  · have := h.inj _ _ (hsw a ha) (hsw b hb) e
    unfold swapI at this
    split at this <;> split at this <;> (try split at this) <;> (try split at this) <;> omega
end
end Go.Proofs.YtjphfdlpcakpeaaGreatDoor
