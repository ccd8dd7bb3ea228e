import Derived.Test.YteionhenpehogaaGreatDoorOwnRow
import Derived.Test.YteionhenpehogaaGreatDoorRMatN
import Derived.Test.YteionhenpehogaaGreatDoorLinX
import Derived.Test.YteionhenpehogaaGreatDoorPlainZ
namespace Go.Proofs.YteionhenpehogaaGreatDoor
open Go.RowKit Tally
def RowX (w : World) (b n : Nat) (f : Nat → Rat) : Prop :=
 ∃ (L : List Num) (cur : Array Value) (T : TypeId), L.length = n ∧ w.heap[b]? = some (.cells cur T (0, 0)) ∧ NoInt w b ∧ (∀ k x, L[k]? = some x → Four w b (k * 4) x) ∧ rNumsR w L f
theorem RowX.noInt {w : World} {b n : Nat} {f : Nat → Rat} (h : RowX w b n f) : NoInt w b := by
 obtain ⟨_, _, _, _, _, h3, _⟩ := h; exact h3
theorem RowX.lt {w : World} {b n : Nat} {f : Nat → Rat} (h : RowX w b n f) : b < w.heap.size := by
 obtain ⟨_, _, _, _, h2, _⟩ := h; exact (Array.getElem?_eq_some_iff.1 h2).1
theorem noInt_block {w w' : World} {b : Nat} (h : NoInt w b) (e : w'.heap[b]? = w.heap[b]?) : NoInt w' b := fun o K x q => h o K x (by rw [← World.cell?_of_block (w := w) (w' := w') (a := ⟨b, o, none⟩) e]; exact q)
theorem four_block {w w' : World} {b o : Nat} {x : Num} (h : Four w b o x) (e : w'.heap[b]? = w.heap[b]?) : Four w' b o x := by
 have c : ∀ j, w'.cell? ⟨b, j, none⟩ = w.cell? ⟨b, j, none⟩ := fun j => World.cell?_of_block (a := ⟨b, j, none⟩) e
 exact ⟨(c _).trans h.1, (c _).trans h.2.1, (c _).trans h.2.2.1, (c _).trans h.2.2.2⟩
theorem RowX.below {w w' : World} {b n : Nat} {f : Nat → Rat} (h : RowX w b n f) (hb : Below w.heap.size w w') : RowX w' b n f := by
 have hl := h.lt
 obtain ⟨L, cur, T, h1, h2, h3, h4, h5⟩ := h
 exact ⟨L, cur, T, h1, blk_next h2 hb, noInt_block h3 (hb.block b hl), fun k x hx => (h4 k x hx).below hb, h5.below hb⟩
theorem RowX.congr {w : World} {b n : Nat} {f g : Nat → Rat} (h : RowX w b n f) (e : ∀ k, k < n → f k = g k) : RowX w b n g := by
 obtain ⟨L, cur, T, h1, h2, h3, h4, h5⟩ := h
 exact ⟨L, cur, T, h1, h2, h3, h4, h5.congr (fun k hk => e k (by omega))⟩
theorem RowX.elem {w : World} {b n k : Nat} {f : Nat → Rat} (h : RowX w b n f) (hk : k < n) : ∃ x, Four w b (k * 4) x ∧ rRatN w x (f k) := by
 obtain ⟨L, cur, T, h1, h2, h3, h4, h5⟩ := h
 have hx : L[k]? = some L[k] := List.getElem?_eq_getElem (by omega)
 exact ⟨L[k], h4 k _ hx, h5 k _ hx⟩
theorem RowX.unfrozen {w : World} {b n : Nat} {f : Nat → Rat} (h : RowX w b n f) (k : Nat) : w.frozen? ⟨b, k, none⟩ = false := by
 obtain ⟨_, _, _, _, h2, _⟩ := h
 exact Lib.frozen_of_heap h2 k
theorem RowX.stay {w w' : World} {b n D : Nat} {f : Nat → Rat} (h : RowX w b n f) (hs : Stay D (D + 1) w w') (hb : b ≠ D) (hn : NoInt w D) : RowX w' b n f := by
 have hl := h.lt
 obtain ⟨L, cur, T, h1, h2, h3, h4, h5⟩ := h
 have e := hs.block b hl (by omega)
 exact ⟨L, cur, T, h1, e.trans h2, noInt_block h3 e, fun k x hx => four_block (h4 k x hx) e, h5.stay hs (noInt_one hn)⟩
theorem noInt_put {w : World} {b o : Nat} {x : Num} {cur : Array Value} {T : TypeId} (h : w.heap[b]? = some (.cells cur T (0, 0))) (hn : NoInt w b) : NoInt (putN w b o x) b := by
 have s1 := Joins.block_setCell (i := o) h (.bool x.n1)
 have s2 := Joins.block_setCell (i := o + 1) s1 (.slice x.a1 x.k1 x.c1)
 have s3 := Joins.block_setCell (i := o + 2) s2 (.bool x.n2)
 have s4 := Joins.block_setCell (i := o + 3) s3 (.slice x.a2 x.k2 x.c2)
 have hc := cells_of_noInt h hn
 have set : ∀ {A : Array Value} {v : Value} {i : Nat}, (∀ u ∈ A, notInt u) → notInt v → ∀ u ∈ A.setIfInBounds i v, notInt u := fun {A v i} hA hv u hu => by
  rcases Array.mem_or_eq_of_mem_setIfInBounds hu with q | q
  ·exact hA u q
  ·rw [q]; exact hv
 exact noInt_of_cells s4 (set (set (set (set hc (fun _ _ e => by cases e)) (fun _ _ e => by cases e)) (fun _ _ e => by cases e)) (fun _ _ e => by cases e))
theorem RowX.put {w : World} {b n k : Nat} {f : Nat → Rat} {x : Num} {q : Rat} (h : RowX w b n f) (hk : k < n) (hx : rRatN w x q) : RowX (putN w b (k * 4) x) b n (fun j => if j = k then q else f j) := by
 obtain ⟨L, cur, T, h1, h2, h3, h4, h5⟩ := h
 have hni1 := noInt_one h3
 have s1 := Joins.block_setCell (i := k * 4) h2 (.bool x.n1)
 have s2 := Joins.block_setCell (i := k * 4 + 1) s1 (.slice x.a1 x.k1 x.c1)
 have s3 := Joins.block_setCell (i := k * 4 + 2) s2 (.bool x.n2)
 have s4 := Joins.block_setCell (i := k * 4 + 3) s3 (.slice x.a2 x.k2 x.c2)
 refine ⟨L.set k x, _, T, by simp [h1], s4, noInt_put h2 h3, fun j y hj => ?_, fun j y hj => ?_⟩
 ·by_cases e : j = k
  ·subst e
   rw [List.getElem?_set_self (by omega)] at hj
   obtain rfl : x = y := by simpa using hj
   have h6 := h4 j L[j] (List.getElem?_eq_getElem (by omega))
   have := cell_size h2 h6.2.2.2
   exact cell_put4 h2 (by omega)
  ·rw [List.getElem?_set_ne (Ne.symm e)] at hj
   obtain ⟨q0, q1, q2, q3⟩ := h4 j y hj
   refine ⟨?_, ?_, ?_, ?_⟩
   ·rw [cell_put h2 (by omega)]; exact q0
   ·rw [cell_put h2 (by omega)]; exact q1
   ·rw [cell_put h2 (by omega)]; exact q2
   ·rw [cell_put h2 (by omega)]; exact q3
 ·show rRatN _ y (if j = k then q else f j)
  by_cases e : j = k
  ·subst e
   rw [if_pos rfl]
   rw [List.getElem?_set_self (by omega)] at hj
   obtain rfl : x = y := by simpa using hj
   exact RRatR.stay hx putN_stay hni1
  ·rw [if_neg e]
   rw [List.getElem?_set_ne (Ne.symm e)] at hj
   exact RRatR.stay (h5 j y hj) putN_stay hni1
structure MatX (w : World) (G m n : Nat) (g cp : Nat → Nat) (A : Mx) : Prop where
 outer : ∃ (cur : Array Value) (T : TypeId), w.heap[G]? = some (.cells cur T (0, 0)) ∧ ∀ u ∈ cur, OnlySl u
 head : ∀ i, i < m → w.cell? ⟨G, i, none⟩ = some (.slice (some ⟨g i, 0, none⟩) n (cp i))
 row : ∀ i, i < m → RowX w (g i) n (A i)
 cap : ∀ i, i < m → n ≤ cp i ∧ cp i ≤ 9223372036854775807
 apart : ∀ i, i < m → g i ≠ G
 inj : ∀ i j, i < m → j < m → g i = g j → i = j
section
variable {w w' : World} {G m n : Nat} {g cp : Nat → Nat} {A B : Mx}
theorem MatX.headFree (h : MatX w G m n g cp A) (i : Nat) : w.frozen? ⟨G, i, none⟩ = false := by
 obtain ⟨cur, T, h1, _⟩ := h.outer
 exact Lib.frozen_of_heap h1 i
theorem notInt_sl {u : Value} (h : OnlySl u) : notInt u := by
 obtain ⟨a, k, c, rfl⟩ := h
 intro K x e
 cases e
theorem MatX.headNo (h : MatX w G m n g cp A) : NoInt w G := by
 obtain ⟨cur, T, h1, h2⟩ := h.outer
 exact noInt_of_cells h1 fun u hu => notInt_sl (h2 u hu)
theorem MatX.noInt (h : MatX w G m n g cp A) : ∀ b, RowsP m g b → NoInt w b := by
 rintro b ⟨i, hi, rfl⟩
 exact (h.row i hi).noInt
theorem MatX.below (h : MatX w G m n g cp A) (hb : Below w.heap.size w w') : MatX w' G m n g cp A := by
 obtain ⟨cur, T, h1, h2⟩ := h.outer
 exact ⟨⟨cur, T, blk_next h1 hb, h2⟩, fun i hi => keepc hb (h.head i hi), fun i hi => (h.row i hi).below hb, h.cap, h.apart, h.inj⟩
theorem MatX.congr (h : MatX w G m n g cp A) (e : ∀ i, i < m → ∀ k, k < n → A i k = B i k) : MatX w G m n g cp B :=
 ⟨h.outer, h.head, fun i hi => (h.row i hi).congr (e i hi), h.cap, h.apart, h.inj⟩
theorem MatX.glt (h : MatX w G m n g cp A) {i : Nat} (hi : i < m) : g i < w.heap.size := (h.row i hi).lt
theorem MatX.Glt (h : MatX w G m n g cp A) : G < w.heap.size := by
 obtain ⟨cur, T, h1, _⟩ := h.outer
 exact (Array.getElem?_eq_some_iff.1 h1).1
theorem MatX.put (h : MatX w G m n g cp A) {i k : Nat} {x : Num} {q : Rat} (hi : i < m) (hk : k < n) (hx : rRatN w x q) :
  MatX (putN w (g i) (k * 4) x) G m n g cp (fun a b => if a = i ∧ b = k then q else A a b) := by
 have hst := putN_stay (w := w) (b := g i) (o := k * 4) (x := x)
 have hni := (h.row i hi).noInt
 have hap := h.apart i hi
 have hGl := h.Glt
 obtain ⟨cur, T, h1, h2⟩ := h.outer
 have e := hst.block G hGl (by omega)
 refine ⟨⟨cur, T, e.trans h1, h2⟩, fun a ha => by rw [World.cell?_of_block (w := w) (a := ⟨G, a, none⟩) e]; exact h.head a ha, fun a ha => ?_, h.cap, h.apart, h.inj⟩
 by_cases ea : a = i
 ·subst ea
  exact ((h.row a ha).put hk hx).congr (fun j hj => by
   by_cases e2 : j = k
   ·simp [e2]
   ·simp [e2])
 ·have hne : g a ≠ g i := fun q => ea (h.inj a i ha hi q)
  exact ((h.row a ha).stay hst hne hni).congr (fun j hj => by simp [ea])
theorem MatX.swap (h : MatX w G m n g cp A) {i r : Nat} (hi : i < m) (hr : r < m) :
  MatX ((w.setCell ⟨G, i, none⟩ (.slice (some ⟨g r, 0, none⟩) n (cp r))).setCell ⟨G, r, none⟩ (.slice (some ⟨g i, 0, none⟩) n (cp i))) G m n (fun a => g (swapI i r a)) (fun a => cp (swapI i r a)) (swapR A i r) := by
 have hhi := h.head i hi
 have hhr := h.head r hr
 have hhd := h.headNo
 obtain ⟨cur, T, h1, h2⟩ := h.outer
 have s1 := Joins.block_setCell (i := i) h1 (.slice (some ⟨g r, 0, none⟩) n (cp r))
 have s2 := Joins.block_setCell (i := r) s1 (.slice (some ⟨g i, 0, none⟩) n (cp i))
 have hst : Stay G (G + 1) w ((w.setCell ⟨G, i, none⟩ (.slice (some ⟨g r, 0, none⟩) n (cp r))).setCell ⟨G, r, none⟩ (.slice (some ⟨g i, 0, none⟩) n (cp i))) := ((Stay.refl G (G + 1) w).setCell (Nat.le_refl _) (Nat.lt_succ_self _) _ _).setCell (Nat.le_refl _) (Nat.lt_succ_self _) _ _
 have hsw : ∀ a, a < m → swapI i r a < m := fun a ha => by unfold swapI; split <;> (try split) <;> omega
 have z1 := cell_size h1 hhi
 have z2 := cell_size h1 hhr
 refine ⟨⟨_, T, s2, fun u hu => ?_⟩, fun a ha => ?_, fun a ha => (h.row _ (hsw a ha)).stay hst (h.apart _ (hsw a ha)) hhd, fun a ha => h.cap _ (hsw a ha), fun a ha => h.apart _ (hsw a ha), fun a b ha hb e => ?_⟩
 ·rcases Array.mem_or_eq_of_mem_setIfInBounds hu with q | q
  ·rcases Array.mem_or_eq_of_mem_setIfInBounds q with q | q
   ·exact h2 u q
   ·exact ⟨_, _, _, q⟩
  ·exact ⟨_, _, _, q⟩
 ·rw [Lib.cell_of_heap s2]
  by_cases e1 : a = r
  ·subst e1
   rw [Array.getElem?_setIfInBounds_self_of_lt (by simp; omega)]
   simp only [swapI]
   by_cases e2 : a = i
   ·subst e2; simp
   ·simp [e2]
  ·rw [Array.getElem?_setIfInBounds_ne (Ne.symm e1)]
   by_cases e2 : a = i
   ·subst e2
    rw [Array.getElem?_setIfInBounds_self_of_lt (by omega)]
    simp [swapI]
   ·rw [Array.getElem?_setIfInBounds_ne (Ne.symm e2)]
    have := h.head a ha
    rw [Lib.cell_of_heap h1] at this
    rw [this]
    simp [swapI, e1, e2]
 ·have := h.inj _ _ (hsw a ha) (hsw b hb) e
  unfold swapI at this
  split at this <;> split at this <;> (try split at this) <;> (try split at this) <;> omega
end
theorem own_rowx {w : World} {base n : Nat} {e : TypeId} {v : Value} {L : List Num} {f : Nat → Rat} (h : OwnG notInt w base e 4 v n (flat L)) (hl : L.length = n) (hn : 0 < n) (hf : rNumsR w L f) :
  ∃ g c, v = .slice (some ⟨g, 0, none⟩) n c ∧ base ≤ g ∧ n ≤ c ∧ c ≤ 9223372036854775807 ∧ RowX w g n f := by
 have hcells := fun g => h.own.cells (g := g)
 rcases h.own.2 with ⟨rfl, h0⟩ | ⟨g, cap, cur, rfl, hb, hg, h1, h2, h3, h4⟩
 ·omega
 ·have hc : ∀ j u, (flat L)[j]? = some u → w.cell? ⟨g, j, none⟩ = some u := fun j u hu => by
   have := hcells g rfl j u hu
   have hadd : (⟨g, 0, none⟩ : Addr).add j = ⟨g, j, none⟩ := by unfold Addr.add; split <;> simp_all
   rw [hadd] at this; exact this
  refine ⟨g, cap, rfl, hb, h1, by simpa [maxLen] using h2, L, cur, e, hl, hg, fun o K x q => h.free g rfl o _ q K x rfl, fun k x hx => ?_, hf⟩
  obtain ⟨q0, q1, q2, q3⟩ := flat_get hx
  exact ⟨hc _ _ q0, hc _ _ q1, hc _ _ q2, hc _ _ q3⟩
theorem RowX.grown {w w' : World} {row : Option Nat} {b n : Nat} {f : Nat → Rat} (h : RowX w b n f) (hn0 : 0 < n) (hg : w.grownBy w' row) (hn : ∀ g, row = some g → AllG OnlySl w g) : RowX w' b n f := by
 have hl := h.lt
 obtain ⟨x, hx4, _⟩ := h.elem hn0
 have hb : some b ≠ row := fun e => by
  obtain ⟨_, _, _, q⟩ := hn b e.symm _ _ hx4.1
  cases q
 obtain ⟨L, cur, T, h1, h2, h3, h4, h5⟩ := h
 have e := hg.block b hl hb
 exact ⟨L, cur, T, h1, e.trans h2, noInt_block h3 e, fun k x hx => four_block (h4 k x hx) e, h5.grown hg (fun g q => noInt_of_sl (hn g q))⟩
theorem choose_pair {n : Nat} {p : Nat → Nat × Nat → Prop} (h : ∀ i, i < n → ∃ x, p i x) : ∃ f : Nat → Nat × Nat, ∀ i, i < n → p i (f i) := by
 classical
 refine ⟨fun i => if hi : i < n then Classical.choose (h i hi) else (0, 0), fun i hi => ?_⟩
 show p i (if hi : i < n then Classical.choose (h i hi) else (0, 0))
 rw [dif_pos hi]
 exact Classical.choose_spec (h i hi)
structure BuildX (B : Nat) (w : World) (v : Value) (V : List Value) (k n : Nat) (A : Mx) : Prop where
 len : V.length = k
 own : OwnG OnlySl w B 76 1 v V.length V
 row : 0 < n → ∀ (i : Nat) (u : Value), V[i]? = some u → ∃ g c, u = .slice (some ⟨g, 0, none⟩) n c ∧ B ≤ g ∧ n ≤ c ∧ c ≤ 9223372036854775807 ∧ RowX w g n (A i)
 inj : 0 < n → ∀ (i j g c d : Nat), V[i]? = some (Value.slice (some ⟨g, 0, none⟩) n c) → V[j]? = some (Value.slice (some ⟨g, 0, none⟩) n d) → i = j
theorem BuildX.start (B : Nat) (w : World) (n : Nat) (A : Mx) : BuildX B w (.slice none 0 0) [] 0 n A := ⟨rfl, OwnG.nil _ _ _ _ _, fun _ i u h => by simp at h, fun _ i j g c d h => by simp at h⟩
theorem BuildX.below {B : Nat} {w w' : World} {v : Value} {V : List Value} {k n : Nat} {A : Mx} (h : BuildX B w v V k n A) (hb : Below w.heap.size w w') : BuildX B w' v V k n A :=
 ⟨h.len, h.own.below hb, fun hn i u hu => by obtain ⟨g, c, q1, q2, q3, q4, q5⟩ := h.row hn i u hu; exact ⟨g, c, q1, q2, q3, q4, q5.below hb⟩, h.inj⟩
theorem BuildX.snoc {B S : Nat} {w w' : World} {v v' u : Value} {V : List Value} {k n : Nat} {A : Mx} (h : BuildX B w v V k n A) (ho : OwnG OnlySl w' B 76 1 v' (V.length + 1) (V ++ [u])) (hg : w.grownBy w' v.ownBlock)
  (hold : 0 < n → ∀ (i g c : Nat), V[i]? = some (Value.slice (some ⟨g, 0, none⟩) n c) → g < S) (hx : 0 < n → ∃ g c, u = .slice (some ⟨g, 0, none⟩) n c ∧ B ≤ g ∧ S ≤ g ∧ n ≤ c ∧ c ≤ 9223372036854775807 ∧ RowX w g n (A k)) : BuildX B w' v' (V ++ [u]) (k + 1) n A := by
 have hk := h.len
 refine ⟨by rw [List.length_append, h.len]; rfl, by rw [List.length_append]; exact ho, fun hn i y hi => ?_, fun hn i j g c d hi hj => ?_⟩
 ·by_cases e : i < V.length
  ·rw [List.getElem?_append_left e] at hi
   obtain ⟨g, c, q1, q2, q3, q4, q5⟩ := h.row hn i y hi
   exact ⟨g, c, q1, q2, q3, q4, q5.grown hn hg h.own.free⟩
  ·rw [List.getElem?_append_right (by omega)] at hi
   have : i - V.length < 1 := by have := (List.getElem?_eq_some_iff.1 hi).1; simpa using this
   have ek : i = V.length := by omega
   subst ek
   simp at hi
   subst hi
   obtain ⟨g, c, q1, q2, _, q3, q4, q5⟩ := hx hn
   rw [h.len]
   exact ⟨g, c, q1, q2, q3, q4, q5.grown hn hg h.own.free⟩
 ·obtain ⟨g0, c0, q1, _, q2, _⟩ := hx hn
  subst q1
  have last : ∀ (i c : Nat), (V ++ [Value.slice (some ⟨g0, 0, none⟩) n c0])[i]? = some (Value.slice (some ⟨g, 0, none⟩) n c) → i < V.length ∧ V[i]? = some (Value.slice (some ⟨g, 0, none⟩) n c) ∨ i = V.length ∧ g = g0 := fun i c hi => by
   by_cases e : i < V.length
   ·rw [List.getElem?_append_left e] at hi
    exact .inl ⟨e, hi⟩
   ·rw [List.getElem?_append_right (by omega)] at hi
    have : i - V.length < 1 := by have := (List.getElem?_eq_some_iff.1 hi).1; simpa using this
    have ek : i = V.length := by omega
    subst ek
    simp at hi
    exact .inr ⟨rfl, hi.1.symm⟩
  rcases last i c hi with ⟨a1, a2⟩ | ⟨a1, a2⟩ <;> rcases last j d hj with ⟨b1, b2⟩ | ⟨b1, b2⟩
  ·exact h.inj hn i j g c d a2 b2
  ·have := hold hn i g c a2; omega
  ·have := hold hn j g d b2; omega
  ·omega
theorem BuildX.old {B : Nat} {w : World} {v : Value} {V : List Value} {k n : Nat} {A : Mx} (h : BuildX B w v V k n A) : 0 < n → ∀ (i g c : Nat), V[i]? = some (Value.slice (some ⟨g, 0, none⟩) n c) → g < w.heap.size := fun hn i g c hi => by
 obtain ⟨g', c', q1, _, _, _, q5⟩ := h.row hn i _ hi
 injection q1 with q1
 injection q1 with q1
 injection q1 with q1
 rw [q1]; exact q5.lt
theorem BuildX.done {B : Nat} {w : World} {v : Value} {V : List Value} {k n : Nat} {A : Mx} (h : BuildX B w v V k n A) (hn : 0 < n) (hk : 0 < k) : ∃ G c g cp, v = .slice (some ⟨G, 0, none⟩) k c ∧ k ≤ c ∧ c ≤ 9223372036854775807 ∧ MatX w G k n g cp A ∧ B ≤ G ∧ ∀ i, i < k → B ≤ g i := by
 have hl := h.len
 have ho := h.own.own
 have hcells := fun g => ho.cells (g := g)
 rcases ho.2 with ⟨hv, h0⟩ | ⟨G, cap, cur, hv, hb, hg, r1, r2, r3, r4⟩
 ·omega
 ·have each : ∀ i, i < k → ∃ q : Nat × Nat, V[i]? = some (Value.slice (some ⟨q.1, 0, none⟩) n q.2) ∧ B ≤ q.1 ∧ n ≤ q.2 ∧ q.2 ≤ 9223372036854775807 ∧ RowX w q.1 n (A i) := fun i hi => by
   have hx : V[i]? = some V[i] := List.getElem?_eq_getElem (by omega)
   obtain ⟨g, c, q1, q2, q3, q4, q5⟩ := h.row hn i _ hx
   exact ⟨(g, c), by rw [hx, q1], q2, q3, q4, q5⟩
  obtain ⟨q, hq⟩ := choose_pair each
  have hfree := h.own.free G (by rw [hv]; rfl)
  refine ⟨G, cap, fun i => (q i).1, fun i => (q i).2, by rw [hv, hl], by omega, by simpa [maxLen] using r2, ⟨⟨cur, _, hg, cells_of_allG hg hfree⟩, fun i hi => ?_, fun i hi => (hq i hi).2.2.2.2, fun i hi => ⟨(hq i hi).2.2.1, (hq i hi).2.2.2.1⟩, fun i hi e => ?_, fun i j hi hj e => ?_⟩, hb, fun i hi => (hq i hi).2.1⟩
  ·have := hcells G (by rw [hv]; rfl) i _ (hq i hi).1
   have hadd : (⟨G, 0, none⟩ : Addr).add i = ⟨G, i, none⟩ := by unfold Addr.add; split <;> simp_all
   rwa [hadd] at this
  ·obtain ⟨x, hx4, _⟩ := (hq i hi).2.2.2.2.elem hn
   rw [e] at hx4
   obtain ⟨_, _, _, z⟩ := hfree _ _ hx4.1
   cases z
  ·have h1 := (hq i hi).1
   have h2 := (hq j hj).1
   rw [← e] at h2
   exact h.inj hn i j _ _ _ h1 h2
theorem one_cell_sl (a : Option Addr) (k c : Nat) : ∀ u ∈ [Value.slice a k c], u.oneCell' = true := by
 intro u hu
 obtain rfl : u = _ := by simpa using hu
 rfl
theorem only_sl_one (a : Option Addr) (k c : Nat) : ∀ u ∈ [Value.slice a k c], OnlySl u := by
 intro u hu
 obtain rfl : u = _ := by simpa using hu
 exact ⟨_, _, _, rfl⟩
theorem RefR.onlyP {P : Nat → Prop} {w w' : World} {v : Value} {z : Int} (h : RefR w v z) (hs : OnlyP P w w') (hn : ∀ g, P g → NoInt w g) : RefR w' v z := by
 obtain ⟨neg, s, l, h1, ⟨a, b, o, c, h2, h3, h4, h5, h6⟩, h7⟩ := h
 refine ⟨neg, s, l, h1, ⟨a, b, o, c, h2, h3, h4, h5, fun i hil => ?_⟩, h7⟩
 have hc := h6 i hil
 exact hs.cell (fun q => hn b q _ _ _ hc) hc
theorem RRatR.onlyP {P : Nat → Prop} {w w' : World} {v : Value} {q : Rat} (h : RRatR w v q) (hs : OnlyP P w w') (hn : ∀ g, P g → NoInt w g) : RRatR w' v q := by
 obtain ⟨n1, a1, k1, c1, n2, a2, k2, c2, d, h1, h2, h3, h4⟩ := h
 exact ⟨n1, a1, k1, c1, n2, a2, k2, c2, d, h1, h2.onlyP hs hn, h3.onlyP hs hn, h4⟩
theorem rRatsR.stay' {w w' : World} {n D : Nat} {a : Option Addr} {c : Nat} {f : Nat → Rat} (h : rRatsR w (.slice a n c) n f) (hs : Stay D (D + 1) w w') (hb : ∀ g, (Value.slice a n c).ownBlock = some g → g ≠ D) (hn : NoInt w D) : rRatsR w' (.slice a n c) n f := by
 obtain ⟨L, rfl, ⟨a', b', o, c', e, r1, r2, r3, r4⟩, h3⟩ := h
 injection e with e1 _ e3
 subst e1 e3
 refine ⟨L, rfl, ⟨a, b', o, c, rfl, r1, r2, r3, fun k x hx => ?_⟩, h3.stay hs (noInt_one hn)⟩
 have hk := (List.getElem?_eq_some_iff.1 hx).1
 obtain rfl := r3 (by omega)
 have hne : b' ≠ D := hb b' rfl
 obtain ⟨q0, q1, q2, q3⟩ := r4 k x hx
 exact ⟨hs.cell (by omega) q0, hs.cell (by omega) q1, hs.cell (by omega) q2, hs.cell (by omega) q3⟩
theorem BuildX.congr {B : Nat} {w : World} {v : Value} {V : List Value} {k n : Nat} {A A' : Mx} (h : BuildX B w v V k n A) (e : ∀ i, i < k → ∀ j, j < n → A i j = A' i j) : BuildX B w v V k n A' :=
 ⟨h.len, h.own, fun hn i u hu => by
  obtain ⟨g, c, q1, q2, q3, q4, q5⟩ := h.row hn i u hu
  have hi := (List.getElem?_eq_some_iff.1 hu).1
  exact ⟨g, c, q1, q2, q3, q4, q5.congr (e i (by have := h.len; omega))⟩, h.inj⟩
theorem RowX.rats {w : World} {g n : Nat} {f : Nat → Rat} (h : RowX w g n f) (hn : n ≤ 9223372036854775807) : rRatsR w (.slice (some ⟨g, 0, none⟩) n n) n f := by
 obtain ⟨L, cur, T, h1, h2, h3, h4, h5⟩ := h
 exact ⟨L, h1, ⟨_, g, 0, n, by rw [h1], by rw [h1]; exact Nat.le_refl _, hn, fun _ => rfl, fun k x hx => by rw [Nat.zero_add]; exact h4 k x hx⟩, h5⟩
end Go.Proofs.YteionhenpehogaaGreatDoor
