import Derived.Test.YteionhenpehogaaGreatDoorMat
import Derived.Test.YteionhenpehogaaGreatDoorRatB
import Derived.Test.YteionhenpehogaaGreatDoorPlainZ
import Derived.Laws.CopyOwn
namespace Go.Proofs.YteionhenpehogaaGreatDoor
open Go.RowKit Tally
structure OnlyP (P : Nat → Prop) (w w' : World) : Prop where
 os : w'.os = w.os
 tape : w'.tape = w.tape
 output : w'.output = w.output
 size : w.heap.size ≤ w'.heap.size
 block : ∀ k, k < w.heap.size → ¬ P k → w'.heap[k]? = w.heap[k]?
section
variable {P : Nat → Prop} {a w w' : World}
theorem OnlyP.refl (P : Nat → Prop) (w : World) : OnlyP P w w := ⟨rfl, rfl, rfl, Nat.le_refl _, fun _ _ _ => rfl⟩
theorem OnlyP.trans (h : OnlyP P a w) (k : OnlyP P w w') : OnlyP P a w' :=
 ⟨k.os.trans h.os, k.tape.trans h.tape, k.output.trans h.output, Nat.le_trans h.size k.size, fun i hi hp => (k.block i (Nat.lt_of_lt_of_le hi h.size) hp).trans (h.block i hi hp)⟩
theorem OnlyP.of_below (hb : Below w.heap.size w w') : OnlyP P w w' := ⟨hb.os, hb.tape, hb.output, hb.size, fun k hk _ => hb.block k hk⟩
theorem OnlyP.next (h : OnlyP P a w) (hb : Below w.heap.size w w') : OnlyP P a w' := h.trans (OnlyP.of_below hb)
theorem OnlyP.of_stay {g : Nat} (hs : Stay g (g + 1) w w') (hp : P g) : OnlyP P w w' :=
 ⟨hs.os, hs.tape, hs.output, hs.size, fun k hk hn => hs.block k hk (by
  rcases Nat.lt_trichotomy k g with q | q | q
  ·exact .inl q
  ·subst q; exact absurd hp hn
  ·exact .inr q)⟩
theorem OnlyP.below (h : OnlyP P w w') {B : Nat} (hp : ∀ k, P k → B ≤ k) (hs : B ≤ w.heap.size) : Below B w w' :=
 ⟨h.os, h.tape, h.output, h.size, fun k hk => h.block k (by omega) (fun q => by have := hp k q; omega)⟩
theorem OnlyP.cell (h : OnlyP P w w') {b o : Nat} {v : Value} (hb : ¬ P b) (hc : w.cell? ⟨b, o, none⟩ = some v) : w'.cell? ⟨b, o, none⟩ = some v := by
 have hl := World.block_lt_of_cell? _ _ hc
 rw [World.cell?_of_block (w := w) (a := ⟨b, o, none⟩) (h.block b hl hb)]
 exact hc
theorem OnlyP.heap (h : OnlyP P w w') {b : Nat} {o : Obj} (hb : ¬ P b) (hc : w.heap[b]? = some o) : w'.heap[b]? = some o := (h.block b (Array.getElem?_eq_some_iff.1 hc).1 hb).trans hc
theorem IntR.onlyP {v : Value} {z : Int} (h : IntR w v z) (hs : OnlyP P w w') (hn : ∀ g, P g → NoInt w g) : IntR w' v z := by
 obtain ⟨neg, s, l, h1, ⟨a, b, o, c, h2, h3, h4, h5, h6⟩, h7⟩ := h
 refine ⟨neg, s, l, h1, ⟨a, b, o, c, h2, h3, h4, h5, fun i hil => ?_⟩, h7⟩
 have hc := h6 i hil
 exact hs.cell (fun q => hn b q _ _ _ hc) hc
theorem RatR.onlyP {v : Value} {q : Rat} (h : RatR w v q) (hs : OnlyP P w w') (hn : ∀ g, P g → NoInt w g) : RatR w' v q := by
 obtain ⟨n1, a1, k1, c1, n2, a2, k2, c2, d, h1, h2, h3, h4⟩ := h
 exact ⟨n1, a1, k1, c1, n2, a2, k2, c2, d, h1, h2.onlyP hs hn, h3.onlyP hs hn, h4⟩
end
def RowO (w : World) (b n : Nat) (f : Nat → Rat) : Prop := ∃ L : List Num, L.length = n ∧ w.heap[b]? = some (.cells (flat L).toArray 37 (0, 0)) ∧ NumsR w L f
theorem RowO.noInt {w : World} {b n : Nat} {f : Nat → Rat} (h : RowO w b n f) : NoInt w b := by
 obtain ⟨L, _, h2, _⟩ := h
 exact noInt_of_cells h2 fun u hu => (flat_one u (by simpa using hu)).2
theorem RowO.below {w w' : World} {b n : Nat} {f : Nat → Rat} (h : RowO w b n f) (hb : Below w.heap.size w w') : RowO w' b n f := by
 obtain ⟨L, h1, h2, h3⟩ := h
 exact ⟨L, h1, blk_next h2 hb, h3.below hb⟩
theorem RowO.lt {w : World} {b n : Nat} {f : Nat → Rat} (h : RowO w b n f) : b < w.heap.size := by
 obtain ⟨L, _, h2, _⟩ := h
 exact (Array.getElem?_eq_some_iff.1 h2).1
theorem RowO.elem {w : World} {b n k : Nat} {f : Nat → Rat} (h : RowO w b n f) (hk : k < n) : ∃ x, Four w b (k * 4) x ∧ RatN w x (f k) := by
 obtain ⟨L, h1, h2, h3⟩ := h
 have hx : L[k]? = some L[k] := List.getElem?_eq_getElem (by omega)
 obtain ⟨q0, q1, q2, q3⟩ := flat_get hx
 have hc : ∀ j u, (flat L)[j]? = some u → w.cell? ⟨b, j, none⟩ = some u := fun j u hu => by
  rw [Lib.cell_of_heap h2]; simpa using hu
 exact ⟨L[k], ⟨hc _ _ q0, hc _ _ q1, hc _ _ q2, hc _ _ q3⟩, h3 k _ hx⟩
theorem RowO.unfrozen {w : World} {b n : Nat} {f : Nat → Rat} (h : RowO w b n f) (k : Nat) : w.frozen? ⟨b, k, none⟩ = false := by
 obtain ⟨L, h1, h2, h3⟩ := h
 exact Lib.frozen_of_heap h2 k
def putN (w : World) (b o : Nat) (x : Num) : World :=
 (((w.setCell ⟨b, o, none⟩ (.bool x.n1)).setCell ⟨b, o + 1, none⟩ (.slice x.a1 x.k1 x.c1)).setCell ⟨b, o + 2, none⟩ (.bool x.n2)).setCell ⟨b, o + 3, none⟩ (.slice x.a2 x.k2 x.c2)
theorem putN_stay {w : World} {b o : Nat} {x : Num} : Stay b (b + 1) w (putN w b o x) :=
 ((((Stay.refl b (b + 1) w).setCell (Nat.le_refl _) (Nat.lt_succ_self _) _ _).setCell (Nat.le_refl _) (Nat.lt_succ_self _) _ _).setCell (Nat.le_refl _) (Nat.lt_succ_self _) _ _).setCell (Nat.le_refl _) (Nat.lt_succ_self _) _ _
theorem RowO.put {w : World} {b n k : Nat} {f : Nat → Rat} {x : Num} {q : Rat} (h : RowO w b n f) (hk : k < n) (hx : RatN w x q) : RowO (putN w b (k * 4) x) b n (fun j => if j = k then q else f j) := by
 have hni := noInt_one h.noInt
 obtain ⟨L, h1, h2, h3⟩ := h
 have s1 := Joins.block_setCell (i := k * 4) h2 (.bool x.n1)
 have s2 := Joins.block_setCell (i := k * 4 + 1) s1 (.slice x.a1 x.k1 x.c1)
 have s3 := Joins.block_setCell (i := k * 4 + 2) s2 (.bool x.n2)
 have s4 := Joins.block_setCell (i := k * 4 + 3) s3 (.slice x.a2 x.k2 x.c2)
 refine ⟨L.set k x, by rw [List.length_set]; exact h1, ?_, fun j y hj => ?_⟩
 ·show (putN w b (k * 4) x).heap[b]? = _
  unfold putN
  rw [s4]
  simp only [List.setIfInBounds_toArray]
  rw [flat_set (by omega)]
 ·have hxs : RatN (putN w b (k * 4) x) x q := RatR.stay hx putN_stay hni
  show RatN _ y (if j = k then q else f j)
  by_cases e : j = k
  ·subst e
   rw [if_pos rfl]
   rw [List.getElem?_set_self (by omega)] at hj
   cases hj; exact hxs
  ·rw [if_neg e]
   rw [List.getElem?_set_ne (Ne.symm e)] at hj
   exact RatR.stay (h3 j y hj) putN_stay hni
structure MatO (w : World) (G m n : Nat) (g : Nat → Nat) (A : Mx) : Prop where
 outer : ∃ T, w.heap[G]? = some (.cells ((List.range m).map fun i => Value.slice (some ⟨g i, 0, none⟩) n n).toArray T (0, 0))
 row : ∀ i, i < m → RowO w (g i) n (A i)
 apart : ∀ i, i < m → g i ≠ G
 inj : ∀ i j, i < m → j < m → g i = g j → i = j
section
variable {w w' : World} {G m n : Nat} {g : Nat → Nat} {A B : Mx}
theorem MatO.head (h : MatO w G m n g A) {i : Nat} (hi : i < m) : w.cell? ⟨G, i, none⟩ = some (.slice (some ⟨g i, 0, none⟩) n n) := by
 obtain ⟨T, h1⟩ := h.outer
 rw [Lib.cell_of_heap h1]
 simp [hi]
theorem MatO.headFree (h : MatO w G m n g A) (i : Nat) : w.frozen? ⟨G, i, none⟩ = false := by
 obtain ⟨T, h1⟩ := h.outer
 exact Lib.frozen_of_heap h1 i
theorem MatO.headNo (h : MatO w G m n g A) : NoInt w G := by
 obtain ⟨T, h1⟩ := h.outer
 refine noInt_of_cells h1 fun u hu K x e => ?_
 subst e
 simp at hu
theorem MatO.below (h : MatO w G m n g A) (hb : Below w.heap.size w w') : MatO w' G m n g A := by
 obtain ⟨T, h1⟩ := h.outer
 exact ⟨⟨T, blk_next h1 hb⟩, fun i hi => (h.row i hi).below hb, h.apart, h.inj⟩
theorem MatO.congr (h : MatO w G m n g A) (e : ∀ i, i < m → ∀ k, k < n → A i k = B i k) : MatO w G m n g B :=
 ⟨h.outer, fun i hi => by
  obtain ⟨L, h1, h2, h3⟩ := h.row i hi
  exact ⟨L, h1, h2, h3.congr (fun k hk => e i hi k (by omega))⟩, h.apart, h.inj⟩
def RowsP (m : Nat) (g : Nat → Nat) : Nat → Prop := fun b => ∃ i, i < m ∧ b = g i
theorem MatO.noInt (h : MatO w G m n g A) : ∀ b, RowsP m g b → NoInt w b := by
 rintro b ⟨i, hi, rfl⟩
 exact (h.row i hi).noInt
theorem MatO.put (h : MatO w G m n g A) {i k : Nat} {x : Num} {q : Rat} (hi : i < m) (hk : k < n) (hx : RatN w x q) :
  MatO (putN w (g i) (k * 4) x) G m n g (fun a b => if a = i ∧ b = k then q else A a b) := by
 obtain ⟨T, h1⟩ := h.outer
 have hst := putN_stay (w := w) (b := g i) (o := k * 4) (x := x)
 have hni := noInt_one (h.row i hi).noInt
 have hap := h.apart i hi
 refine ⟨⟨T, ?_⟩, fun a ha => ?_, h.apart, h.inj⟩
 ·rw [hst.block G (Array.getElem?_eq_some_iff.1 h1).1 (by omega)]; exact h1
 ·by_cases e : a = i
  ·subst e
   have := (h.row a ha).put hk hx
   obtain ⟨L, q1, q2, q3⟩ := this
   refine ⟨L, q1, q2, q3.congr (fun j hj => ?_)⟩
   by_cases e2 : j = k
   ·simp [e2]
   ·simp [e2]
  ·obtain ⟨L, q1, q2, q3⟩ := h.row a ha
   have hne : g a ≠ g i := fun q => e (h.inj a i ha hi q)
   refine ⟨L, q1, ?_, (q3.stay hst hni).congr (fun j hj => by simp [e])⟩
   rw [hst.block (g a) (Array.getElem?_eq_some_iff.1 q2).1 (by omega)]; exact q2
theorem MatO.putOnly {i k : Nat} {x : Num} (hi : i < m) : OnlyP (RowsP m g) w (putN w (g i) (k * 4) x) := OnlyP.of_stay putN_stay ⟨i, hi, rfl⟩
theorem MatO.swap (h : MatO w G m n g A) {i r : Nat} (hi : i < m) (hr : r < m) :
  MatO ((w.setCell ⟨G, i, none⟩ (.slice (some ⟨g r, 0, none⟩) n n)).setCell ⟨G, r, none⟩ (.slice (some ⟨g i, 0, none⟩) n n)) G m n (fun a => g (swapI i r a)) (swapR A i r) := by
 obtain ⟨T, h1⟩ := h.outer
 have s1 := Joins.block_setCell (i := i) h1 (.slice (some ⟨g r, 0, none⟩) n n)
 have s2 := Joins.block_setCell (i := r) s1 (.slice (some ⟨g i, 0, none⟩) n n)
 have hst : Stay G (G + 1) w ((w.setCell ⟨G, i, none⟩ (.slice (some ⟨g r, 0, none⟩) n n)).setCell ⟨G, r, none⟩ (.slice (some ⟨g i, 0, none⟩) n n)) := ((Stay.refl G (G + 1) w).setCell (Nat.le_refl _) (Nat.lt_succ_self _) _ _).setCell (Nat.le_refl _) (Nat.lt_succ_self _) _ _
 have hsw : ∀ a, a < m → swapI i r a < m := fun a ha => by unfold swapI; split <;> (try split) <;> omega
 have hkeep : ∀ a, a < m → RowO ((w.setCell ⟨G, i, none⟩ (.slice (some ⟨g r, 0, none⟩) n n)).setCell ⟨G, r, none⟩ (.slice (some ⟨g i, 0, none⟩) n n)) (g a) n (A a) := fun a ha => by
  obtain ⟨L, q1, q2, q3⟩ := h.row a ha
  have := h.apart a ha
  refine ⟨L, q1, ?_, q3.stay hst (noInt_one h.headNo)⟩
  rw [hst.block (g a) (Array.getElem?_eq_some_iff.1 q2).1 (by omega)]; exact q2
 refine ⟨⟨T, ?_⟩, fun a ha => hkeep _ (hsw a ha), fun a ha => h.apart _ (hsw a ha), fun a b ha hb e => ?_⟩
 ·rw [s2]
  congr 2
  simp only [List.setIfInBounds_toArray]
  congr 1
  apply List.ext_getElem
  ·simp
  ·intro k hk1 hk2
   simp only [List.length_map, List.length_range] at hk2
   rw [List.getElem_set, List.getElem_set]
   simp only [List.getElem_map, List.getElem_range, swapI]
   by_cases e1 : r = k
   ·subst e1
    by_cases e2 : r = i
    ·subst e2; simp
    ·simp [e2]
   ·by_cases e2 : i = k
    ·subst e2; simp [e1]
    ·simp [e1, e2, Ne.symm e1, Ne.symm e2]
 ·have := h.inj _ _ (hsw a ha) (hsw b hb) e
  unfold swapI at this
  split at this <;> split at this <;> (try split at this) <;> (try split at this) <;> omega
end
theorem RowO.rats {w : World} {b n : Nat} {f : Nat → Rat} (h : RowO w b n f) (hn : n ≤ 9223372036854775807) : RatsR w (.slice (some ⟨b, 0, none⟩) n n) n f := by
 obtain ⟨L, rfl, h2, h3⟩ := h
 refine ⟨L, rfl, ⟨some ⟨b, 0, none⟩, b, 0, L.length, rfl, Nat.le_refl _, hn, fun _ => rfl, fun k x hx => ?_⟩, h3⟩
 obtain ⟨q0, q1, q2, q3⟩ := flat_get hx
 have hc : ∀ j u, (flat L)[j]? = some u → w.cell? ⟨b, j, none⟩ = some u := fun j u hu => by
  rw [Lib.cell_of_heap h2]; simpa using hu
 simp only [Nat.zero_add]
 exact ⟨hc _ _ q0, hc _ _ q1, hc _ _ q2, hc _ _ q3⟩
theorem MatO.mats {w : World} {G m n : Nat} {g : Nat → Nat} {A : Mx} (h : MatO w G m n g A) (hm : m ≤ 9223372036854775807) (hn : n ≤ 9223372036854775807) : MatsR w (.slice (some ⟨G, 0, none⟩) m m) m (fun _ => n) A := by
 refine ⟨(List.range m).map fun i => .slice (some ⟨g i, 0, none⟩) n n, by simp, ⟨some ⟨G, 0, none⟩, G, 0, m, by simp, by simp, hm, fun _ => rfl, fun k u hk => ?_⟩, fun i u hi => ?_⟩
 ·have hk2 : k < m := by have := (List.getElem?_eq_some_iff.1 hk).1; simpa using this
  have : u = .slice (some ⟨g k, 0, none⟩) n n := by
   rw [List.getElem?_map, List.getElem?_range hk2] at hk
   simpa using hk.symm
  rw [this, Nat.zero_add]
  exact h.head hk2
 ·have hk2 : i < m := by have := (List.getElem?_eq_some_iff.1 hi).1; simpa using this
  have : u = .slice (some ⟨g i, 0, none⟩) n n := by
   rw [List.getElem?_map, List.getElem?_range hk2] at hi
   simpa using hi.symm
  rw [this]
  exact (h.row i hk2).rats hn
structure MatB (w : World) (G m n k : Nat) (g : Nat → Nat) (A : Mx) : Prop where
 outer : ∃ T, w.heap[G]? = some (.cells ((List.range m).map fun i => if i < k then Value.slice (some ⟨g i, 0, none⟩) n n else Value.slice none 0 0).toArray T (0, 0))
 row : ∀ i, i < k → RowO w (g i) n (A i)
 apart : ∀ i, i < k → g i ≠ G
 inj : ∀ i j, i < k → j < k → g i = g j → i = j
section
variable {w w' : World} {G m n k : Nat} {g : Nat → Nat} {A : Mx}
theorem MatB.start {T : TypeId} (h : w.heap[G]? = some (.cells (madeCells #[.slice none 0 0] m) T (0, 0))) (n : Nat) (g : Nat → Nat) (A : Mx) : MatB w G m n 0 g A :=
 ⟨⟨T, by
  rw [h]; congr 2
  apply Array.ext
  ·simp [madeCells]
  ·intro i h1 h2
   simp [madeCells, Nat.mod_one]⟩, fun i hi => by omega, fun i hi => by omega, fun i j hi => by omega⟩
theorem MatB.lt (h : MatB w G m n k g A) : G < w.heap.size := by
 obtain ⟨T, h1⟩ := h.outer
 exact (Array.getElem?_eq_some_iff.1 h1).1
theorem MatB.headNo (h : MatB w G m n k g A) : NoInt w G := by
 obtain ⟨T, h1⟩ := h.outer
 refine noInt_of_cells h1 fun u hu K x e => ?_
 subst e
 simp only [List.mem_toArray, List.mem_map] at hu
 obtain ⟨a, _, ha⟩ := hu
 split at ha <;> cases ha
theorem MatB.done (h : MatB w G m n m g A) : MatO w G m n g A := by
 obtain ⟨T, h1⟩ := h.outer
 refine ⟨⟨T, ?_⟩, h.row, h.apart, h.inj⟩
 rw [h1]; congr 3
 apply List.map_congr_left
 intro i hi
 rw [if_pos (List.mem_range.1 hi)]
end
section
variable {P : Program}
theorem run_copy_wide (w : World) (dT sT ty elem : TypeId) (g dLen dCap : Nat) (a : Addr) (sLen sCap n size : Nat) (cur : Array Value) (t : TypeId) (cs : List Value)
  (hu : P.underlying dT = some (.slice elem)) (hs : (P.info? elem).map (·.size) = some size)
  (hg : w.heap[g]? = some (.cells cur t (0, 0))) (hn : n = Nat.min sLen dLen) (hc : cs.length = n * size)
  (hsrc : ∀ j v, cs[j]? = some v → w.cell? (a.add j) = some v) (hfit : cs.length ≤ cur.size) (h1 : ∀ v ∈ cs, v.oneCell' = true) :
  (Builtin.copy_ #[dT, sT] ty #[.slice (some ⟨g, 0, none⟩) dLen dCap, .slice (some a) sLen sCap]).run P w =
   .ok (goInt n) (w.setRow g (cs ++ cur.toList.drop cs.length).toArray) := by
 have hl := run_loadCells_list (P := P) w a cs hsrc
 have hst := run_storeCells_at P g 0 t cs 0 cur w hg (by simpa using hfit) h1
 simp at hst
 cases hq : P.info? elem with
 | none => simp [hq] at hs
 | some i =>
  have hi : i.size = size := by simpa [hq] using hs
  have hl2 : (loadCells a (n * size)).run P w = .ok cs.toArray w := by rw [← hc]; exact hl
  simp [Builtin.copy_, run_underlying hu, Builtin.lenOf, Builtin.firstCells, sizeOf, typeInfo, hq, hi, ← hn, hl2, hst]
end
theorem run_copy_wide0 {P : Program} (w : World) (dT sT ty elem : TypeId) (dp sp : Option Addr) (dLen dCap sLen sCap size : Nat) (hu : P.underlying dT = some (.slice elem)) (hs : (P.info? elem).map (·.size) = some size) (hn : Nat.min sLen dLen = 0) :
  (Builtin.copy_ #[dT, sT] ty #[.slice dp dLen dCap, .slice sp sLen sCap]).run P w = .ok (goInt 0) w := by
 cases hq : P.info? elem with
 | none => simp [hq] at hs
 | some i =>
  have hl : ∀ (x : Addr), (loadCells x 0).run P w = .ok #[] w := fun x => by simpa using run_loadCells_list (P := P) w x [] (by simp)
  cases dp <;> cases sp <;> simp [Builtin.copy_, run_underlying hu, Builtin.lenOf, Builtin.firstCells, sizeOf, typeInfo, hq, hn, storeCells, hl]
theorem step_copy_wide {P : Program} {ops : Array Oper} {o : Oper} {a : Act} {w : World} {K : Act → World → Prop} {Q : Exit → Act → World → Prop} {E : Prop} (hgd : o.guard = none) (d s : Operand) (dT sT : TypeId)
  (ho : o.op = .call { callee := .builtin .copy, args := #[d, s], argTypes := #[dT, sT] }) (elem : TypeId) (size : Nat) (hu : P.underlying dT = some (.slice elem)) (hsz : (P.info? elem).map (·.size) = some size)
  (dp sp : Option Addr) (dLen dCap sLen sCap n : Nat) (hd : a.eval d = .slice dp dLen dCap) (hs : a.eval s = .slice sp sLen sCap)
  (g : Nat) (cur : Array Value) (t : TypeId) (hg : w.heap[g]? = some (.cells cur t (0, 0))) (cs : List Value) (hn : n = Nat.min sLen dLen) (hc : cs.length = n * size)
  (hpos : 0 < n → dp = some ⟨g, 0, none⟩ ∧ ∃ ad, sp = some ad ∧ ∀ j v, cs[j]? = some v → w.cell? (ad.add j) = some v)
  (hfit : cs.length = cur.size) (h1 : ∀ v ∈ cs, v.oneCell' = true)
  (h : ∀ w', w'.heap[g]? = some (.cells cs.toArray t (0, 0)) → Stay g (g + 1) w w' → K (a.put o.dst (goInt n)) w') :
  if Region.wanted o (yielded ops a.tmps) = true then Oper.wp P o a w K Q else E := by
 have hw : Region.wanted o (yielded ops a.tmps) = true := by simp [Region.wanted, hgd]
 rw [if_pos hw]
 by_cases h0 : n = 0
 ·subst h0
  have hrun := run_copy_wide0 (P := P) w dT sT o.type elem dp sp dLen dCap sLen sCap size hu hsz hn.symm
  have e1 : cs = [] := List.eq_nil_of_length_eq_zero (by rw [hc]; simp)
  have e2 : cur = #[] := Array.eq_empty_of_size_eq_zero (by rw [← hfit, hc]; simp)
  unfold Oper.wp
  simp [execOp, ho, resolve, invoke, builtin, hd, hs, hrun, Result.andThen]
  exact h w (by rw [hg, e1, e2]) (Stay.refl _ _ _)
 ·obtain ⟨rfl, ad, rfl, hsrc⟩ := hpos (by omega)
  have hrun := run_copy_wide (P := P) w dT sT o.type elem g dLen dCap ad sLen sCap n size cur t cs hu hsz hg hn hc hsrc (Nat.le_of_eq hfit) h1
  unfold Oper.wp
  simp [execOp, ho, resolve, invoke, builtin, hd, hs, hrun, Result.andThen]
  have e : (cs ++ cur.toList.drop cs.length).toArray = cs.toArray := by rw [hfit]; simp
  simp only [e]
  exact h _ (setRow_heap w g _ _ t _ hg) ⟨rfl, rfl, rfl, by simp [World.setRow], fun k hk hkk => setRow_other w g k _ (by omega)⟩
theorem flat_src {w : World} {b o : Nat} {L : List Num} (h : ∀ k x, L[k]? = some x → Four w b (o + k * 4) x) : ∀ j u, (flat L)[j]? = some u → w.cell? ((⟨b, o, none⟩ : Addr).add j) = some u := by
 intro j u hu
 have hl := (List.getElem?_eq_some_iff.1 hu).1
 rw [flat_length] at hl
 have hadd : (⟨b, o, none⟩ : Addr).add j = ⟨b, o + j, none⟩ := by simp [Addr.add]
 rw [hadd]
 obtain ⟨k, r, hr, rfl⟩ : ∃ k r, r < 4 ∧ j = k * 4 + r := ⟨j / 4, j % 4, by omega, by omega⟩
 have hk : k < L.length := by omega
 have hx : L[k]? = some L[k] := List.getElem?_eq_getElem hk
 obtain ⟨q0, q1, q2, q3⟩ := flat_get hx
 obtain ⟨f0, f1, f2, f3⟩ := h _ _ hx
 rw [show o + (k * 4 + r) = o + k * 4 + r by omega]
 match r, hr with
 | 0, _ => rw [Nat.add_zero] at hu ⊢; rw [q0] at hu; cases hu; exact f0
 | 1, _ => rw [q1] at hu; cases hu; exact f1
 | 2, _ => rw [q2] at hu; cases hu; exact f2
 | 3, _ => rw [q3] at hu; cases hu; exact f3
theorem MatB.next {w w' : World} {G m n k b : Nat} {g : Nat → Nat} {A : Mx} {L : List Num} (h : MatB w G m n k g A) (hs : Stay G (G + 1) w w')
  (hG : ∀ T cs, w.heap[G]? = some (.cells cs T (0, 0)) → w'.heap[G]? = some (.cells (cs.setIfInBounds k (.slice (some ⟨b, 0, none⟩) n n)) T (0, 0)))
  (hb : w'.heap[b]? = some (.cells (flat L).toArray 37 (0, 0))) (hbn : w.heap.size ≤ b) (hl : L.length = n) (hn : NumsR w L (A k)) :
  MatB w' G m n (k + 1) (fun i => if i = k then b else g i) A := by
 have hlt := h.lt
 have hno := h.headNo
 obtain ⟨T, h1⟩ := h.outer
 have hl1 : ∀ a, a < k → g a < w.heap.size := fun a ha => (h.row a ha).lt
 refine ⟨⟨T, ?_⟩, fun i hi => ?_, fun i hi => ?_, fun i j hi hj e => ?_⟩
 ·rw [hG T _ h1]
  congr 2
  simp only [List.setIfInBounds_toArray]
  congr 1
  apply List.ext_getElem
  ·simp
  ·intro a ha1 ha2
   simp only [List.length_map, List.length_range] at ha2
   rw [List.getElem_set]
   simp only [List.getElem_map, List.getElem_range]
   by_cases e1 : k = a
   ·subst e1; simp
   ·by_cases e2 : a < k
    ·rw [if_neg e1, if_pos e2, if_pos (by omega), if_neg (by omega)]
    ·rw [if_neg e1, if_neg e2, if_neg (by omega)]
 ·by_cases e : i = k
  ·subst e
   rw [if_pos rfl]
   exact ⟨L, hl, hb, hn.stay hs (noInt_one hno)⟩
  ·rw [if_neg e]
   obtain ⟨M, q1, q2, q3⟩ := h.row i (by omega)
   have hap := h.apart i (by omega)
   exact ⟨M, q1, by rw [hs.block (g i) (Array.getElem?_eq_some_iff.1 q2).1 (by omega)]; exact q2, q3.stay hs (noInt_one hno)⟩
 ·by_cases e : i = k
  ·rw [if_pos e]; omega
  ·rw [if_neg e]; exact h.apart i (by omega)
 ·by_cases e1 : i = k
  ·by_cases e2 : j = k
   ·omega
   ·rw [if_pos e1, if_neg e2] at e
    have := hl1 j (by omega)
    omega
  ·by_cases e2 : j = k
   ·rw [if_neg e1, if_pos e2] at e
    have := hl1 i (by omega)
    omega
   ·rw [if_neg e1, if_neg e2] at e
    exact h.inj i j (by omega) (by omega) e
end Go.Proofs.YteionhenpehogaaGreatDoor
