import Derived.Test.YteionhenpehogaaGreatDoorLinM
namespace Go.Proofs.YteionhenpehogaaGreatDoor
open Go.RowKit Tally
def AllG (G : Value → Prop) (w : World) (g : Nat) : Prop := ∀ o u, w.cell? ⟨g, o, none⟩ = some u → G u
theorem allG_of_cells {G : Value → Prop} {w : World} {g : Nat} {cs : Array Value} {T : TypeId} {fr : Nat × Nat} (h : w.heap[g]? = some (.cells cs T fr)) (hc : ∀ u ∈ cs, G u) : AllG G w g := by
 intro o u e
 rw [cell_of_row w g o cs T fr h] at e
 exact hc _ (Array.mem_of_getElem? e)
theorem cells_of_allG {G : Value → Prop} {w : World} {g : Nat} {cs : Array Value} {T : TypeId} {fr : Nat × Nat} (h : w.heap[g]? = some (.cells cs T fr)) (hn : AllG G w g) : ∀ u ∈ cs, G u := by
 intro u hu
 obtain ⟨o, ho⟩ := Array.mem_iff_getElem?.1 hu
 exact hn o u (by rw [cell_of_row w g o cs T fr h, ho])
structure OwnG (G : Value → Prop) (w : World) (base : Nat) (e : TypeId) (size : Nat) (v : Value) (n : Nat) (xs : List Value) : Prop where
 own : w.ownsRow base e size v n xs
 free : ∀ g, v.ownBlock = some g → AllG G w g
theorem OwnG.nil (G : Value → Prop) (w : World) (base : Nat) (e : TypeId) (size : Nat) : OwnG G w base e size (.slice none 0 0) 0 [] := ⟨World.ownsRow_nil _ _ _ _, fun g h => by simp [Value.ownBlock] at h⟩
section
variable {P : Program} {G : Value → Prop} (w : World)
theorem run_append_good (base : Nat) (t ty e : TypeId) (i : TypeInfo) (z : Value) (size bytes : Nat) (ht : P.underlying t = some (.slice e)) (hi : P.info? e = some i) (hz : i.zero = some z)
  (hsize : i.size = size) (hby : i.bytes = bytes) (hzs : z.cells.size = size) (hsz : 0 < size)
  (v : Value) (n : Nat) (xs : List Value) (hown : OwnG G w base e size v n xs)
  (a : Addr) (m c : Nat) (news : List Value) (hl : news.length = m * size) (hnews : ∀ j u, news[j]? = some u → w.cell? (a.add j) = some u) (h1 : ∀ u ∈ news, u.oneCell' = true)
  (h63 : n + m ≤ maxLen) (hbytes : (n + m) * bytes ≤ 140737488355328) (hbase : base ≤ w.heap.size) (hni : ∀ u ∈ news, G u) (hnz : ∀ u ∈ z.cells, G u) :
  ∃ v' w', (Builtin.append_ #[t, t] ty #[v, .slice (some a) m c]).run P w = .ok v' w' ∧ OwnG G w' base e size v' (n + m) (xs ++ news) ∧ w.grownBy w' v.ownBlock ∧
   (v' = .slice none 0 0 ↔ v = .slice none 0 0 ∧ m = 0) := by
 obtain ⟨v', w', hr, ho, hg, hv⟩ := run_append_own w base t ty e i z size bytes ht hi hz hsize hby hzs hsz v n xs hown.own a m c news hl hnews h1 h63 hbytes hbase
 refine ⟨v', w', hr, ⟨ho, ?_⟩, hg, hv⟩
 intro g' hg'
 have zc : ∀ k u, u ∈ Builtin.zeroCells z.cells k → G u := by
  intro k u hu
  unfold Builtin.zeroCells at hu
  obtain ⟨j, hj, rfl⟩ := Array.mem_map.1 hu
  have hlt : j % z.cells.size < z.cells.size := Nat.mod_lt _ (by omega)
  rw [getElem!_pos z.cells (j % z.cells.size) hlt]
  exact hnz _ (Array.getElem_mem hlt)
 rcases hown.own.2 with ⟨rfl, rfl⟩ | ⟨g, cap, cur, rfl, hbg, hgg, hnc, hcm, hcs, htake⟩
 ·by_cases hm : m = 0
  ·have : v' = .slice none 0 0 := hv.2 ⟨rfl, hm⟩
   subst this
   simp [Value.ownBlock] at hg'
  ·have hq := run_append_nil (P := P) w t ty e i z ht hi hz a m c news (by rw [hl, hsize]) hnews (by omega) (by simp only [maxLen] at h63; omega) (by rw [hby]; have hb := hbytes; simp only [Nat.zero_add] at hb; omega)
   rw [hr] at hq
   injection hq with q1 q2
   subst q1 q2
   simp only [Value.ownBlock, Option.some.injEq] at hg'
   subst hg'
   refine allG_of_cells (heap_alloc_new _ _) fun u hu => ?_
   rcases Array.mem_append.1 hu with k | k
   ·exact hni u (by simpa using k)
   ·exact zc _ u k
 ·have hcf := cells_of_allG hgg (hown.free g rfl)
  by_cases hroom : n + m ≤ cap
  ·have hfit : n * i.size + news.length ≤ cur.size := by rw [hl, hcs, hsize, ← Nat.add_mul]; exact Nat.mul_le_mul_right _ hroom
   have hq := run_append_room (P := P) w t ty e i ht hi g n cap cur hgg a m c news (by rw [hl, hsize]) hnews h1 hroom hfit
   rw [hr] at hq
   injection hq with q1 q2
   subst q1 q2
   simp only [Value.ownBlock, Option.some.injEq] at hg'
   subst hg'
   refine allG_of_cells (setRow_heap w g cur _ e _ hgg) fun u hu => ?_
   have hu' : u ∈ cur.toList.take (n * i.size) ++ news ++ cur.toList.drop (n * i.size + news.length) := by simpa using hu
   rcases List.mem_append.1 hu' with k | k
   ·rcases List.mem_append.1 k with k | k
    ·exact hcf u (by simpa using List.mem_of_mem_take k)
    ·exact hni u k
   ·exact hcf u (by simpa using List.mem_of_mem_drop k)
  ·have holds : ∀ j u, xs[j]? = some u → w.cell? ((⟨g, 0, none⟩ : Addr).add j) = some u := hown.own.cells (g := g) rfl
   have hq := run_append_grow (P := P) w t ty e i z ht hi hz ⟨g, 0, none⟩ n cap xs (by rw [hown.own.1, hsize]) holds a m c news (by rw [hl, hsize]) hnews (by omega) (by simp only [maxLen] at h63; omega) (by rw [hby]; exact growslice_fits (by omega) hbytes)
   rw [hr] at hq
   injection hq with q1 q2
   subst q1 q2
   simp only [Value.ownBlock, Option.some.injEq] at hg'
   subst hg'
   refine allG_of_cells (heap_alloc_new _ _) fun u hu => ?_
   rcases Array.mem_append.1 hu with k | k
   ·rcases Array.mem_append.1 k with k | k
    ·refine hcf u ?_
     have : u ∈ cur.toList.take (n * size) := by rw [htake]; simpa using k
     simpa using List.mem_of_mem_take this
    ·exact hni u (by simpa using k)
   ·exact zc _ u k
theorem wp_append_good {o : Oper} {a : Act} {K : Act → World → Prop} {Q : Exit → Act → World → Prop} (s x : Operand) (t : TypeId)
  (ho : o.op = .call { callee := .builtin .append, args := #[s, x], argTypes := #[t, t] })
  (base : Nat) (e : TypeId) (i : TypeInfo) (z : Value) (size bytes : Nat) (ht : P.underlying t = some (.slice e)) (hi : P.info? e = some i) (hz : i.zero = some z)
  (hsize : i.size = size) (hby : i.bytes = bytes) (hzs : z.cells.size = size) (hsz : 0 < size)
  (v : Value) (n : Nat) (xs : List Value) (hs : a.eval s = v) (hown : OwnG G w base e size v n xs)
  (ad : Addr) (m c : Nat) (news : List Value) (hx : a.eval x = .slice (some ad) m c) (hl : news.length = m * size) (hnews : ∀ j u, news[j]? = some u → w.cell? (ad.add j) = some u) (h1 : ∀ u ∈ news, u.oneCell' = true)
  (h63 : n + m ≤ maxLen) (hbytes : (n + m) * bytes ≤ 140737488355328) (hbase : base ≤ w.heap.size) (hni : ∀ u ∈ news, G u) (hnz : ∀ u ∈ z.cells, G u)
  (h : ∀ v' w', OwnG G w' base e size v' (n + m) (xs ++ news) → w.grownBy w' v.ownBlock → (v' = .slice none 0 0 ↔ v = .slice none 0 0 ∧ m = 0) → K (a.put o.dst v') w') : o.wp P a w K Q := by
 obtain ⟨v', w', hr, h2, h3, h4⟩ := run_append_good (P := P) w base t o.type e i z size bytes ht hi hz hsize hby hzs hsz v n xs hown ad m c news hl hnews h1 h63 hbytes hbase hni hnz
 unfold Oper.wp execOp
 simp only [ho, resolve, invoke, builtin, Sem.run_bind, Sem.run_pure, Result.andThen_ok, List.map_toArray, List.map_cons, List.map_nil, hs, hx, hr]
 exact h v' w' h2 h3 h4
end
theorem step_append_good {P : Program} {G : Value → Prop} (w : World) {ops : Array Oper} {o : Oper} {a : Act} {K : Act → World → Prop} {Q : Exit → Act → World → Prop} {E : Prop} (hgd : o.guard = none) (s x : Operand) (t : TypeId)
  (ho : o.op = .call { callee := .builtin .append, args := #[s, x], argTypes := #[t, t] })
  (base : Nat) (e : TypeId) (i : TypeInfo) (z : Value) (size bytes : Nat) (ht : P.underlying t = some (.slice e)) (hi : P.info? e = some i) (hz : i.zero = some z)
  (hsize : i.size = size) (hby : i.bytes = bytes) (hzs : z.cells.size = size) (hsz : 0 < size)
  (v : Value) (n : Nat) (xs : List Value) (hs : a.eval s = v) (hown : OwnG G w base e size v n xs)
  (ad : Addr) (m c : Nat) (news : List Value) (hx : a.eval x = .slice (some ad) m c) (hl : news.length = m * size) (hnews : ∀ j u, news[j]? = some u → w.cell? (ad.add j) = some u) (h1 : ∀ u ∈ news, u.oneCell' = true)
  (h63 : n + m ≤ maxLen) (hbytes : (n + m) * bytes ≤ 140737488355328) (hbase : base ≤ w.heap.size) (hni : ∀ u ∈ news, G u) (hnz : ∀ u ∈ z.cells, G u)
  (h : ∀ v' w', OwnG G w' base e size v' (n + m) (xs ++ news) → w.grownBy w' v.ownBlock → (v' = .slice none 0 0 ↔ v = .slice none 0 0 ∧ m = 0) → K (a.put o.dst v') w') :
  if Region.wanted o (yielded ops a.tmps) = true then Oper.wp P o a w K Q else E := by
 have hw : Region.wanted o (yielded ops a.tmps) = true := by simp [Region.wanted, hgd]
 rw [if_pos hw]
 exact wp_append_good w s x t ho base e i z size bytes ht hi hz hsize hby hzs hsz v n xs hs hown ad m c news hx hl hnews h1 h63 hbytes hbase hni hnz h
theorem OwnG.below {G : Value → Prop} {w w' : World} {base : Nat} {e : TypeId} {size : Nat} {v : Value} {n : Nat} {xs : List Value} (h : OwnG G w base e size v n xs) (hb : Below w.heap.size w w') : OwnG G w' base e size v n xs :=
 ⟨h.own.kept (row := none) ⟨hb.os, hb.tape, hb.output, hb.size, fun k hk _ => hb.block k hk⟩ (by cases hv : v.ownBlock <;> simp), fun g hg o u e => by
  have hl := (h.own.lt g hg).2
  rw [hb.cell (p := ⟨g, o, none⟩) hl] at e
  exact h.free g hg o u e⟩
def OnlySl (u : Value) : Prop := ∃ a k c, u = .slice a k c
theorem noInt_of_sl {w : World} {g : Nat} (h : AllG OnlySl w g) : NoInt w g := fun o K x e => by
 obtain ⟨_, _, _, q⟩ := h o _ e
 cases q
theorem Four.grown {w w' : World} {row : Option Nat} {b o : Nat} {x : Num} (h : Four w b o x) (hg : w.grownBy w' row) (hn : ∀ g, row = some g → AllG OnlySl w g) : Four w' b o x := by
 have hb : ∀ e : some b = row, False := fun e => by
  obtain ⟨_, _, _, q⟩ := hn b e.symm _ _ h.1
  cases q
 exact ⟨hg.cell h.1 hb, hg.cell h.2.1 hb, hg.cell h.2.2.1 hb, hg.cell h.2.2.2 hb⟩
theorem RatsR.grown {w w' : World} {row : Option Nat} {u : Value} {n : Nat} {f : Nat → Rat} (h : RatsR w u n f) (hg : w.grownBy w' row) (hn : ∀ g, row = some g → AllG OnlySl w g) : RatsR w' u n f := by
 obtain ⟨L, h1, ⟨a, b, o, c, e, r1, r2, r3, r4⟩, h3⟩ := h
 exact ⟨L, h1, ⟨a, b, o, c, e, r1, r2, r3, fun k x hx => (r4 k x hx).grown hg hn⟩, h3.grown hg (fun g e => noInt_of_sl (hn g e))⟩
structure BuildM (B : Nat) (w : World) (v : Value) (V : List Value) (k : Nat) (n : Nat → Nat) (A : Nat → Nat → Rat) : Prop where
 len : V.length = k
 own : OwnG OnlySl w B 26 1 v V.length V
 row : ∀ i u, V[i]? = some u → RatsR w u (n i) (A i)
theorem BuildM.start (B : Nat) (w : World) (n : Nat → Nat) (A : Nat → Nat → Rat) : BuildM B w (.slice none 0 0) [] 0 n A := ⟨rfl, OwnG.nil _ _ _ _ _, fun i u h => by simp at h⟩
theorem BuildM.below {B : Nat} {w w' : World} {v : Value} {V : List Value} {k : Nat} {n : Nat → Nat} {A : Nat → Nat → Rat} (h : BuildM B w v V k n A) (hb : Below w.heap.size w w') : BuildM B w' v V k n A := ⟨h.len, h.own.below hb, fun i u hu => (h.row i u hu).below hb⟩
theorem BuildM.snoc {B : Nat} {w w' : World} {v v' u : Value} {V : List Value} {k : Nat} {n : Nat → Nat} {A : Nat → Nat → Rat} (h : BuildM B w v V k n A) (ho : OwnG OnlySl w' B 26 1 v' (V.length + 1) (V ++ [u])) (hg : w.grownBy w' v.ownBlock) (hx : RatsR w u (n k) (A k)) : BuildM B w' v' (V ++ [u]) (k + 1) n A := by
 refine ⟨by rw [List.length_append, h.len]; rfl, by rw [List.length_append]; exact ho, fun i y hi => ?_⟩
 by_cases e : i < V.length
 ·rw [List.getElem?_append_left e] at hi
  exact (h.row i y hi).grown hg h.own.free
 ·rw [List.getElem?_append_right (by omega)] at hi
  have : i - V.length < 1 := by have := (List.getElem?_eq_some_iff.1 hi).1; simpa using this
  have ek : i = V.length := by omega
  subst ek
  simp at hi
  subst hi
  rw [h.len]
  exact hx.grown hg h.own.free
theorem BuildM.mats {B : Nat} {w : World} {v : Value} {V : List Value} {k : Nat} {n : Nat → Nat} {A : Nat → Nat → Rat} (h : BuildM B w v V k n A) : ∃ a c, v = .slice a k c ∧ MatsR w (.slice a k c) k n A := by
 have hl := h.len
 have ho := h.own.own
 rcases ho.2 with ⟨hv, h0⟩ | ⟨g, cap, cur, hv, hb, hg, r1, r2, r3, r4⟩
 ·have hk : k = 0 := by rw [← hl]; exact h0
  subst hk
  have hV : V = [] := List.length_eq_zero_iff.1 hl
  subst hV
  exact ⟨none, 0, hv, [], rfl, ⟨none, 0, 0, 0, rfl, by simp, by decide, fun q => by simp at q, fun i u hi => by simp at hi⟩, fun i u hi => by simp at hi⟩
 ·refine ⟨some ⟨g, 0, none⟩, cap, by rw [hv, hl], V, hl, ⟨some ⟨g, 0, none⟩, g, 0, cap, by rw [hl], by omega, by simpa [maxLen] using r2, fun _ => rfl, fun i u hi => ?_⟩, h.row⟩
  have := ho.cells (g := g) (by rw [hv]; rfl) i u hi
  have hadd : (⟨g, 0, none⟩ : Addr).add i = ⟨g, i, none⟩ := by unfold Addr.add; split <;> simp_all
  rw [hadd] at this
  rw [Nat.zero_add]
  exact this
theorem OwnG.empty {G : Value → Prop} {w : World} {base g : Nat} {e : TypeId} {size : Nat} (h : w.heap[g]? = some (.cells #[] e (0, 0))) (hb : base ≤ g) : OwnG G w base e size (.slice (some ⟨g, 0, none⟩) 0 0) 0 [] := by
 refine ⟨⟨by simp, .inr ⟨g, 0, #[], rfl, hb, h, Nat.le_refl _, Nat.zero_le _, by simp, by simp⟩⟩, fun g' hg' => ?_⟩
 simp only [Value.ownBlock, Option.some.injEq] at hg'
 subst hg'
 exact allG_of_cells h (fun u hu => by simp at hu)
theorem OwnG.sli {w : World} {base : Nat} {v : Value} {L : List Num} {n : Nat} (h : OwnG notInt w base 37 4 v n (flat L)) (hn : L.length = n) : SliN w v L := by
 subst hn
 exact SliN.of_own h.own
end Go.Proofs.YteionhenpehogaaGreatDoor
