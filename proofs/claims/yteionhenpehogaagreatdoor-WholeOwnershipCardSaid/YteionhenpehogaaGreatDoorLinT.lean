import Derived.Test.YteionhenpehogaaGreatDoorLinS
import Derived.Test.YteionhenpehogaaGreatDoorLinA
namespace Go.Proofs.YteionhenpehogaaGreatDoor
open Go.RowKit Tally
section
variable {P : Program} {G : Value → Prop} (w : World)
theorem run_append_at (base : Nat) (t ty e : TypeId) (i : TypeInfo) (z : Value) (size bytes : Nat) (ht : P.underlying t = some (.slice e)) (hi : P.info? e = some i) (hz : i.zero = some z)
  (hsize : i.size = size) (hby : i.bytes = bytes) (hzs : z.cells.size = size) (hsz : 0 < size)
  (v : Value) (n : Nat) (xs : List Value) (hown : OwnG G w base e size v n xs)
  (a : Addr) (m c : Nat) (news : List Value) (hl : news.length = m * size) (hnews : ∀ j u, news[j]? = some u → w.cell? (a.add j) = some u) (h1 : ∀ u ∈ news, u.oneCell' = true)
  (h63 : n + m ≤ maxLen) (hbytes : (n + m) * bytes ≤ 140737488355328) (hbase : base ≤ w.heap.size) (hni : ∀ u ∈ news, G u) (hnz : ∀ u ∈ z.cells, G u) :
  ∃ v' w', (Builtin.append_ #[t, t] ty #[v, .slice (some a) m c]).run P w = .ok v' w' ∧ OwnG G w' base e size v' (n + m) (xs ++ news) ∧ w.grownBy w' v.ownBlock ∧
   (v'.ownBlock = v.ownBlock ∨ v'.ownBlock = some w.heap.size) := by
 obtain ⟨v', w', hr, ho, hg, hv⟩ := run_append_own w base t ty e i z size bytes ht hi hz hsize hby hzs hsz v n xs hown.own a m c news hl hnews h1 h63 hbytes hbase
 refine ⟨v', w', hr, ⟨ho, ?_⟩, hg, ?_⟩
 ·intro g' hg'
  have zc : ∀ k u, u ∈ Builtin.zeroCells z.cells k → G u := by
   intro k u hu
   unfold Builtin.zeroCells at hu
   obtain ⟨j, hj, rfl⟩ := Array.mem_map.1 hu
   have hlt : j % z.cells.size < z.cells.size := Nat.mod_lt _ (by omega)
   rw [getElem!_pos z.cells (j % z.cells.size) hlt]
   exact hnz _ (Array.getElem_mem hlt)
  rcases hown.own.2 with ⟨rfl, rfl⟩ | ⟨g, cap, cur, rfl, hbg, hgg, hnc, hcm, hcs, htake⟩
  ·by_cases hm : m = 0
   ·have : v' = .slice none 0 0 := hv.2 ⟨rfl, hm⟩
    subst this
    simp [Value.ownBlock] at hg'
   ·have hq := run_append_nil (P := P) w t ty e i z ht hi hz a m c news (by rw [hl, hsize]) hnews (by omega) (by simp only [maxLen] at h63; omega) (by rw [hby]; have hb := hbytes; simp only [Nat.zero_add] at hb; omega)
    rw [hr] at hq
    injection hq with q1 q2
    subst q1 q2
    simp only [Value.ownBlock, Option.some.injEq] at hg'
    subst hg'
    refine allG_of_cells (heap_alloc_new _ _) fun u hu => ?_
    rcases Array.mem_append.1 hu with k | k
    ·exact hni u (by simpa using k)
    ·exact zc _ u k
  ·have hcf := cells_of_allG hgg (hown.free g rfl)
   by_cases hroom : n + m ≤ cap
   ·have hfit : n * i.size + news.length ≤ cur.size := by rw [hl, hcs, hsize, ← Nat.add_mul]; exact Nat.mul_le_mul_right _ hroom
    have hq := run_append_room (P := P) w t ty e i ht hi g n cap cur hgg a m c news (by rw [hl, hsize]) hnews h1 hroom hfit
    rw [hr] at hq
    injection hq with q1 q2
    subst q1 q2
    simp only [Value.ownBlock, Option.some.injEq] at hg'
    subst hg'
    refine allG_of_cells (setRow_heap w g cur _ e _ hgg) fun u hu => ?_
    have hu' : u ∈ cur.toList.take (n * i.size) ++ news ++ cur.toList.drop (n * i.size + news.length) := by simpa using hu
    rcases List.mem_append.1 hu' with k | k
    ·rcases List.mem_append.1 k with k | k
     ·exact hcf u (by simpa using List.mem_of_mem_take k)
     ·exact hni u k
    ·exact hcf u (by simpa using List.mem_of_mem_drop k)
   ·have holds : ∀ j u, xs[j]? = some u → w.cell? ((⟨g, 0, none⟩ : Addr).add j) = some u := hown.own.cells (g := g) rfl
    have hq := run_append_grow (P := P) w t ty e i z ht hi hz ⟨g, 0, none⟩ n cap xs (by rw [hown.own.1, hsize]) holds a m c news (by rw [hl, hsize]) hnews (by omega) (by simp only [maxLen] at h63; omega) (by rw [hby]; exact growslice_fits (by omega) hbytes)
    rw [hr] at hq
    injection hq with q1 q2
    subst q1 q2
    simp only [Value.ownBlock, Option.some.injEq] at hg'
    subst hg'
    refine allG_of_cells (heap_alloc_new _ _) fun u hu => ?_
    rcases Array.mem_append.1 hu with k | k
    ·rcases Array.mem_append.1 k with k | k
     ·refine hcf u ?_
      have : u ∈ cur.toList.take (n * size) := by rw [htake]; simpa using k
      simpa using List.mem_of_mem_take this
     ·exact hni u (by simpa using k)
    ·exact zc _ u k
 ·rcases hown.own.2 with ⟨rfl, rfl⟩ | ⟨g, cap, cur, rfl, hbg, hgg, hnc, hcm, hcs, htake⟩
  ·by_cases hm : m = 0
   ·have : v' = .slice none 0 0 := hv.2 ⟨rfl, hm⟩
    subst this
    exact .inl rfl
   ·have hq := run_append_nil (P := P) w t ty e i z ht hi hz a m c news (by rw [hl, hsize]) hnews (by omega) (by simp only [maxLen] at h63; omega) (by rw [hby]; have hb := hbytes; simp only [Nat.zero_add] at hb; omega)
    rw [hr] at hq
    injection hq with q1 q2
    subst q1 q2
    exact .inr rfl
  ·by_cases hroom : n + m ≤ cap
   ·have hfit : n * i.size + news.length ≤ cur.size := by rw [hl, hcs, hsize, ← Nat.add_mul]; exact Nat.mul_le_mul_right _ hroom
    have hq := run_append_room (P := P) w t ty e i ht hi g n cap cur hgg a m c news (by rw [hl, hsize]) hnews h1 hroom hfit
    rw [hr] at hq
    injection hq with q1 q2
    subst q1 q2
    exact .inl rfl
   ·have holds : ∀ j u, xs[j]? = some u → w.cell? ((⟨g, 0, none⟩ : Addr).add j) = some u := hown.own.cells (g := g) rfl
    have hq := run_append_grow (P := P) w t ty e i z ht hi hz ⟨g, 0, none⟩ n cap xs (by rw [hown.own.1, hsize]) holds a m c news (by rw [hl, hsize]) hnews (by omega) (by simp only [maxLen] at h63; omega) (by rw [hby]; exact growslice_fits (by omega) hbytes)
    rw [hr] at hq
    injection hq with q1 q2
    subst q1 q2
    exact .inr rfl
theorem wp_append_at {o : Oper} {a : Act} {K : Act → World → Prop} {Q : Exit → Act → World → Prop} (s x : Operand) (t : TypeId)
  (ho : o.op = .call { callee := .builtin .append, args := #[s, x], argTypes := #[t, t] })
  (base : Nat) (e : TypeId) (i : TypeInfo) (z : Value) (size bytes : Nat) (ht : P.underlying t = some (.slice e)) (hi : P.info? e = some i) (hz : i.zero = some z)
  (hsize : i.size = size) (hby : i.bytes = bytes) (hzs : z.cells.size = size) (hsz : 0 < size)
  (v : Value) (n : Nat) (xs : List Value) (hs : a.eval s = v) (hown : OwnG G w base e size v n xs)
  (ad : Addr) (m c : Nat) (news : List Value) (hx : a.eval x = .slice (some ad) m c) (hl : news.length = m * size) (hnews : ∀ j u, news[j]? = some u → w.cell? (ad.add j) = some u) (h1 : ∀ u ∈ news, u.oneCell' = true)
  (h63 : n + m ≤ maxLen) (hbytes : (n + m) * bytes ≤ 140737488355328) (hbase : base ≤ w.heap.size) (hni : ∀ u ∈ news, G u) (hnz : ∀ u ∈ z.cells, G u)
  (h : ∀ v' w', OwnG G w' base e size v' (n + m) (xs ++ news) → w.grownBy w' v.ownBlock → (v'.ownBlock = v.ownBlock ∨ v'.ownBlock = some w.heap.size) → K (a.put o.dst v') w') : o.wp P a w K Q := by
 obtain ⟨v', w', hr, h2, h3, h4⟩ := run_append_at (P := P) w base t o.type e i z size bytes ht hi hz hsize hby hzs hsz v n xs hown ad m c news hl hnews h1 h63 hbytes hbase hni hnz
 unfold Oper.wp execOp
 simp only [ho, resolve, invoke, builtin, Sem.run_bind, Sem.run_pure, Result.andThen_ok, List.map_toArray, List.map_cons, List.map_nil, hs, hx, hr]
 exact h v' w' h2 h3 h4
end
theorem step_append_at {P : Program} {G : Value → Prop} (w : World) {ops : Array Oper} {o : Oper} {a : Act} {K : Act → World → Prop} {Q : Exit → Act → World → Prop} {E : Prop} (hgd : o.guard = none) (s x : Operand) (t : TypeId)
  (ho : o.op = .call { callee := .builtin .append, args := #[s, x], argTypes := #[t, t] })
  (base : Nat) (e : TypeId) (i : TypeInfo) (z : Value) (size bytes : Nat) (ht : P.underlying t = some (.slice e)) (hi : P.info? e = some i) (hz : i.zero = some z)
  (hsize : i.size = size) (hby : i.bytes = bytes) (hzs : z.cells.size = size) (hsz : 0 < size)
  (v : Value) (n : Nat) (xs : List Value) (hs : a.eval s = v) (hown : OwnG G w base e size v n xs)
  (ad : Addr) (m c : Nat) (news : List Value) (hx : a.eval x = .slice (some ad) m c) (hl : news.length = m * size) (hnews : ∀ j u, news[j]? = some u → w.cell? (ad.add j) = some u) (h1 : ∀ u ∈ news, u.oneCell' = true)
  (h63 : n + m ≤ maxLen) (hbytes : (n + m) * bytes ≤ 140737488355328) (hbase : base ≤ w.heap.size) (hni : ∀ u ∈ news, G u) (hnz : ∀ u ∈ z.cells, G u)
  (h : ∀ v' w', OwnG G w' base e size v' (n + m) (xs ++ news) → w.grownBy w' v.ownBlock → (v'.ownBlock = v.ownBlock ∨ v'.ownBlock = some w.heap.size) → K (a.put o.dst v') w') :
  if Region.wanted o (yielded ops a.tmps) = true then Oper.wp P o a w K Q else E := by
 have hw : Region.wanted o (yielded ops a.tmps) = true := by simp [Region.wanted, hgd]
 rw [if_pos hw]
 exact wp_append_at w s x t ho base e i z size bytes ht hi hz hsize hby hzs hsz v n xs hs hown ad m c news hx hl hnews h1 h63 hbytes hbase hni hnz h
theorem OwnV.good {w : World} {base : Nat} {e : TypeId} {size : Nat} {v : Value} {n : Nat} {xs : List Value} (h : OwnV w base e size v n xs) : OwnG notInt w base e size v n xs :=
 ⟨h.own, fun g hg o _ e K x q => h.free g hg o K x (q ▸ e)⟩
theorem OwnG.noInts {w : World} {base : Nat} {e : TypeId} {size : Nat} {v : Value} {n : Nat} {xs : List Value} (h : OwnG notInt w base e size v n xs) : OwnV w base e size v n xs :=
 ⟨h.own, fun g hg o K x e => h.free g hg o _ e K x rfl⟩
theorem OwnV.side {w w' : World} {row : Option Nat} {base : Nat} {e : TypeId} {size : Nat} {v : Value} {n : Nat} {xs : List Value} (h : OwnV w base e size v n xs) (hg : w.grownBy w' row) (hne : ∀ g, v.ownBlock = some g → row ≠ some g) : OwnV w' base e size v n xs :=
 ⟨h.own.kept hg (by cases hv : v.ownBlock with
  | none => exact .inl rfl
  | some g => exact .inr (fun q => hne g hv q.symm)), fun g hv o K x q => by
  have hl := (h.own.lt g hv).2
  rw [World.cell?_of_block (w := w) (a := ⟨g, o, none⟩) (hg.block g hl (fun q2 => hne g hv q2.symm))] at q
  exact h.free g hv o K x q⟩
theorem BuildN.side {B : Nat} {w w' : World} {v : Value} {L : List Num} {k : Nat} {f : Nat → Rat} {row : Option Nat} (h : BuildN B w v L k f) (hg : w.grownBy w' row) (hne : ∀ g, v.ownBlock = some g → row ≠ some g) (hn : ∀ g, row = some g → NoInt w g) : BuildN B w' v L k f :=
 ⟨h.len, h.own.side hg hne, h.num.grown hg hn⟩
def Apart (v u : Value) : Prop := ∀ g, v.ownBlock = some g → u.ownBlock ≠ some g
theorem Apart.symm {v u : Value} (h : Apart v u) : Apart u v := fun g h1 h2 => h g h2 h1
theorem BuildN.lt {B : Nat} {w : World} {v : Value} {L : List Num} {k : Nat} {f : Nat → Rat} (h : BuildN B w v L k f) : ∀ g, v.ownBlock = some g → g < w.heap.size := fun g hg => (h.own.own.lt g hg).2
end Go.Proofs.YteionhenpehogaaGreatDoor
