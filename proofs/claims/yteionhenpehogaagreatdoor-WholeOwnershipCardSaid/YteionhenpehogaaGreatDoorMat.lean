import Derived.Test.YteionhenpehogaaGreatDoorRat
namespace Go.Proofs.YteionhenpehogaaGreatDoor
open Go.RowKit Tally
def notInt (u : Value) : Prop := ∀ K x, u ≠ .int K x
theorem noInt_of_cells {w : World} {g : Nat} {cs : Array Value} {T : TypeId} {fr : Nat × Nat} (h : w.heap[g]? = some (.cells cs T fr)) (hc : ∀ u ∈ cs, notInt u) : NoInt w g := by
 intro o K x e
 rw [cell_of_row w g o cs T fr h] at e
 exact hc _ (Array.mem_of_getElem? e) K x rfl
theorem cells_of_noInt {w : World} {g : Nat} {cs : Array Value} {T : TypeId} {fr : Nat × Nat} (h : w.heap[g]? = some (.cells cs T fr)) (hn : NoInt w g) : ∀ u ∈ cs, notInt u := by
 intro u hu K x e
 obtain ⟨o, ho⟩ := Array.mem_iff_getElem?.1 hu
 exact hn o K x (by rw [cell_of_row w g o cs T fr h, ho, e])
structure OwnV (w : World) (base : Nat) (e : TypeId) (size : Nat) (v : Value) (n : Nat) (xs : List Value) : Prop where
 own : w.ownsRow base e size v n xs
 free : ∀ g, v.ownBlock = some g → NoInt w g
theorem OwnV.nil (w : World) (base : Nat) (e : TypeId) (size : Nat) : OwnV w base e size (.slice none 0 0) 0 [] := ⟨World.ownsRow_nil _ _ _ _, fun g h => by simp [Value.ownBlock] at h⟩
section
variable {P : Program} (w : World)
theorem run_append_free (base : Nat) (t ty e : TypeId) (i : TypeInfo) (z : Value) (size bytes : Nat) (ht : P.underlying t = some (.slice e)) (hi : P.info? e = some i) (hz : i.zero = some z)
  (hsize : i.size = size) (hby : i.bytes = bytes) (hzs : z.cells.size = size) (hsz : 0 < size)
  (v : Value) (n : Nat) (xs : List Value) (hown : OwnV w base e size v n xs)
  (a : Addr) (m c : Nat) (news : List Value) (hl : news.length = m * size) (hnews : ∀ j u, news[j]? = some u → w.cell? (a.add j) = some u) (h1 : ∀ u ∈ news, u.oneCell' = true)
  (h63 : n + m ≤ maxLen) (hbytes : (n + m) * bytes ≤ 140737488355328) (hbase : base ≤ w.heap.size) (hni : ∀ u ∈ news, notInt u) (hnz : ∀ u ∈ z.cells, notInt u) :
  ∃ v' w', (Builtin.append_ #[t, t] ty #[v, .slice (some a) m c]).run P w = .ok v' w' ∧ OwnV w' base e size v' (n + m) (xs ++ news) ∧ w.grownBy w' v.ownBlock ∧
   (v' = .slice none 0 0 ↔ v = .slice none 0 0 ∧ m = 0) := by
 obtain ⟨v', w', hr, ho, hg, hv⟩ := run_append_own w base t ty e i z size bytes ht hi hz hsize hby hzs hsz v n xs hown.own a m c news hl hnews h1 h63 hbytes hbase
 refine ⟨v', w', hr, ⟨ho, ?_⟩, hg, hv⟩
 intro g' hg'
 have zc : ∀ k u, u ∈ Builtin.zeroCells z.cells k → notInt u := by
  intro k u hu
  unfold Builtin.zeroCells at hu
  obtain ⟨j, hj, rfl⟩ := Array.mem_map.1 hu
  have hlt : j % z.cells.size < z.cells.size := Nat.mod_lt _ (by omega)
  rw [getElem!_pos z.cells (j % z.cells.size) hlt]
  exact hnz _ (Array.getElem_mem hlt)
 rcases hown.own.2 with ⟨rfl, rfl⟩ | ⟨g, cap, cur, rfl, hbg, hgg, hnc, hcm, hcs, htake⟩
 ·by_cases hm : m = 0
  ·have : v' = .slice none 0 0 := hv.2 ⟨rfl, hm⟩
   subst this
   simp [Value.ownBlock] at hg'
  ·have hq := run_append_nil (P := P) w t ty e i z ht hi hz a m c news (by rw [hl, hsize]) hnews (by omega) (by simp only [maxLen] at h63; omega) (by rw [hby]; have hb := hbytes; simp only [Nat.zero_add] at hb; omega)
   rw [hr] at hq
   injection hq with q1 q2
   subst q1 q2
   simp only [Value.ownBlock, Option.some.injEq] at hg'
   subst hg'
   refine noInt_of_cells (heap_alloc_new _ _) fun u hu => ?_
   rcases Array.mem_append.1 hu with k | k
   ·exact hni u (by simpa using k)
   ·exact zc _ u k
 ·have hcf := cells_of_noInt hgg (hown.free g rfl)
  by_cases hroom : n + m ≤ cap
  ·have hfit : n * i.size + news.length ≤ cur.size := by rw [hl, hcs, hsize, ← Nat.add_mul]; exact Nat.mul_le_mul_right _ hroom
   have hq := run_append_room (P := P) w t ty e i ht hi g n cap cur hgg a m c news (by rw [hl, hsize]) hnews h1 hroom hfit
   rw [hr] at hq
   injection hq with q1 q2
   subst q1 q2
   simp only [Value.ownBlock, Option.some.injEq] at hg'
   subst hg'
   refine noInt_of_cells (setRow_heap w g cur _ e _ hgg) fun u hu => ?_
   have hu' : u ∈ cur.toList.take (n * i.size) ++ news ++ cur.toList.drop (n * i.size + news.length) := by simpa using hu
   rcases List.mem_append.1 hu' with k | k
   ·rcases List.mem_append.1 k with k | k
    ·exact hcf u (by simpa using List.mem_of_mem_take k)
    ·exact hni u k
   ·exact hcf u (by simpa using List.mem_of_mem_drop k)
  ·have holds : ∀ j u, xs[j]? = some u → w.cell? ((⟨g, 0, none⟩ : Addr).add j) = some u := hown.own.cells (g := g) rfl
   have hq := run_append_grow (P := P) w t ty e i z ht hi hz ⟨g, 0, none⟩ n cap xs (by rw [hown.own.1, hsize]) holds a m c news (by rw [hl, hsize]) hnews (by omega) (by simp only [maxLen] at h63; omega) (by rw [hby]; exact growslice_fits (by omega) hbytes)
   rw [hr] at hq
   injection hq with q1 q2
   subst q1 q2
   simp only [Value.ownBlock, Option.some.injEq] at hg'
   subst hg'
   refine noInt_of_cells (heap_alloc_new _ _) fun u hu => ?_
   rcases Array.mem_append.1 hu with k | k
   ·rcases Array.mem_append.1 k with k | k
    ·refine hcf u ?_
     have : u ∈ cur.toList.take (n * size) := by rw [htake]; simpa using k
     simpa using List.mem_of_mem_take this
    ·exact hni u (by simpa using k)
   ·exact zc _ u k
theorem wp_append_free {o : Oper} {a : Act} {K : Act → World → Prop} {Q : Exit → Act → World → Prop} (s x : Operand) (t : TypeId)
  (ho : o.op = .call { callee := .builtin .append, args := #[s, x], argTypes := #[t, t] })
  (base : Nat) (e : TypeId) (i : TypeInfo) (z : Value) (size bytes : Nat) (ht : P.underlying t = some (.slice e)) (hi : P.info? e = some i) (hz : i.zero = some z)
  (hsize : i.size = size) (hby : i.bytes = bytes) (hzs : z.cells.size = size) (hsz : 0 < size)
  (v : Value) (n : Nat) (xs : List Value) (hs : a.eval s = v) (hown : OwnV w base e size v n xs)
  (ad : Addr) (m c : Nat) (news : List Value) (hx : a.eval x = .slice (some ad) m c) (hl : news.length = m * size) (hnews : ∀ j u, news[j]? = some u → w.cell? (ad.add j) = some u) (h1 : ∀ u ∈ news, u.oneCell' = true)
  (h63 : n + m ≤ maxLen) (hbytes : (n + m) * bytes ≤ 140737488355328) (hbase : base ≤ w.heap.size) (hni : ∀ u ∈ news, notInt u) (hnz : ∀ u ∈ z.cells, notInt u)
  (h : ∀ v' w', OwnV w' base e size v' (n + m) (xs ++ news) → w.grownBy w' v.ownBlock → (v' = .slice none 0 0 ↔ v = .slice none 0 0 ∧ m = 0) → K (a.put o.dst v') w') : o.wp P a w K Q := by
 obtain ⟨v', w', hr, h2, h3, h4⟩ := run_append_free (P := P) w base t o.type e i z size bytes ht hi hz hsize hby hzs hsz v n xs hown ad m c news hl hnews h1 h63 hbytes hbase hni hnz
 unfold Oper.wp execOp
 simp only [ho, resolve, invoke, builtin, Sem.run_bind, Sem.run_pure, Result.andThen_ok, List.map_toArray, List.map_cons, List.map_nil, hs, hx, hr]
 exact h v' w' h2 h3 h4
theorem wpList_append_free {ops : Array Oper} {rest : List Oper} {o : Oper} {a : Act} {Q : Exit → Act → World → Prop} (hgd : o.guard = none) (s x : Operand) (t : TypeId)
  (ho : o.op = .call { callee := .builtin .append, args := #[s, x], argTypes := #[t, t] })
  (base : Nat) (e : TypeId) (i : TypeInfo) (z : Value) (size bytes : Nat) (ht : P.underlying t = some (.slice e)) (hi : P.info? e = some i) (hz : i.zero = some z)
  (hsize : i.size = size) (hby : i.bytes = bytes) (hzs : z.cells.size = size) (hsz : 0 < size)
  (v : Value) (n : Nat) (xs : List Value) (hs : a.eval s = v) (hown : OwnV w base e size v n xs)
  (ad : Addr) (m c : Nat) (news : List Value) (hx : a.eval x = .slice (some ad) m c) (hl : news.length = m * size) (hnews : ∀ j u, news[j]? = some u → w.cell? (ad.add j) = some u) (h1 : ∀ u ∈ news, u.oneCell' = true)
  (h63 : n + m ≤ maxLen) (hbytes : (n + m) * bytes ≤ 140737488355328) (hbase : base ≤ w.heap.size) (hni : ∀ u ∈ news, notInt u) (hnz : ∀ u ∈ z.cells, notInt u)
  (h : ∀ v' w', OwnV w' base e size v' (n + m) (xs ++ news) → w.grownBy w' v.ownBlock → (v' = .slice none 0 0 ↔ v = .slice none 0 0 ∧ m = 0) → wpList P ops Q rest (a.put o.dst v') w') : wpList P ops Q (o :: rest) a w :=
 wpList_plain hgd fun _ hK => wp_append_free w s x t ho base e i z size bytes ht hi hz hsize hby hzs hsz v n xs hs hown ad m c news hx hl hnews h1 h63 hbytes hbase hni hnz fun v' w' h2 h3 h4 => hK _ _ (h v' w' h2 h3 h4)
end
theorem IntR.grown {w w' : World} {row : Option Nat} {v : Value} {z : Int} (h : IntR w v z) (hg : w.grownBy w' row) (hn : ∀ g, row = some g → NoInt w g) : IntR w' v z := by
 obtain ⟨neg, s, l, h1, ⟨a, b, o, c, h2, h3, h4, h5, h6⟩, h7⟩ := h
 exact ⟨neg, s, l, h1, ⟨a, b, o, c, h2, h3, h4, h5, fun i hil => hg.cell (h6 i hil) (fun e => hn b e.symm _ _ _ (h6 i hil))⟩, h7⟩
theorem RatR.grown {w w' : World} {row : Option Nat} {v : Value} {q : Rat} (h : RatR w v q) (hg : w.grownBy w' row) (hn : ∀ g, row = some g → NoInt w g) : RatR w' v q := by
 obtain ⟨n1, a1, k1, c1, n2, a2, k2, c2, d, e, h1, h2, h3⟩ := h
 exact ⟨n1, a1, k1, c1, n2, a2, k2, c2, d, e, h1.grown hg hn, h2.grown hg hn, h3⟩
structure Num where
 n1 : Bool
 a1 : Option Addr
 k1 : Nat
 c1 : Nat
 n2 : Bool
 a2 : Option Addr
 k2 : Nat
 c2 : Nat
def Num.val (x : Num) : Value := .agg #[.bool x.n1, .slice x.a1 x.k1 x.c1, .bool x.n2, .slice x.a2 x.k2 x.c2]
def RatN (w : World) (x : Num) (q : Rat) : Prop := RatR w x.val q
def flat : List Num → List Value
 | [] => []
 | x :: l => .bool x.n1 :: .slice x.a1 x.k1 x.c1 :: .bool x.n2 :: .slice x.a2 x.k2 x.c2 :: flat l
theorem flat_length : ∀ L : List Num, (flat L).length = L.length * 4
 | [] => rfl
 | x :: l => by simp [flat, flat_length l]; omega
theorem flat_append : ∀ L M : List Num, flat (L ++ M) = flat L ++ flat M
 | [], _ => rfl
 | x :: l, M => by simp [flat, flat_append l M]
theorem flat_get : ∀ {L : List Num} {k : Nat} {x : Num}, L[k]? = some x → (flat L)[k * 4]? = some (.bool x.n1) ∧ (flat L)[k * 4 + 1]? = some (.slice x.a1 x.k1 x.c1) ∧ (flat L)[k * 4 + 2]? = some (.bool x.n2) ∧ (flat L)[k * 4 + 3]? = some (.slice x.a2 x.k2 x.c2)
 | [], k, x, h => by simp at h
 | y :: l, 0, x, h => by
  have h' : y = x := by simpa using h
  subst h'; exact ⟨rfl, rfl, rfl, rfl⟩
 | y :: l, k + 1, x, h => by
  have h' : l[k]? = some x := by simpa using h
  obtain ⟨q0, q1, q2, q3⟩ := flat_get h'
  have e : ∀ j, (k + 1) * 4 + j = k * 4 + j + 1 + 1 + 1 + 1 := fun j => by omega
  refine ⟨?_, ?_, ?_, ?_⟩
  ·have := e 0; simp only [Nat.add_zero] at this; rw [this]; simpa [flat] using q0
  ·rw [e 1]; simpa [flat] using q1
  ·rw [e 2]; simpa [flat] using q2
  ·rw [e 3]; simpa [flat] using q3
theorem flat_one : ∀ {L : List Num}, ∀ u ∈ flat L, u.oneCell' = true ∧ notInt u
 | [], u, h => by simp [flat] at h
 | x :: l, u, h => by
  simp only [flat, List.mem_cons] at h
  rcases h with rfl | rfl | rfl | rfl | h
  ·exact ⟨rfl, fun _ _ e => by cases e⟩
  ·exact ⟨rfl, fun _ _ e => by cases e⟩
  ·exact ⟨rfl, fun _ _ e => by cases e⟩
  ·exact ⟨rfl, fun _ _ e => by cases e⟩
  ·exact flat_one u h
theorem flat_set : ∀ {L : List Num} {k : Nat} {y : Num}, k < L.length → (((((flat L).set (k * 4) (.bool y.n1)).set (k * 4 + 1) (.slice y.a1 y.k1 y.c1)).set (k * 4 + 2) (.bool y.n2)).set (k * 4 + 3) (.slice y.a2 y.k2 y.c2)) = flat (L.set k y)
 | [], k, y, h => by simp at h
 | x :: l, 0, y, h => by simp [flat]
 | x :: l, k + 1, y, h => by
  have ih := flat_set (L := l) (k := k) (y := y) (by simpa using h)
  have e : ∀ j, (k + 1) * 4 + j = k * 4 + j + 1 + 1 + 1 + 1 := fun j => by omega
  have e0 : (k + 1) * 4 = k * 4 + 1 + 1 + 1 + 1 := by omega
  rw [e 1, e 2, e 3, e0]
  simp only [flat, List.set_cons_succ]
  rw [ih]
def Four (w : World) (b o : Nat) (x : Num) : Prop :=
 w.cell? ⟨b, o, none⟩ = some (.bool x.n1) ∧ w.cell? ⟨b, o + 1, none⟩ = some (.slice x.a1 x.k1 x.c1) ∧ w.cell? ⟨b, o + 2, none⟩ = some (.bool x.n2) ∧ w.cell? ⟨b, o + 3, none⟩ = some (.slice x.a2 x.k2 x.c2)
theorem Four.below {w w' : World} {b o : Nat} {x : Num} (h : Four w b o x) (hb : Below w.heap.size w w') : Four w' b o x := ⟨keepc hb h.1, keepc hb h.2.1, keepc hb h.2.2.1, keepc hb h.2.2.2⟩
def SliN (w : World) (v : Value) (L : List Num) : Prop :=
 ∃ (a : Option Addr) (b o c : Nat), v = .slice a L.length c ∧ L.length ≤ c ∧ c ≤ 9223372036854775807 ∧ (0 < L.length → a = some ⟨b, o, none⟩) ∧ ∀ k x, L[k]? = some x → Four w b (o + k * 4) x
theorem SliN.below {w w' : World} {v : Value} {L : List Num} (h : SliN w v L) (hb : Below w.heap.size w w') : SliN w' v L := by
 obtain ⟨a, b, o, c, h1, h2, h3, h4, h5⟩ := h
 exact ⟨a, b, o, c, h1, h2, h3, h4, fun k x hk => (h5 k x hk).below hb⟩
theorem SliN.of_own {w : World} {base : Nat} {v : Value} {L : List Num} (h : w.ownsRow base 37 4 v L.length (flat L)) : SliN w v L := by
 rcases h.2 with ⟨rfl, h0⟩ | ⟨g, cap, cur, rfl, hb, hg, h1, h2, h3, h4⟩
 ·exact ⟨none, 0, 0, 0, by rw [h0], by omega, by decide, fun q => by omega, fun k x hk => by
   have := (List.getElem?_eq_some_iff.1 hk).1; omega⟩
 ·refine ⟨_, g, 0, cap, rfl, h1, by simpa [maxLen] using h2, fun _ => rfl, fun k x hk => ?_⟩
  have hc : ∀ j u, (flat L)[j]? = some u → w.cell? ⟨g, j, none⟩ = some u := fun j u hu => by
   have := h.cells (g := g) rfl j u hu
   have hadd : (⟨g, 0, none⟩ : Addr).add j = ⟨g, j, none⟩ := by unfold Addr.add; split <;> simp_all
   rw [hadd] at this; exact this
  obtain ⟨q0, q1, q2, q3⟩ := flat_get hk
  simp only [Nat.zero_add]
  exact ⟨hc _ _ q0, hc _ _ q1, hc _ _ q2, hc _ _ q3⟩
def NumsR (w : World) (L : List Num) (f : Nat → Rat) : Prop := ∀ k x, L[k]? = some x → RatN w x (f k)
theorem NumsR.below {w w' : World} {L : List Num} {f : Nat → Rat} (h : NumsR w L f) (hb : Below w.heap.size w w') : NumsR w' L f := fun k x hk => RatR.below (h k x hk) hb
theorem NumsR.grown {w w' : World} {row : Option Nat} {L : List Num} {f : Nat → Rat} (h : NumsR w L f) (hg : w.grownBy w' row) (hn : ∀ g, row = some g → NoInt w g) : NumsR w' L f := fun k x hk => RatR.grown (h k x hk) hg hn
theorem NumsR.stay {lo hi : Nat} {w w' : World} {L : List Num} {f : Nat → Rat} (h : NumsR w L f) (hs : Stay lo hi w w') (hn : ∀ g, lo ≤ g → g < hi → NoInt w g) : NumsR w' L f := fun k x hk => RatR.stay (h k x hk) hs hn
theorem NumsR.snoc {w : World} {L : List Num} {f : Nat → Rat} {x : Num} (h : NumsR w L f) (hx : RatN w x (f L.length)) : NumsR w (L ++ [x]) f := by
 intro k y hk
 by_cases e : k < L.length
 ·rw [List.getElem?_append_left e] at hk; exact h k y hk
 ·rw [List.getElem?_append_right (by omega)] at hk
  have : k - L.length < 1 := by have := (List.getElem?_eq_some_iff.1 hk).1; simpa using this
  have ek : k = L.length := by omega
  subst ek
  simp at hk
  subst hk; exact hx
theorem NumsR.congr {w : World} {L : List Num} {f g : Nat → Rat} (h : NumsR w L f) (e : ∀ k, k < L.length → f k = g k) : NumsR w L g := fun k x hk => by
 rw [← e k (List.getElem?_eq_some_iff.1 hk).1]; exact h k x hk
def RatsR (w : World) (v : Value) (n : Nat) (f : Nat → Rat) : Prop := ∃ L, L.length = n ∧ SliN w v L ∧ NumsR w L f
theorem RatsR.below {w w' : World} {v : Value} {n : Nat} {f : Nat → Rat} (h : RatsR w v n f) (hb : Below w.heap.size w w') : RatsR w' v n f := by
 obtain ⟨L, h1, h2, h3⟩ := h; exact ⟨L, h1, h2.below hb, h3.below hb⟩
theorem RatsR.congr {w : World} {v : Value} {n : Nat} {f g : Nat → Rat} (h : RatsR w v n f) (e : ∀ k, k < n → f k = g k) : RatsR w v n g := by
 obtain ⟨L, h1, h2, h3⟩ := h; exact ⟨L, h1, h2, h3.congr (fun k hk => e k (by omega))⟩
theorem RatsR.shape {w : World} {v : Value} {n : Nat} {f : Nat → Rat} (h : RatsR w v n f) : ∃ a c, v = .slice a n c := by
 obtain ⟨L, rfl, ⟨a, b, o, c, rfl, _⟩, _⟩ := h; exact ⟨a, c, rfl⟩
theorem RatsR.parts {w : World} {a : Option Addr} {n c : Nat} {f : Nat → Rat} (h : RatsR w (.slice a n c) n f) :
  n ≤ c ∧ c ≤ 9223372036854775807 ∧ ∃ b o, (0 < n → a = some ⟨b, o, none⟩) ∧ ∀ k, k < n → ∃ x, Four w b (o + k * 4) x ∧ RatN w x (f k) := by
 obtain ⟨L, rfl, ⟨a', b, o, c', hv, h2, h3, h4, h5⟩, h6⟩ := h
 cases hv
 refine ⟨h2, h3, b, o, h4, fun k hk => ?_⟩
 have hx : L[k]? = some L[k] := List.getElem?_eq_getElem hk
 exact ⟨L[k], h5 k _ hx, h6 k _ hx⟩
def SliM (w : World) (v : Value) (V : List Value) : Prop :=
 ∃ (a : Option Addr) (b o c : Nat), v = .slice a V.length c ∧ V.length ≤ c ∧ c ≤ 9223372036854775807 ∧ (0 < V.length → a = some ⟨b, o, none⟩) ∧ ∀ k u, V[k]? = some u → w.cell? ⟨b, o + k, none⟩ = some u
def MatsR (w : World) (v : Value) (m : Nat) (L : Nat → Nat) (A : Nat → Nat → Rat) : Prop := ∃ V : List Value, V.length = m ∧ SliM w v V ∧ ∀ i u, V[i]? = some u → RatsR w u (L i) (A i)
theorem MatsR.below {w w' : World} {v : Value} {m : Nat} {L : Nat → Nat} {A : Nat → Nat → Rat} (h : MatsR w v m L A) (hb : Below w.heap.size w w') : MatsR w' v m L A := by
 obtain ⟨V, h1, ⟨a, b, o, c, q1, q2, q3, q4, q5⟩, h3⟩ := h
 exact ⟨V, h1, ⟨a, b, o, c, q1, q2, q3, q4, fun k u hk => keepc hb (q5 k u hk)⟩, fun i u hu => (h3 i u hu).below hb⟩
theorem MatsR.shape {w : World} {v : Value} {m : Nat} {L : Nat → Nat} {A : Nat → Nat → Rat} (h : MatsR w v m L A) : ∃ a c, v = .slice a m c := by
 obtain ⟨V, rfl, ⟨a, b, o, c, rfl, _⟩, _⟩ := h; exact ⟨a, c, rfl⟩
theorem MatsR.parts {w : World} {a : Option Addr} {m c : Nat} {L : Nat → Nat} {A : Nat → Nat → Rat} (h : MatsR w (.slice a m c) m L A) :
  m ≤ c ∧ c ≤ 9223372036854775807 ∧ ∃ b o, (0 < m → a = some ⟨b, o, none⟩) ∧ ∀ i, i < m → ∃ a' c', w.cell? ⟨b, o + i, none⟩ = some (.slice a' (L i) c') ∧ RatsR w (.slice a' (L i) c') (L i) (A i) := by
 obtain ⟨V, rfl, ⟨a', b, o, c', hv, h2, h3, h4, h5⟩, h6⟩ := h
 cases hv
 refine ⟨h2, h3, b, o, h4, fun i hi => ?_⟩
 have hx : V[i]? = some V[i] := List.getElem?_eq_getElem hi
 have hr := h6 i _ hx
 obtain ⟨a2, c2, e⟩ := hr.shape
 rw [e] at hx hr
 exact ⟨a2, c2, h5 i _ hx, hr⟩
theorem MatsR.congr {w : World} {v : Value} {m : Nat} {L M : Nat → Nat} {A B : Nat → Nat → Rat} (h : MatsR w v m L A) (e : ∀ i, i < m → L i = M i) (e2 : ∀ i, i < m → ∀ k, k < L i → A i k = B i k) : MatsR w v m M B := by
 obtain ⟨V, h1, h2, h3⟩ := h
 refine ⟨V, h1, h2, fun i u hu => ?_⟩
 have hi : i < m := by rw [← h1]; exact (List.getElem?_eq_some_iff.1 hu).1
 rw [← e i hi]
 exact (h3 i u hu).congr (e2 i hi)
end Go.Proofs.YteionhenpehogaaGreatDoor
