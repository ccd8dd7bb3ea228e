import Derived.Test.YteionhenpehogaaGreatDoorParse
import Derived.Test.YteionhenpehogaaGreatDoorPlain
namespace Go.Proofs.YteionhenpehogaaGreatDoor
open Go.RowKit Tally
structure Stay (lo hi : Nat) (w w' : World) : Prop where
 os : w'.os = w.os
 tape : w'.tape = w.tape
 output : w'.output = w.output
 size : w.heap.size ≤ w'.heap.size
 block : ∀ k, k < w.heap.size → (k < lo ∨ hi ≤ k) → w'.heap[k]? = w.heap[k]?
section
variable {lo hi : Nat} {a w w' : World}
theorem Stay.refl (lo hi : Nat) (w : World) : Stay lo hi w w := ⟨rfl, rfl, rfl, Nat.le_refl _, fun _ _ _ => rfl⟩
theorem Stay.drew (h : Stay lo hi a w) : Stay lo hi a w.drew := ⟨h.os, h.tape, h.output, h.size, h.block⟩
theorem Stay.next (h : Stay lo hi a w) (hb : Below w.heap.size w w') : Stay lo hi a w' :=
 ⟨hb.os.trans h.os, hb.tape.trans h.tape, hb.output.trans h.output, Nat.le_trans h.size hb.size, fun k hk hg => (hb.block k (Nat.lt_of_lt_of_le hk h.size)).trans (h.block k hk hg)⟩
theorem Stay.setCell (h : Stay lo hi a w) {g : Nat} (h1 : lo ≤ g) (h2 : g < hi) (k : Nat) (u : Value) : Stay lo hi a (w.setCell ⟨g, k, none⟩ u) :=
 have b := Below.setCell (B := g) (Below.refl g w) (p := ⟨g, k, none⟩) (Nat.le_refl _) u
 ⟨b.os.trans h.os, b.tape.trans h.tape, b.output.trans h.output, Nat.le_trans h.size b.size, fun i hi hg => by rw [Below.heap_setCell _ _ _ _ (show i ≠ g by omega)]; exact h.block i hi hg⟩
theorem Stay.below (h : Stay lo hi w w') {B : Nat} (hB : B ≤ lo) (hs : B ≤ w.heap.size) : Below B w w' :=
 ⟨h.os, h.tape, h.output, h.size, fun k hk => h.block k (by omega) (by omega)⟩
theorem Stay.cell (h : Stay lo hi w w') {b o : Nat} {v : Value} (hb : b < lo ∨ hi ≤ b) (hc : w.cell? ⟨b, o, none⟩ = some v) : w'.cell? ⟨b, o, none⟩ = some v := by
 have hl := World.block_lt_of_cell? _ _ hc
 rw [World.cell?_of_block (w := w) (a := ⟨b, o, none⟩) (h.block b hl hb)]
 exact hc
end
def NoInt (w : World) (g : Nat) : Prop := ∀ o K x, w.cell? ⟨g, o, none⟩ ≠ some (.int K x)
theorem noInt2 {w : World} {g : Nat} {b : Bool} {p : Option Addr} {k c : Nat} {T : TypeId} (h : w.heap[g]? = some (.cells #[.bool b, .slice p k c] T (0, 0))) : NoInt w g := by
 intro o K x e
 rw [Lib.cell_of_heap h] at e
 match o, e with
 | 0, e => simp at e
 | 1, e => simp at e
 | j + 2, e => simp at e
theorem noInt4 {w : World} {g : Nat} {b b' : Bool} {p p' : Option Addr} {k c k' c' : Nat} {T : TypeId} (h : w.heap[g]? = some (.cells #[.bool b, .slice p k c, .bool b', .slice p' k' c'] T (0, 0))) : NoInt w g := by
 intro o K x e
 rw [Lib.cell_of_heap h] at e
 match o, e with
 | 0, e => simp at e
 | 1, e => simp at e
 | 2, e => simp at e
 | 3, e => simp at e
 | j + 4, e => simp at e
theorem IntR.stay {lo hi : Nat} {w w' : World} {v : Value} {z : Int} (h : IntR w v z) (hs : Stay lo hi w w') (hn : ∀ g, lo ≤ g → g < hi → NoInt w g) : IntR w' v z := by
 obtain ⟨neg, s, l, h1, ⟨a, b, o, c, h2, h3, h4, h5, h6⟩, h7⟩ := h
 refine ⟨neg, s, l, h1, ⟨a, b, o, c, h2, h3, h4, h5, fun i hil => ?_⟩, h7⟩
 have hc := h6 i hil
 refine hs.cell ?_ hc
 rcases Nat.lt_or_ge b lo with q | q
 ·exact .inl q
 ·rcases Nat.lt_or_ge b hi with r | r
  ·exact absurd hc (hn b q r _ _ _)
  ·exact .inr r
theorem noInt_one {w : World} {g : Nat} (h : NoInt w g) : ∀ k, g ≤ k → k < g + 1 → NoInt w k := fun k h1 h2 => by
 obtain rfl : k = g := by omega
 exact h
theorem noInt_two {w : World} {g : Nat} (h : NoInt w g) (h' : NoInt w (g + 1)) : ∀ k, g ≤ k → k < g + 1 + 1 → NoInt w k := fun k h1 h2 => by
 by_cases e : k = g
 ·subst e; exact h
 ·obtain rfl : k = g + 1 := by omega
  exact h'
theorem res4_facts {w : World} {r : Nat} {x y z u : Value} {T : TypeId} (h : w.heap[r]? = some (.cells #[x, y, z, u] T (0, 0))) :
  (w.cell? ⟨r, 0, none⟩ = some x ∧ w.cell? ⟨r, 1, none⟩ = some y ∧ w.cell? ⟨r, 2, none⟩ = some z ∧ w.cell? ⟨r, 3, none⟩ = some u) ∧ w.frozen? ⟨r, 0, none⟩ = false ∧ w.frozen? ⟨r, 1, none⟩ = false ∧ w.frozen? ⟨r, 2, none⟩ = false ∧ w.frozen? ⟨r, 3, none⟩ = false :=
 ⟨⟨by rw [Lib.cell_of_heap h]; rfl, by rw [Lib.cell_of_heap h]; rfl, by rw [Lib.cell_of_heap h]; rfl, by rw [Lib.cell_of_heap h]; rfl⟩, Lib.frozen_of_heap h 0, Lib.frozen_of_heap h 1, Lib.frozen_of_heap h 2, Lib.frozen_of_heap h 3⟩
theorem res4_set {w : World} {r : Nat} {x y z u x' y' z' u' : Value} {T : TypeId} (h : w.heap[r]? = some (.cells #[x, y, z, u] T (0, 0))) :
  ((((w.setCell ⟨r, 0, none⟩ x').setCell ⟨r, 1, none⟩ y').setCell ⟨r, 2, none⟩ z').setCell ⟨r, 3, none⟩ u').heap[r]? = some (.cells #[x', y', z', u'] T (0, 0)) :=
 Joins.block_setCell (Joins.block_setCell (Joins.block_setCell (Joins.block_setCell h x') y') z') u'
theorem stay_set2 {lo hi r : Nat} {a w : World} {x y : Value} (h : Stay lo hi a w) (h1 : lo ≤ r) (h2 : r < hi) : Stay lo hi a ((w.setCell ⟨r, 0, none⟩ x).setCell ⟨r, 1, none⟩ y) := (h.setCell h1 h2 0 x).setCell h1 h2 1 y
theorem stay_set4 {lo hi r : Nat} {a w : World} {x y z u : Value} (h : Stay lo hi a w) (h1 : lo ≤ r) (h2 : r < hi) :
  Stay lo hi a ((((w.setCell ⟨r, 0, none⟩ x).setCell ⟨r, 1, none⟩ y).setCell ⟨r, 2, none⟩ z).setCell ⟨r, 3, none⟩ u) := (((h.setCell h1 h2 0 x).setCell h1 h2 1 y).setCell h1 h2 2 z).setCell h1 h2 3 u
theorem set2_stay {r : Nat} {w : World} {x y : Value} : Stay r (r + 1) w ((w.setCell ⟨r, 0, none⟩ x).setCell ⟨r, 1, none⟩ y) := stay_set2 (Stay.refl _ _ _) (Nat.le_refl _) (Nat.lt_succ_self _)
theorem set4_stay {r : Nat} {w : World} {x y z u : Value} : Stay r (r + 1) w ((((w.setCell ⟨r, 0, none⟩ x).setCell ⟨r, 1, none⟩ y).setCell ⟨r, 2, none⟩ z).setCell ⟨r, 3, none⟩ u) := stay_set4 (Stay.refl _ _ _) (Nat.le_refl _) (Nat.lt_succ_self _)
theorem fin4 {w W : World} {r : Nat} {x y z u : Value} (h : Below w.heap.size w W) (hr : w.heap.size ≤ r) : Below w.heap.size w ((((W.setCell ⟨r, 0, none⟩ x).setCell ⟨r, 1, none⟩ y).setCell ⟨r, 2, none⟩ z).setCell ⟨r, 3, none⟩ u) := h.trans (set4_stay.below hr h.size)
theorem allocs_below1 (w : World) (a : Obj) : Below w.heap.size w (w.alloc a) := (Below.refl _ _).alloc (Nat.le_refl _) _
theorem allocs_below2 (w : World) (a b : Obj) : Below w.heap.size w ((w.alloc a).alloc b) := ((Below.refl _ _).alloc (Nat.le_refl _) _).alloc (by simp) _
theorem IntR.as {w : World} {v : Value} {x y : Int} (h : IntR w v x) (e : x = y) : IntR w v y := e ▸ h
def RatR (w : World) (v : Value) (q : Rat) : Prop :=
 ∃ (n1 : Bool) (a1 : Option Addr) (k1 c1 : Nat) (n2 : Bool) (a2 : Option Addr) (k2 c2 : Nat) (d : Int), v = .agg #[.bool n1, .slice a1 k1 c1, .bool n2, .slice a2 k2 c2] ∧
  IntR w (.agg #[.bool n1, .slice a1 k1 c1]) q.num ∧ IntR w (.agg #[.bool n2, .slice a2 k2 c2]) d ∧ (d = q.den ∨ d = 0 ∧ q = 0)
theorem RatR.below {w w' : World} {v : Value} {q : Rat} (h : RatR w v q) (hb : Below w.heap.size w w') : RatR w' v q := by
 obtain ⟨n1, a1, k1, c1, n2, a2, k2, c2, d, e, h1, h2, h3⟩ := h
 exact ⟨n1, a1, k1, c1, n2, a2, k2, c2, d, e, h1.below hb, h2.below hb, h3⟩
def GivesP (w : World) (q : Rat) (e : Ending) (w' : World) : Prop :=
 ∃ (n1 : Bool) (a1 : Option Addr) (k1 c1 : Nat) (n2 : Bool) (a2 : Option Addr) (k2 c2 : Nat), e = .returned (.agg #[.bool n1, .slice a1 k1 c1, .bool n2, .slice a2 k2 c2]) ∧
  IntR w' (.agg #[.bool n1, .slice a1 k1 c1]) q.num ∧ IntR w' (.agg #[.bool n2, .slice a2 k2 c2]) (q.den : Int) ∧ Below w.heap.size w w'
def GivesR (w : World) (q : Rat) (e : Ending) (w' : World) : Prop :=
 ∃ (n1 : Bool) (a1 : Option Addr) (k1 c1 : Nat) (n2 : Bool) (a2 : Option Addr) (k2 c2 : Nat), e = .returned (.agg #[.bool n1, .slice a1 k1 c1, .bool n2, .slice a2 k2 c2]) ∧
  RatR w' (.agg #[.bool n1, .slice a1 k1 c1, .bool n2, .slice a2 k2 c2]) q ∧ Below w.heap.size w w'
theorem GivesP.plain {w w' : World} {q : Rat} {e : Ending} (h : GivesP w q e w') : GivesR w q e w' := by
 obtain ⟨n1, a1, k1, c1, n2, a2, k2, c2, he, h1, h2, h3⟩ := h
 exact ⟨n1, a1, k1, c1, n2, a2, k2, c2, he, ⟨n1, a1, k1, c1, n2, a2, k2, c2, _, rfl, h1, h2, .inl rfl⟩, h3⟩
def Rg (N : Nat) (q : Rat) : Prop := Dg N q.num ∧ Dg N (q.den : Int)
theorem Rg.mono {N M : Nat} {q : Rat} (h : Rg N q) (hm : N ≤ M) : Rg M q := ⟨h.1.mono hm, h.2.mono hm⟩
theorem RatR.stay {lo hi : Nat} {w w' : World} {v : Value} {q : Rat} (h : RatR w v q) (hs : Stay lo hi w w') (hn : ∀ g, lo ≤ g → g < hi → NoInt w g) : RatR w' v q := by
 obtain ⟨n1, a1, k1, c1, n2, a2, k2, c2, d, e, h1, h2, h3⟩ := h
 exact ⟨n1, a1, k1, c1, n2, a2, k2, c2, d, e, h1.stay hs hn, h2.stay hs hn, h3⟩
theorem RatR.shape {w : World} {v : Value} {q : Rat} (h : RatR w v q) : ∃ (n1 : Bool) (a1 : Option Addr) (k1 c1 : Nat) (n2 : Bool) (a2 : Option Addr) (k2 c2 : Nat), v = .agg #[.bool n1, .slice a1 k1 c1, .bool n2, .slice a2 k2 c2] := by
 obtain ⟨n1, a1, k1, c1, n2, a2, k2, c2, d, e, _⟩ := h
 exact ⟨n1, a1, k1, c1, n2, a2, k2, c2, e⟩
theorem RatR.as {w : World} {v : Value} {p q : Rat} (h : RatR w v p) (e : p = q) : RatR w v q := e ▸ h
theorem RatR.two {w : World} {n1 : Bool} {a1 : Option Addr} {k1 c1 : Nat} {n2 : Bool} {a2 : Option Addr} {k2 c2 : Nat} {q : Rat} (h : RatR w (.agg #[.bool n1, .slice a1 k1 c1, .bool n2, .slice a2 k2 c2]) q) :
  ∃ d : Int, IntR w (.agg #[.bool n1, .slice a1 k1 c1]) q.num ∧ IntR w (.agg #[.bool n2, .slice a2 k2 c2]) d ∧ (d = q.den ∨ d = 0 ∧ q = 0) := by
 obtain ⟨_, _, _, _, _, _, _, _, d, e, h1, h2, h3⟩ := h
 cases e
 exact ⟨d, h1, h2, h3⟩
theorem RatR.mk {w : World} {n1 : Bool} {a1 : Option Addr} {k1 c1 : Nat} {n2 : Bool} {a2 : Option Addr} {k2 c2 : Nat} {q : Rat} {d : Int} (h1 : IntR w (.agg #[.bool n1, .slice a1 k1 c1]) q.num) (h2 : IntR w (.agg #[.bool n2, .slice a2 k2 c2]) d) (h3 : d = q.den ∨ d = 0 ∧ q = 0) :
  RatR w (.agg #[.bool n1, .slice a1 k1 c1, .bool n2, .slice a2 k2 c2]) q := ⟨n1, a1, k1, c1, n2, a2, k2, c2, d, rfl, h1, h2, h3⟩
theorem ratR_zero (w : World) : RatR w (.agg #[.bool false, .slice none 0 0, .bool false, .slice none 0 0]) 0 := RatR.mk (intR_zero w) (intR_zero w) (.inr ⟨rfl, rfl⟩)
theorem results_cell2 {P : Program} {fn : Func} {p q : Tmp} {ty ty2 : TypeId} (h : fn.results = #[.cell p ty, .cell q ty2]) (tmps : Array Value) (w : World) (g g2 : Nat) (t t2 : TypeId) (cs cs2 : Array Value) (fr fr2 : Nat × Nat) (d d2 : TypeDesc)
  (hp : tmps.getD p undef = .pointer (some ⟨g, 0, none⟩)) (hq : tmps.getD q undef = .pointer (some ⟨g2, 0, none⟩)) (hg : w.heap[g]? = some (.cells cs t fr)) (hg2 : w.heap[g2]? = some (.cells cs2 t2 fr2))
  (hu : P.underlying ty = some d) (hd : (match d with | .struct _ | .array _ _ => true | _ => false) = true) (hi : (P.info? ty).map (·.size) = some cs.size)
  (hu2 : P.underlying ty2 = some d2) (hd2 : (match d2 with | .struct _ | .array _ _ => true | _ => false) = true) (hi2 : (P.info? ty2).map (·.size) = some cs2.size) :
  (results fn tmps).run P w = .ok (.tuple #[.agg cs, .agg cs2]) w := by
 have hp' : tmps[p]?.getD undef = .pointer (some ⟨g, 0, none⟩) := by simpa using hp
 have hq' : tmps[q]?.getD undef = .pointer (some ⟨g2, 0, none⟩) := by simpa using hq
 simp [results, h, hp', hq', asAddr, run_loadVar_row w g t ty cs fr d hg hu hd hi, run_loadVar_row w g2 t2 ty2 cs2 fr2 d2 hg2 hu2 hd2 hi2]
def GivesZZ (w : World) (z y : Int) (e : Ending) (w' : World) : Prop :=
 ∃ (n : Bool) (a : Option Addr) (k cp : Nat) (n2 : Bool) (a2 : Option Addr) (k2 cp2 : Nat), e = .returned (.tuple #[.agg #[.bool n, .slice a k cp], .agg #[.bool n2, .slice a2 k2 cp2]]) ∧
  IntR w' (.agg #[.bool n, .slice a k cp]) z ∧ IntR w' (.agg #[.bool n2, .slice a2 k2 cp2]) y ∧ Below w.heap.size w w'
def GivesPE (w : World) (q : Rat) (c : Int) (e : Ending) (w' : World) : Prop :=
 ∃ (n1 : Bool) (a1 : Option Addr) (k1 c1 : Nat) (n2 : Bool) (a2 : Option Addr) (k2 c2 : Nat), e = .returned (.tuple #[.agg #[.bool n1, .slice a1 k1 c1, .bool n2, .slice a2 k2 c2], .int .i64 c]) ∧
  IntR w' (.agg #[.bool n1, .slice a1 k1 c1]) q.num ∧ IntR w' (.agg #[.bool n2, .slice a2 k2 c2]) (q.den : Int) ∧ Below w.heap.size w w'
def GivesRE (w : World) (q : Rat) (c : Int) (e : Ending) (w' : World) : Prop :=
 ∃ (n1 : Bool) (a1 : Option Addr) (k1 c1 : Nat) (n2 : Bool) (a2 : Option Addr) (k2 c2 : Nat), e = .returned (.tuple #[.agg #[.bool n1, .slice a1 k1 c1, .bool n2, .slice a2 k2 c2], .int .i64 c]) ∧
  RatR w' (.agg #[.bool n1, .slice a1 k1 c1, .bool n2, .slice a2 k2 c2]) q ∧ Below w.heap.size w w'
theorem GivesPE.plain {w w' : World} {q : Rat} {c : Int} {e : Ending} (h : GivesPE w q c e w') : GivesRE w q c e w' := by
 obtain ⟨n1, a1, k1, c1, n2, a2, k2, c2, he, h1, h2, h3⟩ := h
 exact ⟨n1, a1, k1, c1, n2, a2, k2, c2, he, RatR.mk h1 h2 (.inl rfl), h3⟩
end Go.Proofs.YteionhenpehogaaGreatDoor
