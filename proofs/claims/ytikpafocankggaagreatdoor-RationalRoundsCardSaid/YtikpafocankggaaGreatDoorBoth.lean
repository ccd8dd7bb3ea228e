/- The law package's both. -/
import Derived.Test.YtikpafocankggaaGreatDoorAwake
import Derived.BigRegion
namespace Go.Proofs.YtikpafocankggaaGreatDoor
open Go.RowKit Tally Go.Lib
theorem blk_set1 {w : World} {r q i : Nat} {x : Value} (h : r ≠ q) : (w.setCell ⟨q, i, none⟩ x).heap[r]? = w.heap[r]? := by
 have h' : ¬ q = r := fun e => h e.symm
 simp [World.setCell, Array.getElem?_modify, h']
theorem blk_set_other {w : World} {r q : Nat} {x y : Value} (h : r ≠ q) : ((w.setCell ⟨q, 0, none⟩ x).setCell ⟨q, 1, none⟩ y).heap[r]? = w.heap[r]? := by
 rw [blk_set1 h, blk_set1 h]
theorem setCell_same {w : World} {r i : Nat} {cs : Array Value} {T : TypeId} {v : Value} (h : w.heap[r]? = some (.cells cs T (0, 0))) (hi : cs[i]? = some v) : w.setCell ⟨r, i, none⟩ v = w := by
 obtain ⟨hlt, he⟩ := Array.getElem?_eq_some_iff.1 h
 obtain ⟨hi1, _⟩ := Array.getElem?_eq_some_iff.1 hi
 have e := Joins.block_setCell (i := i) h v
 have : (w.setCell ⟨r, i, none⟩ v).heap = w.heap := by
  apply Array.ext_getElem?
  intro q
  by_cases hq : q = r
  ·subst hq
   rw [e, h]
   congr 2
   apply Array.ext_getElem?
   intro j
   rw [Array.getElem?_setIfInBounds]
   by_cases hj : i = j
   ·subst hj; rw [if_pos rfl, if_pos hi1, hi]
   ·rw [if_neg hj]
  ·exact blk_set1 hq
 have h2 : w.setCell ⟨r, i, none⟩ v = { w with heap := (w.setCell ⟨r, i, none⟩ v).heap } := rfl
 rw [h2, this]
structure Cells4 (B : Nat) (w : World) (x0 x1 y0 y1 a0 a1 b0 b1 : Value) : Prop where
 c0 : w.heap[B]? = some (.cells #[x0, x1] 25 (0, 0))
 c1 : w.heap[B + 1]? = some (.cells #[y0, y1] 25 (0, 0))
 c2 : w.heap[B + 1 + 1]? = some (.cells #[a0, a1] 30 (0, 0))
 c3 : w.heap[B + 1 + 1 + 1]? = some (.cells #[b0, b1] 30 (0, 0))
section
variable {B : Nat} {w w' : World} {x0 x1 y0 y1 a0 a1 b0 b1 p q : Value}
theorem Cells4.next (h : Cells4 B w x0 x1 y0 y1 a0 a1 b0 b1) (hb : Below w.heap.size w w') : Cells4 B w' x0 x1 y0 y1 a0 a1 b0 b1 := ⟨blk_next h.c0 hb, blk_next h.c1 hb, blk_next h.c2 hb, blk_next h.c3 hb⟩
theorem Cells4.set0 (h : Cells4 B w x0 x1 y0 y1 a0 a1 b0 b1) : Cells4 B ((w.setCell ⟨B, 0, none⟩ p).setCell ⟨B, 1, none⟩ q) p q y0 y1 a0 a1 b0 b1 := ⟨res_set h.c0, (blk_set_other (by omega)).trans h.c1, (blk_set_other (by omega)).trans h.c2, (blk_set_other (by omega)).trans h.c3⟩
theorem Cells4.set1 (h : Cells4 B w x0 x1 y0 y1 a0 a1 b0 b1) : Cells4 B ((w.setCell ⟨B + 1, 0, none⟩ p).setCell ⟨B + 1, 1, none⟩ q) x0 x1 p q a0 a1 b0 b1 := ⟨(blk_set_other (by omega)).trans h.c0, res_set h.c1, (blk_set_other (by omega)).trans h.c2, (blk_set_other (by omega)).trans h.c3⟩
theorem Cells4.set2 (h : Cells4 B w x0 x1 y0 y1 a0 a1 b0 b1) : Cells4 B ((w.setCell ⟨B + 1 + 1, 0, none⟩ p).setCell ⟨B + 1 + 1, 1, none⟩ q) x0 x1 y0 y1 p q b0 b1 := ⟨(blk_set_other (by omega)).trans h.c0, (blk_set_other (by omega)).trans h.c1, res_set h.c2, (blk_set_other (by omega)).trans h.c3⟩
theorem Cells4.set3 (h : Cells4 B w x0 x1 y0 y1 a0 a1 b0 b1) : Cells4 B ((w.setCell ⟨B + 1 + 1 + 1, 0, none⟩ p).setCell ⟨B + 1 + 1 + 1, 1, none⟩ q) x0 x1 y0 y1 a0 a1 p q := ⟨(blk_set_other (by omega)).trans h.c0, (blk_set_other (by omega)).trans h.c1, (blk_set_other (by omega)).trans h.c2, res_set h.c3⟩
theorem Cells4.cells (h : Cells4 B w x0 x1 y0 y1 a0 a1 b0 b1) : w.cell? ⟨B, 0, none⟩ = some x0 ∧ w.cell? ⟨B, 1, none⟩ = some x1 ∧ w.cell? ⟨B + 1, 0, none⟩ = some y0 ∧ w.cell? ⟨B + 1, 1, none⟩ = some y1 ∧ w.cell? ⟨B + 1 + 1, 0, none⟩ = some a0 ∧ w.cell? ⟨B + 1 + 1, 1, none⟩ = some a1 ∧ w.cell? ⟨B + 1 + 1 + 1, 0, none⟩ = some b0 ∧ w.cell? ⟨B + 1 + 1 + 1, 1, none⟩ = some b1 := by
 obtain ⟨q0, q1, _, _⟩ := res_facts h.c0
 obtain ⟨q2, q3, _, _⟩ := res_facts h.c1
 obtain ⟨q4, q5, _, _⟩ := res_facts h.c2
 obtain ⟨q6, q7, _, _⟩ := res_facts h.c3
 exact ⟨q0, q1, q2, q3, q4, q5, q6, q7⟩
theorem Cells4.frozen (h : Cells4 B w x0 x1 y0 y1 a0 a1 b0 b1) : w.frozen? ⟨B, 0, none⟩ = false ∧ w.frozen? ⟨B, 1, none⟩ = false ∧ w.frozen? ⟨B + 1, 0, none⟩ = false ∧ w.frozen? ⟨B + 1, 1, none⟩ = false ∧ w.frozen? ⟨B + 1 + 1, 0, none⟩ = false ∧ w.frozen? ⟨B + 1 + 1, 1, none⟩ = false ∧ w.frozen? ⟨B + 1 + 1 + 1, 0, none⟩ = false ∧ w.frozen? ⟨B + 1 + 1 + 1, 1, none⟩ = false := by
 obtain ⟨_, _, q0, q1⟩ := res_facts h.c0
 obtain ⟨_, _, q2, q3⟩ := res_facts h.c1
 obtain ⟨_, _, q4, q5⟩ := res_facts h.c2
 obtain ⟨_, _, q6, q7⟩ := res_facts h.c3
 exact ⟨q0, q1, q2, q3, q4, q5, q6, q7⟩
theorem Cells4.same (h : Cells4 B w x0 x1 y0 y1 a0 a1 b0 b1) : w.setCell ⟨B, 0, none⟩ x0 = w ∧ w.setCell ⟨B, 1, none⟩ x1 = w ∧ w.setCell ⟨B + 1, 0, none⟩ y0 = w ∧ w.setCell ⟨B + 1, 1, none⟩ y1 = w ∧ w.setCell ⟨B + 1 + 1, 0, none⟩ a0 = w ∧ w.setCell ⟨B + 1 + 1, 1, none⟩ a1 = w ∧ w.setCell ⟨B + 1 + 1 + 1, 0, none⟩ b0 = w ∧ w.setCell ⟨B + 1 + 1 + 1, 1, none⟩ b1 = w :=
 ⟨setCell_same h.c0 rfl, setCell_same h.c0 rfl, setCell_same h.c1 rfl, setCell_same h.c1 rfl, setCell_same h.c2 rfl, setCell_same h.c2 rfl, setCell_same h.c3 rfl, setCell_same h.c3 rfl⟩
theorem Cells4.drew (h : Cells4 B w x0 x1 y0 y1 a0 a1 b0 b1) : Cells4 B w.drew x0 x1 y0 y1 a0 a1 b0 b1 := ⟨h.c0, h.c1, h.c2, h.c3⟩
end
theorem cells4_made (w : World) : Cells4 w.heap.size ((((w.alloc (.cells #[.bool false, .slice none 0 0] 25)).alloc (.cells #[.bool false, .slice none 0 0] 25)).alloc (.cells #[.bool false, .slice none 0 0] 30)).alloc (.cells #[.bool false, .slice none 0 0] 30)) (.bool false) (.slice none 0 0) (.bool false) (.slice none 0 0) (.bool false) (.slice none 0 0) (.bool false) (.slice none 0 0) ∧
  Below w.heap.size w ((((w.alloc (.cells #[.bool false, .slice none 0 0] 25)).alloc (.cells #[.bool false, .slice none 0 0] 25)).alloc (.cells #[.bool false, .slice none 0 0] 30)).alloc (.cells #[.bool false, .slice none 0 0] 30)) := by
 refine ⟨⟨?_, ?_, ?_, ?_⟩, ((((Below.refl _ _).alloc (Nat.le_refl _) _).alloc (by simp) _).alloc (by simp; try omega) _).alloc (by simp; try omega) _⟩
 ·rw [Lib.alloc_old _ _ _ (by simp; try omega), Lib.alloc_old _ _ _ (by simp; try omega), Lib.alloc_old _ _ _ (by simp)]; exact heap_alloc_new _ _
 ·rw [Lib.alloc_old _ _ _ (by simp; try omega), Lib.alloc_old _ _ _ (by simp)]; simpa using heap_alloc_new (w.alloc (.cells #[.bool false, .slice none 0 0] 25)) (.cells #[.bool false, .slice none 0 0] 25)
 ·rw [Lib.alloc_old _ _ _ (by simp)]; simpa using heap_alloc_new ((w.alloc (.cells #[.bool false, .slice none 0 0] 25)).alloc (.cells #[.bool false, .slice none 0 0] 25)) (.cells #[.bool false, .slice none 0 0] 30)
 ·simpa using heap_alloc_new (((w.alloc (.cells #[.bool false, .slice none 0 0] 25)).alloc (.cells #[.bool false, .slice none 0 0] 25)).alloc (.cells #[.bool false, .slice none 0 0] 30)) (.cells #[.bool false, .slice none 0 0] 30)
theorem RefR.set2b {w : World} {v : Value} {z : Int} {r : Nat} {b : Bool} {p : Option Addr} {k c : Nat} {x y : Value} {T : TypeId} (h : RefR w v z)
  (hr : w.heap[r]? = some (.cells #[.bool b, .slice p k c] T (0, 0))) : RefR ((w.setCell ⟨r, 0, none⟩ x).setCell ⟨r, 1, none⟩ y) v z := h.set2 hr
def GivesBoth (w : World) (s t : ByteArray) (e : Ending) (w' : World) : Prop :=
 ∃ (n1 : Bool) (a1 : Option Addr) (k1 c1 : Nat) (n2 : Bool) (a2 : Option Addr) (k2 c2 : Nat) (n3 : Bool) (a3 : Option Addr) (k3 c3 : Nat) (n4 : Bool) (a4 : Option Addr) (k4 c4 : Nat) (ok : Bool),
  e = .returned (.tuple #[.agg #[.bool n1, .slice a1 k1 c1], .agg #[.bool n2, .slice a2 k2 c2], .agg #[.bool n3, .slice a3 k3 c3], .agg #[.bool n4, .slice a4 k4 c4], .bool ok]) ∧
  (ok = true → s.size ≤ 600 ∧ t.size ≤ 600 ∧ pcode s.data.toList = 0 ∧ pcode t.data.toList = 0 ∧ IntR w' (.agg #[.bool n1, .slice a1 k1 c1]) (pval s.data.toList) ∧ IntR w' (.agg #[.bool n2, .slice a2 k2 c2]) (pval t.data.toList) ∧ RefR w' (.agg #[.bool n3, .slice a3 k3 c3]) (pval s.data.toList) ∧ RefR w' (.agg #[.bool n4, .slice a4 k4 c4]) (pval t.data.toList)) ∧ Below w.heap.size w w'
theorem results_both {P : Program} {fn : Func} {p1 p2 p3 p4 q : Tmp} {t1 t2 : TypeId} (h : fn.results = #[.cell p1 t1, .cell p2 t1, .cell p3 t2, .cell p4 t2, .tmp q]) (tmps : Array Value) (w : World) (B : Nat) (d1 d2 : TypeDesc) (x0 x1 y0 y1 a0 a1 b0 b1 v : Value)
  (h1 : tmps.getD p1 undef = .pointer (some ⟨B, 0, none⟩)) (h2 : tmps.getD p2 undef = .pointer (some ⟨B + 1, 0, none⟩)) (h3 : tmps.getD p3 undef = .pointer (some ⟨B + 1 + 1, 0, none⟩)) (h4 : tmps.getD p4 undef = .pointer (some ⟨B + 1 + 1 + 1, 0, none⟩)) (hq : tmps.getD q undef = v) (hc : Cells4 B w x0 x1 y0 y1 a0 a1 b0 b1)
  (hu1 : P.underlying t1 = some d1) (hd1 : (match d1 with | .struct _ | .array _ _ => true | _ => false) = true) (hi1 : (P.info? t1).map (·.size) = some 2)
  (hu2 : P.underlying t2 = some d2) (hd2 : (match d2 with | .struct _ | .array _ _ => true | _ => false) = true) (hi2 : (P.info? t2).map (·.size) = some 2) :
  (results fn tmps).run P w = .ok (.tuple #[.agg #[x0, x1], .agg #[y0, y1], .agg #[a0, a1], .agg #[b0, b1], v]) w := by
 have g1 : tmps[p1]?.getD undef = .pointer (some ⟨B, 0, none⟩) := by simpa using h1
 have g2 : tmps[p2]?.getD undef = .pointer (some ⟨B + 1, 0, none⟩) := by simpa using h2
 have g3 : tmps[p3]?.getD undef = .pointer (some ⟨B + 1 + 1, 0, none⟩) := by simpa using h3
 have g4 : tmps[p4]?.getD undef = .pointer (some ⟨B + 1 + 1 + 1, 0, none⟩) := by simpa using h4
 have gq : tmps[q]?.getD undef = v := by simpa using hq
 simp [results, h, g1, g2, g3, g4, gq, asAddr, run_loadVar_row w _ _ t1 _ _ d1 hc.c0 hu1 hd1 hi1, run_loadVar_row w _ _ t1 _ _ d1 hc.c1 hu1 hd1 hi1, run_loadVar_row w _ _ t2 _ _ d2 hc.c2 hu2 hd2 hi2, run_loadVar_row w _ _ t2 _ _ d2 hc.c3 hu2 hd2 hi2]
end Go.Proofs.YtikpafocankggaaGreatDoor
