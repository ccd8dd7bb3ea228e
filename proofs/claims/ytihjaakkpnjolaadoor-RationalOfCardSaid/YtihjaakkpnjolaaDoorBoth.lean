/- The law package's both. -/
import Derived.Test.YtihjaakkpnjolaaDoorAwake
import Derived.BigRegion
namespace Go.Proofs.YtihjaakkpnjolaaDoor
open Go.RowKit Tally Go.Lib

theorem blk_set1 {w : World} {r q i : Nat} {x : Value} (h : r ≠ q) : (w.setCell ⟨q, i, none⟩ x).heap[r]? = w.heap[r]? := by
  have h' : ¬ q = r := fun e => h e.symm
  simp [World.setCell, Array.getElem?_modify, h']

theorem blk_set_other {w : World} {r q : Nat} {x y : Value} (h : r ≠ q) : ((w.setCell ⟨q, 0, none⟩ x).setCell ⟨q, 1, none⟩ y).heap[r]? = w.heap[r]? := by
  rw [blk_set1 h, blk_set1 h]

theorem setCell_same {w : World} {r i : Nat} {cs : Array Value} {T : TypeId} {v : Value} (h : w.heap[r]? = some (.cells cs T (0, 0))) (hi : cs[i]? = some v) : w.setCell ⟨r, i, none⟩ v = w := by
  obtain ⟨hlt, he⟩ := Array.getElem?_eq_some_iff.1 h
  obtain ⟨hi1, _⟩ := Array.getElem?_eq_some_iff.1 hi
  have e := Joins.block_setCell (i := i) h v
  have : (w.setCell ⟨r, i, none⟩ v).heap = w.heap := by
    apply Array.ext_getElem?
    intro q
    by_cases hq : q = r
    · subst hq
      rw [e, h]
      congr 2
      apply Array.ext_getElem?
      intro j
      rw [Array.getElem?_setIfInBounds]
      by_cases hj : i = j
      · subst hj; rw [if_pos rfl, if_pos hi1, hi]
      · rw [if_neg hj]
    · exact blk_set1 hq
  have h2 : w.setCell ⟨r, i, none⟩ v = { w with heap := (w.setCell ⟨r, i, none⟩ v).heap } := rfl
  rw [h2, this]

/-- four results of two cells each -/
structure Cells4 (B : Nat) (w : World) (x0 x1 y0 y1 a0 a1 b0 b1 : Value) : Prop where
  c0 : w.heap[B]? = some (.cells #[x0, x1] 25 (0, 0))
  c1 : w.heap[B + 1]? = some (.cells #[y0, y1] 25 (0, 0))
  c2 : w.heap[B + 1 + 1]? = some (.cells #[a0, a1] 28 (0, 0))
  c3 : w.heap[B + 1 + 1 + 1]? = some (.cells #[b0, b1] 28 (0, 0))

section
variable {B : Nat} {w w' : World} {x0 x1 y0 y1 a0 a1 b0 b1 p q : Value}
theorem Cells4.next (h : Cells4 B w x0 x1 y0 y1 a0 a1 b0 b1) (hb : Below w.heap.size w w') : Cells4 B w' x0 x1 y0 y1 a0 a1 b0 b1 := ⟨blk_next h.c0 hb, blk_next h.c1 hb, blk_next h.c2 hb, blk_next h.c3 hb⟩
theorem Cells4.set0 (h : Cells4 B w x0 x1 y0 y1 a0 a1 b0 b1) : Cells4 B ((w.setCell ⟨B, 0, none⟩ p).setCell ⟨B, 1, none⟩ q) p q y0 y1 a0 a1 b0 b1 := ⟨res_set h.c0, (blk_set_other (by omega)).trans h.c1, (blk_set_other (by omega)).trans h.c2, (blk_set_other (by omega)).trans h.c3⟩
theorem Cells4.set1 (h : Cells4 B w x0 x1 y0 y1 a0 a1 b0 b1) : Cells4 B ((w.setCell ⟨B + 1, 0, none⟩ p).setCell ⟨B + 1, 1, none⟩ q) x0 x1 p q a0 a1 b0 b1 := ⟨(blk_set_other (by omega)).trans h.c0, res_set h.c1, (blk_set_other (by omega)).trans h.c2, (blk_set_other (by omega)).trans h.c3⟩
theorem Cells4.set2 (h : Cells4 B w x0 x1 y0 y1 a0 a1 b0 b1) : Cells4 B ((w.setCell ⟨B + 1 + 1, 0, none⟩ p).setCell ⟨B + 1 + 1, 1, none⟩ q) x0 x1 y0 y1 p q b0 b1 := ⟨(blk_set_other (by omega)).trans h.c0, (blk_set_other (by omega)).trans h.c1, res_set h.c2, (blk_set_other (by omega)).trans h.c3⟩
theorem Cells4.set3 (h : Cells4 B w x0 x1 y0 y1 a0 a1 b0 b1) : Cells4 B ((w.setCell ⟨B + 1 + 1 + 1, 0, none⟩ p).setCell ⟨B + 1 + 1 + 1, 1, none⟩ q) x0 x1 y0 y1 a0 a1 p q := ⟨(blk_set_other (by omega)).trans h.c0, (blk_set_other (by omega)).trans h.c1, (blk_set_other (by omega)).trans h.c2, res_set h.c3⟩
theorem Cells4.cells (h : Cells4 B w x0 x1 y0 y1 a0 a1 b0 b1) : w.cell? ⟨B, 0, none⟩ = some x0 ∧ w.cell? ⟨B, 1, none⟩ = some x1 ∧ w.cell? ⟨B + 1, 0, none⟩ = some y0 ∧ w.cell? ⟨B + 1, 1, none⟩ = some y1 ∧ w.cell? ⟨B + 1 + 1, 0, none⟩ = some a0 ∧ w.cell? ⟨B + 1 + 1, 1, none⟩ = some a1 ∧ w.cell? ⟨B + 1 + 1 + 1, 0, none⟩ = some b0 ∧ w.cell? ⟨B + 1 + 1 + 1, 1, none⟩ = some b1 := by
  obtain ⟨q0, q1, _, _⟩ := res_facts h.c0
  obtain ⟨q2, q3, _, _⟩ := res_facts h.c1
  obtain ⟨q4, q5, _, _⟩ := res_facts h.c2
  obtain ⟨q6, q7, _, _⟩ := res_facts h.c3
  exact ⟨q0, q1, q2, q3, q4, q5, q6, q7⟩
theorem Cells4.frozen (h : Cells4 B w x0 x1 y0 y1 a0 a1 b0 b1) : w.frozen? ⟨B, 0, none⟩ = false ∧ w.frozen? ⟨B, 1, none⟩ = false ∧ w.frozen? ⟨B + 1, 0, none⟩ = false ∧ w.frozen? ⟨B + 1, 1, none⟩ = false ∧ w.frozen? ⟨B + 1 + 1, 0, none⟩ = false ∧ w.frozen? ⟨B + 1 + 1, 1, none⟩ = false ∧ w.frozen? ⟨B + 1 + 1 + 1, 0, none⟩ = false ∧ w.frozen? ⟨B + 1 + 1 + 1, 1, none⟩ = false := by
  obtain ⟨_, _, q0, q1⟩ := res_facts h.c0
  obtain ⟨_, _, q2, q3⟩ := res_facts h.c1
  obtain ⟨_, _, q4, q5⟩ := res_facts h.c2
  obtain ⟨_, _, q6, q7⟩ := res_facts h.c3
  exact ⟨q0, q1, q2, q3, q4, q5, q6, q7⟩
theorem Cells4.same (h : Cells4 B w x0 x1 y0 y1 a0 a1 b0 b1) : w.setCell ⟨B, 0, none⟩ x0 = w ∧ w.setCell ⟨B, 1, none⟩ x1 = w ∧ w.setCell ⟨B + 1, 0, none⟩ y0 = w ∧ w.setCell ⟨B + 1, 1, none⟩ y1 = w ∧ w.setCell ⟨B + 1 + 1, 0, none⟩ a0 = w ∧ w.setCell ⟨B + 1 + 1, 1, none⟩ a1 = w ∧ w.setCell ⟨B + 1 + 1 + 1, 0, none⟩ b0 = w ∧ w.setCell ⟨B + 1 + 1 + 1, 1, none⟩ b1 = w :=
  ⟨setCell_same h.c0 rfl, setCell_same h.c0 rfl, setCell_same h.c1 rfl, setCell_same h.c1 rfl, setCell_same h.c2 rfl, setCell_same h.c2 rfl, setCell_same h.c3 rfl, setCell_same h.c3 rfl⟩
theorem Cells4.drew (h : Cells4 B w x0 x1 y0 y1 a0 a1 b0 b1) : Cells4 B w.drew x0 x1 y0 y1 a0 a1 b0 b1 := ⟨h.c0, h.c1, h.c2, h.c3⟩
end

theorem cells4_made (w : World) : Cells4 w.heap.size ((((w.alloc (.cells #[.bool false, .slice none 0 0] 25)).alloc (.cells #[.bool false, .slice none 0 0] 25)).alloc (.cells #[.bool false, .slice none 0 0] 28)).alloc (.cells #[.bool false, .slice none 0 0] 28)) (.bool false) (.slice none 0 0) (.bool false) (.slice none 0 0) (.bool false) (.slice none 0 0) (.bool false) (.slice none 0 0) ∧
    Below w.heap.size w ((((w.alloc (.cells #[.bool false, .slice none 0 0] 25)).alloc (.cells #[.bool false, .slice none 0 0] 25)).alloc (.cells #[.bool false, .slice none 0 0] 28)).alloc (.cells #[.bool false, .slice none 0 0] 28)) := by
  refine ⟨⟨?_, ?_, ?_, ?_⟩, ((((Below.refl _ _).alloc (Nat.le_refl _) _).alloc (by simp) _).alloc (by simp; try omega) _).alloc (by simp; try omega) _⟩
  · rw [Lib.alloc_old _ _ _ (by simp; try omega), Lib.alloc_old _ _ _ (by simp; try omega), Lib.alloc_old _ _ _ (by simp)]; exact heap_alloc_new _ _
  · rw [Lib.alloc_old _ _ _ (by simp; try omega), Lib.alloc_old _ _ _ (by simp)]; simpa using heap_alloc_new (w.alloc (.cells #[.bool false, .slice none 0 0] 25)) (.cells #[.bool false, .slice none 0 0] 25)
  · rw [Lib.alloc_old _ _ _ (by simp)]; simpa using heap_alloc_new ((w.alloc (.cells #[.bool false, .slice none 0 0] 25)).alloc (.cells #[.bool false, .slice none 0 0] 25)) (.cells #[.bool false, .slice none 0 0] 28)
  · simpa using heap_alloc_new (((w.alloc (.cells #[.bool false, .slice none 0 0] 25)).alloc (.cells #[.bool false, .slice none 0 0] 25)).alloc (.cells #[.bool false, .slice none 0 0] 28)) (.cells #[.bool false, .slice none 0 0] 28)

theorem RefR.set2b {w : World} {v : Value} {z : Int} {r : Nat} {b : Bool} {p : Option Addr} {k c : Nat} {x y : Value} {T : TypeId} (h : RefR w v z)
    (hr : w.heap[r]? = some (.cells #[.bool b, .slice p k c] T (0, 0))) : RefR ((w.setCell ⟨r, 0, none⟩ x).setCell ⟨r, 1, none⟩ y) v z := h.set2 hr

/-- what both leaves -/
def GivesBoth (w : World) (s t : ByteArray) (e : Ending) (w' : World) : Prop :=
  ∃ (n1 : Bool) (a1 : Option Addr) (k1 c1 : Nat) (n2 : Bool) (a2 : Option Addr) (k2 c2 : Nat) (n3 : Bool) (a3 : Option Addr) (k3 c3 : Nat) (n4 : Bool) (a4 : Option Addr) (k4 c4 : Nat) (ok : Bool),
    e = .returned (.tuple #[.agg #[.bool n1, .slice a1 k1 c1], .agg #[.bool n2, .slice a2 k2 c2], .agg #[.bool n3, .slice a3 k3 c3], .agg #[.bool n4, .slice a4 k4 c4], .bool ok]) ∧
    (ok = true → s.size ≤ 600 ∧ t.size ≤ 600 ∧ pcode s.data.toList = 0 ∧ pcode t.data.toList = 0 ∧ IntR w' (.agg #[.bool n1, .slice a1 k1 c1]) (pval s.data.toList) ∧ IntR w' (.agg #[.bool n2, .slice a2 k2 c2]) (pval t.data.toList) ∧ RefR w' (.agg #[.bool n3, .slice a3 k3 c3]) (pval s.data.toList) ∧ RefR w' (.agg #[.bool n4, .slice a4 k4 c4]) (pval t.data.toList)) ∧ Below w.heap.size w w'

theorem results_both {P : Program} {fn : Func} {p1 p2 p3 p4 q : Tmp} {t1 t2 : TypeId} (h : fn.results = #[.cell p1 t1, .cell p2 t1, .cell p3 t2, .cell p4 t2, .tmp q]) (tmps : Array Value) (w : World) (B : Nat) (d1 d2 : TypeDesc) (x0 x1 y0 y1 a0 a1 b0 b1 v : Value)
    (h1 : tmps.getD p1 undef = .pointer (some ⟨B, 0, none⟩)) (h2 : tmps.getD p2 undef = .pointer (some ⟨B + 1, 0, none⟩)) (h3 : tmps.getD p3 undef = .pointer (some ⟨B + 1 + 1, 0, none⟩)) (h4 : tmps.getD p4 undef = .pointer (some ⟨B + 1 + 1 + 1, 0, none⟩)) (hq : tmps.getD q undef = v) (hc : Cells4 B w x0 x1 y0 y1 a0 a1 b0 b1)
    (hu1 : P.underlying t1 = some d1) (hd1 : (match d1 with | .struct _ | .array _ _ => true | _ => false) = true) (hi1 : (P.info? t1).map (·.size) = some 2)
    (hu2 : P.underlying t2 = some d2) (hd2 : (match d2 with | .struct _ | .array _ _ => true | _ => false) = true) (hi2 : (P.info? t2).map (·.size) = some 2) :
    (results fn tmps).run P w = .ok (.tuple #[.agg #[x0, x1], .agg #[y0, y1], .agg #[a0, a1], .agg #[b0, b1], v]) w := by
  have g1 : tmps[p1]?.getD undef = .pointer (some ⟨B, 0, none⟩) := by simpa using h1
  have g2 : tmps[p2]?.getD undef = .pointer (some ⟨B + 1, 0, none⟩) := by simpa using h2
  have g3 : tmps[p3]?.getD undef = .pointer (some ⟨B + 1 + 1, 0, none⟩) := by simpa using h3
  have g4 : tmps[p4]?.getD undef = .pointer (some ⟨B + 1 + 1 + 1, 0, none⟩) := by simpa using h4
  have gq : tmps[q]?.getD undef = v := by simpa using hq
  simp [results, h, g1, g2, g3, g4, gq, asAddr, run_loadVar_row w _ _ t1 _ _ d1 hc.c0 hu1 hd1 hi1, run_loadVar_row w _ _ t1 _ _ d1 hc.c1 hu1 hd1 hi1, run_loadVar_row w _ _ t2 _ _ d2 hc.c2 hu2 hd2 hi2, run_loadVar_row w _ _ t2 _ _ d2 hc.c3 hu2 hd2 hi2]


set_option maxHeartbeats 4000000 in
set_option maxRecDepth 100000 in
theorem both_any {w : World} (s t : ByteArray) (hs : s.size ≤ 9223372036854775807) (ht : t.size ≤ 9223372036854775807) :
    Calls Tryd.prog 17 #[.string s, .string t] w (GivesBoth w s t) := by
  have BF := Lib.hid (cells4_made w)
  by_cases hbig : s.size ≤ 600 ∧ t.size ≤ 600
  · obtain ⟨hs6, ht6⟩ := hbig
    have hs6z : ¬ (600 : Int) < (s.size : Int) := by omega
    have ht6z : ¬ (600 : Int) < (t.size : Int) := by omega
    obtain ⟨cs, hcs⟩ : ∃ c, pcode s.data.toList = c := ⟨_, rfl⟩
    obtain ⟨ct, hct⟩ : ∃ c, pcode t.data.toList = c := ⟨_, rfl⟩
    have HCS := Lib.hid hcs
    have HCT := Lib.hid hct
    clear hcs hct
    go_enter Tryd.func17, Tryd.ntmps17
    go_wp2_with fail
    revert BF
    generalize ((((w.alloc (.cells #[.bool false, .slice none 0 0] 25)).alloc (.cells #[.bool false, .slice none 0 0] 25)).alloc (.cells #[.bool false, .slice none 0 0] 28)).alloc (.cells #[.bool false, .slice none 0 0] 28)) = W
    intro BF
    have HC0 := Lib.hid BF.out.1
    have HB0 := Lib.hid BF.out.2
    refine (parse_any (w := W) s hs).mono ?_
    rintro e w1 ⟨n1, a1, k1, c1, rfl, hu1, hb1⟩
    rw [HCS.out]
    have HU1 := Lib.hid (IntR.set2 (x := .bool n1) (y := .slice a1 k1 c1) hu1 (HC0.out.next hb1).c0)
    have HC1 := Lib.hid ((HC0.out.next hb1).set0 (p := .bool n1) (q := .slice a1 k1 c1))
    have HB1 := Lib.hid (held_set2 (x := .bool n1) (y := .slice a1 k1 c1) (bt HB0.out hb1) (Nat.le_refl _))
    obtain ⟨g0, g1, g2, g3⟩ := res_facts (HC0.out.next hb1).c0
    clear hu1 hb1
    go_wp2_with fail
    clear g0 g1 g2 g3
    revert HU1 HC1 HB1
    generalize (w1.setCell ⟨w.heap.size, 0, none⟩ (.bool n1)).setCell ⟨w.heap.size, 1, none⟩ (.slice a1 k1 c1) = W1
    intro HU1 HC1 HB1
    refine (parse_any (w := W1) t ht).mono ?_
    rintro e w2 ⟨n2, a2, k2, c2, rfl, hu2, hb2⟩
    rw [HCT.out]
    have HU1b := Lib.hid (IntR.set2 (x := .bool n2) (y := .slice a2 k2 c2) (HU1.out.below hb2) (HC1.out.next hb2).c1)
    have HU2 := Lib.hid (IntR.set2 (x := .bool n2) (y := .slice a2 k2 c2) hu2 (HC1.out.next hb2).c1)
    have HC2 := Lib.hid ((HC1.out.next hb2).set1 (p := .bool n2) (q := .slice a2 k2 c2))
    have HB2 := Lib.hid (held_set2 (b := w.heap.size + 1) (x := .bool n2) (y := .slice a2 k2 c2) (bt HB1.out hb2) (by omega))
    obtain ⟨g0, g1, g2, g3⟩ := res_facts (HC1.out.next hb2).c1
    clear hu2 hb2
    go_wp2_with fail
    clear g0 g1 g2 g3
    revert HU1b HU2 HC2 HB2
    generalize (w2.setCell ⟨w.heap.size + 1, 0, none⟩ (.bool n2)).setCell ⟨w.heap.size + 1, 1, none⟩ (.slice a2 k2 c2) = W2
    intro HU1b HU2 HC2 HB2
    refine (rparse_any (w := W2) s hs).mono ?_
    rintro e w3 ⟨n3, a3, k3, c3, rfl, hu3, hb3⟩
    rw [HCS.out]
    have HU1c := Lib.hid (IntR.set2 (x := .bool n3) (y := .slice a3 k3 c3) (HU1b.out.below hb3) (HC2.out.next hb3).c2)
    have HU2b := Lib.hid (IntR.set2 (x := .bool n3) (y := .slice a3 k3 c3) (HU2.out.below hb3) (HC2.out.next hb3).c2)
    have HU3 := Lib.hid (RefR.set2 (x := .bool n3) (y := .slice a3 k3 c3) hu3 (HC2.out.next hb3).c2)
    have HC3 := Lib.hid ((HC2.out.next hb3).set2 (p := .bool n3) (q := .slice a3 k3 c3))
    have HB3 := Lib.hid (held_set2 (b := w.heap.size + 1 + 1) (x := .bool n3) (y := .slice a3 k3 c3) (bt HB2.out hb3) (by omega))
    obtain ⟨g0, g1, g2, g3⟩ := res_facts (HC2.out.next hb3).c2
    clear hu3 hb3
    go_wp2_with fail
    clear g0 g1 g2 g3
    revert HU1c HU2b HU3 HC3 HB3
    generalize (w3.setCell ⟨w.heap.size + 1 + 1, 0, none⟩ (.bool n3)).setCell ⟨w.heap.size + 1 + 1, 1, none⟩ (.slice a3 k3 c3) = W3
    intro HU1c HU2b HU3 HC3 HB3
    refine (rparse_any (w := W3) t ht).mono ?_
    rintro e w4 ⟨n4, a4, k4, c4, rfl, hu4, hb4⟩
    rw [HCT.out]
    have HU1d := Lib.hid (IntR.set2 (x := .bool n4) (y := .slice a4 k4 c4) (HU1c.out.below hb4) (HC3.out.next hb4).c3)
    have HU2c := Lib.hid (IntR.set2 (x := .bool n4) (y := .slice a4 k4 c4) (HU2b.out.below hb4) (HC3.out.next hb4).c3)
    have HU3b := Lib.hid (RefR.set2 (x := .bool n4) (y := .slice a4 k4 c4) (HU3.out.below hb4) (HC3.out.next hb4).c3)
    have HU4 := Lib.hid (RefR.set2 (x := .bool n4) (y := .slice a4 k4 c4) hu4 (HC3.out.next hb4).c3)
    have HC := Lib.hid ((HC3.out.next hb4).set3 (p := .bool n4) (q := .slice a4 k4 c4))
    have HB := Lib.hid (held_set2 (b := w.heap.size + 1 + 1 + 1) (x := .bool n4) (y := .slice a4 k4 c4) (bt HB3.out hb4) (by omega))
    obtain ⟨g0, g1, g2, g3⟩ := res_facts (HC3.out.next hb4).c3
    clear hu4 hb4
    by_cases hcs0 : cs = 0
    · by_cases hct0 : ct = 0
      · subst hcs0 hct0
        go_wp2_with fail
        clear g0 g1 g2 g3
        revert HU1d HU2c HU3b HU4 HC HB
        generalize (w4.setCell ⟨w.heap.size + 1 + 1 + 1, 0, none⟩ (.bool n4)).setCell ⟨w.heap.size + 1 + 1 + 1, 1, none⟩ (.slice a4 k4 c4) = W4
        intro HU1d HU2c HU3b HU4 HC HB
        obtain ⟨e0, e1, e2, e3, e4, e5, e6, e7⟩ := HC.out.drew.same
        obtain ⟨f0, f1, f2, f3, f4, f5, f6, f7⟩ := HC.out.drew.frozen
        have hcells := HC.out.drew.cells
        go_region_held3 (fun w' => w'.cell? ⟨w.heap.size, 0, none⟩ = some (.bool n1) ∧ w'.cell? ⟨w.heap.size, 1, none⟩ = some (.slice a1 k1 c1) ∧ w'.cell? ⟨w.heap.size + 1, 0, none⟩ = some (.bool n2) ∧ w'.cell? ⟨w.heap.size + 1, 1, none⟩ = some (.slice a2 k2 c2) ∧ w'.cell? ⟨w.heap.size + 1 + 1, 0, none⟩ = some (.bool n3) ∧ w'.cell? ⟨w.heap.size + 1 + 1, 1, none⟩ = some (.slice a3 k3 c3) ∧ w'.cell? ⟨w.heap.size + 1 + 1 + 1, 0, none⟩ = some (.bool n4) ∧ w'.cell? ⟨w.heap.size + 1 + 1 + 1, 1, none⟩ = some (.slice a4 k4 c4))
          (first | exact hcells | (simp only [e0, e1, e2, e3, e4, e5, e6, e7]; exact hcells))
          (fail)
        clear e0 e1 e2 e3 e4 e5 e6 e7 f0 f1 f2 f3 f4 f5 f6 f7 hcells
        all_goals
          have HC2 := Lib.hid HC.out.drew
          have HB2 := Lib.hid (Below.drew HB.out)
          clear HC
          have HC := HC2
          go_wp2
          try simp only [Exit.inBlock, Exit.then]
          refine bodyPost_ret (results_both rfl _ _ w.heap.size _ _ (.bool n1) (.slice a1 k1 c1) (.bool n2) (.slice a2 k2 c2) (.bool n3) (.slice a3 k3 c3) (.bool n4) (.slice a4 k4 c4) (.bool true) rfl rfl rfl rfl rfl HC.out Tryd.underlying25 rfl (by kernel_rfl) Tryd.underlying28 rfl (by kernel_rfl)) rfl ?_
          exact ⟨_, _, _, _, _, _, _, _, _, _, _, _, _, _, _, _, true, rfl, fun _ => ⟨hs6, ht6, HCS.out, HCT.out, HU1d.out.below (Below.drew (Below.refl _ _)), HU2c.out.below (Below.drew (Below.refl _ _)), HU3b.out.below (Below.drew (Below.refl _ _)), HU4.out.below (Below.drew (Below.refl _ _))⟩, HB2.out⟩
      · have ctz : (ct == 0) = false := by rw [beq_eq_false_iff_ne]; exact hct0
        have ctd : decide (ct = 0) = false := by simp [hct0]
        subst hcs0
        clear hct0
        go_wp2_with fail
        clear g0 g1 g2 g3
        revert HU1d HU2c HU3b HU4 HC HB
        generalize (w4.setCell ⟨w.heap.size + 1 + 1 + 1, 0, none⟩ (.bool n4)).setCell ⟨w.heap.size + 1 + 1 + 1, 1, none⟩ (.slice a4 k4 c4) = W4
        intro HU1d HU2c HU3b HU4 HC HB
        obtain ⟨e0, e1, e2, e3, e4, e5, e6, e7⟩ := HC.out.drew.same
        obtain ⟨f0, f1, f2, f3, f4, f5, f6, f7⟩ := HC.out.drew.frozen
        obtain ⟨g0, g1, g2, g3, g4, g5, g6, g7⟩ := HC.out.same
        obtain ⟨i0, i1, i2, i3, i4, i5, i6, i7⟩ := HC.out.cells
        obtain ⟨j0, j1, j2, j3, j4, j5, j6, j7⟩ := HC.out.frozen
        go_region
        all_goals clear e0 e1 e2 e3 e4 e5 e6 e7 f0 f1 f2 f3 f4 f5 f6 f7 g0 g1 g2 g3 g4 g5 g6 g7 i0 i1 i2 i3 i4 i5 i6 i7 j0 j1 j2 j3 j4 j5 j6 j7
        all_goals
          have HC2 := Lib.hid HC.out.drew
          have HB2 := Lib.hid (Below.drew HB.out)
          clear HC
          have HC := HC2
          go_wp2
          try simp only [Exit.inBlock, Exit.then]
          refine bodyPost_ret (results_both rfl _ _ w.heap.size _ _ (.bool n1) (.slice a1 k1 c1) (.bool n2) (.slice a2 k2 c2) (.bool n3) (.slice a3 k3 c3) (.bool n4) (.slice a4 k4 c4) (.bool false) rfl rfl rfl rfl rfl HC.out Tryd.underlying25 rfl (by kernel_rfl) Tryd.underlying28 rfl (by kernel_rfl)) rfl ?_
          exact ⟨_, _, _, _, _, _, _, _, _, _, _, _, _, _, _, _, false, rfl, fun h => by simp at h, HB2.out⟩
    · have csz : (cs == 0) = false := by rw [beq_eq_false_iff_ne]; exact hcs0
      have csd : decide (cs = 0) = false := by simp [hcs0]
      clear hcs0
      go_wp2_with fail
      clear g0 g1 g2 g3
      revert HU1d HU2c HU3b HU4 HC HB
      generalize (w4.setCell ⟨w.heap.size + 1 + 1 + 1, 0, none⟩ (.bool n4)).setCell ⟨w.heap.size + 1 + 1 + 1, 1, none⟩ (.slice a4 k4 c4) = W4
      intro HU1d HU2c HU3b HU4 HC HB
      obtain ⟨e0, e1, e2, e3, e4, e5, e6, e7⟩ := HC.out.drew.same
      obtain ⟨f0, f1, f2, f3, f4, f5, f6, f7⟩ := HC.out.drew.frozen
      obtain ⟨g0, g1, g2, g3, g4, g5, g6, g7⟩ := HC.out.same
      obtain ⟨i0, i1, i2, i3, i4, i5, i6, i7⟩ := HC.out.cells
      obtain ⟨j0, j1, j2, j3, j4, j5, j6, j7⟩ := HC.out.frozen
      go_region
      all_goals clear e0 e1 e2 e3 e4 e5 e6 e7 f0 f1 f2 f3 f4 f5 f6 f7 g0 g1 g2 g3 g4 g5 g6 g7 i0 i1 i2 i3 i4 i5 i6 i7 j0 j1 j2 j3 j4 j5 j6 j7
      all_goals
        have HC2 := Lib.hid HC.out.drew
        have HB2 := Lib.hid (Below.drew HB.out)
        clear HC
        have HC := HC2
        go_wp2
        try simp only [Exit.inBlock, Exit.then]
        refine bodyPost_ret (results_both rfl _ _ w.heap.size _ _ (.bool n1) (.slice a1 k1 c1) (.bool n2) (.slice a2 k2 c2) (.bool n3) (.slice a3 k3 c3) (.bool n4) (.slice a4 k4 c4) (.bool false) rfl rfl rfl rfl rfl HC.out Tryd.underlying25 rfl (by kernel_rfl) Tryd.underlying28 rfl (by kernel_rfl)) rfl ?_
        exact ⟨_, _, _, _, _, _, _, _, _, _, _, _, _, _, _, _, false, rfl, fun h => by simp at h, HB2.out⟩
  · have hcase : 600 < s.size ∨ (s.size ≤ 600 ∧ 600 < t.size) := by omega
    rcases hcase with h6 | ⟨h6, h7⟩
    case' inl => have hz : (600 : Int) < (s.size : Int) := by omega
    case' inr =>
      have hz : ¬ (600 : Int) < (s.size : Int) := by omega
      have hz2 : (600 : Int) < (t.size : Int) := by omega
    all_goals
      go_enter Tryd.func17, Tryd.ntmps17
      go_wp2_with fail
      revert BF
      generalize ((((w.alloc (.cells #[.bool false, .slice none 0 0] 25)).alloc (.cells #[.bool false, .slice none 0 0] 25)).alloc (.cells #[.bool false, .slice none 0 0] 28)).alloc (.cells #[.bool false, .slice none 0 0] 28)) = W
      intro BF
      have HC := Lib.hid BF.out.1
      have HB := Lib.hid BF.out.2
      obtain ⟨e0, e1, e2, e3, e4, e5, e6, e7⟩ := HC.out.drew.same
      obtain ⟨f0, f1, f2, f3, f4, f5, f6, f7⟩ := HC.out.drew.frozen
      have hcells := HC.out.drew.cells
      go_region_held3 (fun w' => w'.cell? ⟨w.heap.size, 0, none⟩ = some (.bool false) ∧ w'.cell? ⟨w.heap.size, 1, none⟩ = some (.slice none 0 0) ∧ w'.cell? ⟨w.heap.size + 1, 0, none⟩ = some (.bool false) ∧ w'.cell? ⟨w.heap.size + 1, 1, none⟩ = some (.slice none 0 0) ∧ w'.cell? ⟨w.heap.size + 1 + 1, 0, none⟩ = some (.bool false) ∧ w'.cell? ⟨w.heap.size + 1 + 1, 1, none⟩ = some (.slice none 0 0) ∧ w'.cell? ⟨w.heap.size + 1 + 1 + 1, 0, none⟩ = some (.bool false) ∧ w'.cell? ⟨w.heap.size + 1 + 1 + 1, 1, none⟩ = some (.slice none 0 0))
        (first | exact hcells | (simp only [e0, e1, e2, e3, e4, e5, e6, e7]; exact hcells))
        (fail)
      clear e0 e1 e2 e3 e4 e5 e6 e7 f0 f1 f2 f3 f4 f5 f6 f7 hcells
      all_goals
        have HC2 := Lib.hid HC.out.drew
        have HB2 := Lib.hid (Below.drew HB.out)
        clear HC
        have HC := HC2
        go_wp2
        try simp only [Exit.inBlock, Exit.then]
        refine bodyPost_ret (results_both rfl _ _ w.heap.size _ _ (.bool false) (.slice none 0 0) (.bool false) (.slice none 0 0) (.bool false) (.slice none 0 0) (.bool false) (.slice none 0 0) (.bool false) rfl rfl rfl rfl rfl HC.out Tryd.underlying25 rfl (by kernel_rfl) Tryd.underlying28 rfl (by kernel_rfl)) rfl ?_
        exact ⟨_, _, _, _, _, _, _, _, _, _, _, _, _, _, _, _, false, rfl, fun h => by simp at h, HB2.out⟩
end Go.Proofs.YtihjaakkpnjolaaDoor
