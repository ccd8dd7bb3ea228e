/- Blocks that a region makes beside its calls: where they lie and what they hold behind it. -/
import Derived.Test.YtjphfdlpcakpeaaGreatDoorRatD
namespace Go.Proofs.YtjphfdlpcakpeaaGreatDoor
open Go.RowKit Tally Go.Lib

theorem Rg.mul {p q : Rat} {N : Nat} (hp : Rg N p) (hq : Rg N q) : Rg (2 * N + 1) (p * q) := Rg.of (fw_mono (fw_mul hp.fw hq.fw) (by omega))
theorem Rg.div {p q : Rat} {N : Nat} (hp : Rg N p) (hq : Rg N q) : Rg (2 * N + 1) (p / q) := Rg.of (by have := fw_div hp.fw hq.fw; rw [show 2 * N + 1 = N + N + 1 by omega]; exact this)
theorem alloc_at (w : World) (o : Obj) : (w.alloc o).heap[w.heap.size]? = some o := heap_alloc_new w o
theorem alloc_at_d (w : World) (o : Obj) : (w.alloc o).drew.heap[w.heap.size]? = some o := heap_alloc_new w o
theorem alloc2_at0 (w : World) (o p : Obj) : ((w.alloc o).alloc p).heap[w.heap.size]? = some o := by rw [Lib.alloc_old _ _ _ (by simp)]; exact heap_alloc_new w o
theorem alloc2_at0_d (w : World) (o p : Obj) : ((w.alloc o).alloc p).drew.heap[w.heap.size]? = some o := alloc2_at0 w o p
theorem alloc2_at1 (w : World) (o p : Obj) : ((w.alloc o).alloc p).heap[w.heap.size + 1]? = some p := by simpa using heap_alloc_new (w.alloc o) p
theorem alloc2_at1_d (w : World) (o p : Obj) : ((w.alloc o).alloc p).drew.heap[w.heap.size + 1]? = some p := alloc2_at1 w o p
theorem held_set4 {B b : Nat} {W w1 : World} {x y z u : Value} (h : Below B W w1) (hb : B ≤ b) : Below B W ((((w1.setCell ⟨b, 0, none⟩ x).setCell ⟨b, 1, none⟩ y).setCell ⟨b, 2, none⟩ z).setCell ⟨b, 3, none⟩ u) :=
  (((h.setCell (p := ⟨b, 0, none⟩) hb _).setCell (p := ⟨b, 1, none⟩) hb _).setCell (p := ⟨b, 2, none⟩) hb _).setCell (p := ⟨b, 3, none⟩) hb _

theorem rg_int {N : Nat} {n : Int} (h : Dg N n) (hN : 1 ≤ N) : Rg N ((n : Int) : Rat) := by
  refine Rg.of ⟨?_, ?_⟩
  · rw [Rat.num_intCast]; exact h
  · rw [Rat.den_intCast]
    calc 1 < 10 ^ 1 := by decide
      _ ≤ 10 ^ N := Nat.pow_le_pow_right (by decide) hN
theorem dg_num {N : Nat} {q : Rat} (h : Rg N q) : Dg N q.num := h.1
theorem dg_den {N : Nat} {q : Rat} (h : Rg N q) : Dg N (q.den : Int) := h.2
theorem one_next {w w' : World} {o : Obj} (hb : Below (w.alloc o).heap.size (w.alloc o) w') : w'.heap[w.heap.size]? = some o := blk_next (alloc_at _ _) hb
theorem one_next_d {w w' : World} {o : Obj} (hb : Below (w.alloc o).drew.heap.size (w.alloc o).drew w') : w'.heap[w.heap.size]? = some o := blk_next (w := (w.alloc o).drew) (alloc_at_d _ _) hb
theorem two_next {w w' : World} {o p : Obj} (hb : Below ((w.alloc o).alloc p).heap.size ((w.alloc o).alloc p) w') : w'.heap[w.heap.size]? = some o ∧ w'.heap[w.heap.size + 1]? = some p ∧ w.heap.size < w.heap.size + 1 := ⟨blk_next (alloc2_at0 _ _ _) hb, blk_next (alloc2_at1 _ _ _) hb, Nat.lt_succ_self _⟩
theorem two_next_d {w w' : World} {o p : Obj} (hb : Below ((w.alloc o).alloc p).drew.heap.size ((w.alloc o).alloc p).drew w') : w'.heap[w.heap.size]? = some o ∧ w'.heap[w.heap.size + 1]? = some p ∧ w.heap.size < w.heap.size + 1 := ⟨blk_next (w := ((w.alloc o).alloc p).drew) (alloc2_at0_d _ _ _) hb, blk_next (w := ((w.alloc o).alloc p).drew) (alloc2_at1_d _ _ _) hb, Nat.lt_succ_self _⟩
theorem next_one {w w' : World} {o x : Obj} {g : Nat} (h : w.heap[g]? = some x) (hb : Below (w.alloc o).heap.size (w.alloc o) w') : w'.heap[g]? = some x ∧ w'.heap[w.heap.size]? = some o ∧ g < w.heap.size := ⟨blk_next (blk_next h (allocs_below1 _ _)) hb, blk_next (alloc_at _ _) hb, (Array.getElem?_eq_some_iff.1 h).1⟩

/-- a pointer to a block, not older than B, that holds a number -/
def BlkR (B : Nat) (T : TypeId) (q : Rat) (s : Value) (w : World) : Prop :=
  ∃ (g : Nat) (n1 : Bool) (a1 : Option Addr) (k1 c1 : Nat) (n2 : Bool) (a2 : Option Addr) (k2 c2 : Nat), s = .pointer (some ⟨g, 0, none⟩) ∧ w.heap[g]? = some (.cells #[.bool n1, .slice a1 k1 c1, .bool n2, .slice a2 k2 c2] T (0, 0)) ∧ RatR w (.agg #[.bool n1, .slice a1 k1 c1, .bool n2, .slice a2 k2 c2]) q ∧ B ≤ g
/-- .. that holds an integer -/
def BlkZ (B : Nat) (T : TypeId) (z : Int) (s : Value) (w : World) : Prop :=
  ∃ (g : Nat) (n : Bool) (a : Option Addr) (k c : Nat), s = .pointer (some ⟨g, 0, none⟩) ∧ w.heap[g]? = some (.cells #[.bool n, .slice a k c] T (0, 0)) ∧ IntR w (.agg #[.bool n, .slice a k c]) z ∧ B ≤ g

section
variable {B g h : Nat} {T : TypeId} {q : Rat} {x y : Int} {W w : World} {z1 z2 : Bool} {y1 y2 : Option Addr} {l1 d1 l2 d2 : Nat} {n1 : Bool} {a1 : Option Addr} {k1 c1 : Nat} {n2 : Bool} {a2 : Option Addr} {k2 c2 : Nat}
theorem blkR_set (h : w.heap[g]? = some (.cells #[.bool z1, .slice y1 l1 d1, .bool z2, .slice y2 l2 d2] T (0, 0))) (hr : RatR w (.agg #[.bool n1, .slice a1 k1 c1, .bool n2, .slice a2 k2 c2]) q) (hg : B ≤ g) (hW : Below B W w) :
    BlkR B T q (.pointer (some ⟨g, 0, none⟩)) ((((w.setCell ⟨g, 0, none⟩ (.bool n1)).setCell ⟨g, 1, none⟩ (.slice a1 k1 c1)).setCell ⟨g, 2, none⟩ (.bool n2)).setCell ⟨g, 3, none⟩ (.slice a2 k2 c2)) ∧ Below B W ((((w.setCell ⟨g, 0, none⟩ (.bool n1)).setCell ⟨g, 1, none⟩ (.slice a1 k1 c1)).setCell ⟨g, 2, none⟩ (.bool n2)).setCell ⟨g, 3, none⟩ (.slice a2 k2 c2)) :=
  ⟨⟨g, n1, a1, k1, c1, n2, a2, k2, c2, rfl, res4_set h, hr.stay set4_stay (noInt_one (noInt4 h)), hg⟩, held_set4 hW hg⟩
theorem blkR_new (hr : RatR w (.agg #[.bool n1, .slice a1 k1 c1, .bool n2, .slice a2 k2 c2]) q) (hB : B ≤ W.heap.size) (hW : Below B W w) :
    BlkR B T q (.pointer (some ⟨w.heap.size, 0, none⟩)) (w.alloc (.cells #[.bool n1, .slice a1 k1 c1, .bool n2, .slice a2 k2 c2] T)) ∧ Below B W (w.alloc (.cells #[.bool n1, .slice a1 k1 c1, .bool n2, .slice a2 k2 c2] T)) :=
  ⟨⟨_, n1, a1, k1, c1, n2, a2, k2, c2, rfl, heap_alloc_new _ _, hr.below (allocs_below1 _ _), Nat.le_trans hB hW.size⟩, hW.alloc (Nat.le_trans hB hW.size) _⟩

/-- both blocks older than the stores -/
theorem ends_old (e1 : w.heap[g]? = some (.cells #[.bool z1, .slice y1 l1 d1] T (0, 0))) (e2 : w.heap[h]? = some (.cells #[.bool z2, .slice y2 l2 d2] T (0, 0))) (hn : g ≠ h)
    (ra : IntR w (.agg #[.bool n1, .slice a1 k1 c1]) x) (rb : IntR w (.agg #[.bool n2, .slice a2 k2 c2]) y) (hg : B ≤ g) (hh : B ≤ h) (hW : Below B W w) :
    BlkZ B T x (.pointer (some ⟨g, 0, none⟩)) ((((w.setCell ⟨g, 0, none⟩ (.bool n1)).setCell ⟨g, 1, none⟩ (.slice a1 k1 c1)).setCell ⟨h, 0, none⟩ (.bool n2)).setCell ⟨h, 1, none⟩ (.slice a2 k2 c2)) ∧
    BlkZ B T y (.pointer (some ⟨h, 0, none⟩)) ((((w.setCell ⟨g, 0, none⟩ (.bool n1)).setCell ⟨g, 1, none⟩ (.slice a1 k1 c1)).setCell ⟨h, 0, none⟩ (.bool n2)).setCell ⟨h, 1, none⟩ (.slice a2 k2 c2)) ∧
    Below B W ((((w.setCell ⟨g, 0, none⟩ (.bool n1)).setCell ⟨g, 1, none⟩ (.slice a1 k1 c1)).setCell ⟨h, 0, none⟩ (.bool n2)).setCell ⟨h, 1, none⟩ (.slice a2 k2 c2)) := by
  have S := store22 (x' := .bool n1) (y' := .slice a1 k1 c1) (z' := .bool n2) (u' := .slice a2 k2 c2) e1 e2 hn
  have e2' : ((w.setCell ⟨g, 0, none⟩ (.bool n1)).setCell ⟨g, 1, none⟩ (.slice a1 k1 c1)).heap[h]? = some (.cells #[.bool z2, .slice y2 l2 d2] T (0, 0)) := Blk.set_other (Blk.set_other e2 (Ne.symm hn)) (Ne.symm hn)
  have m1 := (ra.stay set2_stay (noInt_one (noInt2 e1))).stay (set2_stay (x := .bool n2) (y := .slice a2 k2 c2)) (noInt_one (noInt2 e2'))
  have m2 := (rb.stay set2_stay (noInt_one (noInt2 e1))).stay (set2_stay (x := .bool n2) (y := .slice a2 k2 c2)) (noInt_one (noInt2 e2'))
  exact ⟨⟨g, n1, a1, k1, c1, rfl, S.2.1, m1, hg⟩, ⟨h, n2, a2, k2, c2, rfl, S.2.2, m2, hh⟩, held_set2 (held_set2 hW hg) hh⟩
/-- the first block older than the stores, the second made behind all calls -/
theorem ends_new2 (e1 : w.heap[g]? = some (.cells #[.bool z1, .slice y1 l1 d1] T (0, 0)))
    (ra : IntR w (.agg #[.bool n1, .slice a1 k1 c1]) x) (rb : IntR w (.agg #[.bool n2, .slice a2 k2 c2]) y) (hg : B ≤ g) (hB : B ≤ W.heap.size) (hW : Below B W w) :
    BlkZ B T x (.pointer (some ⟨g, 0, none⟩)) (((w.setCell ⟨g, 0, none⟩ (.bool n1)).setCell ⟨g, 1, none⟩ (.slice a1 k1 c1)).alloc (.cells #[.bool n2, .slice a2 k2 c2] T)) ∧
    BlkZ B T y (.pointer (some ⟨w.heap.size, 0, none⟩)) (((w.setCell ⟨g, 0, none⟩ (.bool n1)).setCell ⟨g, 1, none⟩ (.slice a1 k1 c1)).alloc (.cells #[.bool n2, .slice a2 k2 c2] T)) ∧
    Below B W (((w.setCell ⟨g, 0, none⟩ (.bool n1)).setCell ⟨g, 1, none⟩ (.slice a1 k1 c1)).alloc (.cells #[.bool n2, .slice a2 k2 c2] T)) := by
  have hs : ((w.setCell ⟨g, 0, none⟩ (.bool n1)).setCell ⟨g, 1, none⟩ (.slice a1 k1 c1)).heap.size = w.heap.size := by simp
  have m1 := (ra.stay (set2_stay (x := .bool n1) (y := .slice a1 k1 c1)) (noInt_one (noInt2 e1))).below (allocs_below1 _ (.cells #[.bool n2, .slice a2 k2 c2] T))
  have m2 := (rb.stay (set2_stay (x := .bool n1) (y := .slice a1 k1 c1)) (noInt_one (noInt2 e1))).below (allocs_below1 _ (.cells #[.bool n2, .slice a2 k2 c2] T))
  have hl : B ≤ w.heap.size := Nat.le_trans hB hW.size
  have c1' := blk_next (res_set (x' := .bool n1) (y' := .slice a1 k1 c1) e1) (allocs_below1 _ (.cells #[.bool n2, .slice a2 k2 c2] T))
  have c2' := alloc_at ((w.setCell ⟨g, 0, none⟩ (.bool n1)).setCell ⟨g, 1, none⟩ (.slice a1 k1 c1)) (.cells #[.bool n2, .slice a2 k2 c2] T)
  rw [hs] at c2'
  exact ⟨⟨g, n1, a1, k1, c1, rfl, c1', m1, hg⟩, ⟨_, n2, a2, k2, c2, rfl, c2', m2, hl⟩, (held_set2 hW hg).alloc (by rw [hs]; exact hl) _⟩
/-- .. the other way round -/
theorem ends_new1 (e2 : w.heap[h]? = some (.cells #[.bool z2, .slice y2 l2 d2] T (0, 0)))
    (ra : IntR w (.agg #[.bool n1, .slice a1 k1 c1]) x) (rb : IntR w (.agg #[.bool n2, .slice a2 k2 c2]) y) (hh : B ≤ h) (hB : B ≤ W.heap.size) (hW : Below B W w) :
    BlkZ B T x (.pointer (some ⟨w.heap.size, 0, none⟩)) (((w.setCell ⟨h, 0, none⟩ (.bool n2)).setCell ⟨h, 1, none⟩ (.slice a2 k2 c2)).alloc (.cells #[.bool n1, .slice a1 k1 c1] T)) ∧
    BlkZ B T y (.pointer (some ⟨h, 0, none⟩)) (((w.setCell ⟨h, 0, none⟩ (.bool n2)).setCell ⟨h, 1, none⟩ (.slice a2 k2 c2)).alloc (.cells #[.bool n1, .slice a1 k1 c1] T)) ∧
    Below B W (((w.setCell ⟨h, 0, none⟩ (.bool n2)).setCell ⟨h, 1, none⟩ (.slice a2 k2 c2)).alloc (.cells #[.bool n1, .slice a1 k1 c1] T)) := by
  obtain ⟨p, q, r⟩ := ends_new2 (T := T) e2 rb ra hh hB hW
  exact ⟨q, p, r⟩
/-- both made behind all calls -/
theorem ends_new (ra : IntR w (.agg #[.bool n1, .slice a1 k1 c1]) x) (rb : IntR w (.agg #[.bool n2, .slice a2 k2 c2]) y) (hB : B ≤ W.heap.size) (hW : Below B W w) :
    BlkZ B T x (.pointer (some ⟨w.heap.size, 0, none⟩)) ((w.alloc (.cells #[.bool n1, .slice a1 k1 c1] T)).alloc (.cells #[.bool n2, .slice a2 k2 c2] T)) ∧
    BlkZ B T y (.pointer (some ⟨w.heap.size + 1, 0, none⟩)) ((w.alloc (.cells #[.bool n1, .slice a1 k1 c1] T)).alloc (.cells #[.bool n2, .slice a2 k2 c2] T)) ∧
    Below B W ((w.alloc (.cells #[.bool n1, .slice a1 k1 c1] T)).alloc (.cells #[.bool n2, .slice a2 k2 c2] T)) := by
  have hl : B ≤ w.heap.size := Nat.le_trans hB hW.size
  have hb := allocs_below2 w (.cells #[.bool n1, .slice a1 k1 c1] T) (.cells #[.bool n2, .slice a2 k2 c2] T)
  exact ⟨⟨_, n1, a1, k1, c1, rfl, alloc2_at0 _ _ _, ra.below hb, hl⟩, ⟨_, n2, a2, k2, c2, rfl, alloc2_at1 _ _ _, rb.below hb, Nat.le_succ_of_le hl⟩, (hW.alloc hl _).alloc (by simp; omega) _⟩
theorem ends_newr (ra : IntR w (.agg #[.bool n1, .slice a1 k1 c1]) x) (rb : IntR w (.agg #[.bool n2, .slice a2 k2 c2]) y) (hB : B ≤ W.heap.size) (hW : Below B W w) :
    BlkZ B T x (.pointer (some ⟨w.heap.size + 1, 0, none⟩)) ((w.alloc (.cells #[.bool n2, .slice a2 k2 c2] T)).alloc (.cells #[.bool n1, .slice a1 k1 c1] T)) ∧
    BlkZ B T y (.pointer (some ⟨w.heap.size, 0, none⟩)) ((w.alloc (.cells #[.bool n2, .slice a2 k2 c2] T)).alloc (.cells #[.bool n1, .slice a1 k1 c1] T)) ∧
    Below B W ((w.alloc (.cells #[.bool n2, .slice a2 k2 c2] T)).alloc (.cells #[.bool n1, .slice a1 k1 c1] T)) := by
  obtain ⟨p, q, r⟩ := ends_new (T := T) rb ra hB hW
  exact ⟨q, p, r⟩
end
end Go.Proofs.YtjphfdlpcakpeaaGreatDoor
