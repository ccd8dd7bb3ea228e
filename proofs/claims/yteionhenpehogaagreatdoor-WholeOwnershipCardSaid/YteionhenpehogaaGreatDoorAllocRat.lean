import Derived.Test.YteionhenpehogaaGreatDoorRatD
namespace Go.Proofs.YteionhenpehogaaGreatDoor
open Go.RowKit Tally Go.Lib
theorem Rg.mul {p q : Rat} {N : Nat} (hp : Rg N p) (hq : Rg N q) : Rg (2 * N + 1) (p * q) := Rg.of (fw_mono (fw_mul hp.fw hq.fw) (by omega))
theorem Rg.div {p q : Rat} {N : Nat} (hp : Rg N p) (hq : Rg N q) : Rg (2 * N + 1) (p / q) := Rg.of (by have := fw_div hp.fw hq.fw; rw [show 2 * N + 1 = N + N + 1 by omega]; exact this)
theorem alloc_at (w : World) (o : Obj) : (w.alloc o).heap[w.heap.size]? = some o := heap_alloc_new w o
theorem alloc_at_d (w : World) (o : Obj) : (w.alloc o).drew.heap[w.heap.size]? = some o := heap_alloc_new w o
theorem held_set4 {B b : Nat} {W w1 : World} {x y z u : Value} (h : Below B W w1) (hb : B ≤ b) : Below B W ((((w1.setCell ⟨b, 0, none⟩ x).setCell ⟨b, 1, none⟩ y).setCell ⟨b, 2, none⟩ z).setCell ⟨b, 3, none⟩ u) :=
 (((h.setCell (p := ⟨b, 0, none⟩) hb _).setCell (p := ⟨b, 1, none⟩) hb _).setCell (p := ⟨b, 2, none⟩) hb _).setCell (p := ⟨b, 3, none⟩) hb _
theorem one_next {w w' : World} {o : Obj} (hb : Below (w.alloc o).heap.size (w.alloc o) w') : w'.heap[w.heap.size]? = some o := blk_next (alloc_at _ _) hb
theorem one_next_d {w w' : World} {o : Obj} (hb : Below (w.alloc o).drew.heap.size (w.alloc o).drew w') : w'.heap[w.heap.size]? = some o := blk_next (w := (w.alloc o).drew) (alloc_at_d _ _) hb
def BlkR (B : Nat) (T : TypeId) (q : Rat) (s : Value) (w : World) : Prop :=
 ∃ (g : Nat) (n1 : Bool) (a1 : Option Addr) (k1 c1 : Nat) (n2 : Bool) (a2 : Option Addr) (k2 c2 : Nat), s = .pointer (some ⟨g, 0, none⟩) ∧ w.heap[g]? = some (.cells #[.bool n1, .slice a1 k1 c1, .bool n2, .slice a2 k2 c2] T (0, 0)) ∧ RatR w (.agg #[.bool n1, .slice a1 k1 c1, .bool n2, .slice a2 k2 c2]) q ∧ B ≤ g
section
variable {B g h : Nat} {T : TypeId} {q : Rat} {x y : Int} {W w : World} {z1 z2 : Bool} {y1 y2 : Option Addr} {l1 d1 l2 d2 : Nat} {n1 : Bool} {a1 : Option Addr} {k1 c1 : Nat} {n2 : Bool} {a2 : Option Addr} {k2 c2 : Nat}
theorem blkR_set (h : w.heap[g]? = some (.cells #[.bool z1, .slice y1 l1 d1, .bool z2, .slice y2 l2 d2] T (0, 0))) (hr : RatR w (.agg #[.bool n1, .slice a1 k1 c1, .bool n2, .slice a2 k2 c2]) q) (hg : B ≤ g) (hW : Below B W w) :
  BlkR B T q (.pointer (some ⟨g, 0, none⟩)) ((((w.setCell ⟨g, 0, none⟩ (.bool n1)).setCell ⟨g, 1, none⟩ (.slice a1 k1 c1)).setCell ⟨g, 2, none⟩ (.bool n2)).setCell ⟨g, 3, none⟩ (.slice a2 k2 c2)) ∧ Below B W ((((w.setCell ⟨g, 0, none⟩ (.bool n1)).setCell ⟨g, 1, none⟩ (.slice a1 k1 c1)).setCell ⟨g, 2, none⟩ (.bool n2)).setCell ⟨g, 3, none⟩ (.slice a2 k2 c2)) :=
 ⟨⟨g, n1, a1, k1, c1, n2, a2, k2, c2, rfl, res4_set h, hr.stay set4_stay (noInt_one (noInt4 h)), hg⟩, held_set4 hW hg⟩
theorem blkR_new (hr : RatR w (.agg #[.bool n1, .slice a1 k1 c1, .bool n2, .slice a2 k2 c2]) q) (hB : B ≤ W.heap.size) (hW : Below B W w) :
  BlkR B T q (.pointer (some ⟨w.heap.size, 0, none⟩)) (w.alloc (.cells #[.bool n1, .slice a1 k1 c1, .bool n2, .slice a2 k2 c2] T)) ∧ Below B W (w.alloc (.cells #[.bool n1, .slice a1 k1 c1, .bool n2, .slice a2 k2 c2] T)) :=
 ⟨⟨_, n1, a1, k1, c1, n2, a2, k2, c2, rfl, heap_alloc_new _ _, hr.below (allocs_below1 _ _), Nat.le_trans hB hW.size⟩, hW.alloc (Nat.le_trans hB hW.size) _⟩
end
end Go.Proofs.YteionhenpehogaaGreatDoor
