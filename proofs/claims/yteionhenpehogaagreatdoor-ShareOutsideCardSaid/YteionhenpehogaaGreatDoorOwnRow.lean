import Derived.Test.YteionhenpehogaaGreatDoorLinT
namespace Go.Proofs.YteionhenpehogaaGreatDoor
open Go.RowKit Tally
theorem cell_put {w : World} {g o i : Nat} {x : Num} {cur : Array Value} {T : TypeId} (h : w.heap[g]? = some (.cells cur T (0, 0))) (hi : i < o ∨ o + 4 ≤ i) : (putN w g o x).cell? ⟨g, i, none⟩ = w.cell? ⟨g, i, none⟩ := by
 have s1 := Joins.block_setCell (i := o) h (.bool x.n1)
 have s2 := Joins.block_setCell (i := o + 1) s1 (.slice x.a1 x.k1 x.c1)
 have s3 := Joins.block_setCell (i := o + 2) s2 (.bool x.n2)
 have s4 := Joins.block_setCell (i := o + 3) s3 (.slice x.a2 x.k2 x.c2)
 rw [Lib.cell_of_heap h, show putN w g o x = _ from rfl, putN, Lib.cell_of_heap s4]
 rw [Array.getElem?_setIfInBounds_ne (by omega), Array.getElem?_setIfInBounds_ne (by omega), Array.getElem?_setIfInBounds_ne (by omega), Array.getElem?_setIfInBounds_ne (by omega)]
theorem cell_put4 {w : World} {g o : Nat} {x : Num} {cur : Array Value} {T : TypeId} (h : w.heap[g]? = some (.cells cur T (0, 0))) (hi : o + 4 ≤ cur.size) : Four (putN w g o x) g o x := by
 have s1 := Joins.block_setCell (i := o) h (.bool x.n1)
 have s2 := Joins.block_setCell (i := o + 1) s1 (.slice x.a1 x.k1 x.c1)
 have s3 := Joins.block_setCell (i := o + 2) s2 (.bool x.n2)
 have s4 := Joins.block_setCell (i := o + 3) s3 (.slice x.a2 x.k2 x.c2)
 refine ⟨?_, ?_, ?_, ?_⟩ <;> (unfold putN; rw [Lib.cell_of_heap s4])
 ·rw [Array.getElem?_setIfInBounds_ne (by omega), Array.getElem?_setIfInBounds_ne (by omega), Array.getElem?_setIfInBounds_ne (by omega), Array.getElem?_setIfInBounds_self_of_lt (by omega)]
 ·rw [Array.getElem?_setIfInBounds_ne (by omega), Array.getElem?_setIfInBounds_ne (by omega), Array.getElem?_setIfInBounds_self_of_lt (by simp; omega)]
 ·rw [Array.getElem?_setIfInBounds_ne (by omega), Array.getElem?_setIfInBounds_self_of_lt (by simp; omega)]
 ·rw [Array.getElem?_setIfInBounds_self_of_lt (by simp; omega)]
theorem cell_size {w : World} {g i : Nat} {u : Value} {cur : Array Value} {T : TypeId} (h : w.heap[g]? = some (.cells cur T (0, 0))) (hc : w.cell? ⟨g, i, none⟩ = some u) : i < cur.size := by
 rw [Lib.cell_of_heap h] at hc
 exact (Array.getElem?_eq_some_iff.1 hc).1
end Go.Proofs.YteionhenpehogaaGreatDoor
