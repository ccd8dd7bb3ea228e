/- Rows of numbers that a call has made: a block of known content, and slices that a call appends to. -/
import Derived.Test.YtihjaakkpnjolaaDoorMem
import Derived.Test.YtihjaakkpnjolaaDoorPlainC
import Derived.Laws.CopyOwn
import Derived.Lib.SmallJoins
import Derived.Lib.Builder
namespace Go.Proofs.YtihjaakkpnjolaaDoor
open Go.RowKit Tally

def numsOf (K : IntKind) (L : List Nat) : List Value := L.map fun x => .int K (x : Nat)
theorem numsOf_length (K : IntKind) (L : List Nat) : (numsOf K L).length = L.length := by simp [numsOf]
theorem numsOf_append (K : IntKind) (L M : List Nat) : numsOf K (L ++ M) = numsOf K L ++ numsOf K M := by simp [numsOf]
theorem numsOf_get {K : IntKind} {L : List Nat} {i : Nat} (h : i < L.length) : (numsOf K L)[i]? = some (.int K (L.getD i 0 : Nat)) := by
  rw [getD_eq h]; simp [numsOf, h]
theorem numsOf_one {K : IntKind} {L : List Nat} : ∀ v ∈ numsOf K L, v.oneCell' = true := by
  intro v hv; simp [numsOf] at hv; obtain ⟨x, _, rfl⟩ := hv; rfl

/-- block g is a row of the numbers L -/
def Own (K : IntKind) (t : TypeId) (w : World) (g : Nat) (L : List Nat) : Prop := w.heap[g]? = some (.cells (numsOf K L).toArray t (0, 0))

section
variable {K : IntKind} {t : TypeId} {w w' : World} {g : Nat} {L : List Nat}

theorem Own.heap (h : Own K t w g L) : w.heap[g]? = some (.cells (numsOf K L).toArray t (0, 0)) := h
theorem Own.cell (h : Own K t w g L) {i : Nat} (hi : i < L.length) : w.cell? ⟨g, i, none⟩ = some (.int K (L.getD i 0 : Nat)) := by
  rw [Lib.cell_of_heap h]; simpa using numsOf_get hi
theorem Own.frozen (h : Own K t w g L) (i : Nat) : w.frozen? ⟨g, i, none⟩ = false := Lib.frozen_of_heap h i
theorem Own.lt (h : Own K t w g L) : g < w.heap.size := by
  obtain ⟨hlt, _⟩ := Array.getElem?_eq_some_iff.1 h
  exact hlt
theorem Own.set (h : Own K t w g L) (k x : Nat) : Own K t (w.setCell ⟨g, k, none⟩ (.int K (x : Nat))) g (L.set k x) := by
  have := Joins.block_setCell (i := k) h (.int K (x : Nat))
  unfold Own
  rw [this]
  simp [numsOf, List.map_set]
theorem Own.keep (h : Own K t w g L) (e : w'.heap[g]? = w.heap[g]?) : Own K t w' g L := e.trans h
theorem Own.below (h : Own K t w g L) (hb : Below w.heap.size w w') : Own K t w' g L := h.keep (hb.block g h.lt)
theorem Own.alloc (h : Own K t w g L) (o : Obj) : Own K t (w.alloc o) g L := h.keep (Lib.alloc_old w o g h.lt)
theorem Own.made (w : World) (n : Nat) : Own K t (w.alloc (.cells (madeCells #[.int K 0] n) t)) w.heap.size (List.replicate n 0) := by
  unfold Own
  rw [heap_alloc_new]
  congr 2
  apply Array.ext
  · simp [madeCells, numsOf]
  · intro i h1 h2
    simp [madeCells, numsOf, Nat.mod_one]

theorem Own.row (h : Own K t w g L) {n c : Nat} (hn : n ≤ L.length) (hc : n ≤ c) (hm : c ≤ 9223372036854775807) :
    RowR w (.slice (some ⟨g, 0, none⟩) n c) (L.take n).length (fun i => .int K ((L.take n).getD i 0 : Nat)) := by
  have hl : (L.take n).length = n := by rw [List.length_take]; omega
  refine ⟨some ⟨g, 0, none⟩, g, 0, c, by rw [hl], by omega, hm, fun _ => rfl, fun i hi => ?_⟩
  rw [Nat.zero_add, h.cell (by omega)]
  congr 3
  rw [getD_eq hi, getD_eq (show i < L.length by omega)]
  simp

theorem Own.all (h : Own K t w g L) {n c : Nat} (hn : n = L.length) (hc : n ≤ c) (hm : c ≤ 9223372036854775807) :
    RowR w (.slice (some ⟨g, 0, none⟩) n c) L.length (fun i => .int K (L.getD i 0 : Nat)) := by
  subst hn
  have := h.row (n := L.length) (c := c) (Nat.le_refl _) hc hm
  rwa [List.take_length] at this

/-- an own row as a slice that is appended to -/
theorem Own.owns (h : Own K t w g L) {n base : Nat} (hn : n ≤ L.length) (hm : L.length ≤ maxLen) (hb : base ≤ g) :
    w.ownsRow base t 1 (.slice (some ⟨g, 0, none⟩) n L.length) n (numsOf K (L.take n)) :=
  ⟨by simp [numsOf]; omega, .inr ⟨g, L.length, _, rfl, hb, h, hn, hm, by simp [numsOf], by simp [numsOf, List.map_take]⟩⟩

/-- a slice that has been appended to reads -/
theorem RowR.of_owns {base : Nat} {v : Value} {n : Nat} (h : w.ownsRow base t 1 v n (numsOf K L)) :
    RowR w v L.length (fun i => .int K (L.getD i 0 : Nat)) := by
  obtain ⟨h1, h2⟩ := h
  simp [numsOf] at h1
  rcases h2 with ⟨rfl, h0⟩ | ⟨g, cap, cur, rfl, _, hh, hc, hcm, hs, ht⟩
  · exact ⟨none, 0, 0, 0, by rw [h1, h0], by omega, by omega, fun h => by omega, fun i hi => by omega⟩
  · refine ⟨some ⟨g, 0, none⟩, g, 0, cap, by rw [h1], by omega, by unfold maxLen at hcm; omega, fun _ => rfl, fun i hi => ?_⟩
    rw [Nat.zero_add, Lib.cell_of_heap hh]
    have e : (cur.toList.take (n * 1))[i]? = some (.int K (L.getD i 0 : Nat)) := by rw [ht]; exact numsOf_get hi
    rw [List.getElem?_take, if_pos (by omega)] at e
    simpa using e

theorem owns_snoc {base : Nat} {v : Value} {n x : Nat} (h : w.ownsRow base t 1 v n (numsOf K L ++ [.int K (x : Nat)])) : w.ownsRow base t 1 v n (numsOf K (L ++ [x])) := by
  rw [numsOf_append]; exact h

end

theorem splice_all {K : IntKind} {L M : List Nat} (h : L.length = M.length) : splice (numsOf K L) 0 (numsOf K M) = numsOf K M := by
  simp [splice, numsOf]; omega

theorem splice_some {K : IntKind} {L M : List Nat} : splice (numsOf K L) 0 (numsOf K M) = numsOf K (M ++ L.drop M.length) := by
  simp [splice, numsOf, List.map_drop]

theorem addr_at (b o j : Nat) : (⟨b, o, none⟩ : Addr).add j = ⟨b, o + j, none⟩ := by
  unfold Addr.add; split
  · rename_i h; subst h; rfl
  · rfl

/-- the source of a copy: a slice that reads -/
theorem copySrc {K : IntKind} {w W : World} {p : Option Addr} {b o n : Nat} {L : List Nat} (hb : Below w.heap.size w W) (hn : L.length = n) (hs : 0 < n → p = some ⟨b, o, none⟩)
    (hr : ∀ i, i < n → w.cell? ⟨b, o + i, none⟩ = some (.int K (L.getD i 0 : Nat))) (g : Nat) :
    0 < (numsOf K L).length → some (⟨g, 0, none⟩ : Addr) = some ⟨g, 0, none⟩ ∧ ∃ ad, p = some ad ∧ ∀ j v, (numsOf K L)[j]? = some v → W.cell? (ad.add j) = some v := fun h0 => by
  rw [numsOf_length, hn] at h0
  refine ⟨rfl, ⟨b, o, none⟩, hs h0, fun j v hv => ?_⟩
  have hj : j < n := by rw [← hn, ← numsOf_length K]; exact (List.getElem?_eq_some_iff.1 hv).1
  have := keepc hb (hr j hj)
  rw [numsOf_get (by rw [hn]; exact hj)] at hv
  injection hv with hv
  rw [← hv, show (⟨b, o, none⟩ : Addr).add j = ⟨b, o + j, none⟩ from addr_at b o j]
  exact this

theorem infoU : (Tryd.prog.info? 108).map (fun i => (i.zero, i.size, i.bytes)) = some (some (.int .u32 0), 1, 4) := by kernel_rfl
theorem infoI : (Tryd.prog.info? 3).map (fun i => (i.zero, i.size, i.bytes)) = some (some (.int .i64 0), 1, 8) := by kernel_rfl
theorem sizeU : (Tryd.prog.info? 108).map (·.size) = some 1 := by kernel_rfl
theorem sizeI : (Tryd.prog.info? 3).map (·.size) = some 1 := by kernel_rfl

/-- what a function that gives limbs leaves -/
def GivesL (w : World) (n : Nat) (e : Ending) (w' : World) : Prop :=
  ∃ u l, e = .returned u ∧ LR w' u l ∧ Lim 1000000000 l ∧ val 1000000000 l = n ∧ Below w.heap.size w w'

def GivesQ (w : World) (n : Nat) (e : Ending) (w' : World) : Prop :=
  ∃ u l, e = .returned u ∧ QR w' u l ∧ Lim 10000 l ∧ val 10000 l = n ∧ Below w.heap.size w w'

end Go.Proofs.YtihjaakkpnjolaaDoor
