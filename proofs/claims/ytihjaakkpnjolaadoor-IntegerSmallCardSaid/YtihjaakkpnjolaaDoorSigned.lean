/- The program's signed: the integer that limbs make with a sign. -/
import Derived.Test.YtihjaakkpnjolaaDoorTrim
import Derived.Lib.Builder
import Derived.Lib.SmallJoins
namespace Go.Proofs.YtihjaakkpnjolaaDoor
open Go.RowKit Tally

theorem intR_of {w : World} {neg : Bool} {u : Value} {l : List Nat} (hl : ∀ x ∈ l, x < 1000000000) (hu : LR w u (trimZ l)) :
    IntR w (.agg #[.bool (neg && decide (0 < ((trimZ l).length : Int))), u]) (if neg then -(val 1000000000 l : Int) else val 1000000000 l) := by
  have hc := canon_trimZ 1000000000 l hl
  refine ⟨_, u, trimZ l, rfl, hu, hc, ?_, ?_⟩
  · intro h e
    rw [e] at h
    simp at h
  · rw [val_trimZ]
    by_cases h0 : trimZ l = []
    · have hv : val 1000000000 l = 0 := by rw [← val_trimZ, h0]; rfl
      rw [h0, hv]
      simp
    · have : (0 : Int) < ((trimZ l).length : Int) := by have := List.length_pos_iff.2 h0; omega
      rw [decide_eq_true this, Bool.and_true]

set_option maxHeartbeats 800000 in
theorem signed_any {w : World} {v : Value} {l : List Nat} {neg : Bool} (h : LR w v l) (hl : ∀ x ∈ l, x < 1000000000) :
    Calls Tryd.prog 67 #[.bool neg, v] w fun e w' => ∃ u, e = .returned u ∧ IntR w' u (if neg then -(val 1000000000 l : Int) else val 1000000000 l) ∧ Below w.heap.size w w' := by
  go_enter Tryd.func67, Tryd.ntmps67
  go_wp2_with fail
  refine (trim_any (h.below ?hb)).mono ?_
  case hb => exact (Below.refl _ _).alloc (Nat.le_refl _) _
  rintro e w1 ⟨u, rfl, hu, hb⟩
  replace hu := hu w h
  have hbw : Below w.heap.size w w1 := ((Below.refl _ w).alloc (Nat.le_refl _) _).trans (hb.mono (by simp))
  obtain ⟨a, b, o, c, rfl, hlc, hm, hs, hr⟩ := id hu
  replace hr := Lib.hid hr
  have hg : w1.heap[w.heap.size]? = (w.alloc (.cells #[.bool false, .slice none 0 0] 25)).heap[w.heap.size]? := hb.block _ (by simp)
  rw [heap_alloc_new] at hg
  have c0 : w1.cell? ⟨w.heap.size, 0, none⟩ = some (.bool false) := by rw [Lib.cell_of_heap hg]; rfl
  have c1 : w1.cell? ⟨w.heap.size, 1, none⟩ = some (.slice none 0 0) := by rw [Lib.cell_of_heap hg]; rfl
  have f0 : w1.frozen? ⟨w.heap.size, 0, none⟩ = false := Lib.frozen_of_heap hg 0
  have f1 : w1.frozen? ⟨w.heap.size, 1, none⟩ = false := Lib.frozen_of_heap hg 1
  have fit := intR_of (neg := neg) hl hu
  clear hu h
  generalize (trimZ l).length = n at *
  replace fit := Lib.hid fit
  have fin : ∀ x, Below w.heap.size w ((w1.setCell ⟨w.heap.size, 0, none⟩ x).setCell ⟨w.heap.size, 1, none⟩ (.slice a n c)) := fun x => (hbw.setCell (p := ⟨w.heap.size, 0, none⟩) (Nat.le_refl _) _).setCell (p := ⟨w.heap.size, 1, none⟩) (Nat.le_refl _) _
  replace fin := Lib.hid fin
  have hh : ∀ x, ((w1.setCell ⟨w.heap.size, 0, none⟩ x).setCell ⟨w.heap.size, 1, none⟩ (.slice a n c)).heap[w.heap.size]? = some (.cells #[x, .slice a n c] 25 (0, 0)) := fun x => Joins.block_setCell (Joins.block_setCell hg x) _
  replace hh := Lib.hid hh
  by_cases h0 : (0 : Int) < (n : Int)
  · rw [decide_eq_true h0] at fit
    cases neg
    · go_wp2
      try simp only [Exit.inBlock, Exit.then]
      refine bodyPost_ret (results_cell_row rfl _ _ w.heap.size 25 _ (0, 0) _ rfl (hh _) Tryd.underlying25 rfl (by kernel_rfl)) rfl ?_
      exact ⟨_, rfl, IntR.below fit (fin _), fin _⟩
    · go_wp2
      try simp only [Exit.inBlock, Exit.then]
      refine bodyPost_ret (results_cell_row rfl _ _ w.heap.size 25 _ (0, 0) _ rfl (hh _) Tryd.underlying25 rfl (by kernel_rfl)) rfl ?_
      have e : decide (0 < n) = true := by simp; omega
      exact ⟨_, rfl, by rw [e]; exact IntR.below fit (fin _), fin _⟩
  · rw [decide_eq_false h0] at fit
    cases neg
    · go_wp2
      try simp only [Exit.inBlock, Exit.then]
      refine bodyPost_ret (results_cell_row rfl _ _ w.heap.size 25 _ (0, 0) _ rfl (hh _) Tryd.underlying25 rfl (by kernel_rfl)) rfl ?_
      exact ⟨_, rfl, IntR.below fit (fin _), fin _⟩
    · go_wp2
      try simp only [Exit.inBlock, Exit.then]
      refine bodyPost_ret (results_cell_row rfl _ _ w.heap.size 25 _ (0, 0) _ rfl (hh _) Tryd.underlying25 rfl (by kernel_rfl)) rfl ?_
      have e : decide (0 < n) = false := by simp; omega
      exact ⟨_, rfl, by rw [e]; exact IntR.below fit (fin _), fin _⟩
end Go.Proofs.YtihjaakkpnjolaaDoor
