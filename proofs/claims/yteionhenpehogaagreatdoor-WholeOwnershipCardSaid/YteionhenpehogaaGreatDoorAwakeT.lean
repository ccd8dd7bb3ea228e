import Derived.Test.YteionhenpehogaaGreatDoorAwakeZ
namespace Tally
open Graph.Plain (ReachF IsReach)
open Go.Proofs.YteionhenpehogaaGreatDoor (dirE dirE_pos)
def bwH : Hds := ⟨fun i => [0, 1].getD i 0, fun i => [1, 2].getD i 0, fun i => [6000, 5000].getD i 0, fun _ => 0⟩
theorem bwH_valid : bwH.valid ((3 : Nat) : Int) 2 := by
 refine valid_own (by decide) (by decide) (by decide) ?_ ?_
 ·intro i hi
  match i, hi with
  | 0, _ => exact ⟨by decide, fun j hj => absurd hj (Nat.not_lt_zero _)⟩
  | 1, _ =>
   exact ⟨by decide, fun j hj => by
    obtain rfl : j = 0 := by omega
    decide⟩
 ·intro i hi
  match i, hi with
  | 0, _ => decide
  | 1, _ => decide
theorem bw01 : bwH.at ((0 : Nat) : Int) ((1 : Nat) : Int) 0 2 = 6000 := by decide
theorem bw02 : bwH.at ((0 : Nat) : Int) ((2 : Nat) : Int) 0 2 = 0 := by decide
theorem bw11 : bwH.at ((1 : Nat) : Int) ((1 : Nat) : Int) 0 2 = 0 := by decide
theorem bw12 : bwH.at ((1 : Nat) : Int) ((2 : Nat) : Int) 0 2 = 5000 := by decide
theorem bw21 : bwH.at ((2 : Nat) : Int) ((1 : Nat) : Int) 0 2 = 0 := by decide
theorem bw22 : bwH.at ((2 : Nat) : Int) ((2 : Nat) : Int) 0 2 = 0 := by decide
theorem bw_sol {o : Nat → Bool} {x : Nat → Rat} (ho : IsReach 3 (inner fun h e => bwH.at (h : Nat) (e : Nat) 0 2) (direct 3 (dirE 3 fun h e => bwH.at (h : Nat) (e : Nat) 0 2)) o)
  (hs : Sol 3 (fun h e => bwH.at (h : Nat) (e : Nat) 0 2) (dirE 3 fun h e => bwH.at (h : Nat) (e : Nat) 0 2) o x) : x 2 = 3 / 10 := by
 have o1 : o 1 = true := ho.init 1 (by decide) ⟨by decide, by decide, by rw [dirE_pos (by decide)]; exact (by rw [bw01]; decide)⟩
 have o2 : o 2 = true := ho.closed 1 2 (by decide) (by decide) o1 (by rw [inner_pos (by decide) (by decide)]; exact (by rw [bw12]; decide))
 have o0 : o 0 = false := by
  cases h : o 0 with
  | false => rfl
  | true => exact absurd (reach_pos ho (by decide) h) (by decide)
 have x0 := hs.1 0 (by decide) o0
 have e1 := hs.2 1 (by decide) o1
 have e2 := hs.2 2 (by decide) o2
 simp only [sumTo, x0, Rat.mul_zero] at e1 e2
 rw [dirE_pos (by decide)] at e1 e2
 have p6 : part 6000 = 3 / 5 := by decide +kernel
 have p5 : part 5000 = 1 / 2 := by decide +kernel
 have p0 : part 0 = 0 := part_zero
 have bw02' : bwH.at (0 : Int) 2 0 2 = 0 := bw02
 simp only [bw01, bw02, bw11, bw12, bw21, bw22, p6, p5, p0] at e1 e2
 grind
end Tally
namespace Go.Proofs.YteionhenpehogaaGreatDoor
open Go.RowKit Tally
theorem bwH_wf : Hwf bwH 2 := by
 intro i hi
 match i, hi with
 | 0, _ => exact ⟨by decide, by decide, by decide, by decide⟩
 | 1, _ => exact ⟨by decide, by decide, by decide, by decide⟩
theorem bw_hold {w : World} {b : Nat} {T : TypeId} (h : w.heap[b]? = some (.cells #[.int .i64 0, .int .i64 1, .int .i64 0, .int .i64 6000, .int .i64 1, .int .i64 2, .int .i64 0, .int .i64 5000] T (0, 0))) : HoldR w (.slice (some ⟨b, 0, none⟩) 2 2) 2 bwH := by
 refine ⟨_, b, 0, 2, rfl, by decide, by decide, by decide, fun _ => rfl, fun i hi => ?_⟩
 match i, hi with
 | 0, _ => exact ⟨by rw [Lib.cell_of_heap h]; rfl, by rw [Lib.cell_of_heap h]; rfl, by rw [Lib.cell_of_heap h]; rfl, by rw [Lib.cell_of_heap h]; rfl⟩
 | 1, _ => exact ⟨by rw [Lib.cell_of_heap h]; rfl, by rw [Lib.cell_of_heap h]; rfl, by rw [Lib.cell_of_heap h]; rfl, by rw [Lib.cell_of_heap h]; rfl⟩
set_option maxHeartbeats 4000000 in
set_option maxRecDepth 100000 in
theorem tawake_any {w : World} (ht : Tab w) :
  Calls Tryz.prog 15 #[] w fun e w' => e = .returned (.bool true) ∧ Below w.heap.size w w' := by
 have HT := Lib.hid ht
 clear ht
 go_enter Tryz.func15, Tryz.ntmps15
 go_wp2_with fail
 obtain ⟨W1, hW, hs, hb, b0⟩ := alloc1 w (.cells #[.int .i64 0, .int .i64 1, .int .i64 0, .int .i64 6000, .int .i64 1, .int .i64 2, .int .i64 0, .int .i64 5000] 24)
 rw [← hW]
 have HH := Lib.hid (bw_hold b0)
 have HB := Lib.hid hb
 clear hW hs hb b0
 refine (eff_yes (N := 3) (H := bwH) (day := 0) HH.out bwH_wf bwH_valid (by decide)).mono ?_
 rintro en w2 ⟨a, c, o, x, rfl, ho, hx, hg, hr, hb⟩
 have e2 := bw_sol ho hx
 obtain ⟨k1, k2, b1, o1, h3, h4⟩ := hr.parts
 obtain rfl := h3 (by omega)
 obtain ⟨x2, ⟨z0, z1, z2, z3⟩, q2⟩ := h4 2 (by omega)
 have HX2 := Lib.hid (show RatN w2 x2 (3 / 10) from by have h := q2; rw [if_neg (by omega), e2] at h; exact h)
 have HB2 := Lib.hid (bt HB.out hb)
 clear ho hx hg hr hb e2 h3 h4 q2 HH
 have t2 : ratText (3 / 10) = ⟨#[51, 47, 49, 48]⟩ := by decide +kernel
 have T2 := Lib.hid t2
 clear t2
 go_wp2_with fail
 refine (rattext_any (N := 3) HX2.out (HT.out.below HB2.out) (Rg.of (by constructor <;> decide +kernel)) (by omega)).mono ?_
 rintro en w4 ⟨rfl, hb⟩
 rw [T2.out]
 have HB4 := Lib.hid (bt HB2.out hb)
 clear hb z0 z1 z2 z3
 go_wp2
 go_ret
 exact ⟨rfl, HB4.out⟩
end Go.Proofs.YteionhenpehogaaGreatDoor
