/- The example of layer 22: awake gives true. -/
import Derived.Test.YtjphfdlpcakpeaaGreatDoorLinR
import Derived.Test.YtjphfdlpcakpeaaGreatDoorLinN
import Derived.Test.YtjphfdlpcakpeaaGreatDoorPlainZ
namespace Go.Proofs.YtjphfdlpcakpeaaGreatDoor
open Go.RowKit Tally

theorem two_cells {w : World} {g : Nat} {u v : Value} {T : TypeId} (h : w.heap[g]? = some (.cells #[u, v] T (0, 0))) : w.cell? ⟨g, 0, none⟩ = some u ∧ w.cell? ⟨g, 1, none⟩ = some v := by
  constructor <;> rw [Lib.cell_of_heap h] <;> rfl
theorem row_two {w : World} {g : Nat} {z : Nat → Int} {T : TypeId} (h : w.heap[g]? = some (.cells #[.int .i16 (z 0), .int .i16 (z 1)] T (0, 0))) : RowR w (.slice (some ⟨g, 0, none⟩) 2 2) 2 fun k => .int .i16 (z k) := by
  obtain ⟨h0, h1⟩ := two_cells h
  refine ⟨_, g, 0, 2, rfl, Nat.le_refl _, by decide, fun _ => rfl, fun i hi => ?_⟩
  match i, hi with
  | 0, _ => exact h0
  | 1, _ => exact h1
theorem mats_two {w : World} {g n : Nat} {u v : Value} {A : Mx} {T : TypeId} (h : w.heap[g]? = some (.cells #[u, v] T (0, 0))) (hu : RatsR w u n (A 0)) (hv : RatsR w v n (A 1)) : MatsR w (.slice (some ⟨g, 0, none⟩) 2 2) 2 (fun _ => n) A := by
  obtain ⟨h0, h1⟩ := two_cells h
  refine ⟨[u, v], rfl, ⟨_, g, 0, 2, rfl, Nat.le_refl _, by decide, fun _ => rfl, fun k x hx => ?_⟩, fun i x hx => ?_⟩
  · match k, hx with
    | 0, hx => obtain rfl : u = x := by simpa using hx
               exact h0
    | 1, hx => obtain rfl : v = x := by simpa using hx
               exact h1
  · match i, hx with
    | 0, hx => obtain rfl : u = x := by simpa using hx
               exact hu
    | 1, hx => obtain rfl : v = x := by simpa using hx
               exact hv

theorem eRg : Rg 1 (Rat.divInt 1 5) ∧ Rg 1 (Rat.divInt 3 5) ∧ Rg 1 5 := by
  refine ⟨⟨?_, ?_⟩, ⟨?_, ?_⟩, ⟨?_, ?_⟩⟩ <;> first | decide +kernel | (unfold Dg; decide +kernel)
theorem eText : ratText (Rat.divInt 1 5) = ⟨#[49, 47, 53]⟩ ∧ ratText (Rat.divInt 3 5) = ⟨#[51, 47, 53]⟩ ∧ ratText 5 = ⟨#[53]⟩ := by
  refine ⟨?_, ?_, ?_⟩ <;> decide +kernel

set_option maxHeartbeats 4000000 in
set_option maxRecDepth 100000 in
theorem awake22_any {w : World} (ht : Tab w) : Calls Tryz.prog 6 #[] w fun e w' => e = .returned (.bool true) ∧ Below w.heap.size w w' := by
  have HT := Lib.hid ht
  clear ht
  go_enter Tryz.func6, Tryz.ntmps6
  go_wp2_with fail
  have HB0 := Lib.hid (Below.refl w.heap.size w)
  obtain ⟨W1, hW, hs, hb, hx⟩ := alloc1 w (.cells #[.int .i16 2, .int .i16 1] 66)
  rw [← hW]
  have HA1 := Lib.hid hb
  have HR1 := Lib.hid (row_two (z := eZ 0) hx)
  have hz1 : ∀ i, i < 2 → -32768 ≤ (eZ 0) i ∧ (eZ 0) i ≤ 32767 := by decide
  have HZ1 := Lib.hid hz1
  clear hW hs hb hx hz1
  refine (numbers_any (d := 1) HR1.out HZ1.out (by decide) (by decide)).mono ?_
  rintro e V1 ⟨a1, c1, rfl, hx, hb⟩
  have HV1 := Lib.hid (bt HA1.out hb)
  have HX1 := Lib.hid hx
  clear hx hb HR1 HZ1
  go_wp2_with fail
  have HB1 := Lib.hid (bt HB0.out HV1.out)
  obtain ⟨W2, hW, hs, hb, hx⟩ := alloc1 V1 (.cells #[.int .i16 1, .int .i16 3] 66)
  rw [← hW]
  have HA2 := Lib.hid hb
  have HR2 := Lib.hid (row_two (z := eZ 1) hx)
  have hz2 : ∀ i, i < 2 → -32768 ≤ (eZ 1) i ∧ (eZ 1) i ≤ 32767 := by decide
  have HZ2 := Lib.hid hz2
  clear hW hs hb hx hz2
  refine (numbers_any (d := 1) HR2.out HZ2.out (by decide) (by decide)).mono ?_
  rintro e V2 ⟨a2, c2, rfl, hx, hb⟩
  have HV2 := Lib.hid (bt HA2.out hb)
  have HX2 := Lib.hid hx
  clear hx hb HR2 HZ2
  go_wp2_with fail
  have HB2 := Lib.hid (bt HB1.out HV2.out)
  obtain ⟨W3, hW, hs, hb, hx⟩ := alloc1 V2 (.cells #[.slice a1 2 c1, .slice a2 2 c2] 32)
  rw [← hW]
  have HM := Lib.hid (mats_two (A := eA) hx ((HX1.out.below HV2.out).below hb) (HX2.out.below hb))
  have HB3 := Lib.hid (bt HB2.out hb)
  have HS3 := Lib.hid hs
  clear hW hs hb hx HX1 HX2
  obtain ⟨W4, hW, hs, hb, hx⟩ := alloc1 W3 (.cells #[.int .i16 1, .int .i16 2] 66)
  rw [← hW]
  have HA4 := Lib.hid hb
  rw [HS3.out] at hx
  have HR4 := Lib.hid (row_two (z := eY) hx)
  have hz4 : ∀ i, i < 2 → -32768 ≤ (eY) i ∧ (eY) i ≤ 32767 := by decide
  have HZ4 := Lib.hid hz4
  clear hW hs hb hx hz4
  refine (numbers_any (d := 1) HR4.out HZ4.out (by decide) (by decide)).mono ?_
  rintro e V4 ⟨a4, c4, rfl, hx, hb⟩
  have HV4 := Lib.hid (bt HA4.out hb)
  have HX4 := Lib.hid hx
  clear hx hb HR4 HZ4
  go_wp2_with fail
  have HB4 := Lib.hid (bt HB3.out HV4.out)
  replace HM := Lib.hid (HM.out.below HV4.out)
  have hmat : IsMat 2 (fun _ => 2) := ⟨fun i hi => rfl, by decide, by decide⟩
  have HI := Lib.hid hmat
  have HD := Lib.hid e_wide
  clear hmat
  refine (solve_yes (y := eB) HM.out HI.out rfl HX4.out HD.out (by decide)).mono ?_
  rintro e w1 ⟨s, hrun, hb, hor⟩
  have hr := e_rank hrun
  obtain ⟨q0, q1⟩ := e_sol hrun
  rcases hor with ⟨hlt, _⟩ | ⟨_, a5, c5, rfl, hx5⟩
  · exfalso; omega
  have HB5 := Lib.hid (bt HB4.out hb)
  replace HM := Lib.hid (HM.out.below hb)
  have HX5 := Lib.hid hx5
  have Q0 := Lib.hid q0
  have Q1 := Lib.hid q1
  clear hrun hb hx5 q0 q1 hr HD
  have HD := Lib.hid e_rows
  go_wp2_with fail
  refine (det_yes HM.out HI.out rfl HD.out (by decide)).mono ?_
  rintro e w2 ⟨n6, a6, k6, c6, n7, a7, k7, c7, rfl, hd, hb⟩
  have HB6 := Lib.hid (bt HB5.out hb)
  have HX6 := Lib.hid (HX5.out.below hb)
  have HDD := Lib.hid (hd.as e_det)
  clear hd hb HM HI HD HX5 HX4
  obtain ⟨_, _, b8, o8, p3, p4⟩ := HX6.out.parts
  obtain rfl := p3 (by decide)
  obtain ⟨x, ⟨x0, x1, x2, x3⟩, hx⟩ := p4 0 (by decide)
  obtain ⟨y, ⟨y0, y1, y2, y3⟩, hy⟩ := p4 1 (by decide)
  have HX := Lib.hid (RatR.as (show RatR w2 (.agg #[.bool x.n1, .slice x.a1 x.k1 x.c1, .bool x.n2, .slice x.a2 x.k2 x.c2]) _ from hx) Q0.out)
  have HY := Lib.hid (RatR.as (show RatR w2 (.agg #[.bool y.n1, .slice y.a1 y.k1 y.c1, .bool y.n2, .slice y.a2 y.k2 y.c2]) _ from hy) Q1.out)
  clear p3 p4 hx hy Q0 Q1
  simp only [Nat.zero_mul, Nat.add_zero, Nat.one_mul] at x0 x1 x2 x3 y0 y1 y2 y3
  have hlt := World.block_lt_of_cell? _ _ x0
  go_wp2_with fail
  obtain ⟨w3, hW, hs, hb, hx⟩ := alloc1 w2 (.cells #[.bool n6, .slice a6 k6 c6, .bool n7, .slice a7 k7 c7] 47)
  rw [← hW]
  have HB7 := Lib.hid (bt HB6.out hb)
  have x0' := keepc hb x0
  have x1' := keepc hb x1
  replace y0 := keepc hb y0
  replace y1 := keepc hb y1
  replace y2 := keepc hb y2
  replace y3 := keepc hb y3
  replace HX := Lib.hid (HX.out.below hb)
  replace HY := Lib.hid (HY.out.below hb)
  replace HDD := Lib.hid (HDD.out.below hb)
  have HC := Lib.hid hx
  clear hW hs hb hx x0 x1 x2 x3 x0' x1'
  refine (rattext_any HX.out (HT.out.below HB7.out) eRg.1 (by decide)).mono ?_
  rintro e w4 ⟨rfl, hb⟩
  rw [eText.1]
  replace y0 := keepc hb y0
  replace y1 := keepc hb y1
  replace y2 := keepc hb y2
  replace y3 := keepc hb y3
  replace HB7 := Lib.hid (bt HB7.out hb)
  replace HY := Lib.hid (HY.out.below hb)
  replace HDD := Lib.hid (HDD.out.below hb)
  replace HC := Lib.hid (blk_next HC.out hb)
  clear hb HX
  go_wp2_with fail
  refine (rattext_any HY.out (HT.out.below HB7.out) eRg.2.1 (by decide)).mono ?_
  rintro e w5 ⟨rfl, hb⟩
  rw [eText.2.1]
  replace HB7 := Lib.hid (bt HB7.out hb)
  replace HDD := Lib.hid (HDD.out.below hb)
  replace HC := Lib.hid (blk_next HC.out hb)
  clear hb HY y0 y1 y2 y3
  obtain ⟨⟨d0, d1, d2, d3⟩, _, _, _, _⟩ := res4_facts HC.out
  go_wp2_with fail
  refine (rattext_any HDD.out (HT.out.below HB7.out) eRg.2.2 (by decide)).mono ?_
  rintro e w6 ⟨rfl, hb⟩
  rw [eText.2.2]
  replace HB7 := Lib.hid (bt HB7.out hb)
  clear hb HDD HC d0 d1 d2 d3
  go_wp2
  go_ret
  exact ⟨rfl, HB7.out⟩
end Go.Proofs.YtjphfdlpcakpeaaGreatDoor
