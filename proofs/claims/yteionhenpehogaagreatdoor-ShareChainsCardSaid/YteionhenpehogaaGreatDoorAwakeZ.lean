import Derived.Test.YteionhenpehogaaGreatDoorRMatN
import Derived.Test.YteionhenpehogaaGreatDoorRRatT
import Derived.Test.YteionhenpehogaaGreatDoorSolveZ
import Derived.Test.YteionhenpehogaaGreatDoorRatD
import Derived.Test.YteionhenpehogaaGreatDoorPlainSS
import Derived.Test.YteionhenpehogaaGreatDoorMatrixZ
namespace Go.Proofs.YteionhenpehogaaGreatDoor
open Go.RowKit Tally
def HoldIn (W : World) (v : Value) (k : Nat) (H : Hds) : Prop := (∃ a c, v = .slice a k c ∧ k ≤ 9223372036854775807) ∧ (k ≤ 30 → HoldR W v k H) ∧ Hwf H k
set_option maxHeartbeats 1000000 in
theorem sfew_any {w : World} {a : Option Addr} {k c : Nat} {n : Int} :
  Calls Tryz.prog 48 #[.int .i64 n, .slice a k c] w fun e w' => e = .returned (.bool (decide (n ≤ 8 ∧ k ≤ 30))) ∧ w' = w := by
 by_cases h1 : n ≤ 8
 ·by_cases h2 : (k : Int) ≤ 30
  ·have h3 : k ≤ 30 := by omega
   rw [decide_eq_true (show n ≤ 8 ∧ k ≤ 30 from ⟨h1, h3⟩)]
   go_enter Tryz.func48, Tryz.ntmps48
   go_wp2
   go_ret
   exact ⟨rfl, rfl⟩
  ·have h3 : ¬ k ≤ 30 := by omega
   rw [decide_eq_false (show ¬ (n ≤ 8 ∧ k ≤ 30) from fun h => h3 h.2)]
   go_enter Tryz.func48, Tryz.ntmps48
   go_wp2
   go_ret
   exact ⟨rfl, rfl⟩
 ·rw [decide_eq_false (show ¬ (n ≤ 8 ∧ k ≤ 30) from fun h => h1 h.1)]
  go_enter Tryz.func48, Tryz.ntmps48
  go_wp2
  go_ret
  exact ⟨rfl, rfl⟩
set_option maxHeartbeats 4000000 in
set_option maxRecDepth 100000 in
theorem ssame_yes {w : World} {v u : Value} {n N : Nat} {f : Nat → Rat} (hx : RatsR w v n f) (hy : rRatsR w u n f) (rf : ∀ k, k < n → Rg N (f k)) (hN : N ≤ 1000000000000) (ht : Tab w) :
  Calls Tryz.prog 50 #[v, u] w fun e w' => e = .returned (.bool true) ∧ Below w.heap.size w w' := by
 obtain ⟨a, c, rfl⟩ := hx.shape
 obtain ⟨a2, c2, rfl⟩ := hy.shape
 obtain ⟨h1, h2, b, o, h3, h4⟩ := hx.parts
 obtain ⟨k1, k2, b2, o2, k3, k4⟩ := hy.parts
 have H3 := Lib.hid h3
 have H4 := Lib.hid h4
 have K3 := Lib.hid k3
 have K4 := Lib.hid k4
 have RF := Lib.hid rf
 have HT := Lib.hid ht
 clear hx hy h3 h4 k3 k4 rf ht
 have hq : ((n : Int) == (n : Int)) = true := beq_self_eq_true _
 go_enter Tryz.func50, Tryz.ntmps50
 go_wp2_with fail
 go_loopw [5] (fun i wr => ∃ (k : Nat), i = .int .i64 k ∧ k ≤ n ∧ Below w.heap.size w wr) (fun i _ => n - (intOf i).toNat)
 case atStart => exact ⟨0, rfl, by omega, Below.refl _ _⟩
 case round =>
  obtain ⟨k, rfl, hk, hbr⟩ := hrel
  have HB := Lib.hid hbr
  clear hbr
  by_cases hkn : k = n
  ·obtain rfl : n = k := hkn.symm
   go_wp2
   go_ret
   exact ⟨rfl, HB.out⟩
  have hkl : k < n := by omega
  have hki : (k : Int) < (n : Int) := by omega
  obtain rfl := H3.out (by omega)
  obtain rfl := K3.out (by omega)
  obtain ⟨x, hx4, hxq⟩ := H4.out k hkl
  obtain ⟨y, hy4, hyq⟩ := K4.out k hkl
  obtain ⟨x0, x1, x2, x3⟩ := hx4.at HB.out
  obtain ⟨y0, y1, y2, y3⟩ := hy4.at HB.out
  have HX := Lib.hid (show RatR wr (.agg #[.bool x.n1, .slice x.a1 x.k1 x.c1, .bool x.n2, .slice x.a2 x.k2 x.c2]) (f k) from RatR.below hxq HB.out)
  have HY := Lib.hid (show RRatR wr (.agg #[.bool y.n1, .slice y.a1 y.k1 y.c1, .bool y.n2, .slice y.a2 y.k2 y.c2]) (f k) from RRatR.below hyq HB.out)
  have r1 := RF.out k hkl
  have HTr := Lib.hid (HT.out.below HB.out)
  obtain ⟨X, hX⟩ : ∃ X : ByteArray, ratText (f k) = X := ⟨_, rfl⟩
  have HXX := Lib.hid hX
  clear hx4 hxq hy4 hyq hX
  go_wp2_with fail
  have HL := Lib.hid (fun (w' : World) (hb : Below wr.heap.size wr w') => (⟨hb, keepc hb x0, keepc hb x1, keepc hb x2, keepc hb x3, keepc hb y0, keepc hb y1, keepc hb y2, keepc hb y3⟩ : Below wr.heap.size wr w' ∧ w'.cell? ⟨b, o + k * 4, none⟩ = some (.bool x.n1) ∧ w'.cell? ⟨b, o + k * 4 + 1, none⟩ = some (.slice x.a1 x.k1 x.c1) ∧ w'.cell? ⟨b, o + k * 4 + 2, none⟩ = some (.bool x.n2) ∧ w'.cell? ⟨b, o + k * 4 + 3, none⟩ = some (.slice x.a2 x.k2 x.c2) ∧ w'.cell? ⟨b2, o2 + k * 4, none⟩ = some (.bool y.n1) ∧ w'.cell? ⟨b2, o2 + k * 4 + 1, none⟩ = some (.slice y.a1 y.k1 y.c1) ∧ w'.cell? ⟨b2, o2 + k * 4 + 2, none⟩ = some (.bool y.n2) ∧ w'.cell? ⟨b2, o2 + k * 4 + 3, none⟩ = some (.slice y.a2 y.k2 y.c2)))
  have HI := Lib.hid (fun (w' : World) (hs : Below wr.heap.size wr w' ∧ w'.cell? ⟨b, o + k * 4, none⟩ = some (.bool x.n1) ∧ w'.cell? ⟨b, o + k * 4 + 1, none⟩ = some (.slice x.a1 x.k1 x.c1) ∧ w'.cell? ⟨b, o + k * 4 + 2, none⟩ = some (.bool x.n2) ∧ w'.cell? ⟨b, o + k * 4 + 3, none⟩ = some (.slice x.a2 x.k2 x.c2) ∧ w'.cell? ⟨b2, o2 + k * 4, none⟩ = some (.bool y.n1) ∧ w'.cell? ⟨b2, o2 + k * 4 + 1, none⟩ = some (.slice y.a1 y.k1 y.c1) ∧ w'.cell? ⟨b2, o2 + k * 4 + 2, none⟩ = some (.bool y.n2) ∧ w'.cell? ⟨b2, o2 + k * 4 + 3, none⟩ = some (.slice y.a2 y.k2 y.c2)) => hs.1)
  have HS := Lib.hid (Below.refl wr.heap.size wr)
  go_region_held3 (fun w' => Below wr.heap.size wr w' ∧ w'.cell? ⟨b, o + k * 4, none⟩ = some (.bool x.n1) ∧ w'.cell? ⟨b, o + k * 4 + 1, none⟩ = some (.slice x.a1 x.k1 x.c1) ∧ w'.cell? ⟨b, o + k * 4 + 2, none⟩ = some (.bool x.n2) ∧ w'.cell? ⟨b, o + k * 4 + 3, none⟩ = some (.slice x.a2 x.k2 x.c2) ∧ w'.cell? ⟨b2, o2 + k * 4, none⟩ = some (.bool y.n1) ∧ w'.cell? ⟨b2, o2 + k * 4 + 1, none⟩ = some (.slice y.a1 y.k1 y.c1) ∧ w'.cell? ⟨b2, o2 + k * 4 + 2, none⟩ = some (.bool y.n2) ∧ w'.cell? ⟨b2, o2 + k * 4 + 3, none⟩ = some (.slice y.a2 y.k2 y.c2))
   (first | assumption | with_reducible exact HL.out _ (Below.drew HS.out) | with_reducible exact HL.out _ (bt (HI.out _ (by assumption)) (by assumption)))
   (first | (go_at_call 62; (with_reducible refine (rattext_any (HX.out.below (HI.out _ (by assumption))) (HTr.out.below (HI.out _ (by assumption))) r1 hN).mono ?_); rintro e w1 ⟨rfl, hb1⟩; rw [HXX.out]) | (go_at_call 90; (with_reducible refine (rrattext_any (HY.out.below (HI.out _ (by assumption))) r1 hN).mono ?_); rintro e w2 ⟨rfl, hb2⟩; rw [HXX.out]))
  have HB1 := Lib.hid (bt HB.out (bt (bt (Below.drew HS.out) hb1) hb2))
  clear x0 x1 x2 x3 y0 y1 y2 y3 hb1 hb2 HL HI HS
  go_wp2
  refine ⟨⟨k + 1, by go_num, by omega, HB1.out⟩, ?_⟩
  simp [intOf]; omega
end Go.Proofs.YteionhenpehogaaGreatDoor
namespace Tally
open Graph.Plain (ReachF IsReach)
open Go.Proofs.YteionhenpehogaaGreatDoor (dirE dirE_pos)
def awH : Hds := ⟨fun i => [0, 1, 2].getD i 0, fun i => [1, 2, 1].getD i 0, fun i => [8000, 5000, 1000].getD i 0, fun _ => 0⟩
theorem awH_valid : awH.valid ((3 : Nat) : Int) 3 := by
 refine valid_own (by decide) (by decide) (by decide) ?_ ?_
 ·intro i hi
  match i, hi with
  | 0, _ => exact ⟨by decide, fun j hj => absurd hj (Nat.not_lt_zero _)⟩
  | 1, _ => exact ⟨by decide, fun j hj => by
                        obtain rfl : j = 0 := by omega
                        decide⟩
  | 2, _ => exact ⟨by decide, fun j hj => by
    match j, hj with
    | 0, _ => decide
    | 1, _ => decide⟩
 ·intro i hi
  match i, hi with
  | 0, _ => decide
  | 1, _ => decide
  | 2, _ => decide
theorem aw01 : awH.at ((0 : Nat) : Int) ((1 : Nat) : Int) 0 3 = 8000 := by decide
theorem aw02 : awH.at ((0 : Nat) : Int) ((2 : Nat) : Int) 0 3 = 0 := by decide
theorem aw11 : awH.at ((1 : Nat) : Int) ((1 : Nat) : Int) 0 3 = 0 := by decide
theorem aw12 : awH.at ((1 : Nat) : Int) ((2 : Nat) : Int) 0 3 = 5000 := by decide
theorem aw21 : awH.at ((2 : Nat) : Int) ((1 : Nat) : Int) 0 3 = 1000 := by decide
theorem aw22 : awH.at ((2 : Nat) : Int) ((2 : Nat) : Int) 0 3 = 0 := by decide
theorem aw_sol {o : Nat → Bool} {x : Nat → Rat} (ho : IsReach 3 (inner fun h e => awH.at (h : Nat) (e : Nat) 0 3) (direct 3 (dirE 3 fun h e => awH.at (h : Nat) (e : Nat) 0 3)) o)
  (hs : Sol 3 (fun h e => awH.at (h : Nat) (e : Nat) 0 3) (dirE 3 fun h e => awH.at (h : Nat) (e : Nat) 0 3) o x) : x 1 = 16 / 19 ∧ x 2 = 8 / 19 := by
 have o1 : o 1 = true := ho.init 1 (by decide) ⟨by decide, by decide, by rw [dirE_pos (by decide)]; exact (by rw [aw01]; decide)⟩
 have o2 : o 2 = true := ho.closed 1 2 (by decide) (by decide) o1 (by rw [inner_pos (by decide) (by decide)]; exact (by rw [aw12]; decide))
 have o0 : o 0 = false := by
  cases h : o 0 with
  | false => rfl
  | true => exact absurd (reach_pos ho (by decide) h) (by decide)
 have x0 := hs.1 0 (by decide) o0
 have e1 := hs.2 1 (by decide) o1
 have e2 := hs.2 2 (by decide) o2
 simp only [sumTo, x0, Rat.mul_zero] at e1 e2
 rw [dirE_pos (by decide)] at e1 e2
 have p8 : part 8000 = 4 / 5 := by decide +kernel
 have p5 : part 5000 = 1 / 2 := by decide +kernel
 have p1 : part 1000 = 1 / 10 := by decide +kernel
 have p0 : part 0 = 0 := part_zero
 have aw02' : awH.at (0 : Int) 2 0 3 = 0 := aw02
 simp only [aw01, aw02, aw11, aw12, aw21, aw22, p8, p5, p1, p0] at e1 e2
 constructor <;> grind
end Tally
namespace Go.Proofs.YteionhenpehogaaGreatDoor
open Go.RowKit Tally
theorem awH_wf : Hwf awH 3 := by
 intro i hi
 match i, hi with
 | 0, _ => exact ⟨by decide, by decide, by decide, by decide⟩
 | 1, _ => exact ⟨by decide, by decide, by decide, by decide⟩
 | 2, _ => exact ⟨by decide, by decide, by decide, by decide⟩
theorem aw_hold {w : World} {b : Nat} {T : TypeId} (h : w.heap[b]? = some (.cells #[.int .i64 0, .int .i64 1, .int .i64 0, .int .i64 8000, .int .i64 1, .int .i64 2, .int .i64 0, .int .i64 5000, .int .i64 2, .int .i64 1, .int .i64 0, .int .i64 1000] T (0, 0))) : HoldR w (.slice (some ⟨b, 0, none⟩) 3 3) 3 awH := by
 refine ⟨_, b, 0, 3, rfl, by decide, by decide, by decide, fun _ => rfl, fun i hi => ?_⟩
 match i, hi with
 | 0, _ => exact ⟨by rw [Lib.cell_of_heap h]; rfl, by rw [Lib.cell_of_heap h]; rfl, by rw [Lib.cell_of_heap h]; rfl, by rw [Lib.cell_of_heap h]; rfl⟩
 | 1, _ => exact ⟨by rw [Lib.cell_of_heap h]; rfl, by rw [Lib.cell_of_heap h]; rfl, by rw [Lib.cell_of_heap h]; rfl, by rw [Lib.cell_of_heap h]; rfl⟩
 | 2, _ => exact ⟨by rw [Lib.cell_of_heap h]; rfl, by rw [Lib.cell_of_heap h]; rfl, by rw [Lib.cell_of_heap h]; rfl, by rw [Lib.cell_of_heap h]; rfl⟩
set_option maxHeartbeats 4000000 in
set_option maxRecDepth 100000 in
theorem sawake_any {w : World} (ht : Tab w) :
  Calls Tryz.prog 47 #[] w fun e w' => e = .returned (.bool true) ∧ Below w.heap.size w w' := by
 have HT := Lib.hid ht
 clear ht
 go_enter Tryz.func47, Tryz.ntmps47
 go_wp2_with fail
 obtain ⟨W1, hW, hs, hb, b0⟩ := alloc1 w (.cells #[.int .i64 0, .int .i64 1, .int .i64 0, .int .i64 8000, .int .i64 1, .int .i64 2, .int .i64 0, .int .i64 5000, .int .i64 2, .int .i64 1, .int .i64 0, .int .i64 1000] 24)
 rw [← hW]
 have HH := Lib.hid (aw_hold b0)
 have HB := Lib.hid hb
 clear hW hs hb b0
 refine (eff_yes (N := 3) (H := awH) (day := 0) HH.out awH_wf awH_valid (by decide)).mono ?_
 rintro en w2 ⟨a, c, o, x, rfl, ho, hx, hg, hr, hb⟩
 obtain ⟨e1, e2⟩ := aw_sol ho hx
 obtain ⟨k1, k2, b1, o1, h3, h4⟩ := hr.parts
 obtain rfl := h3 (by omega)
 obtain ⟨x1, ⟨y0, y1, y2, y3⟩, q1⟩ := h4 1 (by omega)
 obtain ⟨x2, ⟨z0, z1, z2, z3⟩, q2⟩ := h4 2 (by omega)
 have HX1 := Lib.hid (show RatN w2 x1 (16 / 19) from by have h := q1; rw [if_neg (by omega), e1] at h; exact h)
 have HX2 := Lib.hid (show RatN w2 x2 (8 / 19) from by have h := q2; rw [if_neg (by omega), e2] at h; exact h)
 have HB2 := Lib.hid (bt HB.out hb)
 clear ho hx hg hr hb e1 e2 h3 h4 q1 q2 HH
 have t1 : ratText (16 / 19) = ⟨#[49, 54, 47, 49, 57]⟩ := by decide +kernel
 have t2 : ratText (8 / 19) = ⟨#[56, 47, 49, 57]⟩ := by decide +kernel
 have T1 := Lib.hid t1
 have T2 := Lib.hid t2
 clear t1 t2
 go_wp2_with fail
 refine (rattext_any (N := 3) HX1.out (HT.out.below HB2.out) (Rg.of (by constructor <;> decide +kernel)) (by omega)).mono ?_
 rintro en w3 ⟨rfl, hb⟩
 have HX3 := Lib.hid (show RatN w3 x2 (8 / 19) from RatR.below HX2.out hb)
 have HB3 := Lib.hid (bt HB2.out hb)
 replace z0 := keepc hb z0
 replace z1 := keepc hb z1
 replace z2 := keepc hb z2
 replace z3 := keepc hb z3
 rw [T1.out]
 clear hb y0 y1 y2 y3
 go_wp2_with fail
 refine (rattext_any (N := 3) HX3.out (HT.out.below HB3.out) (Rg.of (by constructor <;> decide +kernel)) (by omega)).mono ?_
 rintro en w4 ⟨rfl, hb⟩
 rw [T2.out]
 have HB4 := Lib.hid (bt HB3.out hb)
 clear hb z0 z1 z2 z3
 go_wp2
 go_ret
 exact ⟨rfl, HB4.out⟩
end Go.Proofs.YteionhenpehogaaGreatDoor
namespace Go.Proofs.YteionhenpehogaaGreatDoor
open Go.RowKit Tally Go.Lib
theorem MatZ.look {w : World} {am : Option Addr} {N cm : Nat} {Z : Nat → Nat → Int} (h : MatZ w (.slice am N cm) N N Z) (hN : 0 < N) :
  ∃ b o, am = some ⟨b, o, none⟩ ∧ ∀ i k, i < N → k < N → ∃ b' o' c', w.cell? ⟨b, o + i, none⟩ = some (.slice (some ⟨b', o', none⟩) N c') ∧ w.cell? ⟨b', o' + k, none⟩ = some (.int .i64 (Z i k)) := by
 obtain ⟨_, b, o, _, te, _, _, t5, t6⟩ := h
 injection te with te1 _ te2
 subst te1
 subst te2
 refine ⟨b, o, t5 hN, fun i k hi hk => ?_⟩
 obtain ⟨a', c', q, _, b', o', _, e, _, _, r5, r6⟩ := t6 i hi
 injection e with e1 _ e2
 subst e1
 obtain rfl := r5 hN
 exact ⟨b', o', c', q, r6 k hk⟩
section
variable {w : World} {v u : Value} {p q : Rat} {N : Nat}
theorem add_r (h : RatR w v p) (k : RatR w u q) (hp : Rg N p) (hq : Rg N q) (hN : 2 * N + 2 ≤ 999999999990) : Calls Tryz.prog 28 #[v, u] w (GivesR w (p + q)) := (ratadd_any h k hp hq hN).mono fun _ _ h => h.plain
theorem cmp_r (h : RatR w v p) (k : RatR w u q) (hp : Rg N p) (hq : Rg N q) (hN : 2 * N + 2 ≤ 999999999990) : Calls Tryz.prog 20 #[v, u] w (fun e w' => e = .returned (.int .i64 (cmpQ p q)) ∧ Below w.heap.size w w') := ratcmp_any h k hp hq hN
theorem of_r {n d : Int} (h1 : -9223372036854775808 ≤ n) (h2 : n ≤ 9223372036854775807) (h3 : -9223372036854775808 ≤ d) (h4 : d ≤ 9223372036854775807) (hd : d ≠ 0) : Calls Tryz.prog 26 #[.int .i64 n, .int .i64 d] w (GivesRE w (Rat.divInt n d) 0) := (ratof_any h1 h2 h3 h4 hd).mono fun _ _ h => h.plain
theorem Rg.add (hp : Rg N p) (hq : Rg N q) : Rg (2 * N + 1) (p + q) := Rg.of (by have := fw_add hp.fw hq.fw; rw [show 2 * N + 1 = N + N + 1 by omega]; exact this)
end
end Go.Proofs.YteionhenpehogaaGreatDoor
