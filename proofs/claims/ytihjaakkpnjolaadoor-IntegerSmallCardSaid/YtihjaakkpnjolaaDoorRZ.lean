/- The reference's integers: their parts, and Mul. -/
import Derived.Test.YtihjaakkpnjolaaDoorRMul
import Derived.Test.YtihjaakkpnjolaaDoorAdd
namespace Go.Proofs.YtihjaakkpnjolaaDoor
open Go.RowKit Tally

/-- an integer's parts: sign, limbs, and how they read -/
theorem RefR.parts {w : World} {v : Value} {z : Int} (h : RefR w v z) : ∃ (neg : Bool) (s : Value) (l : List Nat), v = .agg #[.bool neg, s] ∧ QR w s l ∧ Canon 10000 l ∧ (neg = true → l ≠ []) ∧ z = (if neg then -(val 10000 l : Int) else val 10000 l) ∧ z.natAbs = val 10000 l := by
  obtain ⟨neg, s, l, h1, h2, h3, h4, h5⟩ := h
  exact ⟨neg, s, l, h1, h2, h3, h4, h5, abs_of h5⟩

theorem RefR.few {N : Nat} {l : List Nat} {z : Int} (hc : Canon 10000 l) (hz : z.natAbs = val 10000 l) (hd : Dg N z) : l.length ≤ N + 1 :=
  Canon.few (k := 4) (by decide) hc hz hd

/-- what a function that gives an integer leaves -/
def rGivesZ (w : World) (z : Int) (e : Ending) (w' : World) : Prop :=
  ∃ (n : Bool) (a : Option Addr) (k c : Nat), e = .returned (.agg #[.bool n, .slice a k c]) ∧ RefR w' (.agg #[.bool n, .slice a k c]) z ∧ Below w.heap.size w w'

theorem RefR.shape {w : World} {v : Value} {z : Int} (h : RefR w v z) : ∃ (n : Bool) (a : Option Addr) (k c : Nat), v = .agg #[.bool n, .slice a k c] := by
  obtain ⟨neg, s, l, rfl, ⟨a, b, o, c, rfl, _⟩, _⟩ := h
  exact ⟨neg, a, l.length, c, rfl⟩

theorem rsigned_gives {w : World} {v : Value} {l : List Nat} {neg : Bool} (h : QR w v l) (hl : Lim 10000 l) :
    Calls Tryd.prog 69 #[.bool neg, v] w (rGivesZ w (if neg then -(val 10000 l : Int) else val 10000 l)) :=
  (rsigned_any (neg := neg) h hl).mono fun e w' ⟨u, he, hu, hb⟩ => by
    obtain ⟨n, a, k, c, rfl⟩ := hu.shape
    exact ⟨n, a, k, c, he, hu, hb⟩

theorem RefR.set2 {w : World} {v : Value} {z : Int} {r : Nat} {b : Bool} {p : Option Addr} {k c : Nat} {x y : Value} {T : TypeId} (h : RefR w v z)
    (hr : w.heap[r]? = some (.cells #[.bool b, .slice p k c] T (0, 0))) : RefR ((w.setCell ⟨r, 0, none⟩ x).setCell ⟨r, 1, none⟩ y) v z := by
  obtain ⟨neg, s, l, h1, h2, h3⟩ := h
  exact ⟨neg, s, l, h1, RowR.set2 (f := fun i => (l.getD i 0 : Nat)) h2 hr, h3⟩


set_option maxHeartbeats 1000000 in
theorem rmul_any {w : World} {v u : Value} {x y : Int} {N : Nat} (h : RefR w v x) (k : RefR w u y) (hx : Dg N x) (hy : Dg N y) (hN : N ≤ 999999999990) :
    Calls Tryd.prog 20 #[v, u] w (rGivesZ w (x * y)) := by
  obtain ⟨n1, s1, l1, rfl, lr1, c1, g1, z1, a1⟩ := h.parts
  obtain ⟨n2, s2, l2, rfl, lr2, c2, g2, z2, a2⟩ := k.parts
  have f1 := RefR.few c1 a1 hx
  have f2 := RefR.few c2 a2 hy
  have LA : Lim 10000 l1 := c1.1
  have LB : Lim 10000 l2 := c2.1
  have fin : (if (!(n1 == n2)) = true then -((val 10000 l1 * val 10000 l2 : Nat) : Int) else (val 10000 l1 * val 10000 l2 : Nat)) = x * y := by
    subst z1 z2; cases n1 <;> cases n2 <;> simp [Int.natCast_mul, Int.mul_neg, Int.neg_mul]
  have FIN := Lib.hid fin
  clear h k z1 z2 g1 g2 a1 a2 fin hx hy
  have BF := Lib.hid (box2_facts w n1 n2 s1 s2 28)
  go_enter Tryd.func20, Tryd.ntmps20
  go_wp2_with fail
  revert BF
  generalize (((w.alloc (.cells #[.bool n1, s1] 28)).alloc (.cells #[.bool n2, s2] 28)).alloc (.cells #[.bool false, .slice none 0 0] 28)) = W
  intro BF
  have HQ := Lib.hid BF.out.1
  have HG := Lib.hid BF.out.2.2.2.2.2.2
  have HBW := Lib.hid (show w.heap.size + 1 + 1 ≤ W.heap.size by have := BF.out.2.1; omega)
  have HL := Lib.hid (fun (w' : World) (hb : Below (w.heap.size + 1 + 1) W w') => (⟨hb, (hb.cell (p := ⟨w.heap.size, 0, none⟩) (show w.heap.size < w.heap.size + 1 + 1 by omega)).trans BF.out.2.2.1, (hb.cell (p := ⟨w.heap.size, 1, none⟩) (show w.heap.size < w.heap.size + 1 + 1 by omega)).trans BF.out.2.2.2.1, (hb.cell (p := ⟨w.heap.size + 1, 0, none⟩) (show w.heap.size + 1 < w.heap.size + 1 + 1 by omega)).trans BF.out.2.2.2.2.1, (hb.cell (p := ⟨w.heap.size + 1, 1, none⟩) (show w.heap.size + 1 < w.heap.size + 1 + 1 by omega)).trans BF.out.2.2.2.2.2.1⟩ : Below (w.heap.size + 1 + 1) W w' ∧ w'.cell? ⟨w.heap.size, 0, none⟩ = some (.bool n1) ∧ w'.cell? ⟨w.heap.size, 1, none⟩ = some s1 ∧ w'.cell? ⟨w.heap.size + 1, 0, none⟩ = some (.bool n2) ∧ w'.cell? ⟨w.heap.size + 1, 1, none⟩ = some s2))
  have HW0 := Lib.hid (fun (w' : World) (hs : Below (w.heap.size + 1 + 1) W w' ∧ w'.cell? ⟨w.heap.size, 0, none⟩ = some (.bool n1) ∧ w'.cell? ⟨w.heap.size, 1, none⟩ = some s1 ∧ w'.cell? ⟨w.heap.size + 1, 0, none⟩ = some (.bool n2) ∧ w'.cell? ⟨w.heap.size + 1, 1, none⟩ = some s2) => HQ.out.trans (hs.1.mono (show w.heap.size ≤ w.heap.size + 1 + 1 by omega)))
  obtain ⟨w0, hw0⟩ : ∃ w0 : World, w0 = W := ⟨_, rfl⟩
  have HB0 : Hid (Below (w.heap.size + 1 + 1) W w0) := by rw [hw0]; exact Lib.hid (Below.refl _ _)
  have HG0 := Lib.hid (show w0.heap[w.heap.size + 1 + 1]? = some (.cells #[.bool false, .slice none 0 0] 28 (0, 0)) by rw [hw0]; exact HG.out)
  rw [← hw0]
  clear hw0
  go_region_held3 (fun w' => Below (w.heap.size + 1 + 1) W w' ∧ w'.cell? ⟨w.heap.size, 0, none⟩ = some (.bool n1) ∧ w'.cell? ⟨w.heap.size, 1, none⟩ = some s1 ∧ w'.cell? ⟨w.heap.size + 1, 0, none⟩ = some (.bool n2) ∧ w'.cell? ⟨w.heap.size + 1, 1, none⟩ = some s2)
    (first | exact HL.out _ (Below.drew HB0.out) | exact HL.out _ (held_next (And.left (by assumption)) HBW.out (by assumption)) | exact HL.out _ (held_set2 (And.left (by assumption)) (Nat.le_refl _)))
    (first | (go_at_call 70; (with_reducible refine (rmul_limbs (lr1.below (HW0.out _ (by assumption))) (lr2.below (HW0.out _ (by assumption))) LA LB (by omega) (by omega)).mono ?_); rintro e w1 ⟨u3, l3, rfl, hr3, hl3, hv3, hb3⟩; have HX3 := Lib.hid hr3; have HV3 := Lib.hid hv3; have HR3 := Lib.hid (blk_next (w := w0.drew) HG0.out hb3); clear hr3 hv3) | (go_at_call 69; (with_reducible refine (rsigned_gives HX3.out hl3).mono ?_); rintro e w2 ⟨n4, a4, k4, c4, rfl, hu4, hb4⟩; have HU4 := Lib.hid hu4; have HR4 := Lib.hid (blk_next HR3.out hb4); clear hu4; obtain ⟨d0, d1, e0, e1⟩ := res_facts HR4.out))
  go_wp2
  try simp only [Exit.inBlock, Exit.then]
  refine bodyPost_ret (results_cell_row rfl _ _ (w.heap.size + 1 + 1) 28 _ (0, 0) _ rfl (res_set HR4.out) Tryd.underlying28 rfl (by kernel_rfl)) rfl ?_
  have fit := HU4.out
  rw [HV3.out, FIN.out] at fit
  exact ⟨n4, a4, k4, c4, rfl, fit.set2 HR4.out, held_set2 (bt (bt (bt (HQ.out.trans (HB0.out.mono (show w.heap.size ≤ w.heap.size + 1 + 1 by omega))) (Below.drew (Below.refl _ _))) hb3) hb4) (by omega)⟩
end Go.Proofs.YtihjaakkpnjolaaDoor
