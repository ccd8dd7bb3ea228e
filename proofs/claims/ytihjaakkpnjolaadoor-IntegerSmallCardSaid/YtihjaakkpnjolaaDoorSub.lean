/- The program's Neg, Sub, Of. -/
import Derived.Test.YtihjaakkpnjolaaDoorAdd
namespace Go.Proofs.YtihjaakkpnjolaaDoor
open Go.RowKit Tally

theorem box1_facts (w : World) (n1 : Bool) (s1 : Value) (T : TypeId) :
    Below w.heap.size w ((w.alloc (.cells #[.bool n1, s1] T)).alloc (.cells #[.bool false, .slice none 0 0] T)) ∧
    ((w.alloc (.cells #[.bool n1, s1] T)).alloc (.cells #[.bool false, .slice none 0 0] T)).cell? ⟨w.heap.size, 0, none⟩ = some (.bool n1) ∧
    ((w.alloc (.cells #[.bool n1, s1] T)).alloc (.cells #[.bool false, .slice none 0 0] T)).cell? ⟨w.heap.size, 1, none⟩ = some s1 ∧
    ((w.alloc (.cells #[.bool n1, s1] T)).alloc (.cells #[.bool false, .slice none 0 0] T)).heap[w.heap.size + 1]? = some (.cells #[.bool false, .slice none 0 0] T (0, 0)) := by
  refine ⟨((Below.refl _ _).alloc (Nat.le_refl _) _).alloc (by simp) _, by go_simp, by go_simp, ?_⟩
  have := heap_alloc_new (w.alloc (.cells #[.bool n1, s1] T)) (.cells #[.bool false, .slice none 0 0] T)
  simpa using this

set_option maxHeartbeats 1000000 in
theorem neg_any {w : World} {v : Value} {x : Int} (h : IntR w v x) : Calls Tryd.prog 34 #[v] w (GivesZ w (-x)) := by
  obtain ⟨n1, s1, l1, rfl, lr1, c1, g1, z1, a1⟩ := h.parts
  have LA : Lim 1000000000 l1 := c1.1
  have fin : (if (!n1) = true then -(val 1000000000 l1 : Int) else val 1000000000 l1) = -x := by subst z1; cases n1 <;> simp
  have FIN := Lib.hid fin
  clear h z1 g1 a1 fin
  have BF := Lib.hid (box1_facts w n1 s1 25)
  go_enter Tryd.func34, Tryd.ntmps34
  go_wp2_with fail
  revert BF
  generalize ((w.alloc (.cells #[.bool n1, s1] 25)).alloc (.cells #[.bool false, .slice none 0 0] 25)) = W
  intro BF
  have HQ := Lib.hid BF.out.1
  have HG := Lib.hid BF.out.2.2.2
  obtain ⟨q1, q2⟩ := And.intro BF.out.2.1 BF.out.2.2.1
  refine (signed_gives (lr1.below HQ.out) LA).mono ?_
  rintro e w2 ⟨n4, a4, k4, c4, rfl, hu4, hb4⟩
  have HU4 := Lib.hid hu4
  have HR4 := Lib.hid (blk_next HG.out hb4)
  clear hu4 q1 q2
  obtain ⟨d0, d1, e0, e1⟩ := res_facts HR4.out
  go_wp2
  try simp only [Exit.inBlock, Exit.then]
  refine bodyPost_ret (results_cell_row rfl _ _ (w.heap.size + 1) 25 _ (0, 0) _ rfl (res_set HR4.out) Tryd.underlying25 rfl (by kernel_rfl)) rfl ?_
  have fit := HU4.out
  rw [FIN.out] at fit
  exact ⟨n4, a4, k4, c4, rfl, fit.set2 HR4.out, held_set2 (bt HQ.out hb4) (by omega)⟩

set_option maxHeartbeats 2000000 in
theorem sub_any {w : World} {v u : Value} {x y : Int} {N : Nat} (h : IntR w v x) (k : IntR w u y) (hx : Dg N x) (hy : Dg N y) (hN : N ≤ 999999999990) :
    Calls Tryd.prog 32 #[v, u] w (GivesZ w (x - y)) := by
  have hny := hy.neg
  have H := Lib.hid h
  have K := Lib.hid k
  obtain ⟨n1, s1, l1, rfl, lr1, c1, g1, z1, a1⟩ := h.parts
  obtain ⟨n2, s2, l2, rfl, lr2, c2, g2, z2, a2⟩ := k.parts
  clear h k z1 z2 g1 g2 a1 a2
  have BF := Lib.hid (box2_facts w n1 n2 s1 s2 25)
  go_enter Tryd.func32, Tryd.ntmps32
  go_wp2_with fail
  revert BF
  generalize (((w.alloc (.cells #[.bool n1, s1] 25)).alloc (.cells #[.bool n2, s2] 25)).alloc (.cells #[.bool false, .slice none 0 0] 25)) = W
  intro BF
  have HQ := Lib.hid BF.out.1
  have HG := Lib.hid BF.out.2.2.2.2.2.2
  have HBW := Lib.hid (show w.heap.size + 1 + 1 ≤ W.heap.size by have := BF.out.2.1; omega)
  have HL := Lib.hid (fun (w' : World) (hb : Below (w.heap.size + 1 + 1) W w') => (⟨hb, (hb.cell (p := ⟨w.heap.size, 0, none⟩) (show w.heap.size < w.heap.size + 1 + 1 by omega)).trans BF.out.2.2.1, (hb.cell (p := ⟨w.heap.size, 1, none⟩) (show w.heap.size < w.heap.size + 1 + 1 by omega)).trans BF.out.2.2.2.1, (hb.cell (p := ⟨w.heap.size + 1, 0, none⟩) (show w.heap.size + 1 < w.heap.size + 1 + 1 by omega)).trans BF.out.2.2.2.2.1, (hb.cell (p := ⟨w.heap.size + 1, 1, none⟩) (show w.heap.size + 1 < w.heap.size + 1 + 1 by omega)).trans BF.out.2.2.2.2.2.1⟩ : Below (w.heap.size + 1 + 1) W w' ∧ w'.cell? ⟨w.heap.size, 0, none⟩ = some (.bool n1) ∧ w'.cell? ⟨w.heap.size, 1, none⟩ = some s1 ∧ w'.cell? ⟨w.heap.size + 1, 0, none⟩ = some (.bool n2) ∧ w'.cell? ⟨w.heap.size + 1, 1, none⟩ = some s2))
  have HW0 := Lib.hid (fun (w' : World) (hs : Below (w.heap.size + 1 + 1) W w' ∧ w'.cell? ⟨w.heap.size, 0, none⟩ = some (.bool n1) ∧ w'.cell? ⟨w.heap.size, 1, none⟩ = some s1 ∧ w'.cell? ⟨w.heap.size + 1, 0, none⟩ = some (.bool n2) ∧ w'.cell? ⟨w.heap.size + 1, 1, none⟩ = some s2) => HQ.out.trans (hs.1.mono (show w.heap.size ≤ w.heap.size + 1 + 1 by omega)))
  have HB0 := Lib.hid (Below.refl (w.heap.size + 1 + 1) W)
  go_region_held3 (fun w' => Below (w.heap.size + 1 + 1) W w' ∧ w'.cell? ⟨w.heap.size, 0, none⟩ = some (.bool n1) ∧ w'.cell? ⟨w.heap.size, 1, none⟩ = some s1 ∧ w'.cell? ⟨w.heap.size + 1, 0, none⟩ = some (.bool n2) ∧ w'.cell? ⟨w.heap.size + 1, 1, none⟩ = some s2)
    (first | exact HL.out _ (Below.drew HB0.out) | exact HL.out _ (held_next (And.left (by assumption)) HBW.out (by assumption)) | exact HL.out _ (held_set2 (And.left (by assumption)) (Nat.le_refl _)))
    (first | (go_at_call 34; (with_reducible refine (neg_any (K.out.below (HW0.out _ (by assumption)))).mono ?_); rintro e w1 ⟨n3, a3, k3, c3, rfl, hu3, hb3⟩; have HU3 := Lib.hid hu3; have HR3 := Lib.hid (blk_next (w := W.drew) HG.out hb3); clear hu3) | (go_at_call 30; (with_reducible refine (add_any (H.out.below (HW0.out _ (by assumption))) HU3.out hx hny hN).mono ?_); rintro e w2 ⟨n4, a4, k4, c4, rfl, hu4, hb4⟩; have HU4 := Lib.hid hu4; have HR4 := Lib.hid (blk_next HR3.out hb4); clear hu4; obtain ⟨d0, d1, e0, e1⟩ := res_facts HR4.out))
  go_wp2
  try simp only [Exit.inBlock, Exit.then]
  refine bodyPost_ret (results_cell_row rfl _ _ (w.heap.size + 1 + 1) 25 _ (0, 0) _ rfl (res_set HR4.out) Tryd.underlying25 rfl (by kernel_rfl)) rfl ?_
  have fit := HU4.out
  rw [← Int.sub_eq_add_neg] at fit
  exact ⟨n4, a4, k4, c4, rfl, fit.set2 HR4.out, held_set2 (bt (bt (bt HQ.out (Below.drew (Below.refl _ _))) hb3) hb4) (by omega)⟩
end Go.Proofs.YtihjaakkpnjolaaDoor
