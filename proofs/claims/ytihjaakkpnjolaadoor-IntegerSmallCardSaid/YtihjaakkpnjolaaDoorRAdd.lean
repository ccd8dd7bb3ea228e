/- The reference's Sign, Add, Neg, Sub, Cmp. -/
import Derived.Test.YtihjaakkpnjolaaDoorRSubL
import Derived.Test.YtihjaakkpnjolaaDoorSub
namespace Go.Proofs.YtihjaakkpnjolaaDoor
open Go.RowKit Tally

theorem rsign_of {neg : Bool} {l : List Nat} {z : Int} (hc : Canon 10000 l) (hz : z = if neg then -(val 10000 l : Int) else val 10000 l) :
    (l.length = 0 → z.sign = 0) ∧ (l.length ≠ 0 → z.sign = if neg then -1 else 1) := by
  constructor
  · intro h
    have : l = [] := List.length_eq_zero_iff.1 h
    subst this
    rw [hz]; cases neg <;> rfl
  · intro h
    have hp := Canon.pos (B := 10000) (by decide) hc (fun e => h (by rw [e]; rfl))
    rw [hz]
    cases neg
    · exact Int.sign_eq_one_of_pos (by simp; omega)
    · exact Int.sign_eq_neg_one_of_neg (by simp; omega)

set_option maxHeartbeats 800000 in
theorem rsign_any {w : World} {v : Value} {z : Int} (h : RefR w v z) :
    Calls Tryd.prog 25 #[v] w fun e w' => e = .returned (.int .i64 z.sign) ∧ Below w.heap.size w w' := by
  obtain ⟨neg, s, l, rfl, ⟨p, b, o, c, rfl, hlc, hm, hs, hr⟩, hc, hn, hz⟩ := h
  obtain ⟨q0, q1⟩ := rsign_of hc hz
  clear hz hc hn hr hs
  generalize l.length = n at *
  have fin : ∀ (x y : Int) (w1 : World), x = y → Below w.heap.size w w1 → Ending.returned (.int .i64 x) = .returned (.int .i64 y) ∧ Below w.heap.size w w1 := fun x y w1 h1 h2 => ⟨ret_int h1, h2⟩
  have F := Lib.hid fin
  clear fin
  by_cases h0 : n = 0
  · have Q := Lib.hid (q0 h0)
    clear q0 q1
    subst h0
    go_enter Tryd.func25, Tryd.ntmps25
    go_wp2
    go_ret
    exact ⟨ret_int Q.out.symm, (Below.refl _ _).alloc (Nat.le_refl _) _⟩
  · have Q := Lib.hid (q1 h0)
    clear q0 q1
    have hne : ((n : Int) == 0) = false := by simp; omega
    cases neg
    all_goals
      go_enter Tryd.func25, Tryd.ntmps25
      go_wp2
      go_ret
      exact ⟨ret_int Q.out.symm, (Below.refl _ _).alloc (Nat.le_refl _) _⟩

set_option maxHeartbeats 2000000 in
theorem radd_any {w : World} {v u : Value} {x y : Int} {N : Nat} (h : RefR w v x) (k : RefR w u y) (hx : Dg N x) (hy : Dg N y) (hN : N ≤ 999999999990) :
    Calls Tryd.prog 31 #[v, u] w (rGivesZ w (x + y)) := by
  obtain ⟨n1, s1, l1, rfl, lr1, c1, g1, z1, a1⟩ := h.parts
  obtain ⟨n2, s2, l2, rfl, lr2, c2, g2, z2, a2⟩ := k.parts
  have f1 := RefR.few c1 a1 hx
  have f2 := RefR.few c2 a2 hy
  have LA : Lim 10000 l1 := c1.1
  have LB : Lim 10000 l2 := c2.1
  have fin1 : n1 = n2 → (if n1 = true then -((val 10000 l1 + val 10000 l2 : Nat) : Int) else (val 10000 l1 + val 10000 l2 : Nat)) = x + y := fun e => by
    subst e; rw [z1, z2]; exact add_same
  have fin2 : n1 ≠ n2 → val 10000 l2 ≤ val 10000 l1 → (if n1 = true then -((val 10000 l1 - val 10000 l2 : Nat) : Int) else (val 10000 l1 - val 10000 l2 : Nat)) = x + y := fun e h => by
    rw [z1, z2]; exact add_diff e h
  have fin3 : n1 ≠ n2 → val 10000 l1 ≤ val 10000 l2 → (if n2 = true then -((val 10000 l2 - val 10000 l1 : Nat) : Int) else (val 10000 l2 - val 10000 l1 : Nat)) = x + y := fun e h => by
    rw [z1, z2, Int.add_comm]; exact add_diff (fun q => e q.symm) h
  have F1 := Lib.hid fin1
  have F2 := Lib.hid fin2
  have F3 := Lib.hid fin3
  have len12 : val 10000 l2 ≤ val 10000 l1 → l2.length ≤ l1.length := fun q => Nat.le_of_not_lt fun q2 => by
    have := Canon.lt_of_length (B := 10000) (by decide) c1.1 c2 q2; omega
  have len21 : val 10000 l1 ≤ val 10000 l2 → l1.length ≤ l2.length := fun q => Nat.le_of_not_lt fun q2 => by
    have := Canon.lt_of_length (B := 10000) (by decide) c2.1 c1 q2; omega
  have E12 := Lib.hid len12
  have E21 := Lib.hid len21
  clear h k z1 z2 g1 g2 a1 a2 fin1 fin2 fin3 hx hy len12 len21
  by_cases hn : n1 = n2
  · have hb : (n1 == n2) = true := by simp [hn]
    have FIN := Lib.hid (F1.out hn)
    clear hn
    have BF := Lib.hid (box2_facts w n1 n2 s1 s2 28)
    go_enter Tryd.func31, Tryd.ntmps31
    go_wp2_with fail
    revert BF
    generalize (((w.alloc (.cells #[.bool n1, s1] 28)).alloc (.cells #[.bool n2, s2] 28)).alloc (.cells #[.bool false, .slice none 0 0] 28)) = W
    intro BF
    have HQ := Lib.hid BF.out.1
    have HG := Lib.hid BF.out.2.2.2.2.2.2
    have HBW := Lib.hid (show w.heap.size + 1 + 1 ≤ W.heap.size by have := BF.out.2.1; omega)
    have HL := Lib.hid (fun (w' : World) (hb : Below (w.heap.size + 1 + 1) W w') => (⟨hb, (hb.cell (p := ⟨w.heap.size, 0, none⟩) (show w.heap.size < w.heap.size + 1 + 1 by omega)).trans BF.out.2.2.1, (hb.cell (p := ⟨w.heap.size, 1, none⟩) (show w.heap.size < w.heap.size + 1 + 1 by omega)).trans BF.out.2.2.2.1, (hb.cell (p := ⟨w.heap.size + 1, 0, none⟩) (show w.heap.size + 1 < w.heap.size + 1 + 1 by omega)).trans BF.out.2.2.2.2.1, (hb.cell (p := ⟨w.heap.size + 1, 1, none⟩) (show w.heap.size + 1 < w.heap.size + 1 + 1 by omega)).trans BF.out.2.2.2.2.2.1⟩ : Below (w.heap.size + 1 + 1) W w' ∧ w'.cell? ⟨w.heap.size, 0, none⟩ = some (.bool n1) ∧ w'.cell? ⟨w.heap.size, 1, none⟩ = some s1 ∧ w'.cell? ⟨w.heap.size + 1, 0, none⟩ = some (.bool n2) ∧ w'.cell? ⟨w.heap.size + 1, 1, none⟩ = some s2))
    have HW0 := Lib.hid (fun (w' : World) (hs : Below (w.heap.size + 1 + 1) W w' ∧ w'.cell? ⟨w.heap.size, 0, none⟩ = some (.bool n1) ∧ w'.cell? ⟨w.heap.size, 1, none⟩ = some s1 ∧ w'.cell? ⟨w.heap.size + 1, 0, none⟩ = some (.bool n2) ∧ w'.cell? ⟨w.heap.size + 1, 1, none⟩ = some s2) => HQ.out.trans (hs.1.mono (show w.heap.size ≤ w.heap.size + 1 + 1 by omega)))
    obtain ⟨w0, hw0⟩ : ∃ w0 : World, w0 = W := ⟨_, rfl⟩
    have HB0 : Hid (Below (w.heap.size + 1 + 1) W w0) := by rw [hw0]; exact Lib.hid (Below.refl _ _)
    have HG0 := Lib.hid (show w0.heap[w.heap.size + 1 + 1]? = some (.cells #[.bool false, .slice none 0 0] 28 (0, 0)) by rw [hw0]; exact HG.out)
    rw [← hw0]
    clear hw0
    go_region_held3 (fun w' => Below (w.heap.size + 1 + 1) W w' ∧ w'.cell? ⟨w.heap.size, 0, none⟩ = some (.bool n1) ∧ w'.cell? ⟨w.heap.size, 1, none⟩ = some s1 ∧ w'.cell? ⟨w.heap.size + 1, 0, none⟩ = some (.bool n2) ∧ w'.cell? ⟨w.heap.size + 1, 1, none⟩ = some s2)
      (first | exact HL.out _ (Below.drew HB0.out) | exact HL.out _ (held_next (And.left (by assumption)) HBW.out (by assumption)) | exact HL.out _ (held_set2 (And.left (by assumption)) (Nat.le_refl _)))
      (first | (go_at_call 80; (with_reducible refine (radd_limbs (lr1.below (HW0.out _ (by assumption))) (lr2.below (HW0.out _ (by assumption))) LA LB (by omega) (by omega)).mono ?_); rintro e w1 ⟨u3, l3, rfl, hr3, hl3, hv3, hb3⟩; have HX3 := Lib.hid hr3; have HV3 := Lib.hid hv3; have HR3 := Lib.hid (blk_next (w := w0.drew) HG0.out hb3); clear hr3 hv3) | (go_at_call 69; (with_reducible refine (rsigned_gives HX3.out hl3).mono ?_); rintro e w2 ⟨n4, a4, k4, c4, rfl, hu4, hb4⟩; have HU4 := Lib.hid hu4; have HR4 := Lib.hid (blk_next HR3.out hb4); clear hu4; obtain ⟨d0, d1, e0, e1⟩ := res_facts HR4.out))
    go_wp2
    try simp only [Exit.inBlock, Exit.then]
    refine bodyPost_ret (results_cell_row rfl _ _ (w.heap.size + 1 + 1) 28 _ (0, 0) _ rfl (res_set HR4.out) Tryd.underlying28 rfl (by kernel_rfl)) rfl ?_
    have fit := HU4.out
    rw [HV3.out, FIN.out] at fit
    exact ⟨n4, a4, k4, c4, rfl, fit.set2 HR4.out, held_set2 (bt (bt (bt (HQ.out.trans (HB0.out.mono (show w.heap.size ≤ w.heap.size + 1 + 1 by omega))) (Below.drew (Below.refl _ _))) hb3) hb4) (by omega)⟩
  · have hb : (n1 == n2) = false := by simp [hn]
    have FN2 := Lib.hid (F2.out hn)
    have FN3 := Lib.hid (F3.out hn)
    clear hn
    have BF := Lib.hid (box2_facts w n1 n2 s1 s2 28)
    go_enter Tryd.func31, Tryd.ntmps31
    go_wp2_with fail
    revert BF
    generalize (((w.alloc (.cells #[.bool n1, s1] 28)).alloc (.cells #[.bool n2, s2] 28)).alloc (.cells #[.bool false, .slice none 0 0] 28)) = W
    intro BF
    have HQ := Lib.hid BF.out.1
    have HG := Lib.hid BF.out.2.2.2.2.2.2
    have HBW := Lib.hid (show w.heap.size + 1 + 1 ≤ W.heap.size by have := BF.out.2.1; omega)
    have HL := Lib.hid (fun (w' : World) (hb : Below (w.heap.size + 1 + 1) W w') => (⟨hb, (hb.cell (p := ⟨w.heap.size, 0, none⟩) (show w.heap.size < w.heap.size + 1 + 1 by omega)).trans BF.out.2.2.1, (hb.cell (p := ⟨w.heap.size, 1, none⟩) (show w.heap.size < w.heap.size + 1 + 1 by omega)).trans BF.out.2.2.2.1, (hb.cell (p := ⟨w.heap.size + 1, 0, none⟩) (show w.heap.size + 1 < w.heap.size + 1 + 1 by omega)).trans BF.out.2.2.2.2.1, (hb.cell (p := ⟨w.heap.size + 1, 1, none⟩) (show w.heap.size + 1 < w.heap.size + 1 + 1 by omega)).trans BF.out.2.2.2.2.2.1⟩ : Below (w.heap.size + 1 + 1) W w' ∧ w'.cell? ⟨w.heap.size, 0, none⟩ = some (.bool n1) ∧ w'.cell? ⟨w.heap.size, 1, none⟩ = some s1 ∧ w'.cell? ⟨w.heap.size + 1, 0, none⟩ = some (.bool n2) ∧ w'.cell? ⟨w.heap.size + 1, 1, none⟩ = some s2))
    have HW0 := Lib.hid (fun (w' : World) (hs : Below (w.heap.size + 1 + 1) W w' ∧ w'.cell? ⟨w.heap.size, 0, none⟩ = some (.bool n1) ∧ w'.cell? ⟨w.heap.size, 1, none⟩ = some s1 ∧ w'.cell? ⟨w.heap.size + 1, 0, none⟩ = some (.bool n2) ∧ w'.cell? ⟨w.heap.size + 1, 1, none⟩ = some s2) => HQ.out.trans (hs.1.mono (show w.heap.size ≤ w.heap.size + 1 + 1 by omega)))
    refine (rcompare_any (lr1.below HQ.out) (lr2.below HQ.out) c1 c2).mono ?_
    rintro e w0 ⟨rfl, hb0⟩
    have HB0 := Lib.hid (hb0.mono HBW.out)
    have HG0 := Lib.hid (blk_next HG.out hb0)
    obtain ⟨_, q1, q2, q3, q4⟩ := HL.out _ HB0.out
    by_cases hge : val 10000 l2 ≤ val 10000 l1
    · have hcm : (0 : Int) ≤ cmpN (val 10000 l1) (val 10000 l2) := by
        rcases Nat.lt_or_ge (val 10000 l2) (val 10000 l1) with q | q
        · rw [cmpN_gt q]; decide
        · rw [cmpN_eq (by omega)]; decide
      have hlen := E12.out hge
      have FIN := Lib.hid (FN2.out hge)
      go_wp2_with fail
      go_region_held3 (fun w' => Below (w.heap.size + 1 + 1) W w' ∧ w'.cell? ⟨w.heap.size, 0, none⟩ = some (.bool n1) ∧ w'.cell? ⟨w.heap.size, 1, none⟩ = some s1 ∧ w'.cell? ⟨w.heap.size + 1, 0, none⟩ = some (.bool n2) ∧ w'.cell? ⟨w.heap.size + 1, 1, none⟩ = some s2)
        (first | exact HL.out _ (Below.drew HB0.out) | exact HL.out _ (held_next (And.left (by assumption)) HBW.out (by assumption)) | exact HL.out _ (held_set2 (And.left (by assumption)) (Nat.le_refl _)))
        (first | (go_at_call 82; (with_reducible refine (rsub_limbs (lr1.below (HW0.out _ (by assumption))) (lr2.below (HW0.out _ (by assumption))) LA LB (by omega) hlen hge).mono ?_); rintro e w1 ⟨u3, l3, rfl, hr3, hl3, hv3, hb3⟩; have HX3 := Lib.hid hr3; have HV3 := Lib.hid hv3; have HR3 := Lib.hid (blk_next (w := w0.drew) HG0.out hb3); clear hr3 hv3) | (go_at_call 69; (with_reducible refine (rsigned_gives HX3.out hl3).mono ?_); rintro e w2 ⟨n4, a4, k4, c4, rfl, hu4, hb4⟩; have HU4 := Lib.hid hu4; have HR4 := Lib.hid (blk_next HR3.out hb4); clear hu4; obtain ⟨d0, d1, e0, e1⟩ := res_facts HR4.out))
      go_wp2
      try simp only [Exit.inBlock, Exit.then]
      refine bodyPost_ret (results_cell_row rfl _ _ (w.heap.size + 1 + 1) 28 _ (0, 0) _ rfl (res_set HR4.out) Tryd.underlying28 rfl (by kernel_rfl)) rfl ?_
      have fit := HU4.out
      rw [HV3.out, FIN.out] at fit
      exact ⟨n4, a4, k4, c4, rfl, fit.set2 HR4.out, held_set2 (bt (bt (bt (HQ.out.trans (HB0.out.mono (show w.heap.size ≤ w.heap.size + 1 + 1 by omega))) (Below.drew (Below.refl _ _))) hb3) hb4) (by omega)⟩
    · have hcm : ¬ (0 : Int) ≤ cmpN (val 10000 l1) (val 10000 l2) := by
        rw [cmpN_lt (by omega)]; decide
      have hge' : val 10000 l1 ≤ val 10000 l2 := by omega
      have hlen := E21.out hge'
      have FIN := Lib.hid (FN3.out hge')
      go_wp2_with fail
      go_region_held3 (fun w' => Below (w.heap.size + 1 + 1) W w' ∧ w'.cell? ⟨w.heap.size, 0, none⟩ = some (.bool n1) ∧ w'.cell? ⟨w.heap.size, 1, none⟩ = some s1 ∧ w'.cell? ⟨w.heap.size + 1, 0, none⟩ = some (.bool n2) ∧ w'.cell? ⟨w.heap.size + 1, 1, none⟩ = some s2)
        (first | exact HL.out _ (Below.drew HB0.out) | exact HL.out _ (held_next (And.left (by assumption)) HBW.out (by assumption)) | exact HL.out _ (held_set2 (And.left (by assumption)) (Nat.le_refl _)))
        (first | (go_at_call 82; (with_reducible refine (rsub_limbs (lr2.below (HW0.out _ (by assumption))) (lr1.below (HW0.out _ (by assumption))) LB LA (by omega) hlen hge').mono ?_); rintro e w1 ⟨u3, l3, rfl, hr3, hl3, hv3, hb3⟩; have HX3 := Lib.hid hr3; have HV3 := Lib.hid hv3; have HR3 := Lib.hid (blk_next (w := w0.drew) HG0.out hb3); clear hr3 hv3) | (go_at_call 69; (with_reducible refine (rsigned_gives HX3.out hl3).mono ?_); rintro e w2 ⟨n4, a4, k4, c4, rfl, hu4, hb4⟩; have HU4 := Lib.hid hu4; have HR4 := Lib.hid (blk_next HR3.out hb4); clear hu4; obtain ⟨d0, d1, e0, e1⟩ := res_facts HR4.out))
      go_wp2
      try simp only [Exit.inBlock, Exit.then]
      refine bodyPost_ret (results_cell_row rfl _ _ (w.heap.size + 1 + 1) 28 _ (0, 0) _ rfl (res_set HR4.out) Tryd.underlying28 rfl (by kernel_rfl)) rfl ?_
      have fit := HU4.out
      rw [HV3.out, FIN.out] at fit
      exact ⟨n4, a4, k4, c4, rfl, fit.set2 HR4.out, held_set2 (bt (bt (bt (HQ.out.trans (HB0.out.mono (show w.heap.size ≤ w.heap.size + 1 + 1 by omega))) (Below.drew (Below.refl _ _))) hb3) hb4) (by omega)⟩


set_option maxHeartbeats 1000000 in
theorem rneg_any {w : World} {v : Value} {x : Int} (h : RefR w v x) : Calls Tryd.prog 35 #[v] w (rGivesZ w (-x)) := by
  obtain ⟨n1, s1, l1, rfl, lr1, c1, g1, z1, a1⟩ := h.parts
  have LA : Lim 10000 l1 := c1.1
  have fin : (if (!n1) = true then -(val 10000 l1 : Int) else val 10000 l1) = -x := by subst z1; cases n1 <;> simp
  have FIN := Lib.hid fin
  clear h z1 g1 a1 fin
  have BF := Lib.hid (box1_facts w n1 s1 28)
  go_enter Tryd.func35, Tryd.ntmps35
  go_wp2_with fail
  revert BF
  generalize ((w.alloc (.cells #[.bool n1, s1] 28)).alloc (.cells #[.bool false, .slice none 0 0] 28)) = W
  intro BF
  have HQ := Lib.hid BF.out.1
  have HG := Lib.hid BF.out.2.2.2
  obtain ⟨q1, q2⟩ := And.intro BF.out.2.1 BF.out.2.2.1
  refine (rsigned_gives (lr1.below HQ.out) LA).mono ?_
  rintro e w2 ⟨n4, a4, k4, c4, rfl, hu4, hb4⟩
  have HU4 := Lib.hid hu4
  have HR4 := Lib.hid (blk_next HG.out hb4)
  clear hu4 q1 q2
  obtain ⟨d0, d1, e0, e1⟩ := res_facts HR4.out
  go_wp2
  try simp only [Exit.inBlock, Exit.then]
  refine bodyPost_ret (results_cell_row rfl _ _ (w.heap.size + 1) 28 _ (0, 0) _ rfl (res_set HR4.out) Tryd.underlying28 rfl (by kernel_rfl)) rfl ?_
  have fit := HU4.out
  rw [FIN.out] at fit
  exact ⟨n4, a4, k4, c4, rfl, fit.set2 HR4.out, held_set2 (bt HQ.out hb4) (by omega)⟩

set_option maxHeartbeats 2000000 in
theorem rsub_any {w : World} {v u : Value} {x y : Int} {N : Nat} (h : RefR w v x) (k : RefR w u y) (hx : Dg N x) (hy : Dg N y) (hN : N ≤ 999999999990) :
    Calls Tryd.prog 33 #[v, u] w (rGivesZ w (x - y)) := by
  have hny := hy.neg
  have H := Lib.hid h
  have K := Lib.hid k
  obtain ⟨n1, s1, l1, rfl, lr1, c1, g1, z1, a1⟩ := h.parts
  obtain ⟨n2, s2, l2, rfl, lr2, c2, g2, z2, a2⟩ := k.parts
  clear h k z1 z2 g1 g2 a1 a2
  have BF := Lib.hid (box2_facts w n1 n2 s1 s2 28)
  go_enter Tryd.func33, Tryd.ntmps33
  go_wp2_with fail
  revert BF
  generalize (((w.alloc (.cells #[.bool n1, s1] 28)).alloc (.cells #[.bool n2, s2] 28)).alloc (.cells #[.bool false, .slice none 0 0] 28)) = W
  intro BF
  have HQ := Lib.hid BF.out.1
  have HG := Lib.hid BF.out.2.2.2.2.2.2
  have HBW := Lib.hid (show w.heap.size + 1 + 1 ≤ W.heap.size by have := BF.out.2.1; omega)
  have HL := Lib.hid (fun (w' : World) (hb : Below (w.heap.size + 1 + 1) W w') => (⟨hb, (hb.cell (p := ⟨w.heap.size, 0, none⟩) (show w.heap.size < w.heap.size + 1 + 1 by omega)).trans BF.out.2.2.1, (hb.cell (p := ⟨w.heap.size, 1, none⟩) (show w.heap.size < w.heap.size + 1 + 1 by omega)).trans BF.out.2.2.2.1, (hb.cell (p := ⟨w.heap.size + 1, 0, none⟩) (show w.heap.size + 1 < w.heap.size + 1 + 1 by omega)).trans BF.out.2.2.2.2.1, (hb.cell (p := ⟨w.heap.size + 1, 1, none⟩) (show w.heap.size + 1 < w.heap.size + 1 + 1 by omega)).trans BF.out.2.2.2.2.2.1⟩ : Below (w.heap.size + 1 + 1) W w' ∧ w'.cell? ⟨w.heap.size, 0, none⟩ = some (.bool n1) ∧ w'.cell? ⟨w.heap.size, 1, none⟩ = some s1 ∧ w'.cell? ⟨w.heap.size + 1, 0, none⟩ = some (.bool n2) ∧ w'.cell? ⟨w.heap.size + 1, 1, none⟩ = some s2))
  have HW0 := Lib.hid (fun (w' : World) (hs : Below (w.heap.size + 1 + 1) W w' ∧ w'.cell? ⟨w.heap.size, 0, none⟩ = some (.bool n1) ∧ w'.cell? ⟨w.heap.size, 1, none⟩ = some s1 ∧ w'.cell? ⟨w.heap.size + 1, 0, none⟩ = some (.bool n2) ∧ w'.cell? ⟨w.heap.size + 1, 1, none⟩ = some s2) => HQ.out.trans (hs.1.mono (show w.heap.size ≤ w.heap.size + 1 + 1 by omega)))
  have HB0 := Lib.hid (Below.refl (w.heap.size + 1 + 1) W)
  go_region_held3 (fun w' => Below (w.heap.size + 1 + 1) W w' ∧ w'.cell? ⟨w.heap.size, 0, none⟩ = some (.bool n1) ∧ w'.cell? ⟨w.heap.size, 1, none⟩ = some s1 ∧ w'.cell? ⟨w.heap.size + 1, 0, none⟩ = some (.bool n2) ∧ w'.cell? ⟨w.heap.size + 1, 1, none⟩ = some s2)
    (first | exact HL.out _ (Below.drew HB0.out) | exact HL.out _ (held_next (And.left (by assumption)) HBW.out (by assumption)) | exact HL.out _ (held_set2 (And.left (by assumption)) (Nat.le_refl _)))
    (first | (go_at_call 35; (with_reducible refine (rneg_any (K.out.below (HW0.out _ (by assumption)))).mono ?_); rintro e w1 ⟨n3, a3, k3, c3, rfl, hu3, hb3⟩; have HU3 := Lib.hid hu3; have HR3 := Lib.hid (blk_next (w := W.drew) HG.out hb3); clear hu3) | (go_at_call 31; (with_reducible refine (radd_any (H.out.below (HW0.out _ (by assumption))) HU3.out hx hny hN).mono ?_); rintro e w2 ⟨n4, a4, k4, c4, rfl, hu4, hb4⟩; have HU4 := Lib.hid hu4; have HR4 := Lib.hid (blk_next HR3.out hb4); clear hu4; obtain ⟨d0, d1, e0, e1⟩ := res_facts HR4.out))
  go_wp2
  try simp only [Exit.inBlock, Exit.then]
  refine bodyPost_ret (results_cell_row rfl _ _ (w.heap.size + 1 + 1) 28 _ (0, 0) _ rfl (res_set HR4.out) Tryd.underlying28 rfl (by kernel_rfl)) rfl ?_
  have fit := HU4.out
  rw [← Int.sub_eq_add_neg] at fit
  exact ⟨n4, a4, k4, c4, rfl, fit.set2 HR4.out, held_set2 (bt (bt (bt HQ.out (Below.drew (Below.refl _ _))) hb3) hb4) (by omega)⟩

set_option maxHeartbeats 1000000 in
theorem rcmp_any {w : World} {v u : Value} {x y : Int} {N : Nat} (h : RefR w v x) (k : RefR w u y) (hx : Dg N x) (hy : Dg N y) (hN : N ≤ 999999999990) :
    Calls Tryd.prog 37 #[v, u] w fun e w' => e = .returned (.int .i64 (x - y).sign) ∧ Below w.heap.size w w' := by
  have H := Lib.hid h
  have K := Lib.hid k
  obtain ⟨n1, a1, k1, c1, rfl⟩ := h.shape
  obtain ⟨n2, a2, k2, c2, rfl⟩ := k.shape
  have hb : Below w.heap.size w ((w.alloc (.cells #[.bool n1, .slice a1 k1 c1] 28)).alloc (.cells #[.bool n2, .slice a2 k2 c2] 28)) := ((Below.refl _ _).alloc (Nat.le_refl _) _).alloc (by simp) _
  have HB := Lib.hid hb
  clear h k hb
  go_enter Tryd.func37, Tryd.ntmps37
  go_wp2_with fail
  refine (rsub_any (H.out.below HB.out) (K.out.below HB.out) hx hy hN).mono ?_
  rintro e w1 ⟨n3, a3, k3, c3, rfl, hu, hb1⟩
  have HU := Lib.hid hu
  have HB1 := Lib.hid (bt HB.out hb1)
  clear hu hb1
  go_wp2_with fail
  refine (rsign_any HU.out).mono ?_
  rintro e w2 ⟨rfl, hb2⟩
  go_wp2
  go_ret
  exact ⟨rfl, bt HB1.out hb2⟩
end Go.Proofs.YtihjaakkpnjolaaDoor
