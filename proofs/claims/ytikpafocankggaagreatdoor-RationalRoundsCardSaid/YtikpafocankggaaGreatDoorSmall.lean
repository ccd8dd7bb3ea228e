/- The program's Small. -/
import Derived.Test.YtikpafocankggaaGreatDoorRLimbs
namespace Go.Proofs.YtikpafocankggaaGreatDoor
open Go.RowKit Tally
def InI (z : Int) : Prop := -9223372036854775808 ≤ z ∧ z ≤ 9223372036854775807
theorem u64_back_neg {m : Nat} (h : m ≤ 9223372036854775808) : IntKind.i64.wrap (IntKind.u64.wrap (-(m : Int))) = -(m : Int) := by
 simp [IntKind.wrap, IntKind.bits, IntKind.signed]
 omega
theorem drop_le {l : List Nat} {k : Nat} : val 1000000000 (l.drop k) ≤ val 1000000000 l := by
 rcases Nat.lt_or_ge l.length k with h | h
 ·rw [List.drop_of_length_le (by omega)]; simp
 ·rw [val_take_drop 1000000000 l k h]
  have : 1 * val 1000000000 (l.drop k) ≤ 1000000000 ^ k * val 1000000000 (l.drop k) := Nat.mul_le_mul_right _ (Nat.pow_pos (by decide))
  omega
set_option maxHeartbeats 4000000 in
set_option maxRecDepth 100000 in
theorem small_yes {w : World} {v : Value} {z : Int} (h : IntR w v z) (hz : InI z) :
  Calls Tryz.prog 50 #[v] w fun e w' => e = .returned (.tuple #[.int .i64 z, .bool true]) ∧ Below w.heap.size w w' := by
 have H := Lib.hid h
 obtain ⟨neg, s1, l, rfl, lr, hc, g1, z1, a1⟩ := h.parts
 obtain ⟨a, b, o, c, rfl, l1, m1, s1, r1⟩ := lr
 obtain ⟨n, hn⟩ : ∃ n, l.length = n := ⟨_, rfl⟩
 have HN := Lib.hid hn
 have R1 := Lib.hid r1
 have HC := Lib.hid hc
 have Z1 := Lib.hid z1
 have A1 := Lib.hid a1
 have G1 := Lib.hid g1
 rw [hn] at l1 s1 R1 H ⊢
 clear h z1 g1 a1 r1 hc hn
 obtain ⟨hz1, hz2⟩ := hz
 obtain ⟨t1, ht1⟩ : ∃ t, (z - -9223372036854775808).sign = t := ⟨_, rfl⟩
 obtain ⟨t2, ht2⟩ : ∃ t, (z - 9223372036854775807).sign = t := ⟨_, rfl⟩
 have k1 : ¬ t1 < 0 := by rw [← ht1, Int.sign_neg_iff]; omega
 have k2 : ¬ 0 < t2 := by rw [← ht2, Int.sign_pos_iff]; omega
 have k1d : decide (t1 < 0) = false := by simp; omega
 have k2d : decide (0 < t2) = false := by simp; omega
 have SG1 := Lib.hid ht1
 have SG2 := Lib.hid ht2
 have hzn : Hid (z.natAbs ≤ 9223372036854775808) := Lib.hid (by omega)
 have hzp : Hid (neg = false → z.natAbs ≤ 9223372036854775807) := Lib.hid (fun e => by have := Z1.out; rw [e] at this; simp at this; omega)
 clear ht1 ht2
 have hb0 : Below w.heap.size w (w.alloc (.cells #[.bool neg, .slice a n c] 25)) := (Below.refl _ _).alloc (Nat.le_refl _) _
 have hc0 : (w.alloc (.cells #[.bool neg, .slice a n c] 25)).cell? ⟨w.heap.size, 0, none⟩ = some (.bool neg) := by go_simp
 have hc1 : (w.alloc (.cells #[.bool neg, .slice a n c] 25)).cell? ⟨w.heap.size, 1, none⟩ = some (.slice a n c) := by go_simp
 have BX := Lib.hid (And.intro hb0 (And.intro hc0 hc1))
 clear hb0 hc0 hc1
 go_enter Tryz.func50, Tryz.ntmps50
 go_wp2_with fail
 revert BX
 generalize (w.alloc (.cells #[.bool neg, .slice a n c] 25)) = W
 intro BX
 have HL := Lib.hid (fun (w' : World) (hb : Below W.heap.size W w') => (⟨hb, keepc hb BX.out.2.1, keepc hb BX.out.2.2⟩ : Below W.heap.size W w' ∧ w'.cell? ⟨w.heap.size, 0, none⟩ = some (.bool neg) ∧ w'.cell? ⟨w.heap.size, 1, none⟩ = some (.slice a n c)))
 have HI := Lib.hid (fun (w' : World) (hs : Below W.heap.size W w' ∧ w'.cell? ⟨w.heap.size, 0, none⟩ = some (.bool neg) ∧ w'.cell? ⟨w.heap.size, 1, none⟩ = some (.slice a n c)) => H.out.below (bt BX.out.1 hs.1))
 go_region_held3 (fun w' => Below W.heap.size W w' ∧ w'.cell? ⟨w.heap.size, 0, none⟩ = some (.bool neg) ∧ w'.cell? ⟨w.heap.size, 1, none⟩ = some (.slice a n c))
  (first | exact HL.out _ (Below.drew (Below.refl _ _)) | exact HL.out _ (bt (And.left (by assumption)) (by assumption)))
  (first | (go_at_call 43; (with_reducible refine (of_any (n := -9223372036854775808) (by omega) (by omega)).mono ?_); rintro e w1 ⟨n1, a1, k1, c1, rfl, hu1, hb1⟩; have HU1 := Lib.hid hu1; clear hu1) | (go_at_call 45; (with_reducible refine (cmp_any (HI.out _ (by assumption)) HU1.out).mono ?_); rintro e w2 ⟨rfl, hb2⟩; rw [SG1.out]) | (go_at_call 43; (with_reducible refine (of_any (n := 9223372036854775807) (by omega) (by omega)).mono ?_); rintro e w3 ⟨n3, a3, k3, c3, rfl, hu3, hb3⟩; have HU3 := Lib.hid hu3; clear hu3) | (go_at_call 45; (with_reducible refine (cmp_any (HI.out _ (by assumption)) HU3.out).mono ?_); rintro e w4 ⟨rfl, hb4⟩; rw [SG2.out]))
 have HB := Lib.hid (bt (bt (bt (bt (Below.drew (Below.refl W.heap.size W)) hb1) hb2) hb3) hb4)
 have HBW := Lib.hid (bt BX.out.1 HB.out)
 obtain ⟨_, d0, d1⟩ := HL.out _ HB.out
 clear hb1 hb2 hb3 hb4
 go_wp2
 go_loop [4, 5] (fun u i => ∃ (k : Nat) (q : Int), Hid (q = (k : Int) - 1) ∧ k ≤ n ∧ i = .int .i64 q ∧ u = .int .u64 (val 1000000000 (l.drop k) : Nat)) (fun _ i => (RowKit.intOf i + 1).toNat)
 case atStart => exact ⟨n, (n : Int) - 1, rfl, Nat.le_refl _, rfl, int_eq (by rw [List.drop_of_length_le (by rw [HN.out]; exact Nat.le_refl _)]; rfl)⟩
 case round =>
  obtain ⟨k, q, hq, hk, rfl, rfl⟩ := hrel
  rcases k with _ | j
  ·obtain rfl : q = -1 := by have := hq.out; omega
   have hv0 : val 1000000000 (l.drop 0) = z.natAbs := by rw [A1.out]; rfl
   obtain ⟨m, hm⟩ : ∃ m, z.natAbs = m := ⟨_, rfl⟩
   rw [hm] at hv0 hzn hzp
   rw [hv0]
   have HM := Lib.hid hm
   clear hv0 hm
   have hm1 := hzn.out
   cases neg
   ·have hm2 := hzp.out rfl
    have hzm : z = (m : Int) := by have := Z1.out; rw [← A1.out, HM.out] at this; simpa using this
    have HZM := Lib.hid hzm
    clear hzm
    go_wp2
    go_ret2
    exact ⟨by rw [HZM.out]; rfl, HBW.out⟩
   ·have hzm : z = -(m : Int) := by have := Z1.out; rw [← A1.out, HM.out] at this; simpa using this
    have HZM := Lib.hid hzm
    have hwr := u64_back_neg hm1
    clear hzm
    go_wp2
    go_ret2
    exact ⟨by rw [HZM.out]; rfl, HBW.out⟩
  ·obtain rfl : q = (j : Int) := by have := hq.out; omega
   obtain rfl := s1 (by omega)
   have t3 := keepc HBW.out (R1.out j (by omega))
   have hx9 := Lim.getD HC.out.1 (by decide) j
   obtain ⟨x, hx⟩ : ∃ x, l.getD j 0 = x := ⟨_, rfl⟩
   simp only [hx] at t3 hx9
   have hv : val 1000000000 (l.drop j) = x + 1000000000 * val 1000000000 (l.drop (j + 1)) := by rw [val_drop_getD _ _ _ (by rw [HN.out]; omega), hx]
   have hbd : val 1000000000 (l.drop j) ≤ 9223372036854775808 := Nat.le_trans drop_le (by rw [← A1.out]; exact hzn.out)
   obtain ⟨y, hy⟩ : ∃ y, val 1000000000 (l.drop (j + 1)) = y := ⟨_, rfl⟩
   rw [hy] at hv ⊢
   rw [hv] at hbd
   have HV := Lib.hid hv
   clear hx hv hy
   have hjn : (j : Int) < (n : Int) := by omega
   go_wp2
   go_round
   case rel => exact ⟨j, (j : Int) - 1, rfl, by omega, by first | rfl | go_num, int_eq (by rw [HV.out]; omega)⟩
   case measure => simp [RowKit.intOf]
set_option maxHeartbeats 4000000 in
set_option maxRecDepth 100000 in
theorem small_big {w : World} {v : Value} {z : Int} (h : IntR w v z) (hz : 9223372036854775807 < z) :
  Calls Tryz.prog 50 #[v] w fun e w' => e = .returned (.tuple #[.int .i64 0, .bool false]) ∧ Below w.heap.size w w' := by
 have H := Lib.hid h
 obtain ⟨neg, s1, l, rfl, lr, hc, g1, z1, a1⟩ := h.parts
 obtain ⟨a, b, o, c, rfl, l1, m1, s1, r1⟩ := lr
 obtain ⟨n, hn⟩ : ∃ n, l.length = n := ⟨_, rfl⟩
 have HN := Lib.hid hn
 have R1 := Lib.hid r1
 have HC := Lib.hid hc
 have Z1 := Lib.hid z1
 have A1 := Lib.hid a1
 have G1 := Lib.hid g1
 rw [hn] at l1 s1 R1 H ⊢
 clear h z1 g1 a1 r1 hc hn
 obtain ⟨t1, ht1⟩ : ∃ t, (z - -9223372036854775808).sign = t := ⟨_, rfl⟩
 obtain ⟨t2, ht2⟩ : ∃ t, (z - 9223372036854775807).sign = t := ⟨_, rfl⟩
 have k1 : ¬ t1 < 0 := by rw [← ht1, Int.sign_neg_iff]; omega
 have k2 : 0 < t2 := by rw [← ht2, Int.sign_pos_iff]; omega
 have k1d : decide (t1 < 0) = false := by simp; omega
 have k2d : decide (0 < t2) = true := by simp; omega
 have SG1 := Lib.hid ht1
 have SG2 := Lib.hid ht2
 clear ht1 ht2
 have hb0 : Below w.heap.size w (w.alloc (.cells #[.bool neg, .slice a n c] 25)) := (Below.refl _ _).alloc (Nat.le_refl _) _
 have hc0 : (w.alloc (.cells #[.bool neg, .slice a n c] 25)).cell? ⟨w.heap.size, 0, none⟩ = some (.bool neg) := by go_simp
 have hc1 : (w.alloc (.cells #[.bool neg, .slice a n c] 25)).cell? ⟨w.heap.size, 1, none⟩ = some (.slice a n c) := by go_simp
 have BX := Lib.hid (And.intro hb0 (And.intro hc0 hc1))
 clear hb0 hc0 hc1
 go_enter Tryz.func50, Tryz.ntmps50
 go_wp2_with fail
 revert BX
 generalize (w.alloc (.cells #[.bool neg, .slice a n c] 25)) = W
 intro BX
 have HL := Lib.hid (fun (w' : World) (hb : Below W.heap.size W w') => (⟨hb, keepc hb BX.out.2.1, keepc hb BX.out.2.2⟩ : Below W.heap.size W w' ∧ w'.cell? ⟨w.heap.size, 0, none⟩ = some (.bool neg) ∧ w'.cell? ⟨w.heap.size, 1, none⟩ = some (.slice a n c)))
 have HI := Lib.hid (fun (w' : World) (hs : Below W.heap.size W w' ∧ w'.cell? ⟨w.heap.size, 0, none⟩ = some (.bool neg) ∧ w'.cell? ⟨w.heap.size, 1, none⟩ = some (.slice a n c)) => H.out.below (bt BX.out.1 hs.1))
 go_region_held3 (fun w' => Below W.heap.size W w' ∧ w'.cell? ⟨w.heap.size, 0, none⟩ = some (.bool neg) ∧ w'.cell? ⟨w.heap.size, 1, none⟩ = some (.slice a n c))
  (first | exact HL.out _ (Below.drew (Below.refl _ _)) | exact HL.out _ (bt (And.left (by assumption)) (by assumption)))
  (first | (go_at_call 43; (with_reducible refine (of_any (n := -9223372036854775808) (by omega) (by omega)).mono ?_); rintro e w1 ⟨n1, a1, k1, c1, rfl, hu1, hb1⟩; have HU1 := Lib.hid hu1; clear hu1) | (go_at_call 45; (with_reducible refine (cmp_any (HI.out _ (by assumption)) HU1.out).mono ?_); rintro e w2 ⟨rfl, hb2⟩; rw [SG1.out]) | (go_at_call 43; (with_reducible refine (of_any (n := 9223372036854775807) (by omega) (by omega)).mono ?_); rintro e w3 ⟨n3, a3, k3, c3, rfl, hu3, hb3⟩; have HU3 := Lib.hid hu3; clear hu3) | (go_at_call 45; (with_reducible refine (cmp_any (HI.out _ (by assumption)) HU3.out).mono ?_); rintro e w4 ⟨rfl, hb4⟩; rw [SG2.out]))
 have HB := Lib.hid (bt (bt (bt (bt (Below.drew (Below.refl W.heap.size W)) hb1) hb2) hb3) hb4)
 clear hb1 hb2 hb3 hb4
 go_wp2
 go_ret2
 exact ⟨rfl, bt BX.out.1 HB.out⟩
set_option maxHeartbeats 4000000 in
set_option maxRecDepth 100000 in
theorem small_low {w : World} {v : Value} {z : Int} (h : IntR w v z) (hz : z < -9223372036854775808) :
  Calls Tryz.prog 50 #[v] w fun e w' => e = .returned (.tuple #[.int .i64 0, .bool false]) ∧ Below w.heap.size w w' := by
 have H := Lib.hid h
 obtain ⟨neg, s1, l, rfl, lr, hc, g1, z1, a1⟩ := h.parts
 obtain ⟨a, b, o, c, rfl, l1, m1, s1, r1⟩ := lr
 obtain ⟨n, hn⟩ : ∃ n, l.length = n := ⟨_, rfl⟩
 have HN := Lib.hid hn
 have R1 := Lib.hid r1
 have HC := Lib.hid hc
 have Z1 := Lib.hid z1
 have A1 := Lib.hid a1
 have G1 := Lib.hid g1
 rw [hn] at l1 s1 R1 H ⊢
 clear h z1 g1 a1 r1 hc hn
 obtain ⟨t1, ht1⟩ : ∃ t, (z - -9223372036854775808).sign = t := ⟨_, rfl⟩
 have k1 : t1 < 0 := by rw [← ht1, Int.sign_neg_iff]; omega
 have k1d : decide (t1 < 0) = true := by simp; omega
 have SG1 := Lib.hid ht1
 clear ht1
 have hb0 : Below w.heap.size w (w.alloc (.cells #[.bool neg, .slice a n c] 25)) := (Below.refl _ _).alloc (Nat.le_refl _) _
 have hc0 : (w.alloc (.cells #[.bool neg, .slice a n c] 25)).cell? ⟨w.heap.size, 0, none⟩ = some (.bool neg) := by go_simp
 have hc1 : (w.alloc (.cells #[.bool neg, .slice a n c] 25)).cell? ⟨w.heap.size, 1, none⟩ = some (.slice a n c) := by go_simp
 have BX := Lib.hid (And.intro hb0 (And.intro hc0 hc1))
 clear hb0 hc0 hc1
 go_enter Tryz.func50, Tryz.ntmps50
 go_wp2_with fail
 revert BX
 generalize (w.alloc (.cells #[.bool neg, .slice a n c] 25)) = W
 intro BX
 have HL := Lib.hid (fun (w' : World) (hb : Below W.heap.size W w') => (⟨hb, keepc hb BX.out.2.1, keepc hb BX.out.2.2⟩ : Below W.heap.size W w' ∧ w'.cell? ⟨w.heap.size, 0, none⟩ = some (.bool neg) ∧ w'.cell? ⟨w.heap.size, 1, none⟩ = some (.slice a n c)))
 have HI := Lib.hid (fun (w' : World) (hs : Below W.heap.size W w' ∧ w'.cell? ⟨w.heap.size, 0, none⟩ = some (.bool neg) ∧ w'.cell? ⟨w.heap.size, 1, none⟩ = some (.slice a n c)) => H.out.below (bt BX.out.1 hs.1))
 refine wp_region_held_drew (S := fun w' => Below W.heap.size W w' ∧ w'.cell? ⟨w.heap.size, 0, none⟩ = some (.bool neg) ∧ w'.cell? ⟨w.heap.size, 1, none⟩ = some (.slice a n c)) (by kernel_rfl) ?_ (fun hHeld => ?_)
 ·first | exact HL.out _ (Below.drew (Below.refl _ _)) | exact HL.out _ (bt hHeld.1 (by assumption))
 (try dsimp only at hHeld)
 refine wpAnyH_take (i := 0) (oi := ({ dst := some 6, op := Op.load 25 (Operand.tmp 1), type := 25, pos := "integer.go:98", after := #[], guard := none } : Oper)) (v := ?x1_v0) rfl (by kernel_rfl) (by kernel_rfl) (by kernel_rfl) (fun _ _ _ h => h) (Or.inl ⟨by rfl, ?x1_h0⟩) hHeld ?x1_r0
 case x1_h0 => (intro w hSw; (try dsimp only at hSw); go_simp; all_goals with_reducible rfl)
 (try simp only [Act.put, List.setIfInBounds_toArray, List.set_cons_zero, List.set_cons_succ])
 refine wpAnyH_ready (rs := [1]) (by kernel_rfl) (by simp) ?_
 refine AllReadyH.cons (o := ({ dst := some 7, op := Op.call { callee := Callee.value (Operand.func 43), args := #[Operand.const (Value.int IntKind.i64 (-9223372036854775808))], argTypes := #[3] }, type := 25, pos := "integer.go:98", after := #[], guard := none } : Oper)) rfl (fun K hK => ?_) AllReadyH.nil
 go_simp
 (go_at_call 43; (with_reducible refine (of_any (n := -9223372036854775808) (by omega) (by omega)).mono ?_); rintro e w1 ⟨n1, a1, k1, c1, rfl, hu1, hb1⟩; have HU1 := Lib.hid hu1; clear hu1)
 first | refine hK.out _ _ ?_ (fun hHeld => ?_) | (go_wp2_with fail; refine hK.out _ _ ?_ (fun hHeld => ?_))
 ·first | exact HL.out _ (Below.drew (Below.refl _ _)) | exact HL.out _ (bt hHeld.1 (by assumption))
 clear hK K
 (try dsimp only at hHeld)
 (try simp only [Act.put, List.setIfInBounds_toArray, List.set_cons_zero, List.set_cons_succ])
 refine wpAnyH_ready (rs := [2]) (by kernel_rfl) (by simp) ?_
 refine AllReadyH.cons (o := ({ dst := some 8, op := Op.call { callee := Callee.value (Operand.func 45), args := #[Operand.tmp 6, Operand.tmp 7], argTypes := #[25, 25] }, type := 3, pos := "integer.go:98", after := #[{ on := 0, ground := Ground.data }, { on := 1, ground := Ground.data }, { on := 1, ground := Ground.chain }], guard := none } : Oper)) rfl (fun K hK => ?_) AllReadyH.nil
 go_simp
 (go_at_call 45; (with_reducible refine (cmp_any (HI.out _ hHeld) HU1.out).mono ?_); rintro e w2 ⟨rfl, hb2⟩; rw [SG1.out])
 first | refine hK.out _ _ ?_ (fun hHeld => ?_) | (go_wp2_with fail; refine hK.out _ _ ?_ (fun hHeld => ?_))
 ·first | exact HL.out _ (Below.drew (Below.refl _ _)) | exact HL.out _ (bt hHeld.1 (by assumption))
 clear hK K
 (try dsimp only at hHeld)
 (try simp only [Act.put, List.setIfInBounds_toArray, List.set_cons_zero, List.set_cons_succ])
 refine wpAnyH_take (i := 3) (oi := ({ dst := some 9, op := Op.binOp BinOp.lss 3 (Operand.tmp 8) (Operand.const (Value.int IntKind.i64 0)) 3, type := 4, pos := "integer.go:98", after := #[{ on := 2, ground := Ground.data }], guard := none } : Oper)) (v := ?x1_v3) rfl (by kernel_rfl) (by kernel_rfl) (by kernel_rfl) (fun _ _ _ h => h) (Or.inl ⟨by rfl, ?x1_h3⟩) hHeld ?x1_r3
 case x1_h3 => (intro w hSw; (try dsimp only at hSw); go_simp; all_goals with_reducible rfl)
 (try simp only [Act.put, List.setIfInBounds_toArray, List.set_cons_zero, List.set_cons_succ])
 refine wpAnyH_take (i := 4) (oi := ({ dst := some 10, op := Op.move (Operand.tmp 9), type := 4, pos := "integer.go:98", after := #[{ on := 3, ground := Ground.data }, { on := 2, ground := Ground.chain }], guard := none } : Oper)) (v := ?x1_v4) rfl (by kernel_rfl) (by kernel_rfl) (by kernel_rfl) (fun _ _ _ h => h) (Or.inl ⟨by rfl, ?x1_h4⟩) hHeld ?x1_r4
 case x1_h4 => (intro w hSw; (try dsimp only at hSw); go_simp; all_goals with_reducible rfl)
 (try simp only [Act.put, List.setIfInBounds_toArray, List.set_cons_zero, List.set_cons_succ])
 refine wpAnyH_take (i := 5) (oi := ({ dst := some 11, op := Op.load 25 (Operand.tmp 1), type := 25, pos := "integer.go:98", after := #[{ on := 4, ground := Ground.guard }], guard := some (4, false) } : Oper)) (v := undef) rfl (by kernel_rfl) (by kernel_rfl) (by kernel_rfl) (fun _ _ _ h => h) (Or.inr ⟨by rfl, rfl⟩) hHeld ?_
 (try simp only [Act.put, List.setIfInBounds_toArray, List.set_cons_zero, List.set_cons_succ])
 refine wpAnyH_take (i := 6) (oi := ({ dst := some 12, op := Op.call { callee := Callee.value (Operand.func 43), args := #[Operand.const (Value.int IntKind.i64 9223372036854775807)], argTypes := #[3] }, type := 25, pos := "integer.go:98", after := #[{ on := 4, ground := Ground.chain }, { on := 4, ground := Ground.guard }], guard := some (4, false) } : Oper)) (v := undef) rfl (by kernel_rfl) (by kernel_rfl) (by kernel_rfl) (fun _ _ _ h => h) (Or.inr ⟨by rfl, rfl⟩) hHeld ?_
 (try simp only [Act.put, List.setIfInBounds_toArray, List.set_cons_zero, List.set_cons_succ])
 refine wpAnyH_take (i := 7) (oi := ({ dst := some 13, op := Op.call { callee := Callee.value (Operand.func 45), args := #[Operand.tmp 11, Operand.tmp 12], argTypes := #[25, 25] }, type := 3, pos := "integer.go:98", after := #[{ on := 5, ground := Ground.data }, { on := 6, ground := Ground.data }, { on := 6, ground := Ground.chain }, { on := 4, ground := Ground.guard }], guard := some (4, false) } : Oper)) (v := undef) rfl (by kernel_rfl) (by kernel_rfl) (by kernel_rfl) (fun _ _ _ h => h) (Or.inr ⟨by rfl, rfl⟩) hHeld ?_
 (try simp only [Act.put, List.setIfInBounds_toArray, List.set_cons_zero, List.set_cons_succ])
 refine wpAnyH_take (i := 8) (oi := ({ dst := some 14, op := Op.binOp BinOp.gtr 3 (Operand.tmp 13) (Operand.const (Value.int IntKind.i64 0)) 3, type := 4, pos := "integer.go:98", after := #[{ on := 7, ground := Ground.data }, { on := 4, ground := Ground.guard }], guard := some (4, false) } : Oper)) (v := undef) rfl (by kernel_rfl) (by kernel_rfl) (by kernel_rfl) (fun _ _ _ h => h) (Or.inr ⟨by rfl, rfl⟩) hHeld ?_
 (try simp only [Act.put, List.setIfInBounds_toArray, List.set_cons_zero, List.set_cons_succ])
 refine wpAnyH_take (i := 9) (oi := ({ dst := some 15, op := Op.pick (Operand.tmp 10) (Operand.const (Value.bool true)) (Operand.tmp 14), type := 4, pos := "integer.go:98", after := #[{ on := 4, ground := Ground.data }, { on := 8, ground := Ground.data }], guard := none } : Oper)) (v := ?x1_v9) rfl (by kernel_rfl) (by kernel_rfl) (by kernel_rfl) (fun _ _ _ h => h) (Or.inl ⟨by rfl, ?x1_h9⟩) hHeld ?x1_r9
 case x1_h9 => (intro w hSw; (try dsimp only at hSw); go_simp; all_goals with_reducible rfl)
 (try simp only [Act.put, List.setIfInBounds_toArray, List.set_cons_zero, List.set_cons_succ])
 refine wpAnyH_done (by kernel_rfl) ?_ _
 have HB := Lib.hid (bt (bt (Below.drew (Below.refl W.heap.size W)) hb1) hb2)
 clear hb1 hb2
 go_wp2
 go_ret2
 exact ⟨rfl, bt BX.out.1 HB.out⟩
end Go.Proofs.YtikpafocankggaaGreatDoor
