/- The reference's Small. -/
import Derived.Test.YtikpafocankggaaGreatDoorSmall
namespace Go.Proofs.YtikpafocankggaaGreatDoor
open Go.RowKit Tally
theorem wrap64_bd (e t : Int) (h : wrap64 e = t) : -9223372036854775808 ≤ t ∧ t ≤ 9223372036854775807 := by
 rw [← h]; unfold wrap64; omega
theorem rdrop_le {l : List Nat} {k : Nat} : val 10000 (l.drop k) ≤ val 10000 l := by
 rcases Nat.lt_or_ge l.length k with h | h
 ·rw [List.drop_of_length_le (by omega)]; simp
 ·rw [val_take_drop 10000 l k h]
  have : 1 * val 10000 (l.drop k) ≤ 10000 ^ k * val 10000 (l.drop k) := Nat.mul_le_mul_right _ (Nat.pow_pos (by decide))
  omega
theorem dg20 {t : Int} (h1 : -9223372036854775808 ≤ t) (h2 : t ≤ 9223372036854775807) : Dg 20 t := by
 unfold Dg
 have : (10 : Nat) ^ 20 = 100000000000000000000 := by decide
 omega
theorem rtail {w W : World} {b o n c j : Nat} {l : List Nat} (hb : Below w.heap.size w W) (hn : l.length = n) (hr : ∀ i, i < n → w.cell? ⟨b, o + i, none⟩ = some (.int .i64 (l.getD i 0 : Nat))) (hj : j ≤ n) (hc : n ≤ c) (hm : c ≤ 9223372036854775807) :
  QR W (.slice (some ⟨b, o + j, none⟩) (n - j) (c - j)) (l.drop j) := by
 have hl : (l.drop j).length = n - j := by rw [List.length_drop, hn]
 refine ⟨some ⟨b, o + j, none⟩, b, o + j, c - j, by rw [hl], by omega, by omega, fun _ => rfl, fun i hi => ?_⟩
 have := keepc hb (hr (j + i) (by omega))
 rw [Nat.add_assoc, this]
 congr 3
 simp [List.getD]
theorem rsigned_asfalse {w : World} {v : Value} {l : List Nat} {y : Nat} (h : QR w v l) (hl : Lim 10000 l) (e : val 10000 l = y) :
  Calls Tryz.prog 86 #[.bool false, v] w (rGivesZ w (y : Int)) := by
 subst e
 exact (rsigned_gives (neg := false) h hl).mono fun e w' hh => by simpa using hh
theorem rsigned_astrue {w : World} {v : Value} {l : List Nat} {y : Nat} (h : QR w v l) (hl : Lim 10000 l) (e : val 10000 l = y) :
  Calls Tryz.prog 86 #[.bool true, v] w (rGivesZ w (-(y : Int))) := by
 subst e
 exact (rsigned_gives (neg := true) h hl).mono fun e w' hh => by simpa using hh
def SmallPost (w : World) (z : Int) (e : Ending) (w' : World) : Prop :=
 ((InI z → e = .returned (.tuple #[.int .i64 z, .bool true])) ∧ (¬ InI z → e = .returned (.tuple #[.int .i64 0, .bool false]))) ∧ Below w.heap.size w w'
theorem small_any {w : World} {v : Value} {z : Int} (h : IntR w v z) : Calls Tryz.prog 50 #[v] w (SmallPost w z) := by
 by_cases hz : InI z
 ·exact (small_yes h hz).mono fun e w' ⟨he, hb⟩ => ⟨⟨fun _ => he, fun q => absurd hz q⟩, hb⟩
 ·by_cases h1 : z < -9223372036854775808
  ·exact (small_low h h1).mono fun e w' ⟨he, hb⟩ => ⟨⟨fun q => absurd q hz, fun _ => he⟩, hb⟩
  ·exact (small_big h (by unfold InI at hz; omega)).mono fun e w' ⟨he, hb⟩ => ⟨⟨fun q => absurd q hz, fun _ => he⟩, hb⟩
set_option maxHeartbeats 8000000 in
set_option maxRecDepth 100000 in
theorem rsmall_any {w : World} {v : Value} {z : Int} (h : RefR w v z) :
  Calls Tryz.prog 51 #[v] w (SmallPost w z) := by
 obtain ⟨neg, s1, l, rfl, lr, hc, g1, z1, a1⟩ := h.parts
 obtain ⟨a, b, o, c, rfl, l1, m1, s1, r1⟩ := lr
 obtain ⟨n, hn⟩ : ∃ n, l.length = n := ⟨_, rfl⟩
 have HN := Lib.hid hn
 have R1 := Lib.hid r1
 have HC := Lib.hid hc
 have Z1 := Lib.hid z1
 have A1 := Lib.hid a1
 have G1 := Lib.hid g1
 rw [hn] at l1 s1 R1 ⊢
 clear h z1 g1 a1 r1 hc hn
 have hb0 : Below w.heap.size w (w.alloc (.cells #[.bool neg, .slice a n c] 30)) := (Below.refl _ _).alloc (Nat.le_refl _) _
 have hc0 : (w.alloc (.cells #[.bool neg, .slice a n c] 30)).cell? ⟨w.heap.size, 0, none⟩ = some (.bool neg) := by go_simp
 have hc1 : (w.alloc (.cells #[.bool neg, .slice a n c] 30)).cell? ⟨w.heap.size, 1, none⟩ = some (.slice a n c) := by go_simp
 have BX := Lib.hid (And.intro hb0 (And.intro hc0 hc1))
 clear hb0 hc0 hc1
 by_cases hbig : 5 < n
 ·obtain rfl := s1 (by omega)
  have hbz : (5 : Int) < (n : Int) := by omega
  have NOT := Lib.hid (show ¬ InI z from fun hz => by
   have hp := HC.out.pow_le (B := 10000) (by decide) (by rintro rfl; have := HN.out; simp at this; omega)
   rw [HN.out] at hp
   have h2 : 10000 ^ 5 ≤ 10000 ^ (n - 1) := Nat.pow_le_pow_right (by decide) (by omega)
   have h3 : (10000 : Nat) ^ 5 = 100000000000000000000 := by decide
   have h4 := A1.out
   unfold InI at hz
   omega)
  go_enter Tryz.func51, Tryz.ntmps51
  go_wp2
  revert BX
  generalize (w.alloc (.cells #[.bool neg, .slice (some ⟨b, o, none⟩) n c] 30)) = W
  intro BX
  go_loop [4, 5] (fun u i => i = .int .i64 ((n : Int) - 1) ∧ u = .int .i64 0) (fun _ i => (RowKit.intOf i + 1).toNat)
  case atStart => exact ⟨rfl, rfl⟩
  case round =>
   obtain ⟨rfl, rfl⟩ := hrel
   obtain ⟨d0, d1⟩ := BX.out.2
   obtain ⟨j, rfl⟩ : ∃ j, n = j + 1 := ⟨n - 1, by omega⟩
   have hj1 : ((j + 1 : Nat) : Int) - 1 = (j : Int) := by omega
   have hbd : decide ((5 : Int) < ((j + 1 : Nat) : Int)) = true := by rw [decide_eq_true_iff]; omega
   have hbd2 : decide ((5 : Int) < (j : Int) + 1) = true := by rw [decide_eq_true_iff]; omega
   have hbz2 : (5 : Int) < (j : Int) + 1 := by omega
   have t3 := keepc BX.out.1 (R1.out j (by omega))
   have hx4 := Lim.getD HC.out.1 (by decide) j
   obtain ⟨x, hx⟩ : ∃ x, l.getD j 0 = x := ⟨_, rfl⟩
   simp only [hx] at t3 hx4
   clear hx
   cases neg
   ·go_wp2_with fail
    refine wp_region_held_drew (S := fun w' => Below w.heap.size w w' ∧ w'.cell? ⟨w.heap.size, 0, none⟩ = some (.bool false) ∧ w'.cell? ⟨w.heap.size, 1, none⟩ = some (.slice (some ⟨b, o, none⟩) (j + 1) c)) (by kernel_rfl) ?_ (fun hHeld => ?_)
    ·first | exact ⟨Below.drew BX.out.1, keepc (Below.drew (Below.refl _ _)) d0, keepc (Below.drew (Below.refl _ _)) d1⟩
    (try dsimp only at hHeld)
    refine wpAnyH_take (i := 0) (oi := ({ dst := some 29, op := Op.fieldAddr 30 (Operand.tmp 1) 1, type := 0, pos := "ref.go:201", after := #[], guard := none } : Oper)) (v := ?x1_v0) rfl (by kernel_rfl) (by kernel_rfl) (by kernel_rfl) (fun _ _ _ h => h) (Or.inl ⟨by rfl, ?x1_h0⟩) hHeld ?x1_r0
    case x1_h0 => (intro w hSw; (try dsimp only at hSw); go_simp; all_goals with_reducible rfl)
    (try simp only [Act.put, List.setIfInBounds_toArray, List.set_cons_zero, List.set_cons_succ])
    refine wpAnyH_take (i := 1) (oi := ({ dst := some 30, op := Op.load 28 (Operand.tmp 29), type := 28, pos := "ref.go:201", after := #[{ on := 0, ground := Ground.data }], guard := none } : Oper)) (v := ?x1_v1) rfl (by kernel_rfl) (by kernel_rfl) (by kernel_rfl) (fun _ _ _ h => h) (Or.inl ⟨by rfl, ?x1_h1⟩) hHeld ?x1_r1
    case x1_h1 => (intro w hSw; (try dsimp only at hSw); go_simp; all_goals with_reducible rfl)
    (try simp only [Act.put, List.setIfInBounds_toArray, List.set_cons_zero, List.set_cons_succ])
    refine wpAnyH_take (i := 2) (oi := ({ dst := some 31, op := Op.call { callee := Callee.builtin Builtin.len, args := #[Operand.tmp 30], argTypes := #[28] }, type := 3, pos := "ref.go:201", after := #[{ on := 1, ground := Ground.data }], guard := none } : Oper)) (v := ?x1_v2) rfl (by kernel_rfl) (by kernel_rfl) (by kernel_rfl) (fun _ _ _ h => h) (Or.inl ⟨by rfl, ?x1_h2⟩) hHeld ?x1_r2
    case x1_h2 => (intro w hSw; (try dsimp only at hSw); go_simp; all_goals with_reducible rfl)
    (try simp only [Act.put, List.setIfInBounds_toArray, List.set_cons_zero, List.set_cons_succ])
    refine wpAnyH_take (i := 3) (oi := ({ dst := some 32, op := Op.binOp BinOp.gtr 3 (Operand.tmp 31) (Operand.const (Value.int IntKind.i64 5)) 3, type := 4, pos := "ref.go:201", after := #[{ on := 2, ground := Ground.data }], guard := none } : Oper)) (v := ?x1_v3) rfl (by kernel_rfl) (by kernel_rfl) (by kernel_rfl) (fun _ _ _ h => h) (Or.inl ⟨by rfl, ?x1_h3⟩) hHeld ?x1_r3
    case x1_h3 => (intro w hSw; (try dsimp only at hSw); go_simp; all_goals with_reducible rfl)
    (try simp only [Act.put, List.setIfInBounds_toArray, List.set_cons_zero, List.set_cons_succ])
    refine wpAnyH_take (i := 4) (oi := ({ dst := some 33, op := Op.move (Operand.tmp 32), type := 4, pos := "ref.go:201", after := #[{ on := 3, ground := Ground.data }], guard := none } : Oper)) (v := ?x1_v4) rfl (by kernel_rfl) (by kernel_rfl) (by kernel_rfl) (fun _ _ _ h => h) (Or.inl ⟨by rfl, ?x1_h4⟩) hHeld ?x1_r4
    case x1_h4 => (intro w hSw; (try dsimp only at hSw); go_simp; all_goals with_reducible rfl)
    (try simp only [Act.put, List.setIfInBounds_toArray, List.set_cons_zero, List.set_cons_succ])
    refine wpAnyH_take (i := 5) (oi := ({ dst := some 34, op := Op.move (Operand.tmp 7), type := 3, pos := "ref.go:201", after := #[{ on := 4, ground := Ground.guard }], guard := some (4, false) } : Oper)) (v := undef) rfl (by kernel_rfl) (by kernel_rfl) (by kernel_rfl) (fun _ _ _ h => h) (Or.inr ⟨by rfl, rfl⟩) hHeld ?_
    (try simp only [Act.put, List.setIfInBounds_toArray, List.set_cons_zero, List.set_cons_succ])
    refine wpAnyH_take (i := 6) (oi := ({ dst := some 35, op := Op.call { callee := Callee.value (Operand.func 82), args := #[Operand.tmp 34], argTypes := #[3] }, type := 30, pos := "ref.go:201", after := #[{ on := 5, ground := Ground.data }, { on := 4, ground := Ground.chain }, { on := 4, ground := Ground.guard }], guard := some (4, false) } : Oper)) (v := undef) rfl (by kernel_rfl) (by kernel_rfl) (by kernel_rfl) (fun _ _ _ h => h) (Or.inr ⟨by rfl, rfl⟩) hHeld ?_
    (try simp only [Act.put, List.setIfInBounds_toArray, List.set_cons_zero, List.set_cons_succ])
    refine wpAnyH_take (i := 7) (oi := ({ dst := some 36, op := Op.fieldAddr 30 (Operand.tmp 1) 0, type := 0, pos := "ref.go:201", after := #[{ on := 4, ground := Ground.guard }], guard := some (4, false) } : Oper)) (v := undef) rfl (by kernel_rfl) (by kernel_rfl) (by kernel_rfl) (fun _ _ _ h => h) (Or.inr ⟨by rfl, rfl⟩) hHeld ?_
    (try simp only [Act.put, List.setIfInBounds_toArray, List.set_cons_zero, List.set_cons_succ])
    refine wpAnyH_take (i := 8) (oi := ({ dst := some 37, op := Op.load 4 (Operand.tmp 36), type := 4, pos := "ref.go:201", after := #[{ on := 7, ground := Ground.data }, { on := 4, ground := Ground.guard }], guard := some (4, false) } : Oper)) (v := undef) rfl (by kernel_rfl) (by kernel_rfl) (by kernel_rfl) (fun _ _ _ h => h) (Or.inr ⟨by rfl, rfl⟩) hHeld ?_
    (try simp only [Act.put, List.setIfInBounds_toArray, List.set_cons_zero, List.set_cons_succ])
    refine wpAnyH_take (i := 9) (oi := ({ dst := some 38, op := Op.fieldAddr 30 (Operand.tmp 1) 1, type := 0, pos := "ref.go:201", after := #[{ on := 4, ground := Ground.guard }], guard := some (4, false) } : Oper)) (v := undef) rfl (by kernel_rfl) (by kernel_rfl) (by kernel_rfl) (fun _ _ _ h => h) (Or.inr ⟨by rfl, rfl⟩) hHeld ?_
    (try simp only [Act.put, List.setIfInBounds_toArray, List.set_cons_zero, List.set_cons_succ])
    refine wpAnyH_take (i := 10) (oi := ({ dst := some 39, op := Op.load 28 (Operand.tmp 38), type := 28, pos := "ref.go:201", after := #[{ on := 9, ground := Ground.data }, { on := 4, ground := Ground.guard }], guard := some (4, false) } : Oper)) (v := undef) rfl (by kernel_rfl) (by kernel_rfl) (by kernel_rfl) (fun _ _ _ h => h) (Or.inr ⟨by rfl, rfl⟩) hHeld ?_
    (try simp only [Act.put, List.setIfInBounds_toArray, List.set_cons_zero, List.set_cons_succ])
    refine wpAnyH_take (i := 11) (oi := ({ dst := some 40, op := Op.move (Operand.tmp 5), type := 3, pos := "ref.go:201", after := #[{ on := 4, ground := Ground.guard }], guard := some (4, false) } : Oper)) (v := undef) rfl (by kernel_rfl) (by kernel_rfl) (by kernel_rfl) (fun _ _ _ h => h) (Or.inr ⟨by rfl, rfl⟩) hHeld ?_
    (try simp only [Act.put, List.setIfInBounds_toArray, List.set_cons_zero, List.set_cons_succ])
    refine wpAnyH_take (i := 12) (oi := ({ dst := some 41, op := Op.slice 28 (Operand.tmp 39) (some (Operand.tmp 40)) none none, type := 28, pos := "ref.go:201", after := #[{ on := 10, ground := Ground.data }, { on := 11, ground := Ground.data }, { on := 4, ground := Ground.guard }], guard := some (4, false) } : Oper)) (v := undef) rfl (by kernel_rfl) (by kernel_rfl) (by kernel_rfl) (fun _ _ _ h => h) (Or.inr ⟨by rfl, rfl⟩) hHeld ?_
    (try simp only [Act.put, List.setIfInBounds_toArray, List.set_cons_zero, List.set_cons_succ])
    refine wpAnyH_take (i := 13) (oi := ({ dst := some 42, op := Op.call { callee := Callee.value (Operand.func 86), args := #[Operand.tmp 37, Operand.tmp 41], argTypes := #[4, 28] }, type := 30, pos := "ref.go:201", after := #[{ on := 8, ground := Ground.data }, { on := 12, ground := Ground.data }, { on := 6, ground := Ground.chain }, { on := 4, ground := Ground.guard }], guard := some (4, false) } : Oper)) (v := undef) rfl (by kernel_rfl) (by kernel_rfl) (by kernel_rfl) (fun _ _ _ h => h) (Or.inr ⟨by rfl, rfl⟩) hHeld ?_
    (try simp only [Act.put, List.setIfInBounds_toArray, List.set_cons_zero, List.set_cons_succ])
    refine wpAnyH_take (i := 14) (oi := ({ dst := some 43, op := Op.call { callee := Callee.value (Operand.func 85), args := #[Operand.tmp 35, Operand.tmp 42], argTypes := #[30, 30] }, type := 3, pos := "ref.go:201", after := #[{ on := 6, ground := Ground.data }, { on := 13, ground := Ground.data }, { on := 13, ground := Ground.chain }, { on := 4, ground := Ground.guard }], guard := some (4, false) } : Oper)) (v := undef) rfl (by kernel_rfl) (by kernel_rfl) (by kernel_rfl) (fun _ _ _ h => h) (Or.inr ⟨by rfl, rfl⟩) hHeld ?_
    (try simp only [Act.put, List.setIfInBounds_toArray, List.set_cons_zero, List.set_cons_succ])
    refine wpAnyH_take (i := 15) (oi := ({ dst := some 44, op := Op.binOp BinOp.neq 3 (Operand.tmp 43) (Operand.const (Value.int IntKind.i64 0)) 3, type := 4, pos := "ref.go:201", after := #[{ on := 14, ground := Ground.data }, { on := 4, ground := Ground.guard }], guard := some (4, false) } : Oper)) (v := undef) rfl (by kernel_rfl) (by kernel_rfl) (by kernel_rfl) (fun _ _ _ h => h) (Or.inr ⟨by rfl, rfl⟩) hHeld ?_
    (try simp only [Act.put, List.setIfInBounds_toArray, List.set_cons_zero, List.set_cons_succ])
    refine wpAnyH_take (i := 16) (oi := ({ dst := some 45, op := Op.pick (Operand.tmp 33) (Operand.const (Value.bool true)) (Operand.tmp 44), type := 4, pos := "ref.go:201", after := #[{ on := 4, ground := Ground.data }, { on := 15, ground := Ground.data }], guard := none } : Oper)) (v := ?x1_v16) rfl (by kernel_rfl) (by kernel_rfl) (by kernel_rfl) (fun _ _ _ h => h) (Or.inl ⟨by rfl, ?x1_h16⟩) hHeld ?x1_r16
    case x1_h16 => (intro w hSw; (try dsimp only at hSw); go_simp; all_goals with_reducible rfl)
    (try simp only [Act.put, List.setIfInBounds_toArray, List.set_cons_zero, List.set_cons_succ])
    refine wpAnyH_done (by kernel_rfl) ?_ _
    go_wp2
    go_ret2
    exact ⟨⟨fun h => absurd h NOT.out, fun _ => rfl⟩, bt BX.out.1 (Below.drew (Below.refl _ _))⟩
   ·go_wp2_with fail
    refine wp_region_held_drew (S := fun w' => Below w.heap.size w w' ∧ w'.cell? ⟨w.heap.size, 0, none⟩ = some (.bool true) ∧ w'.cell? ⟨w.heap.size, 1, none⟩ = some (.slice (some ⟨b, o, none⟩) (j + 1) c)) (by kernel_rfl) ?_ (fun hHeld => ?_)
    ·first | exact ⟨Below.drew BX.out.1, keepc (Below.drew (Below.refl _ _)) d0, keepc (Below.drew (Below.refl _ _)) d1⟩
    (try dsimp only at hHeld)
    refine wpAnyH_take (i := 0) (oi := ({ dst := some 29, op := Op.fieldAddr 30 (Operand.tmp 1) 1, type := 0, pos := "ref.go:201", after := #[], guard := none } : Oper)) (v := ?x2_v0) rfl (by kernel_rfl) (by kernel_rfl) (by kernel_rfl) (fun _ _ _ h => h) (Or.inl ⟨by rfl, ?x2_h0⟩) hHeld ?x2_r0
    case x2_h0 => (intro w hSw; (try dsimp only at hSw); go_simp; all_goals with_reducible rfl)
    (try simp only [Act.put, List.setIfInBounds_toArray, List.set_cons_zero, List.set_cons_succ])
    refine wpAnyH_take (i := 1) (oi := ({ dst := some 30, op := Op.load 28 (Operand.tmp 29), type := 28, pos := "ref.go:201", after := #[{ on := 0, ground := Ground.data }], guard := none } : Oper)) (v := ?x2_v1) rfl (by kernel_rfl) (by kernel_rfl) (by kernel_rfl) (fun _ _ _ h => h) (Or.inl ⟨by rfl, ?x2_h1⟩) hHeld ?x2_r1
    case x2_h1 => (intro w hSw; (try dsimp only at hSw); go_simp; all_goals with_reducible rfl)
    (try simp only [Act.put, List.setIfInBounds_toArray, List.set_cons_zero, List.set_cons_succ])
    refine wpAnyH_take (i := 2) (oi := ({ dst := some 31, op := Op.call { callee := Callee.builtin Builtin.len, args := #[Operand.tmp 30], argTypes := #[28] }, type := 3, pos := "ref.go:201", after := #[{ on := 1, ground := Ground.data }], guard := none } : Oper)) (v := ?x2_v2) rfl (by kernel_rfl) (by kernel_rfl) (by kernel_rfl) (fun _ _ _ h => h) (Or.inl ⟨by rfl, ?x2_h2⟩) hHeld ?x2_r2
    case x2_h2 => (intro w hSw; (try dsimp only at hSw); go_simp; all_goals with_reducible rfl)
    (try simp only [Act.put, List.setIfInBounds_toArray, List.set_cons_zero, List.set_cons_succ])
    refine wpAnyH_take (i := 3) (oi := ({ dst := some 32, op := Op.binOp BinOp.gtr 3 (Operand.tmp 31) (Operand.const (Value.int IntKind.i64 5)) 3, type := 4, pos := "ref.go:201", after := #[{ on := 2, ground := Ground.data }], guard := none } : Oper)) (v := ?x2_v3) rfl (by kernel_rfl) (by kernel_rfl) (by kernel_rfl) (fun _ _ _ h => h) (Or.inl ⟨by rfl, ?x2_h3⟩) hHeld ?x2_r3
    case x2_h3 => (intro w hSw; (try dsimp only at hSw); go_simp; all_goals with_reducible rfl)
    (try simp only [Act.put, List.setIfInBounds_toArray, List.set_cons_zero, List.set_cons_succ])
    refine wpAnyH_take (i := 4) (oi := ({ dst := some 33, op := Op.move (Operand.tmp 32), type := 4, pos := "ref.go:201", after := #[{ on := 3, ground := Ground.data }], guard := none } : Oper)) (v := ?x2_v4) rfl (by kernel_rfl) (by kernel_rfl) (by kernel_rfl) (fun _ _ _ h => h) (Or.inl ⟨by rfl, ?x2_h4⟩) hHeld ?x2_r4
    case x2_h4 => (intro w hSw; (try dsimp only at hSw); go_simp; all_goals with_reducible rfl)
    (try simp only [Act.put, List.setIfInBounds_toArray, List.set_cons_zero, List.set_cons_succ])
    refine wpAnyH_take (i := 5) (oi := ({ dst := some 34, op := Op.move (Operand.tmp 7), type := 3, pos := "ref.go:201", after := #[{ on := 4, ground := Ground.guard }], guard := some (4, false) } : Oper)) (v := undef) rfl (by kernel_rfl) (by kernel_rfl) (by kernel_rfl) (fun _ _ _ h => h) (Or.inr ⟨by rfl, rfl⟩) hHeld ?_
    (try simp only [Act.put, List.setIfInBounds_toArray, List.set_cons_zero, List.set_cons_succ])
    refine wpAnyH_take (i := 6) (oi := ({ dst := some 35, op := Op.call { callee := Callee.value (Operand.func 82), args := #[Operand.tmp 34], argTypes := #[3] }, type := 30, pos := "ref.go:201", after := #[{ on := 5, ground := Ground.data }, { on := 4, ground := Ground.chain }, { on := 4, ground := Ground.guard }], guard := some (4, false) } : Oper)) (v := undef) rfl (by kernel_rfl) (by kernel_rfl) (by kernel_rfl) (fun _ _ _ h => h) (Or.inr ⟨by rfl, rfl⟩) hHeld ?_
    (try simp only [Act.put, List.setIfInBounds_toArray, List.set_cons_zero, List.set_cons_succ])
    refine wpAnyH_take (i := 7) (oi := ({ dst := some 36, op := Op.fieldAddr 30 (Operand.tmp 1) 0, type := 0, pos := "ref.go:201", after := #[{ on := 4, ground := Ground.guard }], guard := some (4, false) } : Oper)) (v := undef) rfl (by kernel_rfl) (by kernel_rfl) (by kernel_rfl) (fun _ _ _ h => h) (Or.inr ⟨by rfl, rfl⟩) hHeld ?_
    (try simp only [Act.put, List.setIfInBounds_toArray, List.set_cons_zero, List.set_cons_succ])
    refine wpAnyH_take (i := 8) (oi := ({ dst := some 37, op := Op.load 4 (Operand.tmp 36), type := 4, pos := "ref.go:201", after := #[{ on := 7, ground := Ground.data }, { on := 4, ground := Ground.guard }], guard := some (4, false) } : Oper)) (v := undef) rfl (by kernel_rfl) (by kernel_rfl) (by kernel_rfl) (fun _ _ _ h => h) (Or.inr ⟨by rfl, rfl⟩) hHeld ?_
    (try simp only [Act.put, List.setIfInBounds_toArray, List.set_cons_zero, List.set_cons_succ])
    refine wpAnyH_take (i := 9) (oi := ({ dst := some 38, op := Op.fieldAddr 30 (Operand.tmp 1) 1, type := 0, pos := "ref.go:201", after := #[{ on := 4, ground := Ground.guard }], guard := some (4, false) } : Oper)) (v := undef) rfl (by kernel_rfl) (by kernel_rfl) (by kernel_rfl) (fun _ _ _ h => h) (Or.inr ⟨by rfl, rfl⟩) hHeld ?_
    (try simp only [Act.put, List.setIfInBounds_toArray, List.set_cons_zero, List.set_cons_succ])
    refine wpAnyH_take (i := 10) (oi := ({ dst := some 39, op := Op.load 28 (Operand.tmp 38), type := 28, pos := "ref.go:201", after := #[{ on := 9, ground := Ground.data }, { on := 4, ground := Ground.guard }], guard := some (4, false) } : Oper)) (v := undef) rfl (by kernel_rfl) (by kernel_rfl) (by kernel_rfl) (fun _ _ _ h => h) (Or.inr ⟨by rfl, rfl⟩) hHeld ?_
    (try simp only [Act.put, List.setIfInBounds_toArray, List.set_cons_zero, List.set_cons_succ])
    refine wpAnyH_take (i := 11) (oi := ({ dst := some 40, op := Op.move (Operand.tmp 5), type := 3, pos := "ref.go:201", after := #[{ on := 4, ground := Ground.guard }], guard := some (4, false) } : Oper)) (v := undef) rfl (by kernel_rfl) (by kernel_rfl) (by kernel_rfl) (fun _ _ _ h => h) (Or.inr ⟨by rfl, rfl⟩) hHeld ?_
    (try simp only [Act.put, List.setIfInBounds_toArray, List.set_cons_zero, List.set_cons_succ])
    refine wpAnyH_take (i := 12) (oi := ({ dst := some 41, op := Op.slice 28 (Operand.tmp 39) (some (Operand.tmp 40)) none none, type := 28, pos := "ref.go:201", after := #[{ on := 10, ground := Ground.data }, { on := 11, ground := Ground.data }, { on := 4, ground := Ground.guard }], guard := some (4, false) } : Oper)) (v := undef) rfl (by kernel_rfl) (by kernel_rfl) (by kernel_rfl) (fun _ _ _ h => h) (Or.inr ⟨by rfl, rfl⟩) hHeld ?_
    (try simp only [Act.put, List.setIfInBounds_toArray, List.set_cons_zero, List.set_cons_succ])
    refine wpAnyH_take (i := 13) (oi := ({ dst := some 42, op := Op.call { callee := Callee.value (Operand.func 86), args := #[Operand.tmp 37, Operand.tmp 41], argTypes := #[4, 28] }, type := 30, pos := "ref.go:201", after := #[{ on := 8, ground := Ground.data }, { on := 12, ground := Ground.data }, { on := 6, ground := Ground.chain }, { on := 4, ground := Ground.guard }], guard := some (4, false) } : Oper)) (v := undef) rfl (by kernel_rfl) (by kernel_rfl) (by kernel_rfl) (fun _ _ _ h => h) (Or.inr ⟨by rfl, rfl⟩) hHeld ?_
    (try simp only [Act.put, List.setIfInBounds_toArray, List.set_cons_zero, List.set_cons_succ])
    refine wpAnyH_take (i := 14) (oi := ({ dst := some 43, op := Op.call { callee := Callee.value (Operand.func 85), args := #[Operand.tmp 35, Operand.tmp 42], argTypes := #[30, 30] }, type := 3, pos := "ref.go:201", after := #[{ on := 6, ground := Ground.data }, { on := 13, ground := Ground.data }, { on := 13, ground := Ground.chain }, { on := 4, ground := Ground.guard }], guard := some (4, false) } : Oper)) (v := undef) rfl (by kernel_rfl) (by kernel_rfl) (by kernel_rfl) (fun _ _ _ h => h) (Or.inr ⟨by rfl, rfl⟩) hHeld ?_
    (try simp only [Act.put, List.setIfInBounds_toArray, List.set_cons_zero, List.set_cons_succ])
    refine wpAnyH_take (i := 15) (oi := ({ dst := some 44, op := Op.binOp BinOp.neq 3 (Operand.tmp 43) (Operand.const (Value.int IntKind.i64 0)) 3, type := 4, pos := "ref.go:201", after := #[{ on := 14, ground := Ground.data }, { on := 4, ground := Ground.guard }], guard := some (4, false) } : Oper)) (v := undef) rfl (by kernel_rfl) (by kernel_rfl) (by kernel_rfl) (fun _ _ _ h => h) (Or.inr ⟨by rfl, rfl⟩) hHeld ?_
    (try simp only [Act.put, List.setIfInBounds_toArray, List.set_cons_zero, List.set_cons_succ])
    refine wpAnyH_take (i := 16) (oi := ({ dst := some 45, op := Op.pick (Operand.tmp 33) (Operand.const (Value.bool true)) (Operand.tmp 44), type := 4, pos := "ref.go:201", after := #[{ on := 4, ground := Ground.data }, { on := 15, ground := Ground.data }], guard := none } : Oper)) (v := ?x2_v16) rfl (by kernel_rfl) (by kernel_rfl) (by kernel_rfl) (fun _ _ _ h => h) (Or.inl ⟨by rfl, ?x2_h16⟩) hHeld ?x2_r16
    case x2_h16 => (intro w hSw; (try dsimp only at hSw); go_simp; all_goals with_reducible rfl)
    (try simp only [Act.put, List.setIfInBounds_toArray, List.set_cons_zero, List.set_cons_succ])
    refine wpAnyH_done (by kernel_rfl) ?_ _
    go_wp2
    go_ret2
    exact ⟨⟨fun h => absurd h NOT.out, fun _ => rfl⟩, bt BX.out.1 (Below.drew (Below.refl _ _))⟩
 ·cases neg
  ·go_enter Tryz.func51, Tryz.ntmps51
   go_wp2
   revert BX
   generalize (w.alloc (.cells #[.bool false, .slice a n c] 30)) = W
   intro BX
   have hn5 : n ≤ 5 := by omega
   have hn5z : ¬ (5 : Int) < (n : Int) := by omega
   have hn5d : decide ((5 : Int) < (n : Int)) = false := by simpa using hn5z
   go_loopw [4, 5] (fun u i wr => ∃ (k : Nat) (q : Int), Hid (q = (k : Int) - 1) ∧ k ≤ n ∧ i = .int .i64 q ∧ u = .int .i64 ((val 10000 (l.drop k) : Int)) ∧ InI ((val 10000 (l.drop k) : Int)) ∧ Below W.heap.size W wr) (fun _ i _ => (RowKit.intOf i + 1).toNat)
   case atStart => exact ⟨n, (n : Int) - 1, rfl, Nat.le_refl _, rfl, by rw [List.drop_of_length_le (by rw [HN.out]; exact Nat.le_refl _)]; rfl, by rw [List.drop_of_length_le (by rw [HN.out]; exact Nat.le_refl _)]; unfold InI; simp, Below.refl _ _⟩
   case round =>
    obtain ⟨k, q, hq, hk, rfl, rfl, hin, hbr⟩ := hrel
    have HBW := Lib.hid hbr
    have d0 := keepc hbr BX.out.2.1
    have d1 := keepc hbr BX.out.2.2
    clear hbr
    rcases k with _ | j
    ·obtain rfl : q = -1 := by have := hq.out; omega
     have hzz : z = (val 10000 (l.drop 0) : Int) := by have := Z1.out; simpa using this
     have HZZ := Lib.hid hzz
     have YES := Lib.hid (fun hnot : ¬ InI z => hnot (by rw [hzz]; exact hin))
     clear hzz
     go_wp2
     go_ret2
     exact ⟨⟨fun _ => by rw [HZZ.out]; rfl, fun hnot => absurd hnot (fun h => YES.out h)⟩, bt BX.out.1 HBW.out⟩
    ·obtain rfl : q = (j : Int) := by have := hq.out; omega
     obtain rfl := s1 (by omega)
     have HL := Lib.hid (fun (w' : World) (hb : Below W.heap.size W w') => (⟨hb, keepc hb BX.out.2.1, keepc hb BX.out.2.2⟩ : Below W.heap.size W w' ∧ w'.cell? ⟨w.heap.size, 0, none⟩ = some (.bool false) ∧ w'.cell? ⟨w.heap.size, 1, none⟩ = some (.slice (some ⟨b, o, none⟩) n c)))
     have t3 := keepc (bt BX.out.1 HBW.out) (R1.out j (by omega))
     have hx4 := Lim.getD HC.out.1 (by decide) j
     obtain ⟨x, hx⟩ : ∃ x, l.getD j 0 = x := ⟨_, rfl⟩
     simp only [hx] at t3 hx4
     have hv : val 10000 (l.drop j) = x + 10000 * val 10000 (l.drop (j + 1)) := by rw [val_drop_getD _ _ _ (by rw [HN.out]; omega), hx]
     have hle : val 10000 (l.drop j) ≤ z.natAbs := by rw [A1.out]; exact rdrop_le
     have hy20 : val 10000 (l.drop j) < 10 ^ 20 := by
      have h1 := val_lt 10000 (l.drop j) (Lim.drop HC.out.1 j)
      rw [List.length_drop, HN.out] at h1
      have h2 : 10000 ^ (n - j) ≤ 10000 ^ 5 := Nat.pow_le_pow_right (by decide) (by omega)
      exact Nat.lt_of_lt_of_le h1 h2
     obtain ⟨u, hu⟩ : ∃ u, val 10000 (l.drop (j + 1)) = u := ⟨_, rfl⟩
     obtain ⟨y, hy⟩ : ∃ y, val 10000 (l.drop j) = y := ⟨_, rfl⟩
     rw [hu] at hv hin
     rw [hu]
     rw [hy] at hv hle hy20
     obtain ⟨p, hp⟩ : ∃ p, wrap64 ((u : Int) * 10000) = p := ⟨_, rfl⟩
     obtain ⟨t, ht⟩ : ∃ t, wrap64 (p + (x : Int)) = t := ⟨_, rfl⟩
     obtain ⟨ht1, ht2⟩ := wrap64_bd (p + (x : Int)) t ht
     have hyes : InI ((y : Int)) → t = (y : Int) := fun hh => by
      obtain ⟨g1, g2⟩ := hh
      have e1 : p = (u : Int) * 10000 := by rw [← hp]; exact IntWalk.wrap64_in _ ⟨by omega, by omega⟩
      rw [← ht, e1]
      rw [IntWalk.wrap64_in _ ⟨by omega, by omega⟩]
      omega
     have HYV := Lib.hid hy
     have dgt : Dg 20 t := dg20 ht1 ht2
     have dgy : Dg 20 ((y : Int)) := by
      unfold Dg
      have h9 : ((y : Int)).natAbs = y := by omega
      rw [h9]
      exact hy20
     have hlim : Lim 10000 (l.drop j) := Lim.drop HC.out.1 j
     have hjn : (j : Int) < (n : Int) := by omega
     have hjc : (j : Int) < (c : Int) := by omega
     have hz0 : (0 : Int) ≤ (j : Int) := by omega
     have hjn2 : (j : Int) ≤ (n : Int) := by omega
     have hjn3 : j ≤ n := by omega
     have hnc : (n : Int) ≤ (c : Int) := by omega
     have hjc2 : ¬ c = j := by omega
     have hjc3 : ¬ (c : Int) = (j : Int) := by omega
     have HTL := Lib.hid (fun (w' : World) (hs : Below W.heap.size W w' ∧ w'.cell? ⟨w.heap.size, 0, none⟩ = some (.bool false) ∧ w'.cell? ⟨w.heap.size, 1, none⟩ = some (.slice (some ⟨b, o, none⟩) n c)) => rtail (W := w') (bt BX.out.1 hs.1) HN.out R1.out (show j ≤ n by omega) l1 m1)
     have HV := Lib.hid hv
     have HLE := Lib.hid hle
     have HYES := Lib.hid hyes
     clear hx hv hle hyes hu hy
     by_cases hI : InI ((y : Int))
     ·have ES := Lib.hid (show (t - (y : Int)).sign = 0 by rw [HYES.out hI, Int.sub_self]; rfl)
      have ET := Lib.hid (HYES.out hI)
      have HI2 := Lib.hid hI
      clear hI
      go_wp2_with fail
      go_region_held3 (fun w' => Below W.heap.size W w' ∧ w'.cell? ⟨w.heap.size, 0, none⟩ = some (.bool false) ∧ w'.cell? ⟨w.heap.size, 1, none⟩ = some (.slice (some ⟨b, o, none⟩) n c))
       (first | exact HL.out _ (Below.drew HBW.out) | exact HL.out _ (bt (And.left (by assumption)) (by assumption)))
       (first | (go_at_call 82; (with_reducible refine (rof_any (n := t) ht1 ht2).mono ?_); rintro e v1 ⟨n1, a1, k1, c1, rfl, hu1, hb1⟩; have HU1 := Lib.hid hu1; clear hu1) | (go_at_call 86; (with_reducible refine (rsigned_asfalse (HTL.out _ (by assumption)) hlim HYV.out).mono ?_); rintro e v2 ⟨n2, a2, k2, c2, rfl, hu2, hb2⟩; have HU2 := Lib.hid hu2; clear hu2) | (go_at_call 85; (with_reducible refine (rcmp_any (HU1.out.below hb2) HU2.out dgt dgy (by omega)).mono ?_); rintro e v3 ⟨rfl, hb3⟩; rw [ES.out]))
      have HB4 := Lib.hid (bt (bt (bt (Below.drew HBW.out) hb1) hb2) hb3)
      clear hb1 hb2 hb3 hp ht d0 d1
      go_wp2
      go_roundw
      case rel => exact ⟨j, (j : Int) - 1, rfl, by omega, by first | rfl | go_num, int_eq (by rw [HYV.out]; exact ET.out), by rw [HYV.out]; exact HI2.out, HB4.out⟩
      case measure => simp [RowKit.intOf]
     ·obtain ⟨sg, hsg⟩ : ∃ sg, (t - (y : Int)).sign = sg := ⟨_, rfl⟩
      have hne : (sg != 0) = true := by
       rw [← hsg, bne_iff_ne]
       intro e
       have := Int.sign_eq_zero_iff_zero.1 e
       exact hI ⟨by omega, by omega⟩
      have ES := Lib.hid hsg
      have NOT := Lib.hid (show ¬ InI z from fun hz => hI (by
       obtain ⟨g1, g2⟩ := hz
       have h1 := HLE.out
       have h2 := Z1.out
       have h3 := A1.out
       unfold InI
       simp at h2
       omega))
      clear hI hsg
      go_wp2_with fail
      go_region_held3 (fun w' => Below W.heap.size W w' ∧ w'.cell? ⟨w.heap.size, 0, none⟩ = some (.bool false) ∧ w'.cell? ⟨w.heap.size, 1, none⟩ = some (.slice (some ⟨b, o, none⟩) n c))
       (first | exact HL.out _ (Below.drew HBW.out) | exact HL.out _ (bt (And.left (by assumption)) (by assumption)))
       (first | (go_at_call 82; (with_reducible refine (rof_any (n := t) ht1 ht2).mono ?_); rintro e v1 ⟨n1, a1, k1, c1, rfl, hu1, hb1⟩; have HU1 := Lib.hid hu1; clear hu1) | (go_at_call 86; (with_reducible refine (rsigned_asfalse (HTL.out _ (by assumption)) hlim HYV.out).mono ?_); rintro e v2 ⟨n2, a2, k2, c2, rfl, hu2, hb2⟩; have HU2 := Lib.hid hu2; clear hu2) | (go_at_call 85; (with_reducible refine (rcmp_any (HU1.out.below hb2) HU2.out dgt dgy (by omega)).mono ?_); rintro e v3 ⟨rfl, hb3⟩; rw [ES.out]))
      have HB4 := Lib.hid (bt (bt (bt (Below.drew HBW.out) hb1) hb2) hb3)
      clear hb1 hb2 hb3 hp ht d0 d1
      go_wp2
      go_ret2
      exact ⟨⟨fun h => absurd h NOT.out, fun _ => rfl⟩, bt BX.out.1 HB4.out⟩
  ·go_enter Tryz.func51, Tryz.ntmps51
   go_wp2
   revert BX
   generalize (w.alloc (.cells #[.bool true, .slice a n c] 30)) = W
   intro BX
   have hn5 : n ≤ 5 := by omega
   have hn5z : ¬ (5 : Int) < (n : Int) := by omega
   have hn5d : decide ((5 : Int) < (n : Int)) = false := by simpa using hn5z
   go_loopw [4, 5] (fun u i wr => ∃ (k : Nat) (q : Int), Hid (q = (k : Int) - 1) ∧ k ≤ n ∧ i = .int .i64 q ∧ u = .int .i64 (-(val 10000 (l.drop k) : Int)) ∧ InI (-(val 10000 (l.drop k) : Int)) ∧ Below W.heap.size W wr) (fun _ i _ => (RowKit.intOf i + 1).toNat)
   case atStart => exact ⟨n, (n : Int) - 1, rfl, Nat.le_refl _, rfl, by rw [List.drop_of_length_le (by rw [HN.out]; exact Nat.le_refl _)]; rfl, by rw [List.drop_of_length_le (by rw [HN.out]; exact Nat.le_refl _)]; unfold InI; simp, Below.refl _ _⟩
   case round =>
    obtain ⟨k, q, hq, hk, rfl, rfl, hin, hbr⟩ := hrel
    have HBW := Lib.hid hbr
    have d0 := keepc hbr BX.out.2.1
    have d1 := keepc hbr BX.out.2.2
    clear hbr
    rcases k with _ | j
    ·obtain rfl : q = -1 := by have := hq.out; omega
     have hzz : z = -(val 10000 (l.drop 0) : Int) := by have := Z1.out; simpa using this
     have HZZ := Lib.hid hzz
     have YES := Lib.hid (fun hnot : ¬ InI z => hnot (by rw [hzz]; exact hin))
     clear hzz
     go_wp2
     go_ret2
     exact ⟨⟨fun _ => by rw [HZZ.out]; rfl, fun hnot => absurd hnot (fun h => YES.out h)⟩, bt BX.out.1 HBW.out⟩
    ·obtain rfl : q = (j : Int) := by have := hq.out; omega
     obtain rfl := s1 (by omega)
     have HL := Lib.hid (fun (w' : World) (hb : Below W.heap.size W w') => (⟨hb, keepc hb BX.out.2.1, keepc hb BX.out.2.2⟩ : Below W.heap.size W w' ∧ w'.cell? ⟨w.heap.size, 0, none⟩ = some (.bool true) ∧ w'.cell? ⟨w.heap.size, 1, none⟩ = some (.slice (some ⟨b, o, none⟩) n c)))
     have t3 := keepc (bt BX.out.1 HBW.out) (R1.out j (by omega))
     have hx4 := Lim.getD HC.out.1 (by decide) j
     obtain ⟨x, hx⟩ : ∃ x, l.getD j 0 = x := ⟨_, rfl⟩
     simp only [hx] at t3 hx4
     have hv : val 10000 (l.drop j) = x + 10000 * val 10000 (l.drop (j + 1)) := by rw [val_drop_getD _ _ _ (by rw [HN.out]; omega), hx]
     have hle : val 10000 (l.drop j) ≤ z.natAbs := by rw [A1.out]; exact rdrop_le
     have hy20 : val 10000 (l.drop j) < 10 ^ 20 := by
      have h1 := val_lt 10000 (l.drop j) (Lim.drop HC.out.1 j)
      rw [List.length_drop, HN.out] at h1
      have h2 : 10000 ^ (n - j) ≤ 10000 ^ 5 := Nat.pow_le_pow_right (by decide) (by omega)
      exact Nat.lt_of_lt_of_le h1 h2
     obtain ⟨u, hu⟩ : ∃ u, val 10000 (l.drop (j + 1)) = u := ⟨_, rfl⟩
     obtain ⟨y, hy⟩ : ∃ y, val 10000 (l.drop j) = y := ⟨_, rfl⟩
     rw [hu] at hv hin
     rw [hu]
     rw [hy] at hv hle hy20
     obtain ⟨p, hp⟩ : ∃ p, wrap64 (-(u : Int) * 10000) = p := ⟨_, rfl⟩
     obtain ⟨t, ht⟩ : ∃ t, wrap64 (p + -(x : Int)) = t := ⟨_, rfl⟩
     obtain ⟨ht1, ht2⟩ := wrap64_bd (p + -(x : Int)) t ht
     have hyes : InI (-(y : Int)) → t = -(y : Int) := fun hh => by
      obtain ⟨g1, g2⟩ := hh
      have e1 : p = -(u : Int) * 10000 := by rw [← hp]; exact IntWalk.wrap64_in _ ⟨by omega, by omega⟩
      rw [← ht, e1]
      rw [IntWalk.wrap64_in _ ⟨by omega, by omega⟩]
      omega
     have HYV := Lib.hid hy
     have dgt : Dg 20 t := dg20 ht1 ht2
     have dgy : Dg 20 (-(y : Int)) := by
      unfold Dg
      have h9 : (-(y : Int)).natAbs = y := by omega
      rw [h9]
      exact hy20
     have hlim : Lim 10000 (l.drop j) := Lim.drop HC.out.1 j
     have hjn : (j : Int) < (n : Int) := by omega
     have hjc : (j : Int) < (c : Int) := by omega
     have hz0 : (0 : Int) ≤ (j : Int) := by omega
     have hjn2 : (j : Int) ≤ (n : Int) := by omega
     have hjn3 : j ≤ n := by omega
     have hnc : (n : Int) ≤ (c : Int) := by omega
     have hjc2 : ¬ c = j := by omega
     have hjc3 : ¬ (c : Int) = (j : Int) := by omega
     have HTL := Lib.hid (fun (w' : World) (hs : Below W.heap.size W w' ∧ w'.cell? ⟨w.heap.size, 0, none⟩ = some (.bool true) ∧ w'.cell? ⟨w.heap.size, 1, none⟩ = some (.slice (some ⟨b, o, none⟩) n c)) => rtail (W := w') (bt BX.out.1 hs.1) HN.out R1.out (show j ≤ n by omega) l1 m1)
     have HV := Lib.hid hv
     have HLE := Lib.hid hle
     have HYES := Lib.hid hyes
     clear hx hv hle hyes hu hy
     by_cases hI : InI (-(y : Int))
     ·have ES := Lib.hid (show (t - -(y : Int)).sign = 0 by rw [HYES.out hI, Int.sub_self]; rfl)
      have ET := Lib.hid (HYES.out hI)
      have HI2 := Lib.hid hI
      clear hI
      go_wp2_with fail
      go_region_held3 (fun w' => Below W.heap.size W w' ∧ w'.cell? ⟨w.heap.size, 0, none⟩ = some (.bool true) ∧ w'.cell? ⟨w.heap.size, 1, none⟩ = some (.slice (some ⟨b, o, none⟩) n c))
       (first | exact HL.out _ (Below.drew HBW.out) | exact HL.out _ (bt (And.left (by assumption)) (by assumption)))
       (first | (go_at_call 82; (with_reducible refine (rof_any (n := t) ht1 ht2).mono ?_); rintro e v1 ⟨n1, a1, k1, c1, rfl, hu1, hb1⟩; have HU1 := Lib.hid hu1; clear hu1) | (go_at_call 86; (with_reducible refine (rsigned_astrue (HTL.out _ (by assumption)) hlim HYV.out).mono ?_); rintro e v2 ⟨n2, a2, k2, c2, rfl, hu2, hb2⟩; have HU2 := Lib.hid hu2; clear hu2) | (go_at_call 85; (with_reducible refine (rcmp_any (HU1.out.below hb2) HU2.out dgt dgy (by omega)).mono ?_); rintro e v3 ⟨rfl, hb3⟩; rw [ES.out]))
      have HB4 := Lib.hid (bt (bt (bt (Below.drew HBW.out) hb1) hb2) hb3)
      clear hb1 hb2 hb3 hp ht d0 d1
      go_wp2
      go_roundw
      case rel => exact ⟨j, (j : Int) - 1, rfl, by omega, by first | rfl | go_num, int_eq (by rw [HYV.out]; exact ET.out), by rw [HYV.out]; exact HI2.out, HB4.out⟩
      case measure => simp [RowKit.intOf]
     ·obtain ⟨sg, hsg⟩ : ∃ sg, (t - -(y : Int)).sign = sg := ⟨_, rfl⟩
      have hne : (sg != 0) = true := by
       rw [← hsg, bne_iff_ne]
       intro e
       have := Int.sign_eq_zero_iff_zero.1 e
       exact hI ⟨by omega, by omega⟩
      have ES := Lib.hid hsg
      have NOT := Lib.hid (show ¬ InI z from fun hz => hI (by
       obtain ⟨g1, g2⟩ := hz
       have h1 := HLE.out
       have h2 := Z1.out
       have h3 := A1.out
       unfold InI
       simp at h2
       omega))
      clear hI hsg
      go_wp2_with fail
      go_region_held3 (fun w' => Below W.heap.size W w' ∧ w'.cell? ⟨w.heap.size, 0, none⟩ = some (.bool true) ∧ w'.cell? ⟨w.heap.size, 1, none⟩ = some (.slice (some ⟨b, o, none⟩) n c))
       (first | exact HL.out _ (Below.drew HBW.out) | exact HL.out _ (bt (And.left (by assumption)) (by assumption)))
       (first | (go_at_call 82; (with_reducible refine (rof_any (n := t) ht1 ht2).mono ?_); rintro e v1 ⟨n1, a1, k1, c1, rfl, hu1, hb1⟩; have HU1 := Lib.hid hu1; clear hu1) | (go_at_call 86; (with_reducible refine (rsigned_astrue (HTL.out _ (by assumption)) hlim HYV.out).mono ?_); rintro e v2 ⟨n2, a2, k2, c2, rfl, hu2, hb2⟩; have HU2 := Lib.hid hu2; clear hu2) | (go_at_call 85; (with_reducible refine (rcmp_any (HU1.out.below hb2) HU2.out dgt dgy (by omega)).mono ?_); rintro e v3 ⟨rfl, hb3⟩; rw [ES.out]))
      have HB4 := Lib.hid (bt (bt (bt (Below.drew HBW.out) hb1) hb2) hb3)
      clear hb1 hb2 hb3 hp ht d0 d1
      go_wp2
      go_ret2
      exact ⟨⟨fun h => absurd h NOT.out, fun _ => rfl⟩, bt BX.out.1 HB4.out⟩
end Go.Proofs.YtikpafocankggaaGreatDoor
