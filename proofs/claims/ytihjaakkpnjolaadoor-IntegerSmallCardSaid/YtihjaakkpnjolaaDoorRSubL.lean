/- The reference's sub on limbs. -/
import Derived.Test.YtihjaakkpnjolaaDoorRAddL
namespace Go.Proofs.YtihjaakkpnjolaaDoor
open Go.RowKit Tally

/-- k limbs of the difference -/
structure RSubI (a b : List Nat) (k c : Nat) (L : List Nat) : Prop where
  len : L.length = k
  lim : Lim 10000 L
  sum : val 10000 L + val 10000 (b.take k) = val 10000 (a.take k) + 10000 ^ k * c

theorem RSubI.step {a b L : List Nat} {k c c' x y z : Nat} (h : RSubI a b k c L) (hx : a.getD k 0 = x) (hy : b.getD k 0 = y) (hz : z < 10000) (he : z + (y + c) = x + 10000 * c') :
    RSubI a b (k + 1) c' (L ++ [z]) := by
  subst hx hy
  refine ⟨by simp [h.len], h.lim.append (Lim.single hz), ?_⟩
  have hs := h.sum
  have p : 10000 ^ k * (z + (b.getD k 0 + c)) = 10000 ^ k * (a.getD k 0 + 10000 * c') := by rw [he]
  rw [val_snoc, h.len, val_take_getD, val_take_getD, pow_succ']
  grind

theorem RSubI.done {a b L : List Nat} {c : Nat} (h : RSubI a b a.length c L) (hb : b.length ≤ a.length) (hle : val 10000 b ≤ val 10000 a) : val 10000 L = val 10000 a - val 10000 b := by
  have := h.sum
  rw [List.take_of_length_le hb, List.take_length] at this
  have hl := val_lt 10000 L h.lim
  rw [h.len] at hl
  rcases Nat.eq_zero_or_pos c with h0 | h0
  · subst h0; omega
  · have : 10000 ^ a.length * 1 ≤ 10000 ^ a.length * c := Nat.mul_le_mul_left _ h0
    omega

set_option maxHeartbeats 2000000 in
set_option maxRecDepth 100000 in
theorem rsub_limbs {w : World} {va vb : Value} {a b : List Nat} (ha : QR w va a) (hb : QR w vb b) (la : Lim 10000 a) (lb : Lim 10000 b)
    (na : a.length ≤ 1000000000000) (nb : b.length ≤ a.length) (hle : val 10000 b ≤ val 10000 a) :
    Calls Tryd.prog 82 #[va, vb] w (GivesQ w (val 10000 a - val 10000 b)) := by
  obtain ⟨T, hT⟩ : ∃ T, val 10000 a - val 10000 b = T := ⟨_, rfl⟩
  rw [hT]
  obtain ⟨i0, hi, hz0, hz1, hz2⟩ := info_parts infoI
  obtain ⟨p, b1, o1, c1, rfl, l1, m1, s1, r1⟩ := ha
  obtain ⟨q, b2, o2, c2, rfl, l2, m2, s2, r2⟩ := hb
  obtain ⟨n, hn⟩ : ∃ n, a.length = n := ⟨_, rfl⟩
  obtain ⟨m, hm⟩ : ∃ m, b.length = m := ⟨_, rfl⟩
  have HN := Lib.hid hn
  have HM := Lib.hid hm
  have R1 := Lib.hid r1
  have R2 := Lib.hid r2
  have LA := Lib.hid la
  have LB := Lib.hid lb
  have HT := Lib.hid hT
  have HLE := Lib.hid hle
  rw [hn] at l1 s1 R1 na nb ⊢
  rw [hm] at l2 s2 R2 nb ⊢
  clear r1 r2 hn hm hT la lb hle
  go_enter Tryd.func82, Tryd.ntmps82
  go_wp2
  go_loopw [5, 6, 7] (fun l c i wr => ∃ (k cc : Nat) (L : List Nat) (sv : Value), sv = l ∧ i = .int .i64 k ∧ c = .int .i64 cc ∧ cc ≤ 1 ∧ k ≤ n ∧ Hid (RSubI a b k cc L) ∧ wr.ownsRow w.heap.size 3 1 sv L.length (numsOf .i64 L) ∧ Below w.heap.size w wr) (fun _ _ i _ => n - (intOf i).toNat)
  case atStart => exact ⟨0, 0, [], _, rfl, rfl, rfl, by omega, by omega, Lib.hid ⟨rfl, fun x hx => by simp at hx, by simp⟩, World.ownsRow_nil _ _ _ _, Below.refl _ _⟩
  case round =>
    obtain ⟨k, cc, L, sv, rfl, rfl, rfl, hcc, hk, HI, hown, hbr⟩ := hrel
    have HB := Lib.hid hbr
    have hsz := hbr.size
    have hlen : L.length = k := HI.out.len
    have hLk : L.length ≤ 3000000000000 := by omega
    clear hbr hlen
    by_cases hkn : k < n
    · obtain rfl := s1 (by omega)
      have bx := LA.out.getD (by decide) k
      have by' := LB.out.getD (by decide) k
      obtain ⟨x, hx⟩ : ∃ x, a.getD k 0 = x := ⟨_, rfl⟩
      obtain ⟨y, hy⟩ : ∃ y, b.getD k 0 = y := ⟨_, rfl⟩
      rw [hx] at bx
      rw [hy] at by'
      have t1 := keepc HB.out (R1.out k hkn)
      simp only [hx] at t1
      have HX := Lib.hid hx
      have HY := Lib.hid hy
      have yo : m ≤ k → y = 0 := fun q => by rw [← HY.out]; exact getD_out (by rw [HM.out]; exact q)
      have YO := Lib.hid yo
      clear hx hy yo
      have knz : (k : Int) < (n : Int) := by omega
      have nxt : ∀ (v' : Value) (w2 : World) (z : Int) (u : Nat), z = (u : Int) → w2.ownsRow w.heap.size 3 1 v' (L.length + 1) (numsOf .i64 L ++ [.int .i64 z]) → (wr.alloc (.cells #[.int .i64 z] 3)).grownBy w2 sv.ownBlock → w2.ownsRow w.heap.size 3 1 v' (L ++ [u]).length (numsOf .i64 (L ++ [u])) ∧ Below w.heap.size w w2 := fun v' w2 z u hz ho hg => by
        subst hz
        exact ⟨by rw [List.length_append]; exact owns_snoc ho, (HB.out.alloc hsz _).grown hg (by simp; omega) (fun j hj => (hown.lt j hj).1)⟩
      have NXT := Lib.hid nxt
      clear nxt
      by_cases hkm : k < m
      · obtain rfl := s2 (by omega)
        have t2 := keepc HB.out (R2.out k hkm)
        simp only [HY.out] at t2
        have kmz : (k : Int) < (m : Int) := by omega
        by_cases hlt : x < cc + y
        · have hltz : (x : Int) - (cc : Int) - (y : Int) < 0 := by omega
          go_wp2_with (at_builtin; refine wpList_append_own _ rfl _ _ 26 rfl w.heap.size 3 i0 (.int .i64 0) 1 8 Tryd.underlying26 hi hz0 hz1 hz2 rfl (by decide) _ _ _ rfl (hown.alloc _) ⟨wr.heap.size, 0, none⟩ 1 1 [.int .i64 ((x : Int) - (cc : Int) - (y : Int) + 10000)] rfl rfl (cell_one_new _ _ _) (by simp [Value.oneCell']) (by unfold maxLen; omega) (by omega) (by simp; omega) ?_)
          intro v' w2 ho hg _
          obtain ⟨g1, g2⟩ := NXT.out v' w2 _ (x + 10000 - (cc + y)) (by omega) ho hg
          have G1 := Lib.hid g1
          have G2 := Lib.hid g2
          clear ho hg g1 g2 hown
          go_wp2
          go_roundw
          case rel => exact ⟨k + 1, 1, _, _, rfl, by go_num, by go_num, by omega, by omega, HI.out.step HX.out HY.out (by omega) (by omega), G1.out, G2.out⟩
          case measure => simp [intOf]; omega
        · have hltz : ¬ (x : Int) - (cc : Int) - (y : Int) < 0 := by omega
          go_wp2_with (at_builtin; refine wpList_append_own _ rfl _ _ 26 rfl w.heap.size 3 i0 (.int .i64 0) 1 8 Tryd.underlying26 hi hz0 hz1 hz2 rfl (by decide) _ _ _ rfl (hown.alloc _) ⟨wr.heap.size, 0, none⟩ 1 1 [.int .i64 ((x : Int) - (cc : Int) - (y : Int))] rfl rfl (cell_one_new _ _ _) (by simp [Value.oneCell']) (by unfold maxLen; omega) (by omega) (by simp; omega) ?_)
          intro v' w2 ho hg _
          obtain ⟨g1, g2⟩ := NXT.out v' w2 _ (x - (cc + y)) (by omega) ho hg
          have G1 := Lib.hid g1
          have G2 := Lib.hid g2
          clear ho hg g1 g2 hown
          go_wp2
          go_roundw
          case rel => exact ⟨k + 1, 0, _, _, rfl, by go_num, by go_num, by omega, by omega, HI.out.step HX.out HY.out (by omega) (by omega), G1.out, G2.out⟩
          case measure => simp [intOf]; omega
      · have kmz : ¬ (k : Int) < (m : Int) := by omega
        obtain rfl : y = 0 := YO.out (by omega)
        by_cases hlt : x < cc
        · have hltz : (x : Int) - (cc : Int) < 0 := by omega
          go_wp2_with (at_builtin; refine wpList_append_own _ rfl _ _ 26 rfl w.heap.size 3 i0 (.int .i64 0) 1 8 Tryd.underlying26 hi hz0 hz1 hz2 rfl (by decide) _ _ _ rfl (hown.alloc _) ⟨wr.heap.size, 0, none⟩ 1 1 [.int .i64 ((x : Int) - (cc : Int) + 10000)] rfl rfl (cell_one_new _ _ _) (by simp [Value.oneCell']) (by unfold maxLen; omega) (by omega) (by simp; omega) ?_)
          intro v' w2 ho hg _
          obtain ⟨g1, g2⟩ := NXT.out v' w2 _ (x + 10000 - cc) (by omega) ho hg
          have G1 := Lib.hid g1
          have G2 := Lib.hid g2
          clear ho hg g1 g2 hown
          go_wp2
          go_roundw
          case rel => exact ⟨k + 1, 1, _, _, rfl, by go_num, by go_num, by omega, by omega, HI.out.step HX.out HY.out (by omega) (by omega), G1.out, G2.out⟩
          case measure => simp [intOf]; omega
        · have hltz : ¬ (x : Int) - (cc : Int) < 0 := by omega
          go_wp2_with (at_builtin; refine wpList_append_own _ rfl _ _ 26 rfl w.heap.size 3 i0 (.int .i64 0) 1 8 Tryd.underlying26 hi hz0 hz1 hz2 rfl (by decide) _ _ _ rfl (hown.alloc _) ⟨wr.heap.size, 0, none⟩ 1 1 [.int .i64 ((x : Int) - (cc : Int))] rfl rfl (cell_one_new _ _ _) (by simp [Value.oneCell']) (by unfold maxLen; omega) (by omega) (by simp; omega) ?_)
          intro v' w2 ho hg _
          obtain ⟨g1, g2⟩ := NXT.out v' w2 _ (x - cc) (by omega) ho hg
          have G1 := Lib.hid g1
          have G2 := Lib.hid g2
          clear ho hg g1 g2 hown
          go_wp2
          go_roundw
          case rel => exact ⟨k + 1, 0, _, _, rfl, by go_num, by go_num, by omega, by omega, HI.out.step HX.out HY.out (by omega) (by omega), G1.out, G2.out⟩
          case measure => simp [intOf]; omega
    · have knz : ¬ (k : Int) < (n : Int) := by omega
      obtain rfl : k = n := by omega
      have hq : QR wr sv L := RowR.of_owns hown
      have HQ := Lib.hid hq
      clear hq
      obtain ⟨ad, cp, rfl⟩ : ∃ ad cp, sv = .slice ad L.length cp := by
        rcases hown.2 with ⟨rfl, h0⟩ | ⟨g, cap, cur, rfl, _⟩
        · exact ⟨none, 0, by rw [h0]⟩
        · exact ⟨_, _, rfl⟩
      clear hown
      go_wp2_with fail
      refine (rtrim_any HQ.out).mono ?_
      rintro e w2 ⟨u, rfl, hu, hb⟩
      have hfin := (hu _ HQ.out).below hb
      have HF := Lib.hid hfin
      have HB2 := Lib.hid hb
      clear hu hfin hb
      go_wp2
      go_ret
      exact ⟨u, trimZ L, rfl, HF.out, HI.out.lim.trimZ, by rw [val_trimZ, RSubI.done (HN.out.symm ▸ HI.out) (by rw [HM.out, HN.out]; omega) HLE.out, HT.out], bt HB.out HB2.out⟩
end Go.Proofs.YtihjaakkpnjolaaDoor
