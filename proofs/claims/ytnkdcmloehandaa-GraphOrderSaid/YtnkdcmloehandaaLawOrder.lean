/- SameCodes, and the law GraphOrder. -/
import Derived.Test.YtnkdcmloehandaaRefOrder
namespace Go.Proofs.Ytnkdcmloehandaa
open Go.RowKit Plain

set_option maxHeartbeats 400000 in
theorem sameCodes_any {w : World} {v1 v2 : Value} {n : Nat} {f : Nat → Int} (h1 : RowR w v1 n fun i => .int .i64 (f i)) (h2 : RowR w v2 n fun i => .int .i64 (f i)) :
    Calls Try.prog 26 #[v1, v2] w fun e w' => e = .returned (.bool true) ∧ Below w.heap.size w w' := by
  obtain ⟨a1, b1, o1, c1, rfl, l1, m1, s1, r1⟩ := h1
  obtain ⟨a2, b2, o2, c2, rfl, l2, m2, s2, r2⟩ := h2
  go_enter Try.func26, Try.ntmps26
  go_wp2
  go_loopw [5] (fun i wr => ∃ k : Nat, k ≤ n ∧ i = .int .i64 k ∧ Below w.heap.size w wr) (fun i _ => n - (intOf i).toNat)
  case atStart => exact ⟨0, Nat.zero_le _, rfl, Below.refl _ _⟩
  case round =>
    obtain ⟨k, hk, rfl, hb⟩ := hrel
    by_cases hkn : k < n
    · obtain rfl := s1 (by omega)
      obtain rfl := s2 (by omega)
      have t1 := keepc hb (r1 k hkn)
      have t2 := keepc hb (r2 k hkn)
      obtain ⟨z, hz⟩ : ∃ z, z = f k := ⟨_, rfl⟩
      rw [← hz] at t1 t2
      clear r1 r2 s1 s2 hz
      have hkz : (k : Int) < (n : Int) := by omega
      have hne : (z != z) = false := by simp
      go_wp2
      go_quiet (fail)
      go_wp2
      go_roundw
      case rel => exact ⟨k + 1, by omega, by go_num, below_drewN hb _⟩
      case measure => simp [intOf]; omega
    · have hkz : ¬ (k : Int) < (n : Int) := by omega
      go_wp2
      go_ret
      exact ⟨rfl, hb⟩

theorem nil_codes (w : World) : RowR w (.slice none 0 0) 0 (fun _ => .int .i64 0) := ⟨_, 0, 0, 0, rfl, Nat.le_refl _, by omega, fun h => absurd h (Nat.not_lt_zero _), fun i hi => absurd hi (Nat.not_lt_zero _)⟩

set_option maxHeartbeats 1000000 in
theorem lawOrder_any {w : World} {v : Value} {G : Nat} {L : Nat → Nat} {Z : Nat → Nat → Int} (h : MatR w v G L Z) : Calls Try.prog 6 #[v] w (True1 w) := by
  obtain ⟨a, c, rfl, hG⟩ := h.shape
  have HM := Lib.hid h
  clear h
  go_enter Try.func6, Try.ntmps6
  go_wp2_with fail
  refine (awake_any w).mono ?_
  rintro e w1 ⟨rfl, hb1⟩
  have hm1 := Lib.hid (HM.out.below hb1)
  go_wp2_with fail
  refine (few_any hm1.out).mono ?_
  rintro e w2 ⟨fb, rfl, rfl⟩
  cases fb
  · go_wp2
    go_ret
    exact ⟨rfl, hb1⟩
  · have HB := Lib.hid hb1
    clear hb1
    by_cases hv : Vld G L Z
    · have HV := Lib.hid hv
      clear hv
      go_wp2_with fail
      refine (order_yes HV.out hm1.out).mono ?_
      rintro e w4 ⟨v1, e1, l1, rfl, hb4, ho1, hc1⟩
      have HB4 := Lib.hid hb4
      have hm4 := Lib.hid (hm1.out.below hb4)
      clear hb4
      go_wp2_with fail
      refine (refOrder_yes HV.out hm4.out).mono ?_
      rintro e w5 ⟨v2, e2, l2, rfl, hb5, ho2, hc2⟩
      have HB5 := Lib.hid hb5
      clear hb5
      have key : (e1 = e2) ∧ ∃ (n : Nat) (f : Nat → Int), RowR w5 v1 n (fun i => .int .i64 (f i)) ∧ RowR w5 v2 n (fun i => .int .i64 (f i)) := by
        rcases hc1 with ⟨rfl, hl1, r1⟩ | ⟨rfl, hl1, s1, rfl⟩ <;> rcases hc2 with ⟨rfl, hl2, r2⟩ | ⟨rfl, hl2, s2, rfl⟩
        · have := Ord.unique l1 l2 ho1 ho2 (by omega)
          subst this
          exact ⟨rfl, _, _, r1.below HB5.out, r2⟩
        · have := Ord.stuck ho2 ho1 s2; omega
        · have := Ord.stuck ho1 ho2 s1; omega
        · exact ⟨rfl, _, _, nil_codes _, nil_codes _⟩
      obtain ⟨rfl, n, f, r1, r2⟩ := key
      have R1 := Lib.hid r1
      have R2 := Lib.hid r2
      clear r1 r2 hc1 hc2 ho1 ho2
      have he : (e1 == e1) = true := by simp
      go_wp2_with fail
      refine (sameCodes_any R1.out R2.out).mono ?_
      rintro e w6 ⟨rfl, hb6⟩
      go_wp2
      go_ret
      exact ⟨rfl, bt (bt (bt HB.out HB4.out) HB5.out) hb6⟩
    · have HV := Lib.hid hv
      clear hv
      go_wp2_with fail
      refine (order_no HV.out hm1.out).mono ?_
      rintro e w4 ⟨rfl, hb4⟩
      have HB4 := Lib.hid hb4
      have hm4 := Lib.hid (hm1.out.below hb4)
      clear hb4
      go_wp2_with fail
      refine (refOrder_no HV.out hm4.out).mono ?_
      rintro e w5 ⟨rfl, hb5⟩
      have HB5 := Lib.hid hb5
      clear hb5
      go_wp2_with fail
      refine (sameCodes_any (nil_codes _) (nil_codes _)).mono ?_
      rintro e w6 ⟨rfl, hb6⟩
      go_wp2
      go_ret
      exact ⟨rfl, bt (bt (bt HB.out HB4.out) HB5.out) hb6⟩
end Go.Proofs.Ytnkdcmloehandaa
