/- The reference's Columns, Valid, square. -/
import Derived.Test.YtjphfdlpcakpeaaGreatDoorRMatN
namespace Go.Proofs.YtjphfdlpcakpeaaGreatDoor
open Go.RowKit Tally

set_option maxHeartbeats 1000000 in
theorem rcolumns_any {w : World} {v : Value} {m : Nat} {L : Nat → Nat} {A : Nat → Nat → Rat} (h : rMatsR w v m L A) :
    Calls Tryz.prog 36 #[v] w fun e w' => e = .returned (.int .i64 (colsN m L : Nat)) ∧ w' = w := by
  obtain ⟨a, c, rfl⟩ := h.shape
  obtain ⟨h1, h2, b, o, h3, h4⟩ := h.parts
  have hm0 : (m : Int) ≤ 9223372036854775807 := by omega
  by_cases hm : m = 0
  · subst hm
    clear h h3 h4
    rw [show colsN 0 L = 0 from rfl]
    go_enter Tryz.func36, Tryz.ntmps36
    go_wp2
    go_ret
    exact ⟨rfl, rfl⟩
  · have hp : 0 < m := by omega
    obtain rfl := h3 hp
    obtain ⟨a', c', q1, _⟩ := h4 0 hp
    have hne : ((m : Int) == 0) = false := by rw [beq_eq_false_iff_ne]; omega
    have hlt : (0 : Int) < (m : Int) := by omega
    simp only [Nat.add_zero] at q1
    rw [show colsN m L = L 0 from if_neg hm]
    clear h h3 h4 hm
    go_enter Tryz.func36, Tryz.ntmps36
    go_wp2
    go_ret
    exact ⟨rfl, rfl⟩

/-- the reference's condition on a row -/
def RowOk (L : Nat → Nat) (j : Nat) : Prop := L j = L 0 ∧ L j ≤ 24
theorem isMat_rows {m : Nat} {L : Nat → Nat} : IsMat m L ↔ (∀ j, j < m → RowOk L j) ∧ m ≤ 24 := by
  unfold IsMat RowOk colsN
  by_cases hm : m = 0
  · subst hm
    exact ⟨fun _ => ⟨fun j hj => absurd hj (Nat.not_lt_zero _), by decide⟩, fun _ => ⟨fun j hj => absurd hj (Nat.not_lt_zero _), by decide, by rw [if_pos rfl]; decide⟩⟩
  · rw [if_neg hm]
    exact ⟨fun ⟨h1, h2, h3⟩ => ⟨fun j hj => ⟨h1 j hj, by rw [h1 j hj]; exact h3⟩, h2⟩, fun ⟨h1, h2⟩ => ⟨fun j hj => (h1 j hj).1, h2, (h1 0 (by omega)).2⟩⟩

set_option maxHeartbeats 2000000 in
set_option maxRecDepth 100000 in
theorem rvalid_any {w : World} {v : Value} {m : Nat} {L : Nat → Nat} {A : Nat → Nat → Rat} (h : rMatsR w v m L A) (X : Bool) (hX : X = true ↔ IsMat m L) :
    Calls Tryz.prog 21 #[v] w fun e w' => e = .returned (.bool X) ∧ Below w.heap.size w w' := by
  rw [isMat_rows] at hX
  have HX := Lib.hid hX
  obtain ⟨a, c, rfl⟩ := h.shape
  obtain ⟨h1, h2, b, o, h3, h4⟩ := h.parts
  have H3 := Lib.hid h3
  have H4 := Lib.hid h4
  clear h h3 h4 hX
  go_enter Tryz.func21, Tryz.ntmps21
  go_wp2
  go_loopw [3] (fun i wr => ∃ (k : Nat), Below w.heap.size w wr ∧ i = .int .i64 k ∧ k ≤ m ∧ ∀ j, j < k → RowOk L j) (fun i _ => m - (intOf i).toNat)
  case atStart => exact ⟨0, Below.refl _ _, rfl, by omega, fun j hj => by omega⟩
  case round =>
    obtain ⟨k, hbr, rfl, hk, hall⟩ := hrel
    have HB := Lib.hid hbr
    clear hbr
    have HA := Lib.hid hall
    clear hall
    by_cases hkm : k = m
    · obtain rfl : m = k := hkm.symm
      by_cases hm24 : m ≤ 24
      · have hm25 : (m : Int) ≤ 24 := by omega
        obtain rfl : X = true := HX.out.2 ⟨HA.out, hm24⟩
        go_wp2
        go_ret
        exact ⟨by simp, HB.out⟩
      · have hm25 : ¬ (m : Int) ≤ 24 := by omega
        obtain rfl : X = false := by
          rcases hx : X with _ | _
          · rfl
          · exact absurd (HX.out.1 hx).2 hm24
        go_wp2
        go_ret
        exact ⟨by simp, HB.out⟩
    · have hkl : k < m := by omega
      have hki : (k : Int) < (m : Int) := by omega
      have h0i : (0 : Int) < (m : Int) := by omega
      have h0n : 0 < m := by omega
      obtain rfl := H3.out (by omega)
      obtain ⟨a', c', q1, q2⟩ := H4.out k hkl
      replace q1 := keepc HB.out q1
      obtain ⟨a2, c2, u1, u2⟩ := H4.out 0 (by omega)
      replace u1 := keepc HB.out u1
      have l1 := q2.parts.1
      have l2 := q2.parts.2.1
      have l3 := u2.parts.1
      have l4 := u2.parts.2.1
      simp only [Nat.add_zero] at u1
      clear q2 u2
      by_cases he : L k = L 0
      · have heq : ((L k : Int) == (L 0 : Int)) = true := by rw [he]; exact beq_self_eq_true _
        have heq2 : ((L k : Int) != (L 0 : Int)) = false := by rw [bne, heq]; rfl
        by_cases hc : L k ≤ 24
        · have hci : ¬ ((24 : Int) < (L k : Int)) := by omega
          have hl0 : (L 0 : Int) ≤ 24 := by omega
          have HK := Lib.hid (show ∀ j, j < k + 1 → RowOk L j from fun j hj => by
            by_cases e : j = k
            · rw [e]; exact ⟨he, hc⟩
            · exact HA.out j (by omega))
          clear he hc
          go_wp2_with fail
          go_quiet (fail)
          go_wp2
          refine ⟨⟨k + 1, Below.drewN' HB.out nq, by go_num, by omega, HK.out⟩, ?_⟩
          show m - ((k : Int) + 1).toNat < m - (k : Int).toNat
          omega
        · have hci : (24 : Int) < (L k : Int) := by omega
          obtain rfl : X = false := by
            rcases hx : X with _ | _
            · rfl
            · exact absurd ((HX.out.1 hx).1 k hkl).2 hc
          clear he hc
          go_wp2_with fail
          go_quiet (fail)
          go_wp2
          go_ret
          exact ⟨rfl, Below.drewN' HB.out nq⟩
      · have hne : ((L k : Int) == (L 0 : Int)) = false := by rw [beq_eq_false_iff_ne]; omega
        have hne2 : ((L k : Int) != (L 0 : Int)) = true := by rw [bne, hne]; rfl
        obtain rfl : X = false := by
          rcases hx : X with _ | _
          · rfl
          · exact absurd ((HX.out.1 hx).1 k hkl).1 he
        clear he
        go_wp2_with fail
        go_quiet (fail)
        go_wp2
        go_ret
        exact ⟨rfl, Below.drewN' HB.out nq⟩

set_option maxHeartbeats 1000000 in
theorem rsquare_any {w : World} {v : Value} {m : Nat} {L : Nat → Nat} {A : Nat → Nat → Rat} (h : rMatsR w v m L A) (X : Bool) (hX : X = true ↔ IsMat m L ∧ m = colsN m L) :
    Calls Tryz.prog 29 #[v] w fun e w' => e = .returned (.bool X) ∧ Below w.heap.size w w' := by
  have H := Lib.hid h
  have HX := Lib.hid hX
  obtain ⟨a, c, rfl⟩ := h.shape
  clear h hX
  by_cases hv : IsMat m L
  · go_enter Tryz.func29, Tryz.ntmps29
    go_wp2_with fail
    refine (rvalid_any H.out true (iff_of_true rfl hv)).mono ?_
    rintro e w1 ⟨rfl, hb⟩
    have HB := Lib.hid hb
    clear hb
    go_wp2_with fail
    refine (rcolumns_any (H.out.below HB.out)).mono ?_
    rintro e w' ⟨rfl, hww⟩
    obtain rfl := hww.symm
    by_cases he : m = colsN m L
    · obtain rfl : X = true := HX.out.2 ⟨hv, he⟩
      rw [← he]
      clear he
      go_wp2
      go_ret
      exact ⟨by simp, HB.out⟩
    · have hne : ((m : Int) == (colsN m L : Int)) = false := by rw [beq_eq_false_iff_ne]; omega
      obtain rfl : X = false := by
        rcases hx : X with _ | _
        · rfl
        · exact absurd (HX.out.1 hx).2 he
      go_wp2
      go_ret
      exact ⟨by simp, HB.out⟩
  · obtain rfl : X = false := by
      rcases hx : X with _ | _
      · rfl
      · exact absurd (HX.out.1 hx).1 hv
    go_enter Tryz.func29, Tryz.ntmps29
    go_wp2_with fail
    refine (rvalid_any H.out false ⟨(fun q => by cases q), (fun q => absurd q hv)⟩).mono ?_
    rintro e w1 ⟨rfl, hb⟩
    have HB := Lib.hid hb
    clear hb
    go_wp2
    go_ret
    exact ⟨rfl, HB.out⟩
end Go.Proofs.YtjphfdlpcakpeaaGreatDoor
