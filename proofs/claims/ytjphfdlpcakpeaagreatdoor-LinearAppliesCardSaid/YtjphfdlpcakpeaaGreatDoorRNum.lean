/- The reference's Numbers. -/
import Derived.Test.YtjphfdlpcakpeaaGreatDoorRMat
namespace Go.Proofs.YtjphfdlpcakpeaaGreatDoor
open Go.RowKit Tally
set_option maxHeartbeats 2000000 in
set_option maxRecDepth 100000 in
/-- numbers gives the quotients -/
theorem rnumbers_any {w : World} {v : Value} {n d : Nat} {z : Nat → Int} (h : RowR w v n fun i => .int .i16 (z i)) (hz : ∀ i, i < n → -32768 ≤ z i ∧ z i ≤ 32767) (hd : d ≤ 255) (hn : n ≤ 1000000000) :
    Calls Tryz.prog 12 #[v, .int .u8 d] w (rGivesS w n fun i => Rat.divInt (z i) (max 1 (d : Int))) := by
  obtain ⟨i0, hi, hz0, hz1, hz2⟩ := info_parts rinfoQ
  obtain ⟨a, b, o, c, rfl, hnc, hcm, ha, hr⟩ := h
  have HA := Lib.hid ha
  have HR := Lib.hid hr
  have HZ := Lib.hid hz
  clear ha hr hz
  go_enter Tryz.func12, Tryz.ntmps12
  go_wp2
  go_loopw [5, 6] (fun s i wr => ∃ (k : Nat) (L : List Num) (sv : Value), sv = s ∧ i = .int .i64 k ∧ k ≤ n ∧ rBuildN w.heap.size wr s L k (fun i => Rat.divInt (z i) (max 1 (d : Int))) ∧ Below w.heap.size w wr) (fun _ i _ => n - (intOf i).toNat)
  case atStart => exact ⟨0, [], _, rfl, rfl, by omega, rBuildN.start _ _ _, Below.refl _ _⟩
  case round =>
    obtain ⟨k, L, s, rfl, rfl, hk, hbn, hbr⟩ := hrel
    have HN := Lib.hid hbn
    have HB := Lib.hid hbr
    clear hbn hbr
    by_cases hkn : k = n
    · subst hkn
      obtain ⟨a', c', rfl, hrr⟩ := HN.out.rats
      have HRR := Lib.hid hrr
      clear hrr
      go_wp2
      go_ret
      exact ⟨a', c', rfl, HRR.out, HB.out⟩
    · have hkl : k < n := by omega
      have hki : (k : Int) < (n : Int) := by omega
      obtain rfl := HA.out (by omega)
      have c1 := HR.out k hkl
      have c2 := keepc HB.out c1
      obtain ⟨z1, z2⟩ := HZ.out k hkl
      have RN := Lib.hid (int16_fw z1 z2 hd)
      go_wp2_with fail
      (with_reducible refine (rratof_any (d := max 1 (d : Int)) (by omega) (by omega) (by omega) (by omega) (by omega)).mono ?_)
      rintro e w1 ⟨n1, a1, k1, c1', n2, a2, k2, c2', rfl, hx1, hx2, hb1⟩
      have HX := Lib.hid (show rRatN w1 ⟨n1, a1, k1, c1', n2, a2, k2, c2'⟩ (Rat.divInt (z k) (max 1 (d : Int))) from RRatR.mk hx1 hx2 (.inl rfl))
      replace HN := Lib.hid (HN.out.below hb1)
      replace HB := Lib.hid (bt HB.out hb1)
      clear hx1 hx2 hb1 c2
      have HO := Lib.hid (HN.out.own)
      have hlen := HN.out.len
      have hbs := HB.out.size
      go_wp2_with (at_builtin; refine wpList_append_free _ rfl _ _ 37 rfl w.heap.size 54 i0 (.agg #[.bool false, .slice none 0 0, .bool false, .slice none 0 0]) 4 64 Tryz.underlying37 hi hz0 hz1 hz2 rfl (by decide) _ _ _ rfl (HO.out.below (allocs_below2 _ _ _)) ⟨w1.heap.size + 1, 0, none⟩ 1 1 (flat [⟨n1, a1, k1, c1', n2, a2, k2, c2'⟩]) rfl rfl ?_ (fun u hu => (flat_one u hu).1) (by unfold maxLen; omega) (by omega) (by simp; have := HB.out.size; omega) (fun u hu => (flat_one u hu).2) zero_notInt ?_)
      · exact cells_at4 _ _ _ _ _ _ (by simp)
      · intro v' w2 ho hg _
        have hb2 := allocs_below2 w1 (.cells #[.bool n1, .slice a1 k1 c1', .bool n2, .slice a2 k2 c2'] 54) (.cells #[.bool n1, .slice a1 k1 c1', .bool n2, .slice a2 k2 c2'] 54)
        have HN2 := Lib.hid (rBuildN.snoc (HN.out.below hb2) (by rw [hlen]; exact ho) hg (RRatR.below HX.out hb2))
        have HB2 := Lib.hid (grown_below (bt HB.out hb2) (HO.out.below hb2).own hg (Nat.le_refl _) (by simp; omega))
        clear ho hg hb2
        go_wp2
        go_roundw
        case rel => exact ⟨k + 1, _, _, rfl, by go_num, by omega, HN2.out, HB2.out⟩
        case measure => simp [intOf]; omega

end Go.Proofs.YtjphfdlpcakpeaaGreatDoor
