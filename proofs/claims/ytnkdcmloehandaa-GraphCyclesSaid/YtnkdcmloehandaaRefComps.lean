/- The reference's Components. -/
import Derived.Test.YtnkdcmloehandaaLists
namespace Go.Proofs.Ytnkdcmloehandaa
open Go.RowKit Plain

/-- a matrix that holds the components -/
def CompPost (w : World) (cs : List (List Nat)) (e : Ending) (w' : World) : Prop :=
  ∃ v, e = .returned v ∧ MatR w' v cs.length (fun r => (cs.getD r []).length) (fun r k => (((cs.getD r []).getD k 0 : Nat) : Int)) ∧ Below w.heap.size w w'

theorem map_lds_yes {n : Nat} {Z : Nat → Nat → Int} {k : Nat} (h : isL n Z k = true) : (lds n Z (k + 1)).map (fun i => mem n Z i n) = (lds n Z k).map (fun i => mem n Z i n) ++ [mem n Z k n] := by rw [lds_succ_yes h, List.map_append]; rfl

section
variable {w : World} {v : Value} {G : Nat} {L : Nat → Nat} {Z : Nat → Nat → Int}

set_option maxHeartbeats 400000 in
theorem refComps_no (hv : ¬ Vld G L Z) (h : MatR w v G L Z) : Calls Try.prog 21 #[v] w (Nil w) := by
  have HM := Lib.hid h
  have HV := Lib.hid hv
  clear h hv
  go_enter Try.func21, Try.ntmps21
  go_wp2_with (go_at_call 13; refine (refValid_any (vb_false HV.out) HM.out).mono ?_; rintro e w1 ⟨rfl, hb⟩)
  go_ret
  exact ⟨rfl, hb⟩

set_option maxHeartbeats 3200000 in
theorem refComps_yes (hv : Vld G L Z) (h : MatR w v G L Z) : Calls Try.prog 21 #[v] w (CompPost w (comps G Z)) := by
  have HV := Lib.hid hv
  have HM := Lib.hid h
  have g1 := hv.1
  have g2 := hv.2.1
  obtain ⟨a, c, rfl, hG⟩ := h.shape
  have hmake := run_make_row' (P := Try.prog) 26 4 (.bool false) 1 Try.underlying26 info4 rfl .i64 .i64 G (by omega) (by omega)
  obtain ⟨i0, hi, hz0, hz1, hz2⟩ := info_parts info3
  obtain ⟨j0, hj, hy0, hy1, hy2⟩ := info_parts info32
  clear h hv
  go_enter Try.func21, Try.ntmps21
  go_wp2_with (go_at_call 13; refine (refValid_any (vb_true HV.out) HM.out).mono ?_; rintro e w1 ⟨rfl, hb⟩)
  clear hmake
  have hsz1 := hb.size
  have HB1 := Lib.hid (hb.alloc hsz1 (.cells (madeCells #[.bool false] G) 4))
  have R0 := Lib.hid (World.rowIs_made w1 (.bool false) G 4)
  clear hb
  go_loopg [3, 5] G (fun g s3 s5 wr => ∃ (i : Nat) (s : Nat → Bool) (vs : List Value), i ≤ G ∧ g = G - i ∧ s5 = .int .i64 i ∧ Below w.heap.size w wr ∧ wr.rowIs w1.heap.size 4 G (fun j => .bool (s j)) ∧ Seen G Z i s ∧ ListsIn wr w.heap.size s3 ((lds G Z i).map fun l => mem G Z l G) vs)
  case atStart =>
    go_light
    exact ⟨0, fun _ => false, [], Nat.zero_le _, rfl, rfl, HB1.out, R0.out, fun j _ => ⟨(fun q => by cases q), fun ⟨l, h1, _⟩ => absurd h1 (Nat.not_lt_zero _)⟩, ListsIn.start _ _⟩
  case round =>
    obtain ⟨i, s, vs, hi1, rfl, rfl, hbr, hrow, hseen, hls⟩ := hrel
    clear HB1 R0
    have HB := Lib.hid hbr
    have HW := Lib.hid hrow
    have HS := Lib.hid hseen
    have HL := Lib.hid hls
    have hvl : vs.length ≤ 12 := by have h1 := hls.len; have h2 := lds_len G Z i; simp at h1; omega
    clear hbr hrow hseen hls
    by_cases hiG : i < G
    · have hiz : (i : Int) < (G : Int) := by omega
      have y1 := HW.out.cell hiG
      have hlead := HS.out.leader hiG
      cases hsi : s i
      · rw [hsi] at y1 hlead
        have HLD : Hid (isL G Z i = true) := hlead
        clear hlead hsi
        have hm := Lib.hid (HM.out.below HB.out)
        go_wp2_with fail
        refine (refreach_any HV.out hm.out hiG).mono ?_
        rintro e wo ⟨q, rfl, hto, hreach, hb2⟩
        have HT := Lib.hid (hto.congr (g := fun j => .bool (rB G Z i j)) fun j hj => by rw [rB_of hreach j hj])
        have HB2 := Lib.hid (bt HB.out hb2)
        have HW2 := Lib.hid (HW.out.of_block (hb2.block _ HW.out.lt))
        have HL2 := Lib.hid (HL.out.below hb2)
        have hne : w1.heap.size ≠ wr.heap.size := by have := HW.out.lt; omega
        clear hto hreach hb2 HW HL hm y1
        go_wp2
        go_loopg [6, 8] G (fun g s6 s8 wi => ∃ (k : Nat) (s : Nat → Bool), k ≤ G ∧ g = G - k ∧ s8 = .int .i64 k ∧ wo.grownBy wi (some w1.heap.size) ∧ wi.rowIs w1.heap.size 4 G (fun j => .bool (s j)) ∧ SeenIn G Z i k s ∧ wi.ownsRow wo.heap.size 3 1 s6 (mem G Z i k).length (ints (mem G Z i k)))
        case atStart => go_light; exact ⟨0, s, Nat.zero_le _, rfl, rfl, World.grownBy.refl _ _, HW2.out, HS.out.enter, World.ownsRow_nil _ _ _ _⟩
        case round =>
          obtain ⟨k, t, hk, rfl, rfl, hgr, hrow, hsn, hown⟩ := hrel
          have HG := Lib.hid hgr
          have HW := Lib.hid hrow
          have HSN := Lib.hid hsn
          have hszi := hgr.size
          have hmt := HT.out.of_block (hgr.block _ HT.out.lt (fun e => hne (Option.some.inj e).symm))
          have HT2 := Lib.hid hmt
          have hml : (mem G Z i k).length ≤ 12 := by have := mem_len G Z i k; omega
          clear hgr hrow hsn hmt
          by_cases hkG : k < G
          · have hkz : (k : Int) < (G : Int) := by omega
            have z1 := HT2.out.cell hkG
            have z2 := HW.out.cell hkG
            have z3 := HW.out.frozen k
            obtain ⟨xs, hxs⟩ : ∃ xs, xs = mem G Z i k := ⟨_, rfl⟩
            rw [← hxs] at hown hml
            have HX := Lib.hid hxs
            have HO := Lib.hid hown
            clear hxs hown
            cases hr1 : rB G Z i k
            · rw [hr1] at z1
              have hkb : kB G Z i k = false := by unfold kB; rw [hr1]; rfl
              have HK := Lib.hid hkb
              clear hr1 hkb
              go_wp2
              go_roundg (G - (k + 1))
              case measure => go_light; omega
              case rel => go_light; exact ⟨k + 1, t, by omega, rfl, by simp, HG.out, HW.out, HSN.out.no HK.out, by rw [mem_succ_no HK.out, ← HX.out]; exact HO.out⟩
            · rw [hr1] at z1
              have HR1 := Lib.hid hr1
              clear hr1
              have hBi : Below w.heap.size w wr := HB2.out.trans ⟨HG.out.os, HG.out.tape, HG.out.output, HG.out.size, fun j hj => HG.out.block j (by have := HB2.out.size; omega) (fun e => by have := Option.some.inj e; omega)⟩
              have HBi := Lib.hid hBi
              have hm := Lib.hid (HM.out.below hBi)
              clear hBi
              go_wp2_with fail
              refine (refreach_any HV.out hm.out hkG).mono ?_
              rintro e w3 ⟨q2, rfl, hto3, hreach3, hb3⟩
              have u1 := hto3.cell hiG
              rw [rB_of hreach3 i hiG] at u1
              have HG3 := Lib.hid (grown_trans (row2 := none) HG.out ⟨hb3.os, hb3.tape, hb3.output, hb3.size, fun j hj _ => hb3.block j hj⟩ (fun j h => by cases h))
              have HW3 := Lib.hid (HW.out.of_block (hb3.block _ HW.out.lt))
              have HO3 := Lib.hid (own_below HO.out hb3)
              have u2 := HW3.out.cell hkG
              have u3 := HW3.out.frozen k
              have hsz3 := HG3.out.size
              clear hto3 hreach3 hb3 z1 z2 z3
              cases hr2 : rB G Z k i
              · rw [hr2] at u1
                have hkb : kB G Z i k = false := by unfold kB; rw [hr2, HR1.out]; rfl
                have HK := Lib.hid hkb
                clear hr2 hkb
                go_wp2
                go_roundg (G - (k + 1))
                case measure => go_light; omega
                case rel => go_light; exact ⟨k + 1, t, by omega, rfl, by simp, HG3.out, HW3.out, HSN.out.no HK.out, by rw [mem_succ_no HK.out, ← HX.out]; exact HO3.out⟩
              · rw [hr2] at u1
                have hkb : kB G Z i k = true := by unfold kB; rw [hr2, HR1.out]; rfl
                have HK := Lib.hid hkb
                clear hr2 hkb
                have hown := own_store (i := k) HO3.out HW3.out (by decide) (.bool true)
                go_wp2_with (at_builtin; refine wpList_append_own _ rfl _ _ 32 rfl wo.heap.size 3 i0 (.int .i64 0) 1 8 Try.underlying32 hi hz0 hz1 hz2 rfl (by decide) _ xs.length (ints xs) rfl (hown.alloc _) ⟨w3.heap.size, 0, none⟩ 1 1 [.int .i64 (k : Int)] rfl rfl (cell_one_at _ _ _ (by simp)) (ints_oneCell .i64 [(k : Int)]) (by unfold maxLen; omega) (by omega) (by simp; omega) ?_)
                intro v' w4 hown' hgrow _
                have hbl : ∀ j, u6.ownBlock = some j → wo.heap.size ≤ j := fun j hj => (hown.lt j hj).1
                have hg4 : wo.grownBy w4 (some w1.heap.size) := grown_trans (grown_trans (grown_trans HG3.out (grown_setCell w3 w1.heap.size k (.bool true)) (fun j h => .inr h)) (World.grownBy_alloc _ (.cells #[.int .i64 (k : Int)] 3) none) (fun j h => by cases h)) hgrow (fun j h => .inl (hbl j h))
                have hr4 : w4.rowIs w1.heap.size 4 G (fun j => .bool ((fun j => if j = k then true else t j) j)) := rowIs_grown ((rowIs_setBool HW3.out k true).alloc _) (hown.alloc _) hgrow (by decide)
                have ho4 : w4.ownsRow wo.heap.size 3 1 v' (mem G Z i (k + 1)).length (ints (mem G Z i (k + 1))) := by
                  rw [mem_succ_yes HK.out, ← HX.out, ints_snoc, List.length_append]; exact hown'
                clear hown' hgrow hown hbl
                go_wp2
                go_roundg (G - (k + 1))
                case measure => go_light; omega
                case rel => go_light; exact ⟨k + 1, _, by omega, rfl, by simp, hg4, hr4, HSN.out.yes HK.out, ho4⟩
          · have hkz : ¬ (k : Int) < (G : Int) := by omega
            obtain rfl : k = G := by omega
            have HO := Lib.hid hown
            obtain ⟨xa, xc, rfl⟩ : ∃ xa xc, u6 = .slice xa (mem k Z i k).length xc := by
              rcases hown.2 with ⟨rfl, hn⟩ | ⟨g, cap, cur, rfl, _⟩
              · exact ⟨none, 0, by rw [hn]⟩
              · exact ⟨_, _, rfl⟩
            have hl3 := HL2.out.row HW2.out HG.out
            have HL3 := Lib.hid hl3
            have hown2 := hl3.own
            have hszw : w.heap.size ≤ wr.heap.size := by have := HB2.out.size; omega
            obtain ⟨xn, hxn⟩ : ∃ xn, xn = (mem k Z i k).length := ⟨_, rfl⟩
            rw [← hxn]
            have HXN := Lib.hid hxn
            clear hown hl3 hxn
            go_wp2_with (at_builtin; refine wpList_append_own _ rfl _ _ 22 rfl w.heap.size 32 j0 (.slice none 0 0) 1 24 Try.underlying22 hj hy0 hy1 hy2 rfl (by decide) _ vs.length vs rfl (hown2.alloc _) ⟨wr.heap.size, 0, none⟩ 1 1 [.slice xa xn xc] rfl rfl (cell_one_new _ _ _) (fun u hu => by simp at hu; subst hu; rfl) (by unfold maxLen; omega) (by omega) (by simp; omega) ?_)
            intro v' w4 hown' hgrow _
            have hxo : wr.ownsRow w.heap.size 3 1 (.slice xa xn xc) (mem k Z i k).length (ints (mem k Z i k)) := by rw [HXN.out]; exact own_base HO.out HB2.out.size
            have hl4 := HL3.out.push hxo hown' hgrow
            have hb4 : Below w.heap.size w w4 := ((HB2.out.trans ⟨HG.out.os, HG.out.tape, HG.out.output, HG.out.size, fun j hj => HG.out.block j (by have := HB2.out.size; omega) (fun e => by have := Option.some.inj e; omega)⟩).alloc hszw _).grown hgrow (by simp; omega) (fun j hj => (hown2.lt j hj).1)
            have hr4 : w4.rowIs w1.heap.size 4 k (fun j => .bool (t j)) := rowIs_grown (HW.out.alloc _) (hown2.alloc _) hgrow (by decide)
            rw [← map_lds_yes HLD.out] at hl4
            have HL4 := Lib.hid hl4
            clear hown' hgrow hown2 hxo hl4
            go_wp2
            go_roundg (k - (i + 1))
            case measure => go_light; omega
            case rel => go_light; exact ⟨i + 1, t, _, by omega, rfl, by simp, hb4, hr4, HSN.out.leave, HL4.out⟩
      · rw [hsi] at y1 hlead
        have HLD : Hid (isL G Z i = false) := hlead
        have HSI := Lib.hid hsi
        clear hlead hsi
        go_wp2
        go_roundg (G - (i + 1))
        case measure => go_light; omega
        case rel => go_light; exact ⟨i + 1, s, vs, by omega, rfl, by simp, HB.out, HW.out, HS.out.skip hiG HSI.out, by rw [lds_succ_no HLD.out]; exact HL.out⟩
    · have hiz : ¬ (i : Int) < (G : Int) := by omega
      obtain rfl : i = G := by omega
      go_wp2
      go_ret
      exact ⟨_, rfl, HL.out.mat, HB.out⟩
end
end Go.Proofs.Ytnkdcmloehandaa
