/- The reference's Cyclic. -/
import Derived.Test.YtnkdcmloehandaaSameMat
namespace Go.Proofs.Ytnkdcmloehandaa
open Go.RowKit Plain

theorem own_below {w w' : World} {base size n : Nat} {e : TypeId} {v : Value} {xs : List Value} (h : w.ownsRow base e size v n xs) (hb : Below w.heap.size w w') : w'.ownsRow base e size v n xs := by
  refine ⟨h.1, ?_⟩
  rcases h.2 with hn | ⟨g, cap, cur, rfl, hg, hh, rest⟩
  · exact .inl hn
  · exact .inr ⟨g, cap, cur, rfl, hg, by rw [hb.block g (Array.getElem?_eq_some_iff.1 hh).1]; exact hh, rest⟩

def bools (xs : List Bool) : List Value := xs.map Value.bool

theorem RowR.of_bools {w : World} {base : Nat} {v : Value} {xs : List Bool} (h : w.ownsRow base 4 1 v xs.length (bools xs)) : RowR w v xs.length (fun i => .bool (xs.getD i false)) := by
  rcases h.2 with ⟨rfl, hn⟩ | ⟨g, cap, cur, rfl, _, _, hl, hm, _, _⟩
  · have : xs = [] := List.eq_nil_of_length_eq_zero hn
    subst this
    exact ⟨_, 0, 0, 0, rfl, Nat.le_refl _, by omega, fun h => absurd h (Nat.not_lt_zero _), fun i hi => absurd hi (Nat.not_lt_zero _)⟩
  · refine ⟨_, g, 0, cap, rfl, hl, (by unfold maxLen at hm; exact hm), fun _ => rfl, fun i hi => ?_⟩
    rw [Nat.zero_add, h.cellAt i (by omega)]
    simp [bools, List.getD, hi]

/-- what the search of a cycle knows -/
def Found (G : Nat) (Z : Nat → Nat → Int) (i k : Nat) (b : Bool) : Prop := b = true ↔ ∃ j, j < k ∧ 0 < Z i j ∧ R G Z j i
theorem Found.keep {G : Nat} {Z : Nat → Nat → Int} {i k : Nat} (h : Found G Z i k true) : Found G Z i (k + 1) true :=
  ⟨fun _ => by obtain ⟨j, h1, h2⟩ := h.1 rfl; exact ⟨j, by omega, h2⟩, fun _ => rfl⟩
theorem Found.no {G : Nat} {Z : Nat → Nat → Int} {i k : Nat} (h : Found G Z i k false) (hn : ¬ (0 < Z i k ∧ R G Z k i)) : Found G Z i (k + 1) false :=
  ⟨(fun q => by cases q), fun ⟨j, h1, h2⟩ => by
    by_cases e : j = k
    · subst e; exact absurd h2 hn
    · exact h.2 ⟨j, by omega, h2⟩⟩
theorem Found.yes {G : Nat} {Z : Nat → Nat → Int} {i k : Nat} (h1 : 0 < Z i k) (h2 : R G Z k i) : Found G Z i (k + 1) true := ⟨fun _ => ⟨k, by omega, h1, h2⟩, fun _ => rfl⟩
theorem Found.done {G : Nat} {Z : Nat → Nat → Int} {i : Nat} {b : Bool} (h : Found G Z i G b) : b = cB G Z i := by rw [Bool.eq_iff_iff, cB_iff]; exact h

/-- a row of bools that reads -/
def BoolRow (w : World) (G : Nat) (f : Nat → Bool) (e : Ending) (w' : World) : Prop :=
  ∃ v, e = .returned v ∧ RowR w' v G (fun i => .bool (f i)) ∧ Below w.heap.size w w'

section
variable {w : World} {v : Value} {G : Nat} {L : Nat → Nat} {Z : Nat → Nat → Int}

set_option maxHeartbeats 400000 in
theorem refCyclic_no (hv : ¬ Vld G L Z) (h : MatR w v G L Z) : Calls Try.prog 23 #[v] w (Nil w) := by
  have HM := Lib.hid h
  have HV := Lib.hid hv
  clear h hv
  go_enter Try.func23, Try.ntmps23
  go_wp2_with (go_at_call 13; refine (refValid_any (vb_false HV.out) HM.out).mono ?_; rintro e w1 ⟨rfl, hb⟩)
  go_ret
  exact ⟨rfl, hb⟩

set_option maxHeartbeats 1600000 in
theorem refCyclic_yes (hv : Vld G L Z) (h : MatR w v G L Z) : Calls Try.prog 23 #[v] w (BoolRow w G (cB G Z)) := by
  have HV := Lib.hid hv
  have HM := Lib.hid h
  have g1 := hv.1
  have g2 := hv.2.1
  have G4 : Hid (∀ r c, r < G → c < G → 0 ≤ Z r c) := fun r c hr hc => (hv.2.2.2.1 r c hr hc).1
  obtain ⟨b, o, c, B, O, C, rfl, l1, m1, hrows⟩ := h.rowsAt hv
  have HR := Lib.hid hrows
  obtain ⟨i0, hi, hz0, hz1, hz2⟩ := info_parts info4
  clear h hv hrows
  go_enter Try.func23, Try.ntmps23
  go_wp2_with (go_at_call 13; refine (refValid_any (vb_true HV.out) HM.out).mono ?_; rintro e w1 ⟨rfl, hb⟩)
  have HB1 := Lib.hid hb
  clear hb
  go_loopg [3, 4] G (fun g s3 s wr => ∃ k : Nat, k ≤ G ∧ g = G - k ∧ s = .int .i64 k ∧ Below w.heap.size w wr ∧ wr.ownsRow w.heap.size 4 1 s3 ((List.range k).map (cB G Z)).length (bools ((List.range k).map (cB G Z))))
  case atStart => go_light; exact ⟨0, Nat.zero_le _, rfl, rfl, HB1.out, World.ownsRow_nil _ _ _ _⟩
  case round =>
    obtain ⟨k, hk, rfl, rfl, hbr, hown⟩ := hrel
    clear HB1
    obtain ⟨xs, hxs⟩ : ∃ xs, xs = (List.range k).map (cB G Z) := ⟨_, rfl⟩
    rw [← hxs] at hown
    have hxl : xs.length ≤ 12 := by rw [hxs]; simp; omega
    have HX := Lib.hid hxs
    have HB := Lib.hid hbr
    have HO := Lib.hid hown
    clear hxs hbr hown
    by_cases hkG : k < G
    · have hkz : (k : Int) < (G : Int) := by omega
      obtain ⟨wo, hwo⟩ : ∃ wo : World, wo = wr := ⟨_, rfl⟩
      subst hwo
      go_wp2
      go_loopg [5, 6] G (fun g s5 s6 wr => ∃ (j : Nat) (fb : Bool), j ≤ G ∧ g = G - j ∧ s6 = .int .i64 j ∧ s5 = .bool fb ∧ Below wo.heap.size wo wr ∧ Found G Z k j fb)
      case atStart => go_light; exact ⟨0, false, Nat.zero_le _, rfl, rfl, rfl, Below.refl _ _, (fun q => by cases q), fun ⟨j, h1, _⟩ => absurd h1 (Nat.not_lt_zero _)⟩
      case round =>
        obtain ⟨j, fb, hj, rfl, rfl, rfl, hbi, hfo⟩ := hrel
        have HF := Lib.hid hfo
        have HBI := Lib.hid hbi
        have HBB := Lib.hid (bt HB.out hbi)
        clear hfo hbi
        by_cases hjG : j < G
        · have hjz : (j : Int) < (G : Int) := by omega
          cases fb
          · obtain ⟨t1, t2, t3, t4, t5⟩ := HR.out _ HBB.out k hkG
            have x1 := t5 j hjG
            have hjL : (j : Int) < (L k : Int) := by omega
            clear t4 t5
            by_cases hz : 0 < Z k j
            · have hm := Lib.hid (HM.out.below HBB.out)
              go_wp2_with fail
              refine (refreach_any HV.out hm.out hjG).mono ?_
              rintro e w2 ⟨q, rfl, hrow, hreach, hb2⟩
              have y1 := hrow.cell hkG
              rw [rB_of hreach k hkG] at y1
              have HB2 := Lib.hid (bt HBI.out hb2)
              clear hrow hreach hb2
              cases hr : rB G Z j k
              · rw [hr] at y1
                have hnr : ¬ (0 < Z k j ∧ R G Z j k) := fun q => by have := rB_iff.2 q.2; rw [hr] at this; cases this
                have HNR := Lib.hid hnr
                clear hr hnr
                go_wp2
                go_roundg (G - (j + 1))
                case measure => go_light; omega
                case rel => go_light; exact ⟨j + 1, false, by omega, rfl, by simp, rfl, HB2.out, HF.out.no HNR.out⟩
              · rw [hr] at y1
                have HRR := Lib.hid (rB_iff.1 hr)
                clear hr
                go_wp2
                go_roundg (G - (j + 1))
                case measure => go_light; omega
                case rel => go_light; exact ⟨j + 1, true, by omega, rfl, by simp, rfl, HB2.out, Found.yes hz HRR.out⟩
            · go_wp2
              go_roundg (G - (j + 1))
              case measure => go_light; omega
              case rel => go_light; exact ⟨j + 1, false, by omega, rfl, by simp, rfl, HBI.out, HF.out.no (by omega)⟩
          · go_wp2
            go_roundg (G - (j + 1))
            case measure => go_light; omega
            case rel => go_light; exact ⟨j + 1, true, by omega, rfl, by simp, rfl, HBI.out, HF.out.keep⟩
        · have hjz : ¬ (j : Int) < (G : Int) := by omega
          obtain rfl : j = G := by omega
          have hown := own_below HO.out HBI.out
          have hsz := HBB.out.size
          go_wp2_with (at_builtin; refine wpList_append_own _ rfl _ _ 26 rfl w.heap.size 4 i0 (.bool false) 1 1 Try.underlying26 hi hz0 hz1 hz2 rfl (by decide) _ _ _ rfl (hown.alloc _) ⟨wr.heap.size, 0, none⟩ 1 1 [.bool fb] rfl rfl (cell_one_new _ _ _) (fun u hu => by simp at hu; subst hu; rfl) (by unfold maxLen; omega) (by omega) (by simp; omega) ?_)
          intro v' w2 hown' hgrow _
          have hb3 : Below w.heap.size w w2 := (HBB.out.alloc (by simpa using hsz) _).grown hgrow (by simp; omega) (fun j hj => (hown.lt j hj).1)
          have ho3 : w2.ownsRow w.heap.size 4 1 v' ((List.range (k + 1)).map (cB j Z)).length (bools ((List.range (k + 1)).map (cB j Z))) := by
            have e1 : (List.range (k + 1)).map (cB j Z) = xs ++ [fb] := by rw [List.range_succ, List.map_append, ← HX.out, HF.out.done]; rfl
            rw [e1, List.length_append]
            simpa [bools] using hown'
          clear hown' hgrow hown
          go_wp2
          go_roundg (j - (k + 1))
          case measure => go_light; omega
          case rel => go_light; exact ⟨k + 1, by omega, rfl, by simp, hb3, ho3⟩
    · have hkz : ¬ (k : Int) < (G : Int) := by omega
      obtain rfl : k = G := by omega
      go_wp2
      go_ret
      refine ⟨_, rfl, ?_, HB.out⟩
      have h1 := RowR.of_bools HO.out
      have h2 : xs.length = k := by rw [HX.out]; simp
      rw [h2] at h1
      refine h1.congr fun i hi => ?_
      rw [HX.out]
      simp [List.getD, hi]
end
end Go.Proofs.Ytnkdcmloehandaa
