/- The law's own closed, and the law GraphOutside. -/
import Derived.Test.YtnkdcmloehandaaLawClosed
namespace Go.Proofs.Ytnkdcmloehandaa
open Go.RowKit Plain

section
variable {w : World} {v : Value} {G : Nat} {L : Nat → Nat} {Z : Nat → Nat → Int}

set_option maxHeartbeats 1000000 in
theorem setClosed_any {u : Value} {d : Nat → Bool} {cb : Bool} (hcb : cb = true ↔ IsClosed G Z d) (hv : Vld G L Z) (h : MatR w v G L Z) (hu : RowR w u G fun i => .bool (d i)) :
    Calls Try.prog 27 #[v, u] w fun en w' => en = .returned (.bool cb) ∧ w = w' := by
  obtain ⟨b, o, c, B, O, C, rfl, l1, m1, hrows⟩ := h.rowsAt hv
  have g1 := hv.1
  have g2 := hv.2.1
  have G4 : Hid (∀ r c, r < G → c < G → 0 ≤ Z r c ∧ Z r c ≤ 10000) := hv.2.2.2.1
  have HR := Lib.hid (hrows w (Below.refl _ _))
  have HV := Lib.hid hv
  have HC := Lib.hid hcb
  obtain ⟨a2, b2, o2, c2, rfl, l2, m2, s2, r2⟩ := hu
  obtain rfl := s2 (by omega)
  have R2 := Lib.hid r2
  clear hv h hrows hcb r2
  go_enter Try.func27, Try.ntmps27
  go_wp2
  go_loopg [5] G (fun g s wr => ∃ k : Nat, k ≤ G ∧ g = G - k ∧ s = .int .i64 k ∧ wr = w ∧ ∀ i, i < k → d i = true → hold Z d i G = 10000)
  case atStart => exact ⟨0, Nat.zero_le _, rfl, rfl, rfl, fun i hi => absurd hi (Nat.not_lt_zero _)⟩
  case round =>
    obtain ⟨e, he, rfl, rfl, rfl, hd⟩ := hrel
    have HD := Lib.hid hd
    clear hd
    by_cases heG : e < G
    · have hez : (e : Int) < (G : Int) := by omega
      go_wp2
      go_loopg [6, 7] G (fun g s6 s7 wr2 => ∃ h : Nat, h ≤ G ∧ g = G - h ∧ s7 = .int .i64 h ∧ s6 = .int .i64 (hold Z d e h) ∧ wr2 = wr)
      case atStart => go_light; exact ⟨0, Nat.zero_le _, rfl, rfl, rfl, rfl⟩
      case round =>
        obtain ⟨h, hh, rfl, rfl, rfl, rfl⟩ := hrel
        obtain ⟨hb0, hb1⟩ := hold_bd (o := d) (k := h) HV.out heG hh
        obtain ⟨s, hs⟩ : ∃ s, s = hold Z d e h := ⟨_, rfl⟩
        rw [← hs] at hb0 hb1 ⊢
        have HS := Lib.hid hs
        clear hs
        by_cases hhG : h < G
        · have hhz : (h : Int) < (G : Int) := by omega
          obtain ⟨t1, t2, t3, t4, t5⟩ := HR.out h hhG
          have x1 := t5 e heG
          have heL : (e : Int) < (L h : Int) := by omega
          have y1 := R2.out h hhG
          obtain ⟨hz0, hz1⟩ := G4.out h e hhG heG
          clear t4 t5
          cases hph : d h
          · rw [hph] at y1
            have HH := Lib.hid hph
            clear hph
            go_wp2
            go_roundg (G - (h + 1))
            case measure => go_light; omega
            case rel => go_light; exact ⟨h + 1, by omega, rfl, by simp, by rw [HS.out]; simp [hold, sumTo, HH.out], rfl⟩
          · rw [hph] at y1
            have HH := Lib.hid hph
            clear hph
            go_wp2
            go_roundg (G - (h + 1))
            case measure => go_light; omega
            case rel => go_light; exact ⟨h + 1, by omega, rfl, by simp, by rw [HS.out]; simp [hold, sumTo, HH.out], rfl⟩
        · have hhz : ¬ (h : Int) < (G : Int) := by omega
          obtain rfl : h = G := by omega
          have y1 := R2.out e heG
          cases hde : d e
          · rw [hde] at y1
            have HE := Lib.hid hde
            clear hde
            go_wp2
            go_roundg (h - (e + 1))
            case measure => go_light; omega
            case rel =>
              go_light
              refine ⟨e + 1, by omega, rfl, by simp, rfl, fun i hi hdi => ?_⟩
              by_cases e1 : i = e
              · subst e1; rw [HE.out] at hdi; cases hdi
              · exact HD.out i (by omega) hdi
          · rw [hde] at y1
            have HE := Lib.hid hde
            clear hde
            by_cases hs1 : s = 10000
            · have hsz : (s != 10000) = false := by simp [hs1]
              have HS1 := Lib.hid hs1
              clear hs1
              go_wp2
              go_roundg (h - (e + 1))
              case measure => go_light; omega
              case rel =>
                go_light
                refine ⟨e + 1, by omega, rfl, by simp, rfl, fun i hi hdi => ?_⟩
                by_cases e1 : i = e
                · subst e1; rw [← HS.out]; exact HS1.out
                · exact HD.out i (by omega) hdi
            · have hsz : (s != 10000) = true := by simp [hs1]
              have hf : cb = false := by
                cases cb
                · rfl
                · have := HC.out.1 rfl e heG HE.out
                  exact absurd (by rw [HS.out]; exact this) hs1
              subst hf
              clear HC
              go_wp2
              go_ret
              exact ⟨rfl, rfl⟩
    · have hez : ¬ (e : Int) < (G : Int) := by omega
      have hf : cb = true := HC.out.2 fun i hi hdi => HD.out i (by omega) hdi
      subst hf
      clear HC
      go_wp2
      go_ret
      exact ⟨rfl, rfl⟩

theorem rowIs_setB {w : World} {b n : Nat} {t : TypeId} {f : Nat → Bool} (h : w.rowIs b t n fun i => .bool (f i)) (i : Nat) (x : Bool) : (w.setCell ⟨b, i, none⟩ (.bool x)).rowIs b t n fun j => .bool ((fun k => if k = i then x else f k) j) :=
  (h.set i _).congr fun j _ => by by_cases e : j = i <;> simp [e]

set_option maxHeartbeats 1600000 in
theorem lawOutside_any {x : Int} (h : MatR w v G L Z) : Calls Try.prog 7 #[v, .int .u16 x] w (True1 w) := by
  obtain ⟨a, c, rfl, hG⟩ := h.shape
  have HM := Lib.hid h
  clear h
  have hmake := fun hn => run_make_row' (P := Try.prog) 26 4 (.bool false) 1 Try.underlying26 info4 rfl .i64 .i64 G hn (by omega)
  by_cases hv : Vld G L Z
  · have HV := Lib.hid hv
    have g1 := hv.1
    have g2 := hv.2.1
    have G4 : Hid (∀ r c, r < G → c < G → 0 ≤ Z r c) := fun r c hr hc => (hv.2.2.2.1 r c hr hc).1
    have G5 := Lib.hid hv.2.2.2.2
    have hmk := hmake (by omega)
    clear hv hmake
    have hneq : ((G : Int) != (G : Int)) = false := by simp
    go_enter Try.func7, Try.ntmps7
    go_wp2_with fail
    refine (awake_any w).mono ?_
    rintro e w1 ⟨rfl, hb1⟩
    have hm1 := Lib.hid (HM.out.below hb1)
    have HB1 := Lib.hid hb1
    clear hb1
    go_wp2_with fail
    refine (refValid_any (vb_true HV.out) hm1.out).mono ?_
    rintro e w2 ⟨rfl, hb2⟩
    have hm2 := Lib.hid (hm1.out.below hb2)
    have HB2 := Lib.hid (bt HB1.out hb2)
    clear hb2
    go_wp2_with fail
    refine (closed_yes HV.out hm2.out).mono ?_
    rintro e w3 ⟨bk, o1, hbk, rfl, hrow, hgr, hb3⟩
    have HGR := Lib.hid hgr
    have HIN := Lib.hid hrow
    have HB3 := Lib.hid (bt HB2.out hb3)
    have hlt3 := hrow.lt
    have hsz3 := (bt HB2.out hb3).size
    clear hrow hb3 hgr hbk hm1 hm2
    go_wp2
    clear hmk
    have R0 := Lib.hid (World.rowIs_made w3 (.bool false) G 4)
    have HB4 := Lib.hid (HB3.out.alloc hsz3 (.cells (madeCells #[.bool false] G) 4))
    go_loopg [7] G (fun g s wr => ∃ (k : Nat) (f : Nat → Bool), k ≤ G ∧ g = G - k ∧ s = .int .i64 k ∧ Below w.heap.size w wr ∧ wr.rowIs w3.heap.size 4 G (fun i => .bool (f i)) ∧ wr.rowIs bk 4 G (fun i => .bool (o1 i)))
    case atStart => go_light; exact ⟨0, _, Nat.zero_le _, rfl, rfl, HB4.out, R0.out, HIN.out.alloc _⟩
    case round =>
      obtain ⟨k, f, hk, rfl, rfl, hbr, hpk, hin⟩ := hrel
      clear R0 HB4 HIN HB3
      by_cases hkG : k < G
      · have hkz : (k : Int) < (G : Int) := by omega
        have y1 := hpk.cell hkG
        have y2 := hpk.frozen k
        have HB := Lib.hid hbr
        have HP := Lib.hid hpk
        have HI := Lib.hid hin
        have hne : bk ≠ w3.heap.size := by omega
        clear hbr hpk hin
        go_wp2_with fail
        refine (reach_yes HV.out (HM.out.below (HB.out.setCell (p := ⟨w3.heap.size, k, none⟩) hsz3 _)) hkG).mono ?_
        rintro e w4 ⟨bk2, hbk2, rfl, hto, hb4⟩
        have HB4 := Lib.hid ((HB.out.setCell (p := ⟨w3.heap.size, k, none⟩) hsz3 _).trans (hb4.mono (by have := HB.out.size; simp; omega)))
        have HP4 := Lib.hid ((rowIs_setB HP.out k _).of_block (hb4.block _ (by have := HP.out.lt; simpa using this)))
        have HI4 := Lib.hid ((HI.out.setOther (a := ⟨w3.heap.size, k, none⟩) hne _).of_block (hb4.block _ (by have := HI.out.lt; simpa using this)))
        have HT4 := Lib.hid hto
        clear hb4 hto hbk2 HB HP HI y1 y2
        go_wp2
        go_loopg [9] G (fun g s wr => ∃ e : Nat, e ≤ G ∧ g = G - e ∧ s = .int .i64 e ∧ wr = w4)
        case atStart => go_light; exact ⟨0, Nat.zero_le _, rfl, rfl, rfl⟩
        case round =>
          obtain ⟨e, he, rfl, rfl, rfl⟩ := hrel
          by_cases heG : e < G
          · have hez : (e : Int) < (G : Int) := by omega
            have z1 := HI4.out.cell heG
            have z2 := HI4.out.cell hkG
            have z3 := HT4.out.cell heG
            cases hoe : o1 e
            · rw [hoe] at z1
              have HO := Lib.hid hoe
              clear hoe
              go_wp2
              go_roundg (G - (e + 1))
              case measure => go_light; omega
              case rel => go_light; exact ⟨e + 1, by omega, rfl, by simp, rfl⟩
            · rw [hoe] at z1
              cases hok : o1 k
              · rw [hok] at z2
                have hr : rB G Z k e = false := by
                  cases hr : rB G Z k e
                  · rfl
                  · have := closed_outside G4.out G5.out HGR.out.closed hkG heG (rB_iff.1 hr) hoe
                    rw [hok] at this; cases this
                rw [hr] at z3
                have HO := Lib.hid hoe
                have HK := Lib.hid hok
                clear hoe hok hr
                go_wp2
                go_roundg (G - (e + 1))
                case measure => go_light; omega
                case rel => go_light; exact ⟨e + 1, by omega, rfl, by simp, rfl⟩
              · rw [hok] at z2
                have HO := Lib.hid hoe
                have HK := Lib.hid hok
                clear hoe hok
                go_wp2
                go_roundg (G - (e + 1))
                case measure => go_light; omega
                case rel => go_light; exact ⟨e + 1, by omega, rfl, by simp, rfl⟩
          · have hez : ¬ (e : Int) < (G : Int) := by omega
            go_wp2
            go_roundg (G - (k + 1))
            case measure => go_light; omega
            case rel => go_light; exact ⟨k + 1, _, by omega, rfl, by simp, HB4.out, HP4.out, HI4.out⟩
      · have hkz : ¬ (k : Int) < (G : Int) := by omega
        have HB := Lib.hid hbr
        have HP := Lib.hid hpk
        have HI := Lib.hid hin
        clear hbr hpk hin
        go_wp2_with fail
        refine (setClosed_any (cb := true) ⟨fun _ => HGR.out.closed, fun _ => rfl⟩ HV.out (HM.out.below HB.out) (RowR.of_rowIs HI.out hG)).mono ?_
        rintro e w4 ⟨rfl, rfl⟩
        by_cases hcl : IsClosed G Z f
        · have HC := Lib.hid hcl
          clear hcl
          go_wp2_with fail
          refine (setClosed_any (cb := true) ⟨fun _ => HC.out, fun _ => rfl⟩ HV.out (HM.out.below HB.out) (RowR.of_rowIs HP.out hG)).mono ?_
          rintro e w4 ⟨rfl, rfl⟩
          go_wp2
          go_loopg [10] G (fun g s wr2 => ∃ e : Nat, e ≤ G ∧ g = G - e ∧ s = .int .i64 e ∧ wr2 = wr)
          case atStart => go_light; exact ⟨0, Nat.zero_le _, rfl, rfl, rfl⟩
          case round =>
            obtain ⟨e, he, rfl, rfl, rfl⟩ := hrel
            by_cases heG : e < G
            · have hez : (e : Int) < (G : Int) := by omega
              have z1 := HI.out.cell heG
              have z2 := HP.out.cell heG
              cases hoe : f e
              · rw [hoe] at z2
                have HO := Lib.hid hoe
                clear hoe
                go_wp2
                go_roundg (G - (e + 1))
                case measure => go_light; omega
                case rel => go_light; exact ⟨e + 1, by omega, rfl, by simp, rfl⟩
              · rw [hoe] at z2
                have hr := HGR.out.all f HC.out e heG hoe
                rw [hr] at z1
                have HO := Lib.hid hoe
                clear hoe hr
                go_wp2
                go_roundg (G - (e + 1))
                case measure => go_light; omega
                case rel => go_light; exact ⟨e + 1, by omega, rfl, by simp, rfl⟩
            · have hez : ¬ (e : Int) < (G : Int) := by omega
              go_wp2
              go_ret
              exact ⟨rfl, HB.out⟩
        · have HC := Lib.hid hcl
          clear hcl
          go_wp2_with fail
          refine (setClosed_any (cb := false) ⟨(fun h => by cases h), fun h => absurd h HC.out⟩ HV.out (HM.out.below HB.out) (RowR.of_rowIs HP.out hG)).mono ?_
          rintro e w4 ⟨rfl, rfl⟩
          go_wp2
          go_ret
          exact ⟨rfl, HB.out⟩
  · have HV := Lib.hid hv
    clear hv hmake
    go_enter Try.func7, Try.ntmps7
    go_wp2_with fail
    refine (awake_any w).mono ?_
    rintro e w1 ⟨rfl, hb1⟩
    have hm1 := Lib.hid (HM.out.below hb1)
    have HB := Lib.hid hb1
    clear hb1
    go_wp2_with fail
    refine (refValid_any (vb_false HV.out) hm1.out).mono ?_
    rintro e w2 ⟨rfl, hb2⟩
    go_wp2
    go_ret
    exact ⟨rfl, bt HB.out hb2⟩
end
end Go.Proofs.Ytnkdcmloehandaa
