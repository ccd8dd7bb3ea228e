/- The reference's Order. -/
import Derived.Test.YtnkdcmloehandaaOrder
namespace Go.Proofs.Ytnkdcmloehandaa
open Go.RowKit Plain

/-- what the search of the next entity knows before it looks at e -/
def Next (G : Nat) (Z : Nat → Nat → Int) (d : Nat → Bool) (e : Nat) (x : Int) : Prop :=
  (x = -1 ∧ ∀ i, i < e → d i = true ∨ ¬ Free G Z d i) ∨ ∃ q : Nat, x = q ∧ Pick G Z d q

/-- .. and of e, with the rows below k looked at -/
def Upto (Z : Nat → Nat → Int) (d : Nat → Bool) (e k : Nat) (b : Bool) : Prop := b = true ↔ (d e = false ∧ ∀ h, h < k → Z h e = 0 ∨ d h = true)

theorem Upto.step_no {Z : Nat → Nat → Int} {d : Nat → Bool} {e k : Nat} (h : Upto Z d e k false) : Upto Z d e (k + 1) false :=
  ⟨(fun q => by cases q), fun q => by have := h.2 ⟨q.1, fun h hh => q.2 h (by omega)⟩; cases this⟩
theorem Upto.step_yes {Z : Nat → Nat → Int} {d : Nat → Bool} {e k : Nat} (h : Upto Z d e k true) (hk : Z k e = 0 ∨ d k = true) : Upto Z d e (k + 1) true :=
  ⟨fun _ => ⟨(h.1 rfl).1, fun i hi => by
    by_cases e1 : i = k
    · subst e1; exact hk
    · exact (h.1 rfl).2 i (by omega)⟩, fun _ => rfl⟩
theorem Upto.step_bad {Z : Nat → Nat → Int} {d : Nat → Bool} {e k : Nat} (hk : Z k e ≠ 0) (hd : d k = false) : Upto Z d e (k + 1) false :=
  ⟨(fun q => by cases q), fun q => by rcases q.2 k (by omega) with q | q; exact absurd q hk; rw [hd] at q; cases q⟩

section
variable {w : World} {v : Value} {G : Nat} {L : Nat → Nat} {Z : Nat → Nat → Int}

set_option maxHeartbeats 400000 in
theorem refOrder_no (hv : ¬ Vld G L Z) (h : MatR w v G L Z) : Calls Try.prog 25 #[v] w (ArgErr w) := by
  have HM := Lib.hid h
  have HV := Lib.hid hv
  clear h hv
  go_enter Try.func25, Try.ntmps25
  go_wp2_with (go_at_call 13; refine (refValid_any (vb_false HV.out) HM.out).mono ?_; rintro e w1 ⟨rfl, hb⟩)
  go_ret2
  exact ⟨rfl, hb⟩

set_option maxHeartbeats 1600000 in
theorem refOrder_yes (hv : Vld G L Z) (h : MatR w v G L Z) : Calls Try.prog 25 #[v] w (OrdPost w G Z) := by
  have HV := Lib.hid hv
  have HM := Lib.hid h
  have g1 := hv.1
  have g2 := hv.2.1
  have G4 : Hid (∀ r c, r < G → c < G → 0 ≤ Z r c) := fun r c hr hc => (hv.2.2.2.1 r c hr hc).1
  obtain ⟨b, o, c, B, O, C, rfl, l1, m1, hrows⟩ := h.rowsAt hv
  have HR := Lib.hid hrows
  have hmake := run_make_row' (P := Try.prog) 26 4 (.bool false) 1 Try.underlying26 info4 rfl .i64 .i64 G (by omega) (by omega)
  obtain ⟨i0, hi, hz0, hz1, hz2⟩ := info_parts info3
  clear h hv hrows
  go_enter Try.func25, Try.ntmps25
  go_wp2_with (go_at_call 13; refine (refValid_any (vb_true HV.out) HM.out).mono ?_; rintro e w1 ⟨rfl, hb⟩)
  clear hmake
  have hsz1 := hb.size
  have HB1 := Lib.hid (hb.alloc hsz1 (.cells (madeCells #[.bool false] G) 4))
  have R0 := Lib.hid (World.rowIs_made w1 (.bool false) G 4)
  clear hb
  go_loopg [4] G (fun g s wr => ∃ l : List Nat, g = G - l.length ∧ Ord G Z l ∧ Below w.heap.size w wr ∧ wr.rowIs w1.heap.size 4 G (fun i => .bool (has l i)) ∧ wr.ownsRow w.heap.size 3 1 s l.reverse.length (ints l.reverse))
  case atStart =>
    go_light
    exact ⟨[], rfl, trivial, HB1.out, R0.out.congr (fun j _ => by simp [has]), World.ownsRow_nil _ _ _ _⟩
  case round =>
    obtain ⟨l, rfl, hord, hbr, hrow, hown⟩ := hrel
    clear HB1 R0
    have hlG := Ord.le hord
    have HO := Lib.hid hord
    have HB := Lib.hid hbr
    have HW := Lib.hid hrow
    have HN := Lib.hid hown
    have hlen : l.reverse.length = l.length := by simp
    clear hord hbr hrow
    obtain ⟨sa, sc, rfl⟩ : ∃ sa sc, u4 = .slice sa l.length sc := by
      rcases hown.2 with ⟨rfl, hn⟩ | ⟨g, cap, cur, rfl, _⟩
      · exact ⟨none, 0, by rw [← hlen, hn]⟩
      · exact ⟨_, _, by rw [hlen]⟩
    clear hown hlen
    by_cases hlt : l.length < G
    · have hlz : (l.length : Int) < (G : Int) := by omega
      obtain ⟨wo, hwo⟩ : ∃ wo : World, wo = wr := ⟨_, rfl⟩
      subst hwo
      go_wp2
      go_loopg [6, 7] G (fun g s6 s7 wr => ∃ (e : Nat) (x : Int), e ≤ G ∧ g = G - e ∧ s7 = .int .i64 e ∧ s6 = .int .i64 x ∧ wr = wo ∧ Next G Z (has l) e x)
      case atStart => go_light; exact ⟨0, -1, Nat.zero_le _, rfl, rfl, rfl, rfl, .inl ⟨rfl, fun i hi => absurd hi (Nat.not_lt_zero _)⟩⟩
      case round =>
        obtain ⟨e, x, he, rfl, rfl, rfl, rfl, hnext⟩ := hrel
        have HX := Lib.hid hnext
        clear hnext
        by_cases hx : x < 0
        · by_cases heG : e < G
          · have hez : (e : Int) < (G : Int) := by omega
            have y1 := HW.out.cell heG
            have hno : ∀ i, i < e → has l i = true ∨ ¬ Free G Z (has l) i := by
              rcases HX.out with q | ⟨q, hq, _⟩
              · exact q.2
              · omega
            have HNO := Lib.hid hno
            clear hno
            obtain ⟨wp, hwp⟩ : ∃ wp : World, wp = wr := ⟨_, rfl⟩
            subst hwp
            go_wp2
            go_loopg [8, 9] G (fun g s8 s9 wr => ∃ (k : Nat) (fb : Bool), k ≤ G ∧ g = G - k ∧ s9 = .int .i64 k ∧ s8 = .bool fb ∧ wr = wp ∧ Upto Z (has l) e k fb)
            case atStart =>
              go_light
              refine ⟨0, _, Nat.zero_le _, rfl, rfl, rfl, rfl, ?_⟩
              unfold Upto
              simp
            case round =>
              obtain ⟨k, fb, hk, rfl, rfl, rfl, rfl, hup⟩ := hrel
              have HU := Lib.hid hup
              clear hup y1
              by_cases hkG : k < G
              · have hkz : (k : Int) < (G : Int) := by omega
                obtain ⟨t1, t2, t3, t4, t5⟩ := HR.out _ HB.out k hkG
                have x1 := t5 e heG
                have heL : (e : Int) < (L k : Int) := by omega
                have y1 := HW.out.cell hkG
                clear t4 t5
                cases fb
                · go_wp2
                  go_roundg (G - (k + 1))
                  case measure => go_light; omega
                  case rel => go_light; exact ⟨k + 1, false, by omega, rfl, by simp, rfl, rfl, HU.out.step_no⟩
                · by_cases hz : Z k e = 0
                  · have hzb : (Z k e == 0) = true := by simp [hz]
                    have HZ := Lib.hid hz
                    clear hz
                    go_wp2
                    go_roundg (G - (k + 1))
                    case measure => go_light; omega
                    case rel => go_light; exact ⟨k + 1, true, by omega, rfl, by simp, rfl, rfl, HU.out.step_yes (.inl HZ.out)⟩
                  · have hzb : (Z k e == 0) = false := by simp [hz]
                    have HZ := Lib.hid hz
                    clear hz
                    cases hlk : has l k
                    · rw [hlk] at y1
                      have HK := Lib.hid hlk
                      clear hlk
                      go_wp2
                      go_roundg (G - (k + 1))
                      case measure => go_light; omega
                      case rel => go_light; exact ⟨k + 1, false, by omega, rfl, by simp, rfl, rfl, Upto.step_bad HZ.out HK.out⟩
                    · rw [hlk] at y1
                      have HK := Lib.hid hlk
                      clear hlk
                      go_wp2
                      go_roundg (G - (k + 1))
                      case measure => go_light; omega
                      case rel => go_light; exact ⟨k + 1, true, by omega, rfl, by simp, rfl, rfl, HU.out.step_yes (.inr HK.out)⟩
              · have hkz : ¬ (k : Int) < (G : Int) := by omega
                obtain rfl : k = G := by omega
                cases fb
                · have hnf : has l e = true ∨ ¬ Free k Z (has l) e := by
                    cases hle : has l e
                    · right
                      intro hf
                      have := HU.out.2 ⟨hle, hf⟩
                      cases this
                    · exact .inl rfl
                  have HF := Lib.hid hnf
                  clear hnf
                  go_wp2
                  go_roundg (k - (e + 1))
                  case measure => go_light; omega
                  case rel =>
                    go_light
                    have hx1 : x = -1 := by
                      rcases HX.out with q | ⟨q, hq, _⟩
                      · exact q.1
                      · omega
                    refine ⟨e + 1, x, by omega, rfl, by simp, rfl, rfl, .inl ⟨hx1, fun i hi => ?_⟩⟩
                    by_cases e1 : i = e
                    · subst e1; exact HF.out
                    · exact HNO.out i (by omega)
                · have hp : Pick k Z (has l) e := ⟨heG, (HU.out.1 rfl).1, (HU.out.1 rfl).2, HNO.out⟩
                  have HP := Lib.hid hp
                  clear hp
                  go_wp2
                  go_roundg (k - (e + 1))
                  case measure => go_light; omega
                  case rel => go_light; exact ⟨e + 1, e, by omega, rfl, by simp, rfl, rfl, .inr ⟨e, rfl, HP.out⟩⟩
          · have hez : ¬ (e : Int) < (G : Int) := by omega
            obtain rfl : e = G := by omega
            have hno : NoPick e Z (has l) := by
              rcases HX.out with q | ⟨q, hq, _⟩
              · exact q.2
              · omega
            have HNO := Lib.hid hno
            clear hno
            go_wp2
            go_ret2
            exact ⟨_, _, l, rfl, HB.out, HO.out, .inr ⟨rfl, hlt, HNO.out, rfl⟩⟩
        · obtain ⟨q, hq, hp⟩ : ∃ q : Nat, x = q ∧ Pick G Z (has l) q := by
            rcases HX.out with q | q
            · exact absurd q.1 (by omega)
            · exact q
          subst hq
          have hqG := hp.lt
          have y1 := HW.out.cell hqG
          have y2 := HW.out.frozen q
          have HP := Lib.hid hp
          have hqz : (q : Int) < (G : Int) := by omega
          have hown := own_store (i := q) HN.out HW.out (by decide) (.bool true)
          have hll : l.reverse.length = l.length := by simp
          rw [hll] at hown
          have hsz := HB.out.size
          clear hp
          by_cases heG : e < G
          all_goals
            first | (have hez : (e : Int) < (G : Int) := by omega) | (have hez : ¬ (e : Int) < (G : Int) := by omega)
            go_wp2_with (at_builtin; refine wpList_append_own _ rfl _ _ 32 rfl w.heap.size 3 i0 (.int .i64 0) 1 8 Try.underlying32 hi hz0 hz1 hz2 rfl (by decide) (.slice sa l.length sc) l.length (ints l.reverse) rfl (hown.alloc _) ⟨wr.heap.size, 0, none⟩ 1 1 [.int .i64 (q : Int)] rfl rfl (cell_one_at _ _ _ (by simp)) (ints_oneCell .i64 [(q : Int)]) (by unfold maxLen; omega) (by omega) (by simp; omega) ?_)
            intro v' w2 hown' hgrow _
            have hown3 : w2.ownsRow w.heap.size 3 1 v' (q :: l).reverse.length (ints (q :: l).reverse) := by
              rw [List.reverse_cons, ints_snoc, List.length_append, hll]; exact hown'
            have hb3 : Below w.heap.size w w2 := ((HB.out.setCell (p := ⟨w1.heap.size, q, none⟩) hsz1 _).alloc (by simpa using hsz) _).grown hgrow (by simp; omega) (fun j hj => (hown.lt j hj).1)
            have hr3 : w2.rowIs w1.heap.size 4 G (fun i => .bool (has (q :: l) i)) := (rowIs_grown ((HW.out.set q _).alloc _) (hown.alloc _) hgrow (by decide)).congr fun j _ => by rw [has_cons]; by_cases e1 : j = q <;> simp [e1]
            have ho3 : Ord G Z (q :: l) := ⟨HO.out, HP.out⟩
            clear hown' hgrow hown hll
            go_wp2
            go_roundg (G - (q :: l).length)
            case measure => go_light; simp; omega
            case rel => go_light; exact ⟨q :: l, rfl, ho3, hb3, hr3, hown3⟩
    · have hlz : ¬ (l.length : Int) < (G : Int) := by omega
      go_wp2
      go_ret2
      refine ⟨_, _, l, rfl, HB.out, HO.out, .inl ⟨rfl, by omega, ?_⟩⟩
      have h1 := RowR.of_ints HN.out
      have h2 : l.reverse.length = G := by simp; omega
      rw [h2] at h1
      exact h1
end
end Go.Proofs.Ytnkdcmloehandaa
