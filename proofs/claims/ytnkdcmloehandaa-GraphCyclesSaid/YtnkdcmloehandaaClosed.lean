/- The two Closed: the greatest closed set. -/
import Derived.Test.YtnkdcmloehandaaAwake
namespace Go.Proofs.Ytnkdcmloehandaa
open Go.RowKit Plain

theorem clr_same {o : Nat → Bool} {e : Nat} (h : o e = false) : clr o e = o := by
  funext i
  unfold clr
  split
  · rename_i e1; subst e1; exact h.symm
  · rfl
theorem cnt_all : ∀ n, cnt (fun _ => true) n = n
  | 0 => rfl
  | n + 1 => by simp only [cnt, cnt_all n]; simp
theorem cnt_clr {n e : Nat} {o : Nat → Bool} (he : e < n) (h : o e = true) : cnt (clr o e) n < cnt o n :=
  cnt_lt n (fun i _ hi => by unfold clr at hi; split at hi; cases hi; exact hi) ⟨e, he, by simp [clr], h⟩

theorem hold_bd {G : Nat} {L : Nat → Nat} {Z : Nat → Nat → Int} {o : Nat → Bool} {e k : Nat} (hv : Vld G L Z) (he : e < G) (hk : k ≤ G) : 0 ≤ hold Z o e k ∧ hold Z o e k ≤ 120000 := by
  obtain ⟨g1, g2, g3, g4, g5⟩ := hv
  have := sumTo_bound (f := fun h => if o h = true then Z h e else 0) (c := 10000) (by omega) k (fun i hi => by have := g4 i e (by omega) he; split <;> omega)
  unfold hold
  omega

/-- what all walks over a valid matrix ask of its rows, in whatever world has only grown -/
def RowsAt (w : World) (b o : Nat) (B O C L : Nat → Nat) (G : Nat) (Z : Nat → Nat → Int) : Prop :=
  ∀ wr, Below w.heap.size w wr → ∀ r, r < G → wr.cell? ⟨b, o + r, none⟩ = some (.slice (some ⟨B r, O r, none⟩) (L r) (C r)) ∧ L r ≤ C r ∧ C r ≤ 9223372036854775807 ∧ L r = G ∧ ∀ k, k < G → wr.cell? ⟨B r, O r + k, none⟩ = some (.int .i64 (Z r k))

theorem MatR.rowsAt {w : World} {v : Value} {G : Nat} {L : Nat → Nat} {Z : Nat → Nat → Int} (h : MatR w v G L Z) (hv : Vld G L Z) :
    ∃ b o c B O C, v = .slice (some ⟨b, o, none⟩) G c ∧ G ≤ c ∧ c ≤ 9223372036854775807 ∧ RowsAt w b o B O C L G Z := by
  obtain ⟨a, b, o, c, A, B, O, C, rfl, l1, m1, s1, r1⟩ := h
  obtain ⟨g1, g2, g3, g4, g5⟩ := hv
  obtain rfl := s1 (by omega)
  refine ⟨b, o, c, B, O, C, rfl, l1, m1, fun wr hb r hr => ?_⟩
  obtain ⟨t1, t2, t3, t4, t5⟩ := r1 r hr
  have hL := g3 r hr
  rw [t4 (by omega)] at t1
  exact ⟨keepc hb t1, t2, t3, hL, fun k hk => keepc hb (t5 k (by omega))⟩

/-- what both hand back: a new row that holds the greatest closed set -/
def GreatRow (w : World) (G : Nat) (Z : Nat → Nat → Int) (e : Ending) (w' : World) : Prop :=
  ∃ bk o, w.heap.size ≤ bk ∧ e = .returned (.slice (some ⟨bk, 0, none⟩) G G) ∧ w'.rowIs bk 4 G (fun i => .bool (o i)) ∧ Great G Z o ∧ Below w.heap.size w w'

section
variable {w : World} {v : Value} {G : Nat} {L : Nat → Nat} {Z : Nat → Nat → Int}

set_option maxHeartbeats 400000 in
theorem closed_no (hv : ¬ Vld G L Z) (h : MatR w v G L Z) : Calls Try.prog 17 #[v] w (Nil w) := by
  have HM := Lib.hid h
  have HV := Lib.hid hv
  clear h hv
  go_enter Try.func17, Try.ntmps17
  go_wp2_with (go_at_call 12; refine (valid_any (vb_false HV.out) HM.out).mono ?_; rintro e w1 ⟨rfl, hb⟩)
  go_ret
  exact ⟨rfl, hb⟩

set_option maxHeartbeats 400000 in
theorem refClosed_no (hv : ¬ Vld G L Z) (h : MatR w v G L Z) : Calls Try.prog 18 #[v] w (Nil w) := by
  have HM := Lib.hid h
  have HV := Lib.hid hv
  clear h hv
  go_enter Try.func18, Try.ntmps18
  go_wp2_with (go_at_call 13; refine (refValid_any (vb_false HV.out) HM.out).mono ?_; rintro e w1 ⟨rfl, hb⟩)
  go_ret
  exact ⟨rfl, hb⟩

set_option maxHeartbeats 1600000 in
theorem closed_yes (hv : Vld G L Z) (h : MatR w v G L Z) : Calls Try.prog 17 #[v] w (GreatRow w G Z) := by
  have HV := Lib.hid hv
  have HM := Lib.hid h
  obtain ⟨b, o, c, B, O, C, rfl, l1, m1, hrows⟩ := h.rowsAt hv
  have HR := Lib.hid hrows
  obtain ⟨g1, g2, g3, g4, g5⟩ := hv
  have hmake := run_make_row' (P := Try.prog) 26 4 (.bool false) 1 Try.underlying26 info4 rfl .i64 .i64 G (by omega) (by omega)
  have G4 : Hid (∀ r c, r < G → c < G → 0 ≤ Z r c) := fun r c hr hc => (g4 r c hr hc).1
  have G5 := Lib.hid g5
  clear g3 g4 g5 h hrows
  go_enter Try.func17, Try.ntmps17
  go_wp2_with (go_at_call 12; refine (valid_any (vb_true HV.out) HM.out).mono ?_; rintro e w1 ⟨rfl, hb⟩)
  clear hmake
  have hsz1 := hb.size
  have HB1 := Lib.hid (hb.alloc hsz1 (.cells (madeCells #[.bool false] G) 4))
  have R0 := Lib.hid (World.rowIs_made w1 (.bool false) G 4)
  clear hb
  go_loopg [18] G (fun g s wr => ∃ k : Nat, k ≤ G ∧ g = G - k ∧ s = .int .i64 k ∧ Below w.heap.size w wr ∧ wr.rowIs w1.heap.size 4 G (fun i => .bool (decide (i < k))))
  case atStart =>
    go_light
    exact ⟨0, Nat.zero_le _, rfl, rfl, HB1.out, R0.out.congr (fun j _ => by simp)⟩
  case round =>
    obtain ⟨k, hk, rfl, rfl, hbr, hrow⟩ := hrel
    clear HB1 R0
    by_cases hkG : k < G
    · have hkz : (k : Int) < (G : Int) := by omega
      have y1 := hrow.cell hkG
      have y2 := hrow.frozen k
      have HB := Lib.hid hbr
      have HW := Lib.hid hrow
      clear hbr hrow
      go_wp2
      go_roundg (G - (k + 1))
      case measure => go_light; omega
      case rel =>
        go_light
        refine ⟨k + 1, by omega, rfl, by simp, HB.out.setCell hsz1 _, (HW.out.set k _).congr fun j _ => ?_⟩
        by_cases e1 : j = k
        · subst e1; simp
        · have e2 : (j < k) = (j < k + 1) := by apply propext; omega
          simp [e1, e2]
    · have hkz : ¬ (k : Int) < (G : Int) := by omega
      obtain rfl : k = G := by omega
      have HB := Lib.hid hbr
      have HW := Lib.hid (hrow.congr (g := fun _ => .bool true) fun i hi => by simp [hi])
      clear hbr hrow
      go_wp2
      go_loopg [5] (k + 1) (fun g s wr => ∃ (q : Nat → Bool) (ch : Bool), g = (if ch = true then cnt q k + 1 else 0) ∧ s = .bool ch ∧ Below w.heap.size w wr ∧ wr.rowIs w1.heap.size 4 k (fun i => .bool (q i)) ∧ Above k Z q ∧ (ch = false → IsClosed k Z q))
      case atStart =>
        go_light
        refine ⟨fun _ => true, true, ?_, rfl, HB.out, HW.out, Above.start k Z, (fun h => by cases h)⟩
        rw [if_pos rfl, cnt_all]
      case round =>
        obtain ⟨q, ch, rfl, rfl, hbr, hrow, hab, hcl⟩ := hrel
        have HA := Lib.hid hab
        have HC := Lib.hid hcl
        clear HB HW hab hcl
        cases ch
        · have HB := Lib.hid hbr
          have HW := Lib.hid hrow
          have HC2 := Lib.hid (HC.out rfl)
          clear hbr hrow HC
          go_wp2
          go_ret
          exact ⟨_, q, hsz1, rfl, HW.out, ⟨HC2.out, HA.out⟩, HB.out⟩
        · have HB := Lib.hid hbr
          have HW := Lib.hid hrow
          clear hbr hrow HC
          go_wp2
          go_loopg [5, 28] k (fun g s i wr => ∃ (e : Nat) (p : Nat → Bool) (ch : Bool), e ≤ k ∧ g = k - e ∧ i = .int .i64 e ∧ s = .bool ch ∧ Below w.heap.size w wr ∧ wr.rowIs w1.heap.size 4 k (fun i => .bool (p i)) ∧ p = sweepC k Z q e ∧ (ch = false → p = q) ∧ (ch = true → cnt p k < cnt q k))
          case atStart => go_light; exact ⟨0, q, false, Nat.zero_le _, rfl, rfl, rfl, HB.out, HW.out, rfl, fun _ => rfl, (fun h => by cases h)⟩
          case round =>
            obtain ⟨e, p, ch, he, rfl, rfl, rfl, hbr, hrow, hp, hc0, hc1⟩ := hrel
            have HP := Lib.hid hp
            have HC0 := Lib.hid hc0
            have HC1 := Lib.hid hc1
            clear HB HW hp hc0 hc1
            by_cases hek : e < k
            · have hez : (e : Int) < (k : Int) := by omega
              have HB := Lib.hid hbr
              have HW := Lib.hid hrow
              clear hbr hrow
              obtain ⟨wo, hwo⟩ : ∃ wo : World, wo = wr := ⟨_, rfl⟩
              subst hwo
              go_wp2
              go_loopg [7, 33] k (fun g s i wr2 => ∃ h : Nat, h ≤ k ∧ g = k - h ∧ i = .int .i64 h ∧ s = .int .i64 (hold Z p e h) ∧ wr2 = wo)
              case atStart => go_light; exact ⟨0, Nat.zero_le _, rfl, rfl, rfl, rfl⟩
              case round =>
                obtain ⟨h, hh, rfl, rfl, rfl, rfl⟩ := hrel
                obtain ⟨hb0, hb1⟩ := hold_bd (o := p) (k := h) HV.out hek hh
                obtain ⟨s, hs⟩ : ∃ s, s = hold Z p e h := ⟨_, rfl⟩
                rw [← hs] at hb0 hb1 ⊢
                have HS := Lib.hid hs
                clear hs
                by_cases hhk : h < k
                · have hhz : (h : Int) < (k : Int) := by omega
                  obtain ⟨t1, t2, t3, t4, t5⟩ := HR.out _ HB.out h hhk
                  have x1 := t5 e hek
                  have heL : (e : Int) < (L h : Int) := by omega
                  have y1 := HW.out.cell hhk
                  have hz0 := G4.out h e hhk hek
                  have hz1 : Z h e ≤ 10000 := by obtain ⟨_, _, _, q4, _⟩ := HV.out; exact (q4 h e hhk hek).2
                  clear t4 t5
                  cases hph : p h
                  · rw [hph] at y1
                    have HH := Lib.hid hph
                    clear hph
                    go_wp2
                    go_roundg (k - (h + 1))
                    case measure => go_light; omega
                    case rel => go_light; exact ⟨h + 1, by omega, rfl, by simp, by rw [HS.out]; simp [hold, sumTo, HH.out], rfl⟩
                  · rw [hph] at y1
                    have HH := Lib.hid hph
                    clear hph
                    go_wp2
                    go_roundg (k - (h + 1))
                    case measure => go_light; omega
                    case rel => go_light; exact ⟨h + 1, by omega, rfl, by simp, by rw [HS.out]; simp [hold, sumTo, HH.out], rfl⟩
                · have hhz : ¬ (h : Int) < (k : Int) := by omega
                  obtain rfl : h = k := by omega
                  have y1 := HW.out.cell hek
                  have y2 := HW.out.frozen e
                  have hle : s ≤ 10000 := by rw [HS.out]; exact hold_le (fun r hr => G4.out r e hr hek) (G5.out e hek)
                  have hdown := cnt_mono (p := p) (q := q) h (fun i _ hi => by rw [HP.out] at hi; exact sweepC_le e hi)
                  cases hpe : p e
                  · rw [hpe] at y1
                    have HPE := Lib.hid hpe
                    clear hpe
                    go_wp2
                    go_roundg (h - (e + 1))
                    case measure => go_light; omega
                    case rel =>
                      go_light
                      refine ⟨e + 1, p, ch, by omega, rfl, by simp, rfl, HB.out, HW.out, ?_, HC0.out, HC1.out⟩
                      simp only [sweepC, stepC, ← HP.out, clr_same HPE.out, ite_self]
                  · rw [hpe] at y1
                    have HPE := Lib.hid hpe
                    clear hpe
                    by_cases hs1 : s = 10000
                    · have hsz : (s != 10000) = false := by simp [hs1]
                      have HS1 := Lib.hid hs1
                      clear hs1
                      go_wp2
                      go_roundg (h - (e + 1))
                      case measure => go_light; omega
                      case rel =>
                        go_light
                        refine ⟨e + 1, p, ch, by omega, rfl, by simp, rfl, HB.out, HW.out, ?_, HC0.out, HC1.out⟩
                        simp only [sweepC, stepC, ← HP.out]
                        rw [if_neg (by rw [← HS.out, HS1.out]; omega)]
                    · have hsz : (s != 10000) = true := by simp [hs1]
                      go_wp2
                      go_roundg (h - (e + 1))
                      case measure => go_light; omega
                      case rel =>
                        go_light
                        refine ⟨e + 1, clr p e, true, by omega, rfl, by simp, rfl, HB.out.setCell hsz1 _, (HW.out.set e _).congr (fun j _ => ?_), ?_, (fun h => by cases h), fun _ => ?_⟩
                        · unfold clr
                          by_cases e1 : j = e
                          · rw [if_pos e1, if_pos e1]
                          · rw [if_neg e1, if_neg e1]
                        · simp only [sweepC, stepC, ← HP.out]
                          rw [if_pos (by rw [← HS.out]; omega)]
                        · exact Nat.lt_of_lt_of_le (cnt_clr hek HPE.out) hdown
            · have hez : ¬ (e : Int) < (k : Int) := by omega
              obtain rfl : e = k := by omega
              have HB := Lib.hid hbr
              have HW := Lib.hid hrow
              clear hbr hrow
              go_wp2
              go_roundg (if ch = true then cnt p e + 1 else 0)
              case measure =>
                go_light
                cases ch
                · simp
                · have := HC1.out rfl; simp; omega
              case rel =>
                go_light
                refine ⟨p, ch, rfl, rfl, HB.out, HW.out, by rw [HP.out]; exact HA.out.sweep G4.out e (Nat.le_refl _), fun h0 => ?_⟩
                have hpq := HC0.out h0
                have : sweepC e Z q e = q := by rw [← HP.out]; exact hpq
                rw [hpq]
                exact closed_of_same G4.out G5.out fun i _ hi => by rw [this]; exact hi

set_option maxHeartbeats 1600000 in
theorem refClosed_yes (hv : Vld G L Z) (h : MatR w v G L Z) : Calls Try.prog 18 #[v] w (GreatRow w G Z) := by
  have HV := Lib.hid hv
  have HM := Lib.hid h
  obtain ⟨b, o, c, B, O, C, rfl, l1, m1, hrows⟩ := h.rowsAt hv
  have HR := Lib.hid hrows
  obtain ⟨g1, g2, g3, g4, g5⟩ := hv
  have hmake := run_make_row' (P := Try.prog) 26 4 (.bool false) 1 Try.underlying26 info4 rfl .i64 .i64 G (by omega) (by omega)
  have G4 : Hid (∀ r c, r < G → c < G → 0 ≤ Z r c) := fun r c hr hc => (g4 r c hr hc).1
  have G5 := Lib.hid g5
  clear g3 g4 g5 h hrows
  go_enter Try.func18, Try.ntmps18
  go_wp2_with (go_at_call 13; refine (refValid_any (vb_true HV.out) HM.out).mono ?_; rintro e w1 ⟨rfl, hb⟩)
  clear hmake
  have hsz1 := hb.size
  have HB1 := Lib.hid (hb.alloc hsz1 (.cells (madeCells #[.bool false] G) 4))
  have R0 := Lib.hid (World.rowIs_made w1 (.bool false) G 4)
  clear hb
  go_loopg [4] G (fun g s wr => ∃ k : Nat, k ≤ G ∧ g = G - k ∧ s = .int .i64 k ∧ Below w.heap.size w wr ∧ wr.rowIs w1.heap.size 4 G (fun i => .bool (decide (i < k))))
  case atStart =>
    go_light
    exact ⟨0, Nat.zero_le _, rfl, rfl, HB1.out, R0.out.congr (fun j _ => by simp)⟩
  case round =>
    obtain ⟨k, hk, rfl, rfl, hbr, hrow⟩ := hrel
    clear HB1 R0
    by_cases hkG : k < G
    · have hkz : (k : Int) < (G : Int) := by omega
      have y1 := hrow.cell hkG
      have y2 := hrow.frozen k
      have HB := Lib.hid hbr
      have HW := Lib.hid hrow
      clear hbr hrow
      go_wp2
      go_roundg (G - (k + 1))
      case measure => go_light; omega
      case rel =>
        go_light
        refine ⟨k + 1, by omega, rfl, by simp, HB.out.setCell hsz1 _, (HW.out.set k _).congr fun j _ => ?_⟩
        by_cases e1 : j = k
        · subst e1; simp
        · have e2 : (j < k) = (j < k + 1) := by apply propext; omega
          simp [e1, e2]
    · have hkz : ¬ (k : Int) < (G : Int) := by omega
      obtain rfl : k = G := by omega
      have HB := Lib.hid hbr
      have HW := Lib.hid (hrow.congr (g := fun _ => .bool true) fun i hi => by simp [hi])
      clear hbr hrow
      go_wp2
      go_loopg [5] k (fun g s wr => ∃ n : Nat, n ≤ k ∧ g = k - n ∧ s = .int .i64 n ∧ Below w.heap.size w wr ∧ wr.rowIs w1.heap.size 4 k (fun i => .bool (sweepsC k Z (fun _ => true) n i)))
      case atStart => go_light; exact ⟨0, Nat.zero_le _, rfl, rfl, HB.out, HW.out⟩
      case round =>
        obtain ⟨n, hn, rfl, rfl, hbr, hrow⟩ := hrel
        clear HB HW
        have HB := Lib.hid hbr
        have HW := Lib.hid hrow
        clear hbr hrow
        by_cases hnk : n < k
        · have hnz : (n : Int) < (k : Int) := by omega
          go_wp2
          go_loopg [6] k (fun g i wr => ∃ (e : Nat) (p : Nat → Bool), e ≤ k ∧ g = k - e ∧ i = .int .i64 e ∧ Below w.heap.size w wr ∧ wr.rowIs w1.heap.size 4 k (fun i => .bool (p i)) ∧ p = sweepC k Z (sweepsC k Z (fun _ => true) n) e)
          case atStart => go_light; exact ⟨0, _, Nat.zero_le _, rfl, rfl, HB.out, HW.out, rfl⟩
          case round =>
            obtain ⟨e, p, he, rfl, rfl, hbr, hrow, hp⟩ := hrel
            have HP := Lib.hid hp
            clear HB HW hp
            have HB := Lib.hid hbr
            have HW := Lib.hid hrow
            clear hbr hrow
            by_cases hek : e < k
            · have hez : (e : Int) < (k : Int) := by omega
              obtain ⟨wo, hwo⟩ : ∃ wo : World, wo = wr := ⟨_, rfl⟩
              subst hwo
              go_wp2
              go_loopg [7, 8] k (fun g s i wr2 => ∃ h : Nat, h ≤ k ∧ g = k - h ∧ i = .int .i64 h ∧ s = .int .i64 (hold Z p e h) ∧ wr2 = wo)
              case atStart => go_light; exact ⟨0, Nat.zero_le _, rfl, rfl, rfl, rfl⟩
              case round =>
                obtain ⟨h, hh, rfl, rfl, rfl, rfl⟩ := hrel
                obtain ⟨hb0, hb1⟩ := hold_bd (o := p) (k := h) HV.out hek hh
                obtain ⟨s, hs⟩ : ∃ s, s = hold Z p e h := ⟨_, rfl⟩
                rw [← hs] at hb0 hb1 ⊢
                have HS := Lib.hid hs
                clear hs
                by_cases hhk : h < k
                · have hhz : (h : Int) < (k : Int) := by omega
                  obtain ⟨t1, t2, t3, t4, t5⟩ := HR.out _ HB.out h hhk
                  have x1 := t5 e hek
                  have heL : (e : Int) < (L h : Int) := by omega
                  have y1 := HW.out.cell hhk
                  have hz0 := G4.out h e hhk hek
                  have hz1 : Z h e ≤ 10000 := by obtain ⟨_, _, _, q4, _⟩ := HV.out; exact (q4 h e hhk hek).2
                  clear t4 t5
                  cases hph : p h
                  · rw [hph] at y1
                    have HH := Lib.hid hph
                    clear hph
                    go_wp2
                    go_roundg (k - (h + 1))
                    case measure => go_light; omega
                    case rel => go_light; exact ⟨h + 1, by omega, rfl, by simp, by rw [HS.out]; simp [hold, sumTo, HH.out], rfl⟩
                  · rw [hph] at y1
                    have HH := Lib.hid hph
                    clear hph
                    go_wp2
                    go_roundg (k - (h + 1))
                    case measure => go_light; omega
                    case rel => go_light; exact ⟨h + 1, by omega, rfl, by simp, by rw [HS.out]; simp [hold, sumTo, HH.out], rfl⟩
                · have hhz : ¬ (h : Int) < (k : Int) := by omega
                  obtain rfl : h = k := by omega
                  have y1 := HW.out.cell hek
                  have y2 := HW.out.frozen e
                  by_cases hs1 : s < 10000
                  · go_wp2
                    go_roundg (h - (e + 1))
                    case measure => go_light; omega
                    case rel =>
                      go_light
                      refine ⟨e + 1, clr p e, by omega, rfl, by simp, HB.out.setCell hsz1 _, (HW.out.set e _).congr (fun j _ => ?_), ?_⟩
                      · unfold clr
                        by_cases e1 : j = e
                        · rw [if_pos e1, if_pos e1]
                        · rw [if_neg e1, if_neg e1]
                      · simp only [sweepC, stepC, ← HP.out]
                        rw [if_pos (by rw [← HS.out]; omega)]
                  · go_wp2
                    go_roundg (h - (e + 1))
                    case measure => go_light; omega
                    case rel =>
                      go_light
                      refine ⟨e + 1, p, by omega, rfl, by simp, HB.out, HW.out, ?_⟩
                      simp only [sweepC, stepC, ← HP.out]
                      rw [if_neg (by rw [← HS.out]; omega)]
            · have hez : ¬ (e : Int) < (k : Int) := by omega
              obtain rfl : e = k := by omega
              go_wp2
              go_roundg (e - (n + 1))
              case measure => go_light; omega
              case rel => go_light; exact ⟨n + 1, by omega, rfl, by simp, HB.out, HW.out.congr fun j _ => by rw [HP.out]; rfl⟩
        · have hnz : ¬ (n : Int) < (k : Int) := by omega
          obtain rfl : n = k := by omega
          go_wp2
          go_ret
          exact ⟨_, _, hsz1, rfl, HW.out, sweepsC_great G4.out G5.out, HB.out⟩
end
end Go.Proofs.Ytnkdcmloehandaa
