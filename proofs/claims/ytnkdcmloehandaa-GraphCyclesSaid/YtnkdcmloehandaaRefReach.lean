/- The reference's reach: what is reached from one entity of a valid matrix. -/
import Derived.Test.YtnkdcmloehandaaMark
namespace Go.Proofs.Ytnkdcmloehandaa
open Go.RowKit Plain

set_option maxHeartbeats 1000000 in
theorem refreach_any {w : World} {v : Value} {G : Nat} {L : Nat → Nat} {Z : Nat → Nat → Int} {f : Nat} (hv : Vld G L Z) (h : MatR w v G L Z) (hf : f < G) :
    Calls Try.prog 30 #[v, .int .i64 (f : Int)] w (Reached w w G Z fun a => a = f) := by
  obtain ⟨a, b, o, c, A, B, O, C, rfl, l1, m1, s1, r1⟩ := h
  obtain ⟨g1, g2, g3, g4, g5⟩ := hv
  obtain rfl := s1 (by omega)
  have hmake := run_make_row' (P := Try.prog) 26 4 (.bool false) 1 Try.underlying26 info4 rfl .i64 .i64 G (by omega) (by omega)
  have G3 := Lib.hid g3
  have R1 := Lib.hid r1
  clear g3 g4 g5 r1
  have hfz : (f : Int) < (G : Int) := by omega
  have row0 := World.rowIs_made w (.bool false) G 4
  have y1 := row0.cell hf
  have y2 := row0.frozen f
  have hrow : ∀ wr, Below w.heap.size w wr → ∀ r, r < G → wr.cell? ⟨b, o + r, none⟩ = some (.slice (some ⟨B r, O r, none⟩) (L r) (C r)) ∧ L r ≤ C r ∧ C r ≤ 9223372036854775807 ∧ L r = G ∧ ∀ k, k < G → wr.cell? ⟨B r, O r + k, none⟩ = some (.int .i64 (Z r k)) := by
    intro wr hb r hr
    obtain ⟨t1, t2, t3, t4, t5⟩ := R1.out r hr
    have hL := G3.out r hr
    rw [t4 (by omega)] at t1
    exact ⟨keepc hb t1, t2, t3, hL, fun k hk => keepc hb (t5 k (by omega))⟩
  have HR := Lib.hid hrow
  have R0 := Lib.hid row0
  clear hrow R1 G3 row0
  go_enter Try.func30, Try.ntmps30
  go_wp2
  clear hmake y1 y2
  go_loopg [6] G (fun g s wr => ∃ k : Nat, k ≤ G ∧ g = G - k ∧ s = .int .i64 k ∧ Below w.heap.size w wr ∧ wr.rowIs w.heap.size 4 G (fun i => .bool (sweeps G Z (fun i => i == f) k i)))
  case atStart =>
    go_light
    refine ⟨0, Nat.zero_le _, rfl, rfl, (Below.refl _ _).alloc (Nat.le_refl _) _, (rowIs_made_set w _ _ G 4 f).congr fun j _ => ?_⟩
    by_cases e : j = f
    · subst e; simp [sweeps]
    · simp [sweeps, e]
  case round =>
    obtain ⟨k, hk, rfl, rfl, hb, hrow⟩ := hrel
    clear R0
    by_cases hkG : k < G
    · have hkz : (k : Int) < (G : Int) := by omega
      have HB := Lib.hid hb
      have HW := Lib.hid hrow
      clear hb hrow
      go_wp2
      go_loopg [7] G (fun g s wr => ∃ h : Nat, h ≤ G ∧ g = G - h ∧ s = .int .i64 h ∧ Below w.heap.size w wr ∧ wr.rowIs w.heap.size 4 G (fun i => .bool (sweepH G Z (sweeps G Z (fun i => i == f) k) h i)))
      case atStart => go_light; exact ⟨0, Nat.zero_le _, rfl, rfl, HB.out, HW.out⟩
      case round =>
        obtain ⟨h, hh, rfl, rfl, hb, hrow⟩ := hrel
        clear HB HW
        by_cases hhG : h < G
        · have hhz : (h : Int) < (G : Int) := by omega
          have HB := Lib.hid hb
          have HW := Lib.hid hrow
          clear hb hrow
          go_wp2
          go_loopg [8] G (fun g s wr => ∃ e : Nat, e ≤ G ∧ g = G - e ∧ s = .int .i64 e ∧ Below w.heap.size w wr ∧ wr.rowIs w.heap.size 4 G (fun i => .bool (sweepE Z h (sweepH G Z (sweeps G Z (fun i => i == f) k) h) e i)))
          case atStart => go_light; exact ⟨0, Nat.zero_le _, rfl, rfl, HB.out, HW.out⟩
          case round =>
            obtain ⟨e, he, rfl, rfl, hb, hrow⟩ := hrel
            clear HB HW
            obtain ⟨q, hq⟩ : ∃ q, q = sweepE Z h (sweepH G Z (sweeps G Z (fun i => i == f) k) h) e := ⟨_, rfl⟩
            rw [← hq] at hrow
            by_cases heG : e < G
            · have hez : (e : Int) < (G : Int) := by omega
              obtain ⟨t1, t2, t3, hL, t5⟩ := HR.out wr hb h hhG
              have x1 := t5 e heG
              have y1 := hrow.cell hhG
              have y2 := hrow.cell heG
              have y3 := hrow.frozen e
              have HB := Lib.hid hb
              have HW := Lib.hid hrow
              have HQ := Lib.hid hq
              have HL := Lib.hid hL
              have heL : (e : Int) < (L h : Int) := by omega
              clear hb hrow hq t5 hL
              have nxt : sweepE Z h (sweepH G Z (sweeps G Z (fun i => i == f) k) h) (e + 1) = stepE Z h e q := by rw [HQ.out]; rfl
              have HN := Lib.hid nxt
              clear nxt
              cases hqh : q h
              · rw [hqh] at y1
                have HH := Lib.hid hqh
                clear hqh
                go_wp2
                go_roundg (G - (e + 1))
                case measure => go_light; omega
                case rel =>
                  go_light
                  refine ⟨e + 1, by omega, rfl, by simp, HB.out, HW.out.congr fun j _ => ?_⟩
                  rw [HN.out]; simp [stepE, HH.out]
              · rw [hqh] at y1
                have HH := Lib.hid hqh
                clear hqh
                by_cases hz : 0 < Z h e
                · go_wp2
                  go_roundg (G - (e + 1))
                  case measure => go_light; omega
                  case rel =>
                    go_light
                    have e2 : stepE Z h e q = setB q e := by unfold stepE; rw [if_pos ⟨HH.out, hz⟩]
                    refine ⟨e + 1, by omega, rfl, by simp, HB.out.setCell (Nat.le_refl _) _, (HW.out.set e _).congr fun j _ => ?_⟩
                    rw [HN.out, e2]
                    unfold setB
                    by_cases e1 : j = e
                    · rw [if_pos e1, if_pos e1]
                    · rw [if_neg e1, if_neg e1]
                · go_wp2
                  go_roundg (G - (e + 1))
                  case measure => go_light; omega
                  case rel =>
                    go_light
                    refine ⟨e + 1, by omega, rfl, by simp, HB.out, HW.out.congr fun j _ => ?_⟩
                    rw [HN.out]
                    unfold stepE
                    rw [if_neg (by omega)]
            · have hez : ¬ (e : Int) < (G : Int) := by omega
              obtain rfl : e = G := by omega
              have HB := Lib.hid hb
              have HW := Lib.hid hrow
              have HQ := Lib.hid hq
              clear hb hrow hq
              go_wp2
              go_roundg (e - (h + 1))
              case measure => go_light; omega
              case rel => go_light; exact ⟨h + 1, by omega, rfl, by simp, HB.out, HW.out.congr fun j _ => by rw [HQ.out]; rfl⟩
        · have hhz : ¬ (h : Int) < (G : Int) := by omega
          obtain rfl : h = G := by omega
          have HB := Lib.hid hb
          have HW := Lib.hid hrow
          clear hb hrow
          go_wp2
          go_roundg (h - (k + 1))
          case measure => go_light; omega
          case rel => go_light; exact ⟨k + 1, by omega, rfl, by simp, HB.out, HW.out⟩
    · have hkz : ¬ (k : Int) < (G : Int) := by omega
      obtain rfl : k = G := by omega
      have HB := Lib.hid hb
      have HW := Lib.hid hrow
      clear hb hrow
      go_wp2
      go_ret
      exact ⟨_, rfl, HW.out, sweeps_isReach hf, HB.out⟩
end Go.Proofs.Ytnkdcmloehandaa
