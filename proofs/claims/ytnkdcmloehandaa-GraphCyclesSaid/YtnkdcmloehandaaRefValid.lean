/- The reference's Valid: it answers as Vld says. -/
import Derived.Test.YtnkdcmloehandaaValid
namespace Go.Proofs.Ytnkdcmloehandaa
open Go.RowKit Plain

set_option maxHeartbeats 1000000 in
theorem refValid_any {w : World} {v : Value} {G : Nat} {L : Nat → Nat} {Z : Nat → Nat → Int} {vb : Bool} (hvb : vb = true ↔ Vld G L Z) (h : MatR w v G L Z) :
    Calls Try.prog 13 #[v] w fun e w' => e = .returned (.bool vb) ∧ Below w.heap.size w w' := by
  obtain ⟨a, b, o, c, A, B, O, C, rfl, l1, m1, s1, r1⟩ := h
  by_cases g1 : G < 1
  · have gz : (G : Int) < 1 := by omega
    have hf : vb = false := by cases vb; rfl; exact absurd (hvb.1 rfl).1 (by omega)
    subst hf
    clear hvb
    go_enter Try.func13, Try.ntmps13
    go_wp2
    go_ret
    exact ⟨rfl, Below.refl _ _⟩
  have gz : ¬ (G : Int) < 1 := by omega
  by_cases g2 : 12 < G
  · have gz2 : (12 : Int) < (G : Int) := by omega
    have hf : vb = false := by cases vb; rfl; exact absurd (hvb.1 rfl).2.1 (by omega)
    subst hf
    clear hvb
    go_enter Try.func13, Try.ntmps13
    go_wp2
    go_ret
    exact ⟨rfl, Below.refl _ _⟩
  have gz2 : ¬ (12 : Int) < (G : Int) := by omega
  have HV : Hid (vb = true ↔ Vld G L Z) := hvb
  clear hvb
  obtain rfl := s1 (by omega)
  go_enter Try.func13, Try.ntmps13
  go_wp2
  go_loopg [4] G (fun g i wr => ∃ r : Nat, r ≤ G ∧ g = G - r ∧ i = .int .i64 r ∧ wr = w ∧ ∀ i, i < r → L i = G)
  case atStart => exact ⟨0, Nat.zero_le _, rfl, rfl, rfl, fun i hi => absurd hi (Nat.not_lt_zero _)⟩
  case round =>
    obtain ⟨r, hr, rfl, rfl, rfl, hgood⟩ := hrel
    have HG := Lib.hid hgood
    clear hgood
    by_cases hrG : r < G
    · obtain ⟨t1, t2, t3, _, _⟩ := r1 r hrG
      have HR := Lib.hid r1
      clear r1
      have hrz : (r : Int) < (G : Int) := by omega
      by_cases hL : L r = G
      · have hLz : ((L r : Int) != (G : Int)) = false := by rw [hL]; simp
        have HL : Hid (L r = G) := hL
        clear hL
        go_wp2
        go_roundg (G - (r + 1))
        case measure => go_light; omega
        case rel =>
          go_light
          refine ⟨r + 1, by omega, rfl, by simp, rfl, fun i hi => ?_⟩
          by_cases e : i = r
          · subst e; exact HL.out
          · exact HG.out i (by omega)
      · have hLz : ((L r : Int) != (G : Int)) = true := by simp; omega
        have hf : vb = false := by cases vb; rfl; exact absurd ((HV.out.1 rfl).2.2.1 r hrG) hL
        subst hf
        clear HV hL
        go_wp2
        go_ret
        exact ⟨rfl, Below.refl _ _⟩
    · obtain rfl : r = G := by omega
      have hrz : ¬ (r : Int) < (r : Int) := by omega
      have HR := Lib.hid r1
      clear r1
      go_wp2
      go_loopg [5] r (fun g i wr2 => ∃ k : Nat, k ≤ r ∧ g = r - k ∧ i = .int .i64 k ∧ wr2 = wr ∧ ∀ j, j < k → (∀ i, i < r → 0 ≤ Z i j ∧ Z i j ≤ 10000) ∧ sumTo (fun i => Z i j) r ≤ 10000)
      case atStart => exact ⟨0, Nat.zero_le _, rfl, rfl, rfl, fun i hi => absurd hi (Nat.not_lt_zero _)⟩
      case round =>
        obtain ⟨k, hk, rfl, rfl, rfl, hcol⟩ := hrel
        have HC := Lib.hid hcol
        clear hcol
        by_cases hkr : k < r
        · have hkz : (k : Int) < (r : Int) := by omega
          go_wp2
          go_loopg [6, 7] r (fun g s i wr2 => ∃ q : Nat, q ≤ r ∧ g = r - q ∧ i = .int .i64 q ∧ s = .int .i64 (sumTo (fun i => Z i k) q) ∧ wr2 = wr ∧ ∀ i, i < q → 0 ≤ Z i k ∧ Z i k ≤ 10000)
          case atStart => exact ⟨0, Nat.zero_le _, rfl, rfl, rfl, rfl, fun i hi => absurd hi (Nat.not_lt_zero _)⟩
          case round =>
            obtain ⟨q, hq, rfl, rfl, rfl, rfl, hent⟩ := hrel
            have HE := Lib.hid hent
            clear hent
            have hbd := sumTo_bound (f := fun i => Z i k) (c := 10000) (by omega) q HE.out
            obtain ⟨s, hs⟩ : ∃ s, s = sumTo (fun i => Z i k) q := ⟨_, rfl⟩
            rw [← hs]
            rw [← hs] at hbd
            obtain ⟨hs0, hs1⟩ := hbd
            have hs2 : s ≤ 120000 := by omega
            clear hs1
            have HS := Lib.hid hs
            clear hs
            by_cases hqr : q < r
            · have hqz : (q : Int) < (r : Int) := by omega
              obtain ⟨t1, t2, t3, t4, t5⟩ := HR.out q hqr
              have hLq : L q = r := HG.out q hqr
              have x0 := t5 k (by omega)
              rw [t4 (by omega)] at t1
              obtain ⟨z, hz⟩ : ∃ z, z = Z q k := ⟨_, rfl⟩
              rw [← hz] at x0
              have HZ := Lib.hid hz
              have hkL : (k : Int) < (L q : Int) := by omega
              have HLq := Lib.hid hLq
              clear hz t4 t5 hLq
              by_cases z0 : z < 0
              · have hf : vb = false := by cases vb; rfl; exact absurd ((HV.out.1 rfl).2.2.2.1 q k hqr hkr).1 (by have := HZ.out; omega)
                subst hf
                clear HV
                go_wp2
                go_ret
                exact ⟨rfl, Below.refl _ _⟩
              by_cases z1 : 10000 < z
              · have hf : vb = false := by cases vb; rfl; exact absurd ((HV.out.1 rfl).2.2.2.1 q k hqr hkr).2 (by have := HZ.out; omega)
                subst hf
                clear HV
                go_wp2
                go_ret
                exact ⟨rfl, Below.refl _ _⟩
              go_wp2
              go_roundg (r - (q + 1))
              case measure => go_light; omega
              case rel =>
                go_light
                refine ⟨q + 1, by omega, rfl, by simp, ?_, rfl, fun i hi => ?_⟩
                · rw [HS.out, HZ.out]; rfl
                · by_cases e : i = q
                  · subst e; rw [← HZ.out]; omega
                  · exact HE.out i (by omega)
            · obtain rfl : q = r := by omega
              have hqz : ¬ (q : Int) < (q : Int) := by omega
              by_cases hs3 : 10000 < s
              · have hf : vb = false := by cases vb; rfl; exact absurd ((HV.out.1 rfl).2.2.2.2 k hkr) (by have := HS.out; omega)
                subst hf
                clear HV
                go_wp2
                go_ret
                exact ⟨rfl, Below.refl _ _⟩
              · go_wp2
                go_roundg (q - (k + 1))
                case measure => go_light; omega
                case rel =>
                  go_light
                  refine ⟨k + 1, by omega, rfl, by simp, rfl, fun j hj => ?_⟩
                  by_cases e : j = k
                  · subst e; exact ⟨HE.out, by rw [← HS.out]; omega⟩
                  · exact HC.out j (by omega)
        · obtain rfl : k = r := by omega
          have hkz : ¬ (k : Int) < (k : Int) := by omega
          have hf : vb = true := HV.out.2 ⟨by omega, by omega, HG.out, fun i j hi hj => (HC.out j hj).1 i hi, fun j hj => (HC.out j hj).2⟩
          subst hf
          clear HV
          go_wp2
          go_ret
          exact ⟨rfl, Below.refl _ _⟩
end Go.Proofs.Ytnkdcmloehandaa
