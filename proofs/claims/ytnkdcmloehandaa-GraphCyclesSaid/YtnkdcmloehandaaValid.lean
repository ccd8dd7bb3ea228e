/- Few, and the two Valid: what they answer. -/
import Derived.Test.YtnkdcmloehandaaMem
import Derived.Test.YtnkdcmloehandaaPlainB
namespace Go.Proofs.Ytnkdcmloehandaa
open Go.RowKit Plain

def SomeBool (w : World) (e : Ending) (w' : World) : Prop := ∃ b : Bool, e = .returned (.bool b) ∧ w = w'

set_option maxHeartbeats 400000 in
theorem few_any {w : World} {v : Value} {G : Nat} {L : Nat → Nat} {Z : Nat → Nat → Int} (h : MatR w v G L Z) : Calls Try.prog 11 #[v] w (SomeBool w) := by
  obtain ⟨a, b, o, c, A, B, O, C, rfl, l1, m1, s1, r1⟩ := h
  go_enter Try.func11, Try.ntmps11
  go_wp2
  go_loop [3] (fun i => ∃ k : Nat, k ≤ G ∧ i = .int .i64 k) (fun i => G - (intOf i).toNat)
  case atStart => exact ⟨0, Nat.zero_le _, rfl⟩
  case round =>
    obtain ⟨k, hk, rfl⟩ := hrel
    by_cases hkn : k < G
    · obtain rfl := s1 (by omega)
      obtain ⟨t1, t2, t3, _, _⟩ := r1 k hkn
      clear r1 s1
      have hkz : (k : Int) < (G : Int) := by omega
      by_cases h20 : 20 < L k
      · have hz : (20 : Int) < (L k : Int) := by omega
        go_wp2
        go_ret
        exact ⟨_, rfl, rfl⟩
      · have hz : ¬ (20 : Int) < (L k : Int) := by omega
        go_wp2
        go_round
        case rel => exact ⟨k + 1, by omega, by go_num⟩
        case measure => simp [intOf]; omega
    · have hkz : ¬ (k : Int) < (G : Int) := by omega
      go_wp2
      go_ret
      exact ⟨_, rfl, rfl⟩

/-- the running sums of graph.Valid: rows below r, and of row r the columns below c -/
def part (Z : Nat → Nat → Int) (r c k : Nat) : Int := sumTo (fun i => Z i k) r + if k < c then Z r k else 0

def Good (G : Nat) (L : Nat → Nat) (Z : Nat → Nat → Int) (r : Nat) : Prop := L r = G ∧ ∀ c, c < G → 0 ≤ Z r c ∧ Z r c ≤ 10000

theorem part_bd {G : Nat} {L : Nat → Nat} {Z : Nat → Nat → Int} {r k : Nat} (hG : G ≤ 12) (hr : r ≤ G) (h : ∀ i, i < r → Good G L Z i) (hk : k < G) : 0 ≤ sumTo (fun i => Z i k) r ∧ sumTo (fun i => Z i k) r ≤ 120000 := by
  have := sumTo_bound (f := fun i => Z i k) (c := 10000) (by omega) r (fun i hi => (h i hi).2 k hk)
  omega

set_option maxHeartbeats 1000000 in
theorem valid_any {w : World} {v : Value} {G : Nat} {L : Nat → Nat} {Z : Nat → Nat → Int} {vb : Bool} (hvb : vb = true ↔ Vld G L Z) (h : MatR w v G L Z) :
    Calls Try.prog 12 #[v] w fun e w' => e = .returned (.bool vb) ∧ Below w.heap.size w w' := by
  obtain ⟨a, b, o, c, A, B, O, C, rfl, l1, m1, s1, r1⟩ := h
  by_cases g1 : G < 1
  · have gz : (G : Int) < 1 := by omega
    have hf : vb = false := by cases vb; rfl; exact absurd (hvb.1 rfl).1 (by omega)
    subst hf
    clear hvb
    go_enter Try.func12, Try.ntmps12
    go_wp2
    go_ret
    exact ⟨rfl, Below.refl _ _⟩
  have gz : ¬ (G : Int) < 1 := by omega
  by_cases g2 : 12 < G
  · have gz2 : (12 : Int) < (G : Int) := by omega
    have hf : vb = false := by cases vb; rfl; exact absurd (hvb.1 rfl).2.1 (by omega)
    subst hf
    clear hvb
    go_enter Try.func12, Try.ntmps12
    go_wp2
    go_ret
    exact ⟨rfl, Below.refl _ _⟩
  have gz2 : ¬ (12 : Int) < (G : Int) := by omega
  have HV : Hid (vb = true ↔ Vld G L Z) := hvb
  clear hvb
  have hmk := run_make_row' (P := Try.prog) 32 3 (.int .i64 0) 8 Try.underlying32 info3 rfl .i64 .i64 G (by omega) (by omega)
  obtain rfl := s1 (by omega)
  go_enter Try.func12, Try.ntmps12
  go_wp2
  clear hmk
  go_loopg [23] G (fun g i wr => ∃ r : Nat, r ≤ G ∧ g = G - r ∧ i = .int .i64 r ∧ Below w.heap.size w wr ∧ w.heap.size < wr.heap.size ∧ wr.rowIs w.heap.size 3 G (fun k => .int .i64 (sumTo (fun i => Z i k) r)) ∧ ∀ i, i < r → Good G L Z i)
  case atStart => exact ⟨0, Nat.zero_le _, rfl, rfl, (Below.refl _ _).alloc (Nat.le_refl _) _, by simp, (World.rowIs_made w _ G 3).congr (fun j _ => by simp [sumTo]), fun i hi => absurd hi (Nat.not_lt_zero _)⟩
  case round =>
    obtain ⟨r, hr, rfl, rfl, hb, hsz, hrow, hgood⟩ := hrel
    by_cases hrG : r < G
    · obtain ⟨t1, t2, t3, t4, t5⟩ := r1 r hrG
      have u1 := keepc hb t1
      have hrz : (r : Int) < (G : Int) := by omega
      by_cases hL : L r = G
      · have hLz : ((L r : Int) != (G : Int)) = false := by rw [hL]; simp
        have hLr : (L r : Int) ≤ 12 := by omega
        have HL : Hid (L r = G) := hL
        have HR : Hid (∀ r, r < G → w.cell? ⟨b, o + r, none⟩ = some (.slice (A r) (L r) (C r)) ∧ L r ≤ C r ∧ C r ≤ 9223372036854775807 ∧ (0 < L r → A r = some ⟨B r, O r, none⟩) ∧ ∀ k, k < L r → w.cell? ⟨B r, O r + k, none⟩ = some (.int .i64 (Z r k))) := r1
        have hA := t4 (by omega)
        rw [hA] at u1
        have H5 := Lib.hid t5
        have HG := Lib.hid hgood
        clear r1 t4 t5 t1 hL hgood hA
        go_wp2
        go_loopg [33] (L r) (fun g i wi => ∃ c : Nat, c ≤ G ∧ g = G - c ∧ i = .int .i64 c ∧ Below w.heap.size w wi ∧ w.heap.size < wi.heap.size ∧ wi.rowIs w.heap.size 3 G (fun k => .int .i64 (part Z r c k)) ∧ ∀ k, k < c → 0 ≤ Z r k ∧ Z r k ≤ 10000)
        case atStart =>
          go_light
          exact ⟨0, Nat.zero_le _, by rw [HL.out]; rfl, rfl, hb, hsz, hrow.congr (fun j _ => by simp [part]), fun i hi => absurd hi (Nat.not_lt_zero _)⟩
        case round =>
          obtain ⟨c, hc, rfl, rfl, hbi, hszi, hrowi, hgi⟩ := hrel
          clear hb hsz hrow u1
          by_cases hcG : c < G
          · have hcL : (c : Int) < (L r : Int) := by rw [HL.out]; omega
            have x1 := keepc hbi (H5.out c (by rw [HL.out]; exact hcG))
            obtain ⟨z, hz⟩ : ∃ z, z = Z r c := ⟨_, rfl⟩
            rw [← hz] at x1
            by_cases z0 : z < 0
            · have hf : vb = false := by cases vb; rfl; exact absurd ((HV.out.1 rfl).2.2.2.1 r c hrG hcG).1 (by omega)
              subst hf
              clear HV HR hz
              go_wp2
              go_ret
              exact ⟨rfl, hbi⟩
            by_cases z1 : 10000 < z
            · have hf : vb = false := by cases vb; rfl; exact absurd ((HV.out.1 rfl).2.2.2.1 r c hrG hcG).2 (by omega)
              subst hf
              clear HV HR hz
              go_wp2
              go_ret
              exact ⟨rfl, hbi⟩
            have HZ := Lib.hid hz
            have y1 := hrowi.cell hcG
            have y2 := hrowi.frozen c
            obtain ⟨s, hs⟩ : ∃ s, s = part Z r c c := ⟨_, rfl⟩
            rw [← hs] at y1
            have hbd := part_bd (k := c) (by omega) hr HG.out hcG
            have hs0 : 0 ≤ s ∧ s ≤ 120000 := by rw [hs]; simp only [part]; simp; exact hbd
            have HS := Lib.hid hs
            clear hbd hs hz
            obtain ⟨hs1, hs2⟩ := hs0
            go_wp2
            go_roundg (G - (c + 1))
            case measure => go_light; omega
            case rel =>
              go_light
              refine ⟨c + 1, by omega, rfl, by simp, hbi.setCell (Nat.le_refl _) _, by simpa using hszi, (hrowi.set c _).congr (fun j hj => ?_), fun k hk => ?_⟩
              · by_cases e : j = c
                · subst e; rw [if_pos rfl, HS.out, HZ.out]; simp [part]
                · rw [if_neg e]
                  have e1 : (j < c) = (j < c + 1) := by apply propext; omega
                  simp only [part, e1]
              · by_cases e : k = c
                · subst e; rw [← HZ.out]; omega
                · exact hgi k (by omega)
          · have hcL : ¬ (c : Int) < (L r : Int) := by rw [HL.out]; omega
            obtain rfl : c = G := by omega
            go_wp2
            go_roundg (c - (r + 1))
            case measure => go_light; omega
            case rel =>
              go_light
              refine ⟨r + 1, by omega, rfl, by simp, hbi, hszi, hrowi.congr (fun j hj => ?_), fun i hi => ?_⟩
              · simp [part, hj, sumTo]
              · by_cases e : i = r
                · subst e; exact ⟨HL.out, hgi⟩
                · exact HG.out i (by omega)
      · have hLz : ((L r : Int) != (G : Int)) = true := by simp; omega
        have hf : vb = false := by cases vb; rfl; exact absurd ((HV.out.1 rfl).2.2.1 r hrG) hL
        subst hf
        clear HV r1 t4 t5 t1 hL hgood
        go_wp2
        go_ret
        exact ⟨rfl, hb⟩
    · obtain rfl : r = G := by omega
      have hrz : ¬ (r : Int) < (r : Int) := by omega
      clear r1
      go_wp2
      go_loopg [55] r (fun g i wi => ∃ k : Nat, k ≤ r ∧ g = r - k ∧ i = .int .i64 k ∧ wi = wr ∧ ∀ j, j < k → sumTo (fun i => Z i j) r ≤ 10000)
      case atStart =>
        go_light
        exact ⟨0, Nat.zero_le _, rfl, rfl, rfl, fun i hi => absurd hi (Nat.not_lt_zero _)⟩
      case round =>
        obtain ⟨k, hk, rfl, rfl, rfl, hle⟩ := hrel
        have HG := Lib.hid hgood
        have HE := Lib.hid hle
        clear hgood hle
        by_cases hkr : k < r
        · have hkz : (k : Int) < (r : Int) := by omega
          have y1 := hrow.cell hkr
          obtain ⟨s, hs⟩ : ∃ s, s = sumTo (fun i => Z i k) r := ⟨_, rfl⟩
          rw [← hs] at y1
          by_cases hs1 : 10000 < s
          · have hf : vb = false := by cases vb; rfl; exact absurd ((HV.out.1 rfl).2.2.2.2 k hkr) (by omega)
            subst hf
            clear HV hs
            go_wp2
            go_ret
            exact ⟨rfl, hb⟩
          · have HS := Lib.hid hs
            clear hs
            go_wp2
            go_roundg (r - (k + 1))
            case measure => go_light; omega
            case rel =>
              go_light
              refine ⟨k + 1, by omega, rfl, by simp, rfl, fun j hj => ?_⟩
              by_cases e : j = k
              · subst e; rw [← HS.out]; omega
              · exact HE.out j (by omega)
        · obtain rfl : k = r := by omega
          have hkz : ¬ (k : Int) < (k : Int) := by omega
          have hf : vb = true := HV.out.2 ⟨by omega, by omega, fun i hi => (HG.out i hi).1, fun i j hi hj => (HG.out i hi).2 j hj, HE.out⟩
          subst hf
          clear HV HG HE
          go_wp2
          go_ret
          exact ⟨rfl, hb⟩
end Go.Proofs.Ytnkdcmloehandaa
