/- The law package's few: the sizes of a matrix and of vectors. -/
import Derived.Test.YtjphfdlpcakpeaaGreatDoorMat
import Derived.Test.YtjphfdlpcakpeaaGreatDoorRatB
namespace Go.Proofs.YtjphfdlpcakpeaaGreatDoor
open Go.RowKit Tally

/-- the lengths of the rows of a slice of slices -/
def HeadsR (w : World) (v : Value) (m : Nat) (L : Nat → Nat) : Prop :=
  ∃ (a : Option Addr) (b o c : Nat), v = .slice a m c ∧ m ≤ c ∧ c ≤ 9223372036854775807 ∧ (0 < m → a = some ⟨b, o, none⟩) ∧ ∀ i, i < m → ∃ a' c', w.cell? ⟨b, o + i, none⟩ = some (.slice a' (L i) c')
theorem HeadsR.below {w w' : World} {v : Value} {m : Nat} {L : Nat → Nat} (h : HeadsR w v m L) (hb : Below w.heap.size w w') : HeadsR w' v m L := by
  obtain ⟨a, b, o, c, h1, h2, h3, h4, h5⟩ := h
  exact ⟨a, b, o, c, h1, h2, h3, h4, fun i hi => by obtain ⟨a', c', q⟩ := h5 i hi; exact ⟨a', c', keepc hb q⟩⟩

set_option maxHeartbeats 4000000 in
set_option maxRecDepth 100000 in
theorem few_any {w : World} {v u dv : Value} {m q t : Nat} {L M : Nat → Nat} (h : HeadsR w v m L) (k : HeadsR w u q M) (_ht : t ≤ 1000) (X : Bool) (hX : X = true ↔ (∀ i, i < m → L i ≤ t) ∧ (∀ i, i < q → M i ≤ t) ∧ m ≤ t) :
    Calls Tryz.prog 7 #[.agg #[v, dv], .int .i64 (t : Nat), u] w fun e w' => e = .returned (.bool X) ∧ Below w.heap.size w w' := by
  obtain ⟨a, b, o, c, rfl, h1, h2, h3, h4⟩ := h
  obtain ⟨a2, b2, o2, c2, rfl, k1, k2, k3, k4⟩ := k
  have H3 := Lib.hid h3
  have H4 := Lib.hid h4
  have K3 := Lib.hid k3
  have K4 := Lib.hid k4
  have HX := Lib.hid hX
  clear h3 h4 k3 k4 hX
  go_enter Tryz.func7, Tryz.ntmps7
  go_wp2
  obtain ⟨W1, hW, hs, hb, b0⟩ := alloc1 w (.cells #[.slice a m c, dv] 24)
  rw [← hW]
  have HB := Lib.hid hb
  have HM := Lib.hid b0
  clear hW hs hb b0
  go_loopw [7] (fun i wr => ∃ (k : Nat), wr = W1 ∧ i = .int .i64 k ∧ k ≤ m ∧ ∀ j, j < k → L j ≤ t) (fun i _ => m - (intOf i).toNat)
  case atStart => exact ⟨0, rfl, rfl, by omega, fun j hj => by omega⟩
  case round =>
    obtain ⟨k, rfl, rfl, hk, hall⟩ := hrel
    have HA := Lib.hid hall
    clear hall
    obtain ⟨e0, e1, e2, e3⟩ := res_facts HM.out
    by_cases hkm : k = m
    · obtain rfl : m = k := hkm.symm
      clear e0 e1 e2 e3
      obtain ⟨e0, e1, e2, e3⟩ := res_facts HM.out
      go_wp2
      clear e0 e1 e2 e3
      rename World => W1
      go_loopw [8] (fun i wr => ∃ (k : Nat), wr = W1 ∧ i = .int .i64 k ∧ k ≤ q ∧ ∀ j, j < k → M j ≤ t) (fun i _ => q - (intOf i).toNat)
      case atStart => exact ⟨0, rfl, rfl, by omega, fun j hj => by omega⟩
      case round =>
        obtain ⟨k, rfl, rfl, hk, hall⟩ := hrel
        have HA2 := Lib.hid hall
        clear hall
        obtain ⟨e0, e1, e2, e3⟩ := res_facts HM.out
        by_cases hkq : k = q
        · obtain rfl : q = k := hkq.symm
          by_cases hmt : m ≤ t
          · have hmi : (m : Int) ≤ (t : Int) := by omega
            obtain rfl : X = true := HX.out.2 ⟨HA.out, HA2.out, hmt⟩
            go_wp2
            go_ret
            exact ⟨by simp, HB.out⟩
          · have hmi : ¬ (m : Int) ≤ (t : Int) := by omega
            obtain rfl : X = false := by
              rcases hx : X with _ | _
              · rfl
              · exact absurd (HX.out.1 hx).2.2 hmt
            go_wp2
            go_ret
            exact ⟨by simp, HB.out⟩
        · have hkl : k < q := by omega
          have hki : (k : Int) < (q : Int) := by omega
          obtain rfl := K3.out (by omega)
          obtain ⟨a', c', q1⟩ := K4.out k hkl
          have q2 := keepc HB.out q1
          by_cases hlt : M k ≤ t
          · have hli : ¬ (t : Int) < (M k : Int) := by omega
            have HN := Lib.hid (show ∀ j, j < k + 1 → M j ≤ t from fun j hj => by
              by_cases e : j = k
              · rw [e]; exact hlt
              · exact HA2.out j (by omega))
            go_wp2
            refine ⟨⟨k + 1, trivial, by go_num, by omega, HN.out⟩, ?_⟩
            simp [intOf]; omega
          · have hli : (t : Int) < (M k : Int) := by omega
            obtain rfl : X = false := by
              rcases hx : X with _ | _
              · rfl
              · exact absurd ((HX.out.1 hx).2.1 k hkl) hlt
            go_wp2
            go_ret
            exact ⟨rfl, HB.out⟩
    · have hkl : k < m := by omega
      have hki : (k : Int) < (m : Int) := by omega
      obtain rfl := H3.out (by omega)
      obtain ⟨a', c', q1⟩ := H4.out k hkl
      have q2 := keepc HB.out q1
      by_cases hlt : L k ≤ t
      · have hli : ¬ (t : Int) < (L k : Int) := by omega
        have HN := Lib.hid (show ∀ j, j < k + 1 → L j ≤ t from fun j hj => by
          by_cases e : j = k
          · rw [e]; exact hlt
          · exact HA.out j (by omega))
        go_wp2
        refine ⟨⟨k + 1, trivial, by go_num, by omega, HN.out⟩, ?_⟩
        simp [intOf]; omega
      · have hli : (t : Int) < (L k : Int) := by omega
        obtain rfl : X = false := by
          rcases hx : X with _ | _
          · rfl
          · exact absurd ((HX.out.1 hx).1 k hkl) hlt
        go_wp2
        go_ret
        exact ⟨rfl, HB.out⟩
end Go.Proofs.YtjphfdlpcakpeaaGreatDoor
