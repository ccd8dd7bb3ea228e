/- What the rows' condition gives: the library's table; the witness's world. -/
import Derived.Test.YtjphfdlpcakpeaaGreatDoorText
import Derived.Test.YtjphfdlpcakpeaaGreatDoorRows
import Derived.ProofKit
import Derived.LaidMore
import Derived.OpenShut
import Derived.Carry
import Derived.ChangeMaps5
import Derived.Stop.Joined
import Derived.Deep.Matrix
import Derived.Test.YtjphfdlpcakpeaaGreatDoorLawZZ
namespace Go.Proofs.YtjphfdlpcakpeaaGreatDoor
open Go.ChangeShapes Go.WideShapes Go.ChangeAt Go.RowKit Go.Deep

theorem own : ownKnob Tryz.prog.godebug = none := by kernel_rfl
theorem laidOut : laidOutB Tryz.prog = true := by kernel_rfl

theorem door_met (os : Os) (args : Array Value) : laidMetH Tryz.prog Rows.linearAppliesRow.laid ((World.doorLaid Tryz.prog 600 os).forCall (fun _ _ => 0) ⟨#[], args, []⟩).memory :=
  laidMetH_of_parts3 (fuel := 8) (laidMet_of_run' 8 (by kernel_rfl) (by kernel_rfl)) (by kernel_rfl) (by kernel_rfl)

theorem tabType : (Tryz.prog.globals[0]?).map (·.type) = some 163 := by kernel_rfl
theorem cellsTab : Tryz.prog.cellsOf 163 = 20 := by kernel_rfl
theorem cellsU64 : Tryz.prog.cellsOf 107 = 1 := by kernel_rfl

theorem tab_of_laid {W : World} (h : laidMetH Tryz.prog Rows.linearAppliesRow.laid W) : Tab W := by
  rw [MakeChecks.laidMetH_plain _ _ _ (by kernel_rfl)] at h
  obtain ⟨ps, ⟨g0, t0, cs0, f0, p0, q0, hg0, ht0, hv0, hd0, ⟨g1, t1, cs1, f1, p1, q1, hg1, ht1, hv1, hd1, ⟨g2, t2, cs2, f2, p2, q2, hg2, ht2, hv2, hd2, _, _⟩, _⟩, _⟩, _, _⟩ := h
  obtain rfl := Option.some.inj (tabGlobal.symm.trans hg2)
  obtain rfl := Option.some.inj (tabType.symm.trans ht2)
  unfold Tab Lib.TabIs
  rw [hv2, ← Lib.cells_of_tab (k := .u64) (zs := Lib.pow10Tab) Tryz.underlying163 Tryz.underlying107 cellsU64 cellsTab hd2]

theorem int_bounds {n : Int} (h : (Lit.int .i64 n).wf = true) : -9223372036854775808 ≤ n ∧ n ≤ 9223372036854775807 := by
  simpa [Lit.wf, IntKind.min, IntKind.max, IntKind.signed, IntKind.bits] using h

theorem cellsI16 : Tryz.prog.cellsOf 66 = 1 := by kernel_rfl
theorem cellsVec : Tryz.prog.cellsOf 25 = 1 := by kernel_rfl
theorem cellsMat : Tryz.prog.cellsOf 24 = 2 := by kernel_rfl
theorem cellsRows : Tryz.prog.cellsOf 22 = 1 := by kernel_rfl
theorem cellsDen : Tryz.prog.cellsOf 5 = 1 := by kernel_rfl
theorem i16_bounds {n : Int} (h : (Lit.int .i16 n).wf = true) : -32768 ≤ n ∧ n ≤ 32767 := by
  simpa [Lit.wf, IntKind.min, IntKind.max, IntKind.signed, IntKind.bits] using h
theorem u8_bounds {n : Int} (h : (Lit.int .u8 n).wf = true) : 0 ≤ n ∧ n ≤ 255 := by
  simpa [Lit.wf, IntKind.min, IntKind.max, IntKind.signed, IntKind.bits] using h
theorem addr_plain {W : World} {x : Addr} {v : Value} (h : W.cell? (x.add 0) = some v) : ∃ b o, x = ⟨b, o, none⟩ := by
  obtain ⟨b, o, s⟩ := x
  have hs : s = none := by simpa [Addr.add] using World.cell?_spot h
  subst hs
  exact ⟨b, o, rfl⟩
theorem add_plain (b o i : Nat) : (⟨b, o, none⟩ : Addr).add i = ⟨b, o + i, none⟩ := by simp [Addr.add]
theorem row_open {W : World} {a : Option Addr} {n : Nat} {f : Nat → Value} (h0 : a = none → n = 0) (hcell : ∀ x, a = some x → ∀ i, i < n → W.cell? (x.add i) = some (f i)) :
    ∃ b o, (0 < n → a = some ⟨b, o, none⟩) ∧ ∀ i, i < n → W.cell? ⟨b, o + i, none⟩ = some (f i) := by
  by_cases hn : 0 < n
  · cases a with
    | none => exact absurd (h0 rfl) (by omega)
    | some x =>
      obtain ⟨b, o, rfl⟩ := addr_plain (hcell x rfl 0 hn)
      exact ⟨b, o, fun _ => rfl, fun i hi => by rw [← add_plain]; exact hcell _ rfl i hi⟩
  · exact ⟨0, 0, fun h => absurd h hn, fun i hi => by omega⟩
set_option maxRecDepth 100000 in
theorem small_getD {zs : List Int} {n : Nat} (h : ∀ x ∈ zs, (Lit.int .i16 x).wf = true) : Small n (fun k => zs.getD k 0) := by
  intro k _
  show -32768 ≤ zs.getD k 0 ∧ zs.getD k 0 ≤ 32767
  by_cases hk : k < zs.length
  · rw [List.getD_eq_getElem?_getD, List.getElem?_eq_getElem hk]
    exact i16_bounds (h _ (List.getElem_mem hk))
  · rw [List.getD_eq_getElem?_getD, List.getElem?_eq_none (by omega)]
    decide

set_option maxRecDepth 100000 in
theorem vec_open {H : Type} {enc : TypeId × Value → H} {W : World} {base fuel : Nat} {v : Value} {x : DataW H × List MemPlace}
    (h : DataW.trod enc Tryz.prog W base (fun _ => true) true fuel 25 [v] = some x) : ∃ n z, RowR W v n (fun k => .int .i16 (z k)) ∧ Small n z := by
  rcases open_ints Tryz.underlying25 Tryz.underlying66 cellsI16 h with ⟨hcs, _⟩ | ⟨a, len, cap, zs, hcs, _, hl, hm, hz, _, hcell, hwf⟩
  · simp at hcs
    subst hcs
    exact ⟨0, fun _ => 0, ⟨none, 0, 0, 0, rfl, Nat.le_refl _, Nat.zero_le _, fun h => absurd h (Nat.not_lt_zero _), fun i hi => absurd hi (Nat.not_lt_zero _)⟩, fun k hk => absurd hk (Nat.not_lt_zero _)⟩
  · simp at hcs
    subst hcs
    simp only [if_true] at hz
    obtain ⟨b, o, p1, p2⟩ := row_open (W := W) (a := some a) (n := len) (f := fun k => .int .i16 (zs.getD k 0)) (fun e => by cases e) (fun x hx i hi => by cases hx; exact hcell i (by omega))
    exact ⟨len, fun k => zs.getD k 0, ⟨some a, b, o, cap, rfl, hl, (by unfold maxLen at hm; exact hm), p1, p2⟩, small_getD hwf⟩
set_option maxRecDepth 100000 in
theorem rows_open {H : Type} {enc : TypeId × Value → H} {W : World} {base fuel : Nat} {v : Value} {x : DataW H × List MemPlace}
    (h : DataW.trod enc Tryz.prog W base (fun _ => true) true fuel 22 [v] = some x) : ∃ m L Z, MatI W v m L Z ∧ ∀ i, i < m → Small (L i) (Z i) := by
  rcases open_int_rows Tryz.underlying22 Tryz.underlying25 Tryz.underlying66 cellsVec cellsI16 h with ⟨hcs, _⟩ | ⟨a, len, cap, A, L, C, Z, hcs, _, hl, hm, _, hrows⟩
  · simp at hcs
    subst hcs
    exact ⟨0, fun _ => 0, fun _ _ => 0, ⟨none, 0, 0, 0, rfl, Nat.le_refl _, Nat.zero_le _, fun h => absurd h (Nat.not_lt_zero _), fun i hi => absurd hi (Nat.not_lt_zero _)⟩, fun i hi => absurd hi (Nat.not_lt_zero _)⟩
  · simp at hcs
    subst hcs
    obtain ⟨b, o, p1, p2⟩ := row_open (W := W) (a := some a) (n := len) (f := fun r => .slice (A r) (L r) (C r)) (fun e => by cases e) (fun x hx i hi => by cases hx; exact (hrows i (by omega)).1)
    refine ⟨len, L, fun i k => (Z i).getD k 0, ⟨some a, b, o, cap, rfl, hl, (by unfold maxLen at hm; exact hm), p1, fun i hi => ?_⟩, fun i hi => small_getD (hrows i (by omega)).2.2.2.2.1⟩
    obtain ⟨h1, h2, h3, h4, h5, h6, h7⟩ := hrows i (by omega)
    obtain ⟨b', o', q1, q2⟩ := row_open (W := W) (a := A i) (n := L i) (f := fun k => .int .i16 ((Z i).getD k 0)) (fun e => by have := h6 e; omega) (fun x hx k hk => (h7 x hx).2 k (by omega))
    exact ⟨A i, C i, p2 i hi, ⟨A i, b', o', C i, rfl, h2, (by unfold maxLen at h3; exact h3), q1, q2⟩⟩

set_option maxRecDepth 100000 in
/-- a vector that came in -/
theorem vec_in {H : Type} {enc : TypeId × Value → H} {W : World} {base base2 : Nat} {r : Reach} {v : Value} {d : DataW H} {p : List MemPlace} (hv : Value.okWide Tryz.prog W r base 25 v) (h : DataW.Trod enc Tryz.prog W base2 (fun _ => true) true 25 v d p) :
    ∃ n z, RowR W v n (fun k => .int .i16 (z k)) ∧ Small n z := by
  obtain ⟨a, len, cap, rfl⟩ := okWide_slice Tryz.underlying25 hv
  obtain ⟨fuel, hf⟩ := h
  exact vec_open hf
set_option maxRecDepth 100000 in
/-- a matrix that came in -/
theorem mat_in {H : Type} {enc : TypeId × Value → H} {W : World} {base base2 : Nat} {r : Reach} {v : Value} {d : DataW H} {p : List MemPlace} (hv : Value.okWide Tryz.prog W r base 24 v) (h : DataW.Trod enc Tryz.prog W base2 (fun _ => true) true 24 v d p) :
    ∃ (u : Value) (D m : Nat) (L : Nat → Nat) (Z : Nat → Nat → Int), v = .agg #[u, .int .u8 (D : Nat)] ∧ D ≤ 255 ∧ MatI W u m L Z ∧ ∀ i, i < m → Small (L i) (Z i) := by
  obtain ⟨cs, rfl, hsz, _⟩ : ∃ cs, v = .agg cs ∧ cs.size = Tryz.prog.cellsOf 24 ∧ Row.okWide Tryz.prog W r base 24 cs := by
    simpa [Value.okWide, Tryz.underlying24] using hv
  rw [cellsMat] at hsz
  obtain ⟨c0, c1, rfl⟩ : ∃ c0 c1, cs = #[c0, c1] := ⟨cs[0], cs[1], by
    apply Array.ext
    · simp [hsz]
    · intro i h1 h2
      have : i = 0 ∨ i = 1 := by omega
      rcases this with rfl | rfl <;> rfl⟩
  obtain ⟨fuel, hf⟩ := h
  obtain ⟨y0, y1, n, _, _, hy0, hy1⟩ := trod_struct2 Tryz.underlying24 hf
  have hy0' : DataW.trod enc Tryz.prog W base2 (fun _ => true) true n 22 [c0] = some y0 := by simpa [Value.cells, cellsRows] using hy0
  have hy1' : DataW.trod enc Tryz.prog W base2 (fun _ => true) true n 5 [c1] = some y1 := by simpa [Value.cells, cellsDen] using hy1
  obtain ⟨x1, e1, _, w1⟩ := DataW.trod_int Tryz.underlying5 hy1'
  simp at e1
  subst e1
  obtain ⟨m, L, Z, hm, hs⟩ := rows_open hy0'
  have hb := u8_bounds w1
  exact ⟨c0, x1.toNat, m, L, Z, by rw [Int.toNat_of_nonneg hb.1], by omega, hm, hs⟩
end Go.Proofs.YtjphfdlpcakpeaaGreatDoor
