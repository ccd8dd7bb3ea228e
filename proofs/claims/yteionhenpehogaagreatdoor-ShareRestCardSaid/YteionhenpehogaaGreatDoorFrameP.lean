/- Pairs of numbers that came in. -/
import Derived.Test.YteionhenpehogaaGreatDoorFrameS
import Derived.Test.YteionhenpehogaaGreatDoorLawShareRest
namespace Go.Proofs.YteionhenpehogaaGreatDoor
open Go.ChangeShapes Go.WideShapes Go.ChangeAt Go.RowKit Tally

theorem cellsArr2 : Tryz.prog.cellsOf 105 = 2 := by kernel_rfl
set_option maxRecDepth 100000 in
theorem pair_elem {H : Type} {enc : TypeId × Value → H} {W : World} {base fuel : Nat} {cs : List Value} {x : DataW H × List MemPlace}
    (h : DataW.trod enc Tryz.prog W base (fun _ => true) true fuel 105 cs = some x) :
    ∃ p e : Int, cs = [.int .i64 p, .int .i64 e] ∧ (Lit.int .i64 p).wf = true ∧ (Lit.int .i64 e).wf = true := by
  obtain ⟨xs, n, _, _, hl, hlen, hf⟩ := DataW.trod_array Tryz.underlying105 h
  rw [cellsArr2] at hl
  obtain ⟨c0, c1, rfl⟩ : ∃ c0 c1, cs = [c0, c1] := by
    match cs, hl with
    | [c0, c1], _ => exact ⟨c0, c1, rfl⟩
  obtain ⟨y0, y1, rfl⟩ : ∃ y0 y1, xs = [y0, y1] := by
    match xs, hlen with
    | [y0, y1], _ => exact ⟨y0, y1, rfl⟩
  have h0 := hf 0 (by omega)
  have h1 := hf 1 (by omega)
  simp [cellsInt] at h0 h1
  obtain ⟨p, q0, _, w0⟩ := DataW.trod_int Tryz.underlying3 h0
  obtain ⟨e, q1, _, w1⟩ := DataW.trod_int Tryz.underlying3 h1
  simp at q0 q1
  subst q0 q1
  exact ⟨p, e, rfl, w0, w1⟩

set_option maxRecDepth 100000 in
theorem pairs_in {H : Type} {enc : TypeId × Value → H} {W : World} {base base2 : Nat} {r : Reach} {v : Value} {d : DataW H} {p : List MemPlace} (hv : Value.okWide Tryz.prog W r base 104 v) (h : DataW.Trod enc Tryz.prog W base2 (fun _ => true) true 104 v d p) :
    ∃ k z, PairsR W v k z := by
  obtain ⟨a, len, cap, rfl⟩ := okWide_slice Tryz.underlying104 hv
  obtain ⟨fuel, hf⟩ := h
  rcases DataW.trod_slice Tryz.underlying104 hf with ⟨h1, _⟩ | ⟨a', len', cap', elems, rest, n, _, h1, _, _, hl, hm, hlen, hel, _, _⟩
  · have h1 : [Value.slice a len cap] = [Value.slice none 0 0] := h1
    injection h1 with h1 _
    injection h1 with q1 q2 q3
    subst q1 q2 q3
    exact ⟨0, fun _ => (0, 0), none, 0, 0, 0, rfl, Nat.le_refl _, Nat.zero_le _, fun h => absurd h (Nat.not_lt_zero _), fun i hi => absurd hi (Nat.not_lt_zero _)⟩
  · have h1 : [Value.slice a len cap] = [Value.slice (some a') len' cap'] := h1
    injection h1 with h1 _
    injection h1 with q1 q2 q3
    subst q1 q2 q3
    have each : ∀ i, ∃ q : Int × Int, i < len → (W.cell? (a'.add (i * 2)) = some (.int .i64 q.1) ∧ W.cell? ((a'.add (i * 2)).add 1) = some (.int .i64 q.2)) ∧
        (Lit.int .i64 q.1).wf = true ∧ (Lit.int .i64 q.2).wf = true := by
      intro i
      by_cases hi : i < len
      · have h2 := hel i hi
        rw [List.getElem?_eq_getElem (by omega), Option.bind_eq_some_iff] at h2
        obtain ⟨cs, hcs, hy⟩ := h2
        obtain ⟨p, e, rfl, w0, w1⟩ := pair_elem hy
        rw [cellsArr2] at hcs
        obtain ⟨_, _, hc⟩ := World.cells?_some hcs
        refine ⟨(p, e), fun _ => ⟨⟨?_, hc 1 (by omega)⟩, w0, w1⟩⟩
        have := hc 0 (by omega)
        rwa [show (a'.add (i * 2)).add 0 = a'.add (i * 2) by obtain ⟨b, o, s⟩ := a'; simp [Addr.add]] at this
      · exact ⟨(0, 0), fun h => absurd h hi⟩
    obtain ⟨q, hq⟩ := Classical.axiomOfChoice each
    have hm' : cap ≤ 9223372036854775807 := by unfold maxLen at hm; exact hm
    by_cases hn : 0 < len
    · obtain ⟨b, o, rfl⟩ : ∃ b o, a' = ⟨b, o, none⟩ := by
        have h0 := (hq 0 hn).1.1
        rw [Nat.zero_mul] at h0
        exact addr_plain h0
      refine ⟨len, q, some ⟨b, o, none⟩, b, o, cap, rfl, hl, hm', fun _ => rfl, fun i hi => ?_⟩
      have h0 := hq i hi
      simp only [add_plain] at h0
      exact ⟨h0.1.1, h0.1.2, int_bounds h0.2.1, int_bounds h0.2.2⟩
    · exact ⟨len, q, some a', 0, 0, cap, rfl, hl, hm', fun h => absurd h hn, fun i hi => absurd hi (by omega)⟩
end Go.Proofs.YteionhenpehogaaGreatDoor
