/- An array of two vectors that came in by value. -/
import Derived.Test.YtjphfdlpcakpeaaDoorFrameL
namespace Go.Proofs.YtjphfdlpcakpeaaDoor
open Go.ChangeShapes Go.WideShapes Go.ChangeAt Go.RowKit Go.Deep

theorem trod_array2 {H : Type} {enc : TypeId × Value → H} {P : Program} {w : World} {base : Nat} {spare : Nat → Bool} {held : Bool} {t e : TypeId} {fuel : Nat} {c0 c1 : Value} {x : DataW H × List MemPlace} (ht : P.underlying t = some (.array 2 e)) (hce : P.cellsOf e = 1)
    (h : DataW.trod enc P w base spare held fuel t [c0, c1] = some x) :
    ∃ y0 y1 n, x = (.agg [y0.1, y1.1], y0.2 ++ y1.2) ∧ DataW.trod enc P w base spare held n e [c0] = some y0 ∧ DataW.trod enc P w base spare held n e [c1] = some y1 := by
  cases fuel with
  | zero => simp [DataW.trod] at h
  | succ n =>
    unfold DataW.trod at h
    rw [ht] at h
    have r2 : List.range 2 = [0, 1] := rfl
    simp [r2, hce] at h
    obtain ⟨_, h⟩ := h
    cases h0 : DataW.trod enc P w base spare held n e [c0] with
    | none => simp [h0] at h
    | some y0 =>
      cases h1 : DataW.trod enc P w base spare held n e [c1] with
      | none => simp [h0, h1] at h
      | some y1 =>
        simp [h0, h1] at h
        exact ⟨y0, y1, n, h.symm, h0, h1⟩
theorem cellsVec2 : Tryd.prog.cellsOf 26 = 2 := by kernel_rfl

set_option maxRecDepth 100000 in
theorem vec2_in {H : Type} {enc : TypeId × Value → H} {W : World} {base base2 : Nat} {r : Reach} {v : Value} {d : DataW H} {p : List MemPlace} (hv : Value.okWide Tryd.prog W r base 26 v) (h : DataW.Trod enc Tryd.prog W base2 (fun _ => true) true 26 v d p) :
    ∃ (x y : Value) (n m : Nat) (z q : Nat → Int), v = .agg #[x, y] ∧ RowR W x n (fun k => .int .i16 (z k)) ∧ Small n z ∧ RowR W y m (fun k => .int .i16 (q k)) ∧ Small m q := by
  obtain ⟨cs, rfl, hsz, _⟩ : ∃ cs, v = .agg cs ∧ cs.size = Tryd.prog.cellsOf 26 ∧ Row.okWide Tryd.prog W r base 26 cs := by
    simpa [Value.okWide, Tryd.underlying26] using hv
  rw [cellsVec2] at hsz
  obtain ⟨c0, c1, rfl⟩ : ∃ c0 c1, cs = #[c0, c1] := ⟨cs[0], cs[1], by
    apply Array.ext
    · simp [hsz]
    · intro i h1 h2
      have : i = 0 ∨ i = 1 := by omega
      rcases this with rfl | rfl <;> rfl⟩
  obtain ⟨fuel, hf⟩ := h
  obtain ⟨y0, y1, n, _, hy0, hy1⟩ := trod_array2 Tryd.underlying26 cellsVec hf
  obtain ⟨n0, z, h0, s0⟩ := vec_open hy0
  obtain ⟨n1, q, h1, s1⟩ := vec_open hy1
  exact ⟨c0, c1, n0, n1, z, q, rfl, h0, s0, h1, s1⟩
end Go.Proofs.YtjphfdlpcakpeaaDoor
