import Derived.Test.YteionhenpehogaaGreatDoorFrameS
namespace Go.Proofs.YteionhenpehogaaGreatDoor
open Go.ChangeShapes Go.WideShapes Go.ChangeAt Go.RowKit Tally
set_option maxRecDepth 100000 in
theorem hold1_in {H : Type} {enc : TypeId × Value → H} {W : World} {base base2 : Nat} {r : Reach} {v : Value} {d : DataW H} {p : List MemPlace} (hv : Value.okWide Tryz.prog W r base 24 v) (h : DataW.Trod enc Tryz.prog W base2 (fun _ => true) true 24 v d p) :
  ∃ x y z t : Int, v = .agg #[.int .i64 x, .int .i64 y, .int .i64 z, .int .i64 t] ∧ (Lit.int .i64 x).wf = true ∧ (Lit.int .i64 y).wf = true ∧ (Lit.int .i64 z).wf = true ∧ (Lit.int .i64 t).wf = true := by
 obtain ⟨cs, rfl, hsz, _⟩ : ∃ cs, v = .agg cs ∧ cs.size = Tryz.prog.cellsOf 24 ∧ Row.okWide Tryz.prog W r base 24 cs := by
  simpa [Value.okWide, Tryz.underlying24] using hv
 obtain ⟨fuel, hf⟩ := h
 obtain ⟨x, y, z, t, hc, w0, w1, w2, w3⟩ := hold_elem hf
 have hcs : cs = #[.int .i64 x, .int .i64 y, .int .i64 z, .int .i64 t] := by
  have h1 : cs.toList = [.int .i64 x, .int .i64 y, .int .i64 z, .int .i64 t] := hc
  exact Array.toList_inj.1 h1
 exact ⟨x, y, z, t, by rw [hcs], w0, w1, w2, w3⟩
end Go.Proofs.YteionhenpehogaaGreatDoor
