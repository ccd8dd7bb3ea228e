/- An array of three bytes that came in by value. -/
import Derived.Test.YtnkdcmloehandaaOpen
import Derived.Laws.IdiomArrays
import Derived.Lib.SmallJoins
namespace Go.Proofs.Ytnkdcmloehandaa
open Go.ChangeShapes Go.WideShapes Go.ChangeAt Go.RowKit Go.Deep

theorem cells40 : Try.prog.cellsOf 40 = 3 := by kernel_rfl
theorem cells5 : Try.prog.cellsOf 5 = 1 := by kernel_rfl

theorem arr_open {H : Type} {enc : TypeId × Value → H} {W : World} {base base2 : Nat} {r : Reach} {spare : Nat → Bool} {held : Bool} {v : Value} {d : DataW H} {p : List MemPlace} (hv : Value.okWide Try.prog W r base 40 v) (h : DataW.Trod enc Try.prog W base2 spare held 40 v d p) :
    ∃ x y z : Int, v = .agg #[.int .u8 x, .int .u8 y, .int .u8 z] ∧ (0 ≤ x ∧ 0 ≤ y ∧ 0 ≤ z ∧ x ≤ 255 ∧ y ≤ 255 ∧ z ≤ 255) := by
  obtain ⟨cs, rfl, hsz, _⟩ : ∃ cs, v = .agg cs ∧ cs.size = Try.prog.cellsOf 40 ∧ Row.okWide Try.prog W r base 40 cs := by
    simpa [Value.okWide, Try.underlying40] using hv
  rw [cells40] at hsz
  obtain ⟨c0, c1, c2, rfl⟩ := Joins.array3 hsz
  obtain ⟨fuel, hf⟩ := h
  obtain ⟨y0, y1, y2, m, _, hy0, hy1, hy2⟩ := trod_array3 Try.underlying40 cells5 hf
  obtain ⟨x0, e0, _, w0⟩ := DataW.trod_int Try.underlying5 hy0
  obtain ⟨x1, e1, _, w1⟩ := DataW.trod_int Try.underlying5 hy1
  obtain ⟨x2, e2, _, w2⟩ := DataW.trod_int Try.underlying5 hy2
  simp at e0 e1 e2
  subst e0 e1 e2
  have bd : ∀ x : Int, (Lit.int .u8 x).wf = true → 0 ≤ x ∧ x ≤ 255 := fun x hx => by simpa [Lit.wf, IntKind.min, IntKind.max, IntKind.signed, IntKind.bits] using hx
  have := bd _ w0
  have := bd _ w1
  have := bd _ w2
  exact ⟨x0, x1, x2, rfl, by omega⟩
end Go.Proofs.Ytnkdcmloehandaa
