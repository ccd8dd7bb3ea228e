/- The arguments of this seat's laws, opened: a matrix that came in reads as MatR. -/
import Derived.Test.YtnkdcmloehandaaRows
import Derived.Test.YtnkdcmloehandaaMem
import Derived.ProofKit
import Derived.OpenShut
import Derived.ShutString
import Derived.ChangeOld
import Derived.Deep.Matrix
namespace Go.Proofs.Ytnkdcmloehandaa
open Go.ChangeShapes Go.WideShapes Go.ChangeAt Go.RowKit Go.Deep

theorem own : ownKnob Try.prog.godebug = none := by kernel_rfl
theorem laidOut : laidOutB Try.prog = true := by kernel_rfl
theorem cells32 : Try.prog.cellsOf 32 = 1 := by kernel_rfl
theorem cells3 : Try.prog.cellsOf 3 = 1 := by kernel_rfl

theorem add_plain' (b o i : Nat) : (⟨b, o, none⟩ : Addr).add i = ⟨b, o + i, none⟩ := by simp [Addr.add]

theorem addr_plain {W : World} {x : Addr} {v : Value} (h : W.cell? (x.add 0) = some v) : ∃ b o, x = ⟨b, o, none⟩ := by
  obtain ⟨b, o, s⟩ := x
  have hs : s = none := by simpa [Addr.add] using World.cell?_spot h
  subst hs
  exact ⟨b, o, rfl⟩

theorem row_open {W : World} {a : Option Addr} {n : Nat} {f : Nat → Value} (h0 : a = none → n = 0) (hcell : ∀ x, a = some x → ∀ i, i < n → W.cell? (x.add i) = some (f i)) :
    ∃ b o, (0 < n → a = some ⟨b, o, none⟩) ∧ ∀ i, i < n → W.cell? ⟨b, o + i, none⟩ = some (f i) := by
  by_cases hn : 0 < n
  · cases a with
    | none => exact absurd (h0 rfl) (by omega)
    | some x =>
      obtain ⟨b, o, rfl⟩ := addr_plain (hcell x rfl 0 hn)
      exact ⟨b, o, fun _ => rfl, fun i hi => by rw [← add_plain']; exact hcell _ rfl i hi⟩
  · exact ⟨0, 0, fun h => absurd h hn, fun i hi => by omega⟩

theorem mat_open {H : Type} {enc : TypeId × Value → H} {W : World} {base : Nat} {a : Option Addr} {len cap fuel : Nat} {x : DataW H × List MemPlace}
    (h : DataW.trod enc Try.prog W base (fun _ => true) true fuel 22 [.slice a len cap] = some x) : ∃ L Z, MatR W (.slice a len cap) len L Z := by
  rcases open_int_rows Try.underlying22 Try.underlying32 Try.underlying3 cells32 cells3 h with ⟨hcs, _⟩ | ⟨a', len', cap', A, L, C, Z, hcs, _, hl, hm, _, hrows⟩
  · simp at hcs
    obtain ⟨rfl, rfl, rfl⟩ := hcs
    exact ⟨fun _ => 0, fun _ _ => 0, none, 0, 0, 0, fun _ => none, fun _ => 0, fun _ => 0, fun _ => 0, rfl, Nat.le_refl _, by omega, fun h => absurd h (Nat.not_lt_zero _), fun r hr => absurd hr (Nat.not_lt_zero _)⟩
  · simp at hcs
    obtain ⟨rfl, rfl, rfl⟩ := hcs
    have hm' : cap ≤ 9223372036854775807 := by unfold maxLen at hm; exact hm
    have each : ∀ r, r < len → ∃ q : Nat × Nat, (0 < L r → A r = some ⟨q.1, q.2, none⟩) ∧ ∀ k, k < L r → W.cell? ⟨q.1, q.2 + k, none⟩ = some (.int .i64 ((Z r).getD k 0)) := by
      intro r hr
      obtain ⟨h1, h2, h3, h4, _, h5, h6⟩ := hrows r (by omega)
      obtain ⟨b, o, q1, q2⟩ := row_open (n := L r) (f := fun k => .int .i64 ((Z r).getD k 0)) (fun e => by have := h5 e; omega) (fun x hx i hi => (h6 x hx).2 i (by omega))
      exact ⟨(b, o), q1, q2⟩
    obtain ⟨q, hq⟩ := choose_lt each
    obtain ⟨b, o, p1, p2⟩ := row_open (W := W) (a := some a') (n := len) (f := fun r => .slice (A r) (L r) (C r)) (fun e => by cases e) (fun x hx i hi => by cases hx; exact (hrows i (by omega)).1)
    refine ⟨L, fun r k => (Z r).getD k 0, some a', b, o, cap, A, fun r => (q r).1, fun r => (q r).2, C, rfl, hl, hm', p1, fun r hr => ?_⟩
    obtain ⟨h1, h2, h3, h4, _, h5, h6⟩ := hrows r (by omega)
    exact ⟨p2 r hr, h2, (by unfold maxLen at h3; exact h3), (hq r hr).1, (hq r hr).2⟩
end Go.Proofs.Ytnkdcmloehandaa
