import Derived.Test.YteionhenpehogaaGreatDoorFrameS
namespace Go.Proofs.YteionhenpehogaaGreatDoor
open Go.ChangeShapes Go.WideShapes Go.ChangeAt Go.RowKit Tally
theorem row_openB {W : World} {a : Option Addr} {n : Nat} {f : Nat → Value} (h0 : a = none → n = 0) (hcell : ∀ x, a = some x → ∀ i, i < n → W.cell? (x.add i) = some (f i)) :
  ∃ b o, (0 < n → a = some ⟨b, o, none⟩) ∧ ∀ i, i < n → W.cell? ⟨b, o + i, none⟩ = some (f i) := by
 by_cases hn : 0 < n
 ·cases a with
  | none => exact absurd (h0 rfl) (by omega)
  | some x =>
   obtain ⟨b, o, rfl⟩ := addr_plain (hcell x rfl 0 hn)
   exact ⟨b, o, fun _ => rfl, fun i hi => by rw [← add_plain]; exact hcell _ rfl i hi⟩
 ·exact ⟨0, 0, fun h => absurd h hn, fun i hi => by omega⟩
theorem cellsBool : Tryz.prog.cellsOf 4 = 1 := by kernel_rfl
set_option maxRecDepth 100000 in
theorem bools_in {H : Type} {enc : TypeId × Value → H} {W : World} {base base2 : Nat} {r : Reach} {v : Value} {d : DataW H} {p : List MemPlace} (hv : Value.okWide Tryz.prog W r base 41 v) (h : DataW.Trod enc Tryz.prog W base2 (fun _ => true) true 41 v d p) :
  ∃ (k : Nat) (f : Nat → Bool), RowR W v k fun i => .bool (f i) := by
 obtain ⟨a, len, cap, rfl⟩ := okWide_slice Tryz.underlying41 hv
 obtain ⟨fuel, hf⟩ := h
 rcases DataW.trod_slice Tryz.underlying41 hf with ⟨h1, _⟩ | ⟨a', len', cap', elems, rest, n, _, h1, _, _, hl, hm, hlen, hel, _, _⟩
 ·have h1 : [Value.slice a len cap] = [Value.slice none 0 0] := h1
  injection h1 with h1 _
  injection h1 with q1 q2 q3
  subst q1 q2 q3
  exact ⟨0, fun _ => false, none, 0, 0, 0, rfl, Nat.le_refl _, Nat.zero_le _, fun h => absurd h (Nat.not_lt_zero _), fun i hi => absurd hi (Nat.not_lt_zero _)⟩
 ·have h1 : [Value.slice a len cap] = [Value.slice (some a') len' cap'] := h1
  injection h1 with h1 _
  injection h1 with q1 q2 q3
  subst q1 q2 q3
  have each : ∀ i, ∃ q : Bool, i < len → W.cell? (a'.add i) = some (.bool q) := by
   intro i
   by_cases hi : i < len
   ·have h2 := hel i hi
    rw [List.getElem?_eq_getElem (by omega), Option.bind_eq_some_iff] at h2
    obtain ⟨cs, hcs, hy⟩ := h2
    obtain ⟨b, rfl, _⟩ := DataW.trod_bool Tryz.underlying4 hy
    rw [cellsBool] at hcs
    obtain ⟨_, _, hc⟩ := World.cells?_some hcs
    refine ⟨b, fun _ => ?_⟩
    have := hc 0 (by omega)
    rw [Nat.mul_one] at this
    rwa [show (a'.add i).add 0 = a'.add i by obtain ⟨b, o, s⟩ := a'; simp [Addr.add]] at this
   ·exact ⟨false, fun h => absurd h hi⟩
  obtain ⟨q, hq⟩ := Classical.axiomOfChoice each
  obtain ⟨b, o, p1, p2⟩ := row_openB (W := W) (a := some a') (n := len) (f := fun i => .bool (q i)) (fun e => by cases e) (fun x hx i hi => by cases hx; exact hq i hi)
  exact ⟨len, q, some a', b, o, cap, rfl, hl, (by unfold maxLen at hm; exact hm), p1, p2⟩
end Go.Proofs.YteionhenpehogaaGreatDoor
