import Derived.Test.YteionhenpehogaaGreatDoorText
import Derived.Test.YteionhenpehogaaGreatDoorRows
import Derived.ProofKit
import Derived.LaidMore
import Derived.OpenShut
import Derived.Carry
import Derived.ChangeMaps5
import Derived.Stop.Joined
import Derived.Test.YteionhenpehogaaGreatDoorAwakeZ
namespace Go.Proofs.YteionhenpehogaaGreatDoor
open Go.ChangeShapes Go.WideShapes Go.ChangeAt Go.RowKit Tally
theorem own : ownKnob Tryz.prog.godebug = none := by kernel_rfl
theorem laidOut : laidOutB Tryz.prog = true := by kernel_rfl
theorem door_met (os : Os) (args : Array Value) : laidMetH Tryz.prog Rows.shareRestRow.laid ((World.doorLaid Tryz.prog 600 os).forCall (fun _ _ => 0) ⟨#[], args, []⟩).memory :=
 laidMetH_of_parts3 (fuel := 8) (laidMet_of_run' 8 (by kernel_rfl) (by kernel_rfl)) (by kernel_rfl) (by kernel_rfl)
theorem tabType : (Tryz.prog.globals[0]?).map (·.type) = some 264 := by kernel_rfl
theorem cellsTab : Tryz.prog.cellsOf 264 = 20 := by kernel_rfl
theorem cellsU64 : Tryz.prog.cellsOf 174 = 1 := by kernel_rfl
theorem tab_of_laid {W : World} (h : laidMetH Tryz.prog Rows.shareRestRow.laid W) : Tab W := by
 rw [MakeChecks.laidMetH_plain _ _ _ (by kernel_rfl)] at h
 obtain ⟨ps, ⟨g0, t0, cs0, f0, p0, q0, hg0, ht0, hv0, hd0, ⟨g1, t1, cs1, f1, p1, q1, hg1, ht1, hv1, hd1, ⟨g2, t2, cs2, f2, p2, q2, hg2, ht2, hv2, hd2, _, _⟩, _⟩, _⟩, _, _⟩ := h
 obtain rfl := Option.some.inj (tabGlobal.symm.trans hg2)
 obtain rfl := Option.some.inj (tabType.symm.trans ht2)
 unfold Tab Lib.TabIs
 rw [hv2, ← Lib.cells_of_tab (k := .u64) (zs := Lib.pow10Tab) Tryz.underlying264 Tryz.underlying174 cellsU64 cellsTab hd2]
theorem int_bounds {n : Int} (h : (Lit.int .i64 n).wf = true) : -9223372036854775808 ≤ n ∧ n ≤ 9223372036854775807 := by
 simpa [Lit.wf, IntKind.min, IntKind.max, IntKind.signed, IntKind.bits] using h
theorem addr_plain {W : World} {x : Addr} {v : Value} (h : W.cell? (x.add 0) = some v) : ∃ b o, x = ⟨b, o, none⟩ := by
 obtain ⟨b, o, s⟩ := x
 have hs : s = none := by simpa [Addr.add] using World.cell?_spot h
 subst hs
 exact ⟨b, o, rfl⟩
theorem add_plain (b o i : Nat) : (⟨b, o, none⟩ : Addr).add i = ⟨b, o + i, none⟩ := by simp [Addr.add]
theorem cellsHold : Tryz.prog.cellsOf 24 = 4 := by kernel_rfl
theorem cellsInt : Tryz.prog.cellsOf 3 = 1 := by kernel_rfl
set_option maxRecDepth 100000 in
theorem hold_elem {H : Type} {enc : TypeId × Value → H} {W : World} {base fuel : Nat} {cs : List Value} {x : DataW H × List MemPlace}
  (h : DataW.trod enc Tryz.prog W base (fun _ => true) true fuel 24 cs = some x) :
  ∃ p e d s : Int, cs = [.int .i64 p, .int .i64 e, .int .i64 d, .int .i64 s] ∧ (Lit.int .i64 p).wf = true ∧ (Lit.int .i64 e).wf = true ∧ (Lit.int .i64 d).wf = true ∧ (Lit.int .i64 s).wf = true := by
 obtain ⟨xs, n, _, _, hl, hlen, hf⟩ := DataW.trod_struct Tryz.underlying24 h
 rw [cellsHold] at hl
 obtain ⟨c0, c1, c2, c3, rfl⟩ : ∃ c0 c1 c2 c3, cs = [c0, c1, c2, c3] := by
  match cs, hl with
  | [c0, c1, c2, c3], _ => exact ⟨c0, c1, c2, c3, rfl⟩
 obtain ⟨y0, y1, y2, y3, rfl⟩ : ∃ y0 y1 y2 y3, xs = [y0, y1, y2, y3] := by
  match xs, hlen with
  | [y0, y1, y2, y3], _ => exact ⟨y0, y1, y2, y3, rfl⟩
 have h0 := hf 0 _ rfl
 have h1 := hf 1 _ rfl
 have h2 := hf 2 _ rfl
 have h3 := hf 3 _ rfl
 simp [cellsInt] at h0 h1 h2 h3
 obtain ⟨p, q0, _, w0⟩ := DataW.trod_int Tryz.underlying3 h0
 obtain ⟨e, q1, _, w1⟩ := DataW.trod_int Tryz.underlying3 h1
 obtain ⟨d, q2, _, w2⟩ := DataW.trod_int Tryz.underlying3 h2
 obtain ⟨s, q3, _, w3⟩ := DataW.trod_int Tryz.underlying3 h3
 simp at q0 q1 q2 q3
 subst q0 q1 q2 q3
 exact ⟨p, e, d, s, rfl, w0, w1, w2, w3⟩
set_option maxRecDepth 100000 in
theorem hold_in {H : Type} {enc : TypeId × Value → H} {W : World} {base base2 : Nat} {r : Reach} {v : Value} {d : DataW H} {p : List MemPlace} (hv : Value.okWide Tryz.prog W r base 22 v) (h : DataW.Trod enc Tryz.prog W base2 (fun _ => true) true 22 v d p) :
  ∃ k G, HoldIn W v k G := by
 obtain ⟨a, len, cap, rfl⟩ := okWide_slice Tryz.underlying22 hv
 obtain ⟨fuel, hf⟩ := h
 rcases DataW.trod_slice Tryz.underlying22 hf with ⟨h1, _⟩ | ⟨a', len', cap', elems, rest, n, _, h1, _, _, hl, hm, hlen, hel, _, _⟩
 ·have h1 : [Value.slice a len cap] = [Value.slice none 0 0] := h1
  injection h1 with h1 _
  injection h1 with q1 q2 q3
  subst q1 q2 q3
  exact ⟨0, ⟨fun _ => 0, fun _ => 0, fun _ => 0, fun _ => 0⟩, ⟨_, _, rfl, by decide⟩, fun _ => ⟨none, 0, 0, 0, rfl, Nat.le_refl _, Nat.zero_le _, Nat.zero_le _, fun h => absurd h (Nat.not_lt_zero _), fun i hi => absurd hi (Nat.not_lt_zero _)⟩, fun i hi => absurd hi (Nat.not_lt_zero _)⟩
 ·have h1 : [Value.slice a len cap] = [Value.slice (some a') len' cap'] := h1
  injection h1 with h1 _
  injection h1 with q1 q2 q3
  subst q1 q2 q3
  have each : ∀ i, ∃ q : Int × Int × Int × Int, i < len → (W.cell? (a'.add (i * 4)) = some (.int .i64 q.1) ∧ W.cell? ((a'.add (i * 4)).add 1) = some (.int .i64 q.2.1) ∧ W.cell? ((a'.add (i * 4)).add 2) = some (.int .i64 q.2.2.1) ∧ W.cell? ((a'.add (i * 4)).add 3) = some (.int .i64 q.2.2.2)) ∧
    (Lit.int .i64 q.1).wf = true ∧ (Lit.int .i64 q.2.1).wf = true ∧ (Lit.int .i64 q.2.2.1).wf = true ∧ (Lit.int .i64 q.2.2.2).wf = true := by
   intro i
   by_cases hi : i < len
   ·have h2 := hel i hi
    rw [List.getElem?_eq_getElem (by omega), Option.bind_eq_some_iff] at h2
    obtain ⟨cs, hcs, hy⟩ := h2
    obtain ⟨p, e, d, s, rfl, w0, w1, w2, w3⟩ := hold_elem hy
    rw [cellsHold] at hcs
    obtain ⟨_, _, hc⟩ := World.cells?_some hcs
    refine ⟨(p, e, d, s), fun _ => ⟨⟨?_, hc 1 (by omega), hc 2 (by omega), hc 3 (by omega)⟩, w0, w1, w2, w3⟩⟩
    have := hc 0 (by omega)
    rwa [show (a'.add (i * 4)).add 0 = a'.add (i * 4) by obtain ⟨b, o, s⟩ := a'; simp [Addr.add]] at this
   ·exact ⟨(0, 0, 0, 0), fun h => absurd h hi⟩
  obtain ⟨q, hq⟩ := Classical.axiomOfChoice each
  refine ⟨len, ⟨fun i => (q i).1, fun i => (q i).2.1, fun i => (q i).2.2.2, fun i => (q i).2.2.1⟩, ⟨_, _, rfl, by unfold maxLen at hm; omega⟩, fun hk => ?_, fun i hi => ?_⟩
  ·have hm' : cap ≤ 9223372036854775807 := by unfold maxLen at hm; exact hm
   by_cases hn : 0 < len
   ·obtain ⟨b, o, rfl⟩ : ∃ b o, a' = ⟨b, o, none⟩ := by
     have h0 := (hq 0 hn).1.1
     rw [Nat.zero_mul] at h0
     exact addr_plain h0
    refine ⟨some ⟨b, o, none⟩, b, o, cap, rfl, hl, hm', by omega, fun _ => rfl, fun i hi => ?_⟩
    have h0 := (hq i hi).1
    simp only [add_plain] at h0
    exact h0
   ·exact ⟨some a', 0, 0, cap, rfl, hl, hm', by omega, fun h => absurd h hn, fun i hi => absurd hi (by omega)⟩
  ·obtain ⟨_, w0, w1, w2, w3⟩ := hq i hi
   exact ⟨w0, w1, w2, w3⟩
end Go.Proofs.YteionhenpehogaaGreatDoor
