import Derived.Test.YteionhenpehogaaGreatDoorRMatN
import Derived.Test.YteionhenpehogaaGreatDoorRRatT
import Derived.Test.YteionhenpehogaaGreatDoorSolveZ
import Derived.Test.YteionhenpehogaaGreatDoorRatD
import Derived.Test.YteionhenpehogaaGreatDoorPlainSS
import Derived.Test.YteionhenpehogaaGreatDoorMatrixZ
namespace Go.Proofs.YteionhenpehogaaGreatDoor
open Go.RowKit Tally
def HoldIn (W : World) (v : Value) (k : Nat) (H : Hds) : Prop := (∃ a c, v = .slice a k c ∧ k ≤ 9223372036854775807) ∧ (k ≤ 30 → HoldR W v k H) ∧ Hwf H k
end Go.Proofs.YteionhenpehogaaGreatDoor
namespace Tally
open Graph.Plain (ReachF IsReach)
open Go.Proofs.YteionhenpehogaaGreatDoor (dirE dirE_pos)
end Tally
namespace Go.Proofs.YteionhenpehogaaGreatDoor
open Go.RowKit Tally
end Go.Proofs.YteionhenpehogaaGreatDoor
namespace Go.Proofs.YteionhenpehogaaGreatDoor
open Go.RowKit Tally Go.Lib
theorem MatZ.look {w : World} {am : Option Addr} {N cm : Nat} {Z : Nat → Nat → Int} (h : MatZ w (.slice am N cm) N N Z) (hN : 0 < N) :
  ∃ b o, am = some ⟨b, o, none⟩ ∧ ∀ i k, i < N → k < N → ∃ b' o' c', w.cell? ⟨b, o + i, none⟩ = some (.slice (some ⟨b', o', none⟩) N c') ∧ w.cell? ⟨b', o' + k, none⟩ = some (.int .i64 (Z i k)) := by
 obtain ⟨_, b, o, _, te, _, _, t5, t6⟩ := h
 injection te with te1 _ te2
 subst te1
 subst te2
 refine ⟨b, o, t5 hN, fun i k hi hk => ?_⟩
 obtain ⟨a', c', q, _, b', o', _, e, _, _, r5, r6⟩ := t6 i hi
 injection e with e1 _ e2
 subst e1
 obtain rfl := r5 hN
 exact ⟨b', o', c', q, r6 k hk⟩
section
variable {w : World} {v u : Value} {p q : Rat} {N : Nat}
theorem add_r (h : RatR w v p) (k : RatR w u q) (hp : Rg N p) (hq : Rg N q) (hN : 2 * N + 2 ≤ 999999999990) : Calls Tryz.prog 28 #[v, u] w (GivesR w (p + q)) := (ratadd_any h k hp hq hN).mono fun _ _ h => h.plain
theorem cmp_r (h : RatR w v p) (k : RatR w u q) (hp : Rg N p) (hq : Rg N q) (hN : 2 * N + 2 ≤ 999999999990) : Calls Tryz.prog 20 #[v, u] w (fun e w' => e = .returned (.int .i64 (cmpQ p q)) ∧ Below w.heap.size w w') := ratcmp_any h k hp hq hN
theorem of_r {n d : Int} (h1 : -9223372036854775808 ≤ n) (h2 : n ≤ 9223372036854775807) (h3 : -9223372036854775808 ≤ d) (h4 : d ≤ 9223372036854775807) (hd : d ≠ 0) : Calls Tryz.prog 26 #[.int .i64 n, .int .i64 d] w (GivesRE w (Rat.divInt n d) 0) := (ratof_any h1 h2 h3 h4 hd).mono fun _ _ h => h.plain
theorem Rg.add (hp : Rg N p) (hq : Rg N q) : Rg (2 * N + 1) (p + q) := Rg.of (by have := fw_add hp.fw hq.fw; rw [show 2 * N + 1 = N + N + 1 by omega]; exact this)
end
end Go.Proofs.YteionhenpehogaaGreatDoor
