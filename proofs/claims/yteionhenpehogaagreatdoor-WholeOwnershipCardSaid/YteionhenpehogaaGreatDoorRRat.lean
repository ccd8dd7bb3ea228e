import Derived.Test.YteionhenpehogaaGreatDoorRatD
import Derived.Test.YteionhenpehogaaGreatDoorRParse
import Derived.Deep.DeepCutAuto
import Derived.Deep.RegionWith
namespace Go.Proofs.YteionhenpehogaaGreatDoor
open Go.RowKit Tally
def RRatR (w : World) (v : Value) (q : Rat) : Prop :=
 ∃ (n1 : Bool) (a1 : Option Addr) (k1 c1 : Nat) (n2 : Bool) (a2 : Option Addr) (k2 c2 : Nat) (d : Int), v = .agg #[.bool n1, .slice a1 k1 c1, .bool n2, .slice a2 k2 c2] ∧
  RefR w (.agg #[.bool n1, .slice a1 k1 c1]) q.num ∧ RefR w (.agg #[.bool n2, .slice a2 k2 c2]) d ∧ (d = q.den ∨ d = 0 ∧ q = 0)
def rGivesP (w : World) (q : Rat) (e : Ending) (w' : World) : Prop :=
 ∃ (n1 : Bool) (a1 : Option Addr) (k1 c1 : Nat) (n2 : Bool) (a2 : Option Addr) (k2 c2 : Nat), e = .returned (.agg #[.bool n1, .slice a1 k1 c1, .bool n2, .slice a2 k2 c2]) ∧
  RefR w' (.agg #[.bool n1, .slice a1 k1 c1]) q.num ∧ RefR w' (.agg #[.bool n2, .slice a2 k2 c2]) (q.den : Int) ∧ Below w.heap.size w w'
def rGivesR (w : World) (q : Rat) (e : Ending) (w' : World) : Prop :=
 ∃ (n1 : Bool) (a1 : Option Addr) (k1 c1 : Nat) (n2 : Bool) (a2 : Option Addr) (k2 c2 : Nat), e = .returned (.agg #[.bool n1, .slice a1 k1 c1, .bool n2, .slice a2 k2 c2]) ∧
  RRatR w' (.agg #[.bool n1, .slice a1 k1 c1, .bool n2, .slice a2 k2 c2]) q ∧ Below w.heap.size w w'
theorem rGivesP.plain {w w' : World} {q : Rat} {e : Ending} (h : rGivesP w q e w') : rGivesR w q e w' := by
 obtain ⟨n1, a1, k1, c1, n2, a2, k2, c2, he, h1, h2, h3⟩ := h
 exact ⟨n1, a1, k1, c1, n2, a2, k2, c2, he, ⟨n1, a1, k1, c1, n2, a2, k2, c2, _, rfl, h1, h2, .inl rfl⟩, h3⟩
theorem RRatR.mk {w : World} {n1 : Bool} {a1 : Option Addr} {k1 c1 : Nat} {n2 : Bool} {a2 : Option Addr} {k2 c2 : Nat} {q : Rat} {d : Int} (h1 : RefR w (.agg #[.bool n1, .slice a1 k1 c1]) q.num) (h2 : RefR w (.agg #[.bool n2, .slice a2 k2 c2]) d) (h3 : d = q.den ∨ d = 0 ∧ q = 0) :
  RRatR w (.agg #[.bool n1, .slice a1 k1 c1, .bool n2, .slice a2 k2 c2]) q := ⟨n1, a1, k1, c1, n2, a2, k2, c2, d, rfl, h1, h2, h3⟩
def rGivesPE (w : World) (q : Rat) (c : Int) (e : Ending) (w' : World) : Prop :=
 ∃ (n1 : Bool) (a1 : Option Addr) (k1 c1 : Nat) (n2 : Bool) (a2 : Option Addr) (k2 c2 : Nat), e = .returned (.tuple #[.agg #[.bool n1, .slice a1 k1 c1, .bool n2, .slice a2 k2 c2], .int .i64 c]) ∧
  RefR w' (.agg #[.bool n1, .slice a1 k1 c1]) q.num ∧ RefR w' (.agg #[.bool n2, .slice a2 k2 c2]) (q.den : Int) ∧ Below w.heap.size w w'
def rGivesRE (w : World) (q : Rat) (c : Int) (e : Ending) (w' : World) : Prop :=
 ∃ (n1 : Bool) (a1 : Option Addr) (k1 c1 : Nat) (n2 : Bool) (a2 : Option Addr) (k2 c2 : Nat), e = .returned (.tuple #[.agg #[.bool n1, .slice a1 k1 c1, .bool n2, .slice a2 k2 c2], .int .i64 c]) ∧
  RRatR w' (.agg #[.bool n1, .slice a1 k1 c1, .bool n2, .slice a2 k2 c2]) q ∧ Below w.heap.size w w'
theorem rGivesPE.plain {w w' : World} {q : Rat} {c : Int} {e : Ending} (h : rGivesPE w q c e w') : rGivesRE w q c e w' := by
 obtain ⟨n1, a1, k1, c1, n2, a2, k2, c2, he, h1, h2, h3⟩ := h
 exact ⟨n1, a1, k1, c1, n2, a2, k2, c2, he, RRatR.mk h1 h2 (.inl rfl), h3⟩
end Go.Proofs.YteionhenpehogaaGreatDoor
