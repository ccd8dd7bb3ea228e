import Derived.Test.YteionhenpehogaaGreatDoorMat
import Derived.Test.YteionhenpehogaaGreatDoorRatB
import Derived.Test.YteionhenpehogaaGreatDoorRMatN
import Derived.Test.YteionhenpehogaaGreatDoorLinX
namespace Go.Proofs.YteionhenpehogaaGreatDoor
open Go.RowKit Tally
end Go.Proofs.YteionhenpehogaaGreatDoor
namespace Go.Proofs.YteionhenpehogaaGreatDoor
open Go.RowKit Tally
theorem own_apart {w : World} {b1 b2 s1 s2 n1 n2 : Nat} {e1 e2 : TypeId} {v1 v2 : Value} {x1 x2 : List Value} (h : w.ownsRow b1 e1 s1 v1 n1 x1) (k : w.ownsRow b2 e2 s2 v2 n2 x2) (hne : e1 ≠ e2) : ∀ g, v1.ownBlock = some g → v2.ownBlock ≠ some g := by
 intro g hg kg
 rcases h.2 with ⟨rfl, _⟩ | ⟨g1, _, _, rfl, _, q1, _⟩
 ·simp [Value.ownBlock] at hg
 ·rcases k.2 with ⟨rfl, _⟩ | ⟨g2, _, _, rfl, _, q2, _⟩
  ·simp [Value.ownBlock] at kg
  ·simp only [Value.ownBlock, Option.some.injEq] at hg kg
   subst hg
   subst kg
   rw [q1] at q2
   injection q2 with q2
   injection q2 with _ q3 _
   exact hne q3
theorem OwnG.side {G : Value → Prop} {w w' : World} {row : Option Nat} {base : Nat} {e : TypeId} {size : Nat} {v : Value} {n : Nat} {xs : List Value} (h : OwnG G w base e size v n xs) (hg : w.grownBy w' row) (hne : ∀ g, v.ownBlock = some g → row ≠ some g) : OwnG G w' base e size v n xs :=
 ⟨h.own.kept hg (by cases hv : v.ownBlock with
  | none => exact .inl rfl
  | some g => exact .inr (fun q => hne g hv q.symm)), fun g hv o u q => by
  have hl := (h.own.lt g hv).2
  rw [World.cell?_of_block (w := w) (a := ⟨g, o, none⟩) (hg.block g hl (fun q2 => hne g hv q2.symm))] at q
  exact h.free g hv o u q⟩
end Go.Proofs.YteionhenpehogaaGreatDoor
