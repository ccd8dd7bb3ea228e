/- The law's matrix: its rows as the program's and as the reference's numbers. -/
import Derived.Test.YteionhenpehogaaGreatDoorRMatN
import Derived.Test.YteionhenpehogaaGreatDoorLinW
import Derived.Test.YteionhenpehogaaGreatDoorLinX
namespace Go.Proofs.YteionhenpehogaaGreatDoor
open Go.RowKit Tally

/-- a slice of slices of small integers -/
def MatI (w : World) (v : Value) (m : Nat) (L : Nat → Nat) (Z : Nat → Nat → Int) : Prop :=
  ∃ (a : Option Addr) (b o c : Nat), v = .slice a m c ∧ m ≤ c ∧ c ≤ 9223372036854775807 ∧ (0 < m → a = some ⟨b, o, none⟩) ∧ ∀ i, i < m → ∃ a' c', w.cell? ⟨b, o + i, none⟩ = some (.slice a' (L i) c') ∧ RowR w (.slice a' (L i) c') (L i) fun k => .int .i16 (Z i k)
theorem MatI.below {w w' : World} {v : Value} {m : Nat} {L : Nat → Nat} {Z : Nat → Nat → Int} (h : MatI w v m L Z) (hb : Below w.heap.size w w') : MatI w' v m L Z := by
  obtain ⟨a, b, o, c, h1, h2, h3, h4, h5⟩ := h
  exact ⟨a, b, o, c, h1, h2, h3, h4, fun i hi => by obtain ⟨a', c', q, r⟩ := h5 i hi; exact ⟨a', c', keepc hb q, r.below hb⟩⟩
theorem rinfoS : (Tryz.prog.info? 76).map (fun i => (i.zero, i.size, i.bytes)) = some (some (.slice none 0 0), 1, 24) := by kernel_rfl

theorem own_apart {w : World} {b1 b2 s1 s2 n1 n2 : Nat} {e1 e2 : TypeId} {v1 v2 : Value} {x1 x2 : List Value} (h : w.ownsRow b1 e1 s1 v1 n1 x1) (k : w.ownsRow b2 e2 s2 v2 n2 x2) (hne : e1 ≠ e2) : ∀ g, v1.ownBlock = some g → v2.ownBlock ≠ some g := by
  intro g hg kg
  rcases h.2 with ⟨rfl, _⟩ | ⟨g1, _, _, rfl, _, q1, _⟩
  · simp [Value.ownBlock] at hg
  · rcases k.2 with ⟨rfl, _⟩ | ⟨g2, _, _, rfl, _, q2, _⟩
    · simp [Value.ownBlock] at kg
    · simp only [Value.ownBlock, Option.some.injEq] at hg kg
      subst hg
      subst kg
      rw [q1] at q2
      injection q2 with q2
      injection q2 with _ q3 _
      exact hne q3
theorem OwnG.side {G : Value → Prop} {w w' : World} {row : Option Nat} {base : Nat} {e : TypeId} {size : Nat} {v : Value} {n : Nat} {xs : List Value} (h : OwnG G w base e size v n xs) (hg : w.grownBy w' row) (hne : ∀ g, v.ownBlock = some g → row ≠ some g) : OwnG G w' base e size v n xs :=
  ⟨h.own.kept hg (by cases hv : v.ownBlock with
    | none => exact .inl rfl
    | some g => exact .inr (fun q => hne g hv q.symm)), fun g hv o u q => by
    have hl := (h.own.lt g hv).2
    rw [World.cell?_of_block (w := w) (a := ⟨g, o, none⟩) (hg.block g hl (fun q2 => hne g hv q2.symm))] at q
    exact h.free g hv o u q⟩
theorem BuildM.side {B b2 s2 n2 : Nat} {w w' : World} {v v2 : Value} {V : List Value} {k : Nat} {n : Nat → Nat} {A : Nat → Nat → Rat} {e2 : TypeId} {x2 : List Value} (h : BuildM B w v V k n A) (hg : w.grownBy w' v2.ownBlock) (ho : OwnG OnlySl w b2 e2 s2 v2 n2 x2) (hne : 26 ≠ e2) : BuildM B w' v V k n A :=
  ⟨h.len, h.own.side hg (own_apart h.own.own ho.own hne), fun i u hu => (h.row i u hu).grown hg ho.free⟩
theorem rBuildM.side {B b2 s2 n2 : Nat} {w w' : World} {v v2 : Value} {V : List Value} {k : Nat} {n : Nat → Nat} {A : Nat → Nat → Rat} {e2 : TypeId} {x2 : List Value} (h : rBuildM B w v V k n A) (hg : w.grownBy w' v2.ownBlock) (ho : OwnG OnlySl w b2 e2 s2 v2 n2 x2) (hne : 76 ≠ e2) : rBuildM B w' v V k n A :=
  ⟨h.len, h.own.side hg (own_apart h.own.own ho.own hne), fun i u hu => (h.row i u hu).grown hg ho.free⟩

end Go.Proofs.YteionhenpehogaaGreatDoor
