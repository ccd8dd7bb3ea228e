/- How limbs and integers read in memory: words for the contracts of this seat. -/
import Derived.Test.YtihjaakkpnjolaaDoorChecked
import Derived.Test.YtihjaakkpnjolaaDoorPlain
import Derived.WalkKit
import Derived.WalkLawsBesides
import Derived.WalkSpells
import Derived.Lib.Hide
import Derived.Deep.QuietTactic
import Derived.BigQuiet
import Derived.Deep.OwnRows
import Derived.Deep.LoopGhost
import Derived.Deep.Light
import Derived.Outline
import Derived.Maps.AppendAt
namespace Go.Proofs.YtihjaakkpnjolaaDoor
open Go.RowKit Tally

/-- the slice value v has n elements of one cell each; element i is f i -/
def RowR (w : World) (v : Value) (n : Nat) (f : Nat → Value) : Prop :=
  ∃ (a : Option Addr) (b o c : Nat), v = .slice a n c ∧ n ≤ c ∧ c ≤ 9223372036854775807 ∧ (0 < n → a = some ⟨b, o, none⟩) ∧ ∀ i, i < n → w.cell? ⟨b, o + i, none⟩ = some (f i)

theorem RowR.below {w w' : World} {v : Value} {n : Nat} {f : Nat → Value} (h : RowR w v n f) (hb : Below w.heap.size w w') : RowR w' v n f := by
  obtain ⟨a, b, o, c, hv, h1, h2, h3, h4⟩ := h
  refine ⟨a, b, o, c, hv, h1, h2, h3, fun i hi => ?_⟩
  rw [hb.cell (p := ⟨b, o + i, none⟩) (World.block_lt_of_cell? _ _ (h4 i hi))]
  exact h4 i hi

theorem RowR.congr {w : World} {v : Value} {n : Nat} {f g : Nat → Value} (h : RowR w v n f) (e : ∀ i, i < n → f i = g i) : RowR w v n g := by
  obtain ⟨a, b, o, c, hv, h1, h2, h3, h4⟩ := h
  exact ⟨a, b, o, c, hv, h1, h2, h3, fun i hi => by rw [h4 i hi, e i hi]⟩

theorem RowR.of_rowIs {w : World} {b n : Nat} {t : TypeId} {f : Nat → Value} (h : w.rowIs b t n f) (hn : n ≤ 9223372036854775807) : RowR w (.slice (some ⟨b, 0, none⟩) n n) n f :=
  ⟨_, b, 0, n, rfl, Nat.le_refl _, hn, fun _ => rfl, fun i hi => by rw [Nat.zero_add]; exact h.cell hi⟩

/-- one call after another -/
theorem bt {a b c : World} (h : Below a.heap.size a b) (k : Below b.heap.size b c) : Below a.heap.size a c := h.trans (k.mono h.size)

/-- a cell that was there is there -/
theorem keepc {w wr : World} {b o : Nat} {v : Value} (hb : Below w.heap.size w wr) (h : w.cell? ⟨b, o, none⟩ = some v) : wr.cell? ⟨b, o, none⟩ = some v := by
  rw [hb.cell (p := ⟨b, o, none⟩) (World.block_lt_of_cell? _ _ h)]; exact h

theorem ret_int {k : IntKind} {a b : Int} (h : a = b) : Ending.returned (.int k a) = .returned (.int k b) := by rw [h]

theorem Below.drewN' {B : Nat} {a w : World} (h : Below B a w) (n : Nat) : Below B a (w.drewN n) := ⟨h.os, h.tape, h.output, h.size, h.block⟩

/-- the program's limbs -/
def LR (w : World) (v : Value) (l : List Nat) : Prop := RowR w v l.length fun i => .int .u32 (l.getD i 0 : Nat)

/-- the reference's limbs -/
def QR (w : World) (v : Value) (l : List Nat) : Prop := RowR w v l.length fun i => .int .i64 (l.getD i 0 : Nat)

/-- an integer of the program: its sign and its canonical limbs -/
def IntR (w : World) (v : Value) (z : Int) : Prop :=
  ∃ (neg : Bool) (s : Value) (l : List Nat), v = .agg #[.bool neg, s] ∧ LR w s l ∧ Canon 1000000000 l ∧ (neg = true → l ≠ []) ∧ z = if neg then -(val 1000000000 l : Int) else val 1000000000 l

/-- an integer of the reference -/
def RefR (w : World) (v : Value) (z : Int) : Prop :=
  ∃ (neg : Bool) (s : Value) (l : List Nat), v = .agg #[.bool neg, s] ∧ QR w s l ∧ Canon 10000 l ∧ (neg = true → l ≠ []) ∧ z = if neg then -(val 10000 l : Int) else val 10000 l

theorem LR.below {w w' : World} {v : Value} {l : List Nat} (h : LR w v l) (hb : Below w.heap.size w w') : LR w' v l := RowR.below h hb
theorem QR.below {w w' : World} {v : Value} {l : List Nat} (h : QR w v l) (hb : Below w.heap.size w w') : QR w' v l := RowR.below h hb

theorem IntR.below {w w' : World} {v : Value} {z : Int} (h : IntR w v z) (hb : Below w.heap.size w w') : IntR w' v z := by
  obtain ⟨neg, s, l, h1, h2, h3⟩ := h
  exact ⟨neg, s, l, h1, h2.below hb, h3⟩

theorem RefR.below {w w' : World} {v : Value} {z : Int} (h : RefR w v z) (hb : Below w.heap.size w w') : RefR w' v z := by
  obtain ⟨neg, s, l, h1, h2, h3⟩ := h
  exact ⟨neg, s, l, h1, h2.below hb, h3⟩

end Go.Proofs.YtihjaakkpnjolaaDoor
