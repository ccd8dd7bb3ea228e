/- How slices read in memory: words for the contracts of this seat, and the closed facts of the program that the walks use. -/
import Derived.Test.YtnkdcmloehandaaChecked
import Derived.WalkKit
import Derived.WalkLawsBesides
import Derived.WalkSpells
import Derived.Lib.Hide
import Derived.Deep.QuietTactic
import Derived.BigQuiet
import Derived.Deep.OwnRows
import Derived.Deep.LoopGhost
import Derived.Deep.Light
import Derived.Outline
import Derived.Maps.AppendAt
namespace Go.Proofs.Ytnkdcmloehandaa
open Go.RowKit

/-- the slice value v has n elements of one cell each; element i is f i -/
def RowR (w : World) (v : Value) (n : Nat) (f : Nat → Value) : Prop :=
  ∃ (a : Option Addr) (b o c : Nat), v = .slice a n c ∧ n ≤ c ∧ c ≤ 9223372036854775807 ∧ (0 < n → a = some ⟨b, o, none⟩) ∧ ∀ i, i < n → w.cell? ⟨b, o + i, none⟩ = some (f i)

theorem RowR.below {w w' : World} {v : Value} {n : Nat} {f : Nat → Value} (h : RowR w v n f) (hb : Below w.heap.size w w') : RowR w' v n f := by
  obtain ⟨a, b, o, c, hv, h1, h2, h3, h4⟩ := h
  refine ⟨a, b, o, c, hv, h1, h2, h3, fun i hi => ?_⟩
  rw [hb.cell (p := ⟨b, o + i, none⟩) (World.block_lt_of_cell? _ _ (h4 i hi))]
  exact h4 i hi

theorem RowR.congr {w : World} {v : Value} {n : Nat} {f g : Nat → Value} (h : RowR w v n f) (e : ∀ i, i < n → f i = g i) : RowR w v n g := by
  obtain ⟨a, b, o, c, hv, h1, h2, h3, h4⟩ := h
  exact ⟨a, b, o, c, hv, h1, h2, h3, fun i hi => by rw [h4 i hi, e i hi]⟩

/-- the slice of slices v has G rows; row r has L r numbers; number c of row r is Z r c -/
def MatR (w : World) (v : Value) (G : Nat) (L : Nat → Nat) (Z : Nat → Nat → Int) : Prop :=
  ∃ (a : Option Addr) (b o c : Nat) (A : Nat → Option Addr) (B O C : Nat → Nat), v = .slice a G c ∧ G ≤ c ∧ c ≤ 9223372036854775807 ∧ (0 < G → a = some ⟨b, o, none⟩) ∧
    ∀ r, r < G → w.cell? ⟨b, o + r, none⟩ = some (.slice (A r) (L r) (C r)) ∧ L r ≤ C r ∧ C r ≤ 9223372036854775807 ∧ (0 < L r → A r = some ⟨B r, O r, none⟩) ∧
      ∀ k, k < L r → w.cell? ⟨B r, O r + k, none⟩ = some (.int .i64 (Z r k))

theorem MatR.below {w w' : World} {v : Value} {G : Nat} {L : Nat → Nat} {Z : Nat → Nat → Int} (h : MatR w v G L Z) (hb : Below w.heap.size w w') : MatR w' v G L Z := by
  obtain ⟨a, b, o, c, A, B, O, C, hv, h1, h2, h3, h4⟩ := h
  refine ⟨a, b, o, c, A, B, O, C, hv, h1, h2, h3, fun r hr => ?_⟩
  obtain ⟨q1, q2, q3, q4, q5⟩ := h4 r hr
  refine ⟨?_, q2, q3, q4, fun k hk => ?_⟩
  · rw [hb.cell (p := ⟨b, o + r, none⟩) (World.block_lt_of_cell? _ _ q1)]; exact q1
  · rw [hb.cell (p := ⟨B r, O r + k, none⟩) (World.block_lt_of_cell? _ _ (q5 k hk))]; exact q5 k hk

/-- the one cell of a block that has just been laid, its number said otherwise -/
theorem cell_one_at (w : World) (x : Value) (t : TypeId) {k : Nat} (hk : w.heap.size = k) : ∀ j u, [x][j]? = some u → (w.alloc (.cells #[x] t)).cell? ((⟨k, 0, none⟩ : Addr).add j) = some u := by
  subst hk
  exact cell_one_new w x t

/-- one call after another -/
theorem bt {a b c : World} (h : Below a.heap.size a b) (k : Below b.heap.size b c) : Below a.heap.size a c := h.trans (k.mono h.size)

/-- a cell that was there is there -/
theorem keepc {w wr : World} {b o : Nat} {v : Value} (hb : Below w.heap.size w wr) (h : w.cell? ⟨b, o, none⟩ = some v) : wr.cell? ⟨b, o, none⟩ = some v := by
  rw [hb.cell (p := ⟨b, o, none⟩) (World.block_lt_of_cell? _ _ h)]; exact h

/-- a row of another element type is none of the appended slice's -/
theorem rowIs_grown {w w' : World} {b n base m : Nat} {t e : TypeId} {f : Nat → Value} {v : Value} {xs : List Value} (h : w.rowIs b t n f) (hown : w.ownsRow base e 1 v m xs) (hg : w.grownBy w' v.ownBlock) (hne : t ≠ e) : w'.rowIs b t n f := by
  refine h.of_block (hg.block b h.lt fun e1 => ?_)
  rcases hown.2 with ⟨rfl, _⟩ | ⟨g, cap, cur, rfl, _, hh, _⟩
  · simp [Value.ownBlock] at e1
  · simp [Value.ownBlock] at e1
    subst e1
    obtain ⟨c, hc, _⟩ := h
    rw [hh] at hc
    simp at hc
    exact hne hc.2.symm

/-- a store into a row that has just been made -/
theorem rowIs_made_set (w : World) (z u : Value) (n : Nat) (t : TypeId) (f : Nat) : (w.alloc (.cells ((madeCells #[z] n).setIfInBounds f u) t)).rowIs w.heap.size t n (fun j => if j = f then u else z) := by
  have h := World.rowIs_made w z n t
  obtain ⟨c, hc, hs, hv⟩ := h
  have hc' : c = madeCells #[z] n := by rw [heap_alloc_new] at hc; simpa using hc.symm
  subst hc'
  refine ⟨_, heap_alloc_new w _, by simpa using hs, fun i hi => ?_⟩
  rw [Array.getElem?_setIfInBounds]
  by_cases e : f = i
  · subst e; simp [hs, hi]
  · have e' : ¬ i = f := fun q => e q.symm
    simp [e, e', hv i hi]

/-- a new row reads -/
theorem RowR.of_rowIs {w : World} {b n : Nat} {t : TypeId} {f : Nat → Value} (h : w.rowIs b t n f) (hn : n ≤ 9223372036854775807) : RowR w (.slice (some ⟨b, 0, none⟩) n n) n f :=
  ⟨_, b, 0, n, rfl, Nat.le_refl _, hn, fun _ => rfl, fun i hi => by rw [Nat.zero_add]; exact h.cell hi⟩

theorem info4 : (Try.prog.info? 4).map (fun i => (i.zero, i.size, i.bytes)) = some (some (.bool false), 1, 1) := by kernel_rfl
theorem info3 : (Try.prog.info? 3).map (fun i => (i.zero, i.size, i.bytes)) = some (some (.int .i64 0), 1, 8) := by kernel_rfl
theorem info32 : (Try.prog.info? 32).map (fun i => (i.zero, i.size, i.bytes)) = some (some (.slice none 0 0), 1, 24) := by kernel_rfl
theorem info26 : (Try.prog.info? 26).map (fun i => (i.zero, i.size, i.bytes)) = some (some (.slice none 0 0), 1, 24) := by kernel_rfl
end Go.Proofs.Ytnkdcmloehandaa
