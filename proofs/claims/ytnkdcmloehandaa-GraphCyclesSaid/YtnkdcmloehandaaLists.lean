/- A slice of slices of ints of the call's own. -/
import Derived.Test.YtnkdcmloehandaaPlainC
import Derived.Test.YtnkdcmloehandaaRefCyclic
import Derived.Test.YtnkdcmloehandaaOrder
import Derived.Deep.Slices
namespace Go.Proofs.Ytnkdcmloehandaa
open Go.RowKit Plain

theorem own_other {w w' : World} {base base2 m n : Nat} {t e : TypeId} {x v : Value} {xs ys : List Value} (h : w.ownsRow base t 1 x m xs) (ho : w.ownsRow base2 e 1 v n ys) (hg : w.grownBy w' v.ownBlock) (hne : t ≠ e) : w'.ownsRow base t 1 x m xs := by
  refine h.kept hg ?_
  rcases h.2 with ⟨rfl, _⟩ | ⟨g, _, _, rfl, _, h2, _⟩
  · exact .inl rfl
  · refine .inr fun e1 => ?_
    simp only [Value.ownBlock] at e1
    rcases ho.2 with ⟨rfl, _⟩ | ⟨g', _, _, rfl, _, h3, _⟩
    · cases e1
    · simp only [Option.some.injEq] at e1
      subst e1
      rw [h2] at h3
      simp at h3
      exact hne h3.2

theorem own_row {w w' : World} {base b m n : Nat} {t e : TypeId} {x : Value} {xs : List Value} {f : Nat → Value} (h : w.ownsRow base t 1 x m xs) (hr : w.rowIs b e n f) (hg : w.grownBy w' (some b)) (hne : t ≠ e) : w'.ownsRow base t 1 x m xs := by
  refine h.kept hg ?_
  rcases h.2 with ⟨rfl, _⟩ | ⟨g, _, _, rfl, _, h2, _⟩
  · exact .inl rfl
  · refine .inr fun e1 => ?_
    simp only [Value.ownBlock, Option.some.injEq] at e1
    subst e1
    obtain ⟨c, hc, _⟩ := hr
    rw [h2] at hc
    simp at hc
    exact hne hc.2

theorem own_base {w : World} {base base' m : Nat} {t : TypeId} {x : Value} {xs : List Value} (h : w.ownsRow base t 1 x m xs) (hb : base' ≤ base) : w.ownsRow base' t 1 x m xs := by
  refine ⟨h.1, ?_⟩
  rcases h.2 with hn | ⟨g, cap, cur, rfl, hg, rest⟩
  · exact .inl hn
  · exact .inr ⟨g, cap, cur, rfl, by omega, rest⟩

theorem grown_setCell (w : World) (b i : Nat) (u : Value) : w.grownBy (w.setCell ⟨b, i, none⟩ u) (some b) :=
  ⟨rfl, rfl, rfl, by simp [World.setCell], fun k _ hk => Below.heap_setCell _ _ _ _ (fun e => hk (by rw [e]))⟩

theorem grown_trans {w a b : World} {row row2 : Option Nat} (h : w.grownBy a row) (k : a.grownBy b row2) (hr : ∀ j, row2 = some j → w.heap.size ≤ j ∨ row = some j) : w.grownBy b row :=
  ⟨k.os.trans h.os, k.tape.trans h.tape, k.output.trans h.output, Nat.le_trans h.size k.size, fun j hj hne => by
    rw [k.block j (Nat.lt_of_lt_of_le hj h.size) (fun e => by rcases hr j e.symm with q | q; omega; exact hne q.symm)]
    exact h.block j hj hne⟩

theorem rowIs_setBool {w : World} {b n : Nat} {t : TypeId} {f : Nat → Bool} (h : w.rowIs b t n fun i => .bool (f i)) (i : Nat) (x : Bool) : (w.setCell ⟨b, i, none⟩ (.bool x)).rowIs b t n fun j => .bool ((fun k => if k = i then x else f k) j) :=
  (h.set i _).congr fun j _ => by by_cases e : j = i <;> simp [e]

/-- s is a slice of slices of the call's own that reads as cs; vs are its elements' values -/
structure ListsIn (wr : World) (base : Nat) (s : Value) (cs : List (List Nat)) (vs : List Value) : Prop where
  own : wr.ownsRow base 32 1 s vs.length vs
  len : vs.length = cs.length
  each : ∀ r, r < vs.length → wr.ownsRow base 3 1 (vs.getD r undef) (cs.getD r []).length (ints (cs.getD r []))

theorem ListsIn.start (w : World) (base : Nat) : ListsIn w base (.slice none 0 0) [] [] := ⟨World.ownsRow_nil _ _ _ _, rfl, fun _ hr => absurd hr (Nat.not_lt_zero _)⟩
theorem ListsIn.row {w w' : World} {base b n : Nat} {s : Value} {cs : List (List Nat)} {vs : List Value} {f : Nat → Value} (h : ListsIn w base s cs vs) (hr : w.rowIs b 4 n f) (hg : w.grownBy w' (some b)) : ListsIn w' base s cs vs :=
  ⟨own_row h.own hr hg (by decide), h.len, fun r hr2 => own_row (h.each r hr2) hr hg (by decide)⟩
theorem ListsIn.below {w w' : World} {base : Nat} {s : Value} {cs : List (List Nat)} {vs : List Value} (h : ListsIn w base s cs vs) (hb : Below w.heap.size w w') : ListsIn w' base s cs vs :=
  ⟨own_below h.own hb, h.len, fun r hr => own_below (h.each r hr) hb⟩
theorem ListsIn.push {w w' : World} {base : Nat} {s s' x : Value} {cs : List (List Nat)} {vs : List Value} {c : List Nat} {o : Obj} (h : ListsIn w base s cs vs) (hx : w.ownsRow base 3 1 x c.length (ints c))
    (hown : w'.ownsRow base 32 1 s' (vs.length + 1) (vs ++ [x])) (hg : (w.alloc o).grownBy w' s.ownBlock) : ListsIn w' base s' (cs ++ [c]) (vs ++ [x]) := by
  refine ⟨by rw [List.length_append]; exact hown, by simp [h.len], fun r hr => ?_⟩
  have hl := h.len
  simp only [List.length_append, List.length_cons, List.length_nil] at hr
  by_cases e : r < vs.length
  · have := own_other ((h.each r e).alloc o) (h.own.alloc o) hg (by decide)
    have e1 : (vs ++ [x]).getD r undef = vs.getD r undef := by simp [List.getD, List.getElem?_append_left e]
    have e2 : (cs ++ [c]).getD r [] = cs.getD r [] := by simp [List.getD, List.getElem?_append_left (show r < cs.length by omega)]
    rw [e1, e2]
    exact this
  · have er : r = vs.length := by omega
    have := own_other (hx.alloc o) (h.own.alloc o) hg (by decide)
    have e1 : (vs ++ [x]).getD r undef = x := by simp [List.getD, er]
    have e2 : (cs ++ [c]).getD r [] = c := by rw [er, hl]; simp [List.getD]
    rw [e1, e2]
    exact this

/-- it reads as a matrix -/
theorem ListsIn.mat {w : World} {base : Nat} {s : Value} {cs : List (List Nat)} {vs : List Value} (h : ListsIn w base s cs vs) : MatR w s cs.length (fun r => (cs.getD r []).length) (fun r k => (((cs.getD r []).getD k 0 : Nat) : Int)) := by
  have each : ∀ r, r < cs.length → ∃ q : Option Addr × Nat × Nat, vs.getD r undef = .slice q.1 (cs.getD r []).length q.2.2 ∧ (cs.getD r []).length ≤ q.2.2 ∧ q.2.2 ≤ 9223372036854775807 ∧ (0 < (cs.getD r []).length → q.1 = some ⟨q.2.1, 0, none⟩) ∧
      ∀ k, k < (cs.getD r []).length → w.cell? ⟨q.2.1, 0 + k, none⟩ = some (.int .i64 (((cs.getD r []).getD k 0 : Nat) : Int)) := by
    intro r hr
    have hl := h.len
    have := h.each r (by omega)
    rcases this.2 with ⟨h1, h2⟩ | ⟨g, cap, cur, h1, _, _, h4, h5, _, _⟩
    · exact ⟨(none, 0, 0), by rw [h1, h2], by omega, (by show 0 ≤ 9223372036854775807; omega), (fun q => by omega), (fun k hk => by omega)⟩
    · refine ⟨(some ⟨g, 0, none⟩, g, cap), h1, h4, (by unfold maxLen at h5; exact h5), fun _ => rfl, fun k hk => ?_⟩
      rw [h1] at this
      rw [Nat.zero_add, this.cellAt k (by omega)]
      generalize cs.getD r [] = c at hk
      simp [ints, List.getD, hk]
  obtain ⟨q, hq⟩ := Go.Deep.choose_lt each
  rcases h.own.2 with ⟨rfl, h2⟩ | ⟨g, cap, cur, rfl, _, _, h4, h5, _, _⟩
  · have hl := h.len
    have h0 : cs.length = 0 := by omega
    refine ⟨none, 0, 0, 0, fun _ => none, fun _ => 0, fun _ => 0, fun _ => 0, by rw [h0], by omega, by omega, (fun q => by omega), (fun r hr => by omega)⟩
  · have hl := h.len
    refine ⟨some ⟨g, 0, none⟩, g, 0, cap, fun r => (q r).1, fun r => (q r).2.1, fun _ => 0, fun r => (q r).2.2, by rw [hl], by omega, (by unfold maxLen at h5; exact h5), fun _ => rfl, fun r hr => ?_⟩
    obtain ⟨q1, q2, q3, q4, q5⟩ := hq r hr
    refine ⟨?_, q2, q3, q4, q5⟩
    rw [Nat.zero_add, h.own.cellAt r (by omega), ← q1]
    simp [List.getD, show r < vs.length by omega]
end Go.Proofs.Ytnkdcmloehandaa
