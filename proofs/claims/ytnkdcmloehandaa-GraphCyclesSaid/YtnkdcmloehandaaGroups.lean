/- What the map of members holds. -/
import Derived.Test.YtnkdcmloehandaaRefComps
import Derived.Maps.OwnRows
import Derived.Maps.GroupsBeside
import Derived.Maps.Views
namespace Go.Proofs.Ytnkdcmloehandaa
open Go.RowKit Plain Go.Maps Go.ChangeShapes

def nums (xs : List Nat) : List Int := xs.map fun x : Nat => (x : Int)
theorem nums_ints (xs : List Nat) : (nums xs).map (Value.int .i64) = ints xs := by simp [nums, ints]
theorem nums_inj : ∀ xs ys : List Nat, nums xs = nums ys → xs = ys
  | [], [], _ => rfl
  | [], _ :: _, h => by simp [nums] at h
  | _ :: _, [], h => by simp [nums] at h
  | x :: xs, y :: ys, h => by
    simp only [nums, List.map_cons, List.cons.injEq] at h
    rw [nums_inj xs ys h.2, show x = y by omega]

theorem lits_inj {q : IntKind} : ∀ xs ys : List Int, lits (H := Unit) q xs = lits q ys → xs = ys
  | [], [], _ => rfl
  | [], _ :: _, h => by simp [lits] at h
  | _ :: _, [], h => by simp [lits] at h
  | x :: xs, y :: ys, h => by
    simp only [lits, List.map_cons, List.cons.injEq] at h
    have h1 := lits_inj (q := q) xs ys h.2
    have h2 : x = y := by have := h.1; simpa using this
    rw [h1, h2]

/-- what a list of members reads as -/
def ofL (xs : List Nat) : DataW Unit := match xs with
  | [] => .nil
  | _ :: _ => .slice (lits .i64 (nums xs)) []

theorem rep_read {w : World} {base : Nat} {v : Value} {zs : List Int} {xs : List Nat} (h : w.ownsInts base 3 .i64 v zs) (e : ofL xs = rowDatum (H := Unit) .i64 v zs) : zs = nums xs := by
  rcases h.datum (H := Unit) with ⟨h1, rfl⟩ | h1
  · rw [h1] at e
    cases xs with
    | nil => rfl
    | cons a l => simp [ofL] at e
  · rw [h1] at e
    cases xs with
    | nil => simp [ofL] at e
    | cons a l =>
      simp only [ofL, DataW.slice.injEq] at e
      exact (lits_inj _ _ e.1).symm

/-- the map holds, for every leader, its members below k -/
def Rep (G : Nat) (Z : Nat → Nat → Int) (k : Nat) (D : DataW Unit) : Prop := IsMap D ∧ ∀ l : Nat, isL G Z l = true → D.atKey (.int .i64 (l : Int)) .nil = ofL (mem G Z l k)

theorem isL_unique {n : Nat} {Z : Nat → Nat → Int} {a b : Nat} (ha : isL n Z a = true) (hb : isL n Z b = true) (h : kB n Z a b = true) : a = b := by
  rcases Nat.lt_trichotomy a b with h1 | h1 | h1
  · rw [isL_iff.1 hb a h1] at h; cases h
  · exact h1
  · have h2 := kB_symm h
    rw [isL_iff.1 ha b h1] at h2
    cases h2

theorem Rep.start (G : Nat) (Z : Nat → Nat → Int) : Rep G Z 0 (.map []) := ⟨isMap_empty, fun _ _ => rfl⟩

theorem isMap_put {D : DataW Unit} (h : IsMap D) (k : Lit) (d : DataW Unit) : IsMap (D.put k d) := by
  obtain ⟨es, rfl⟩ := h
  exact ⟨_, rfl⟩

theorem Rep.step {G : Nat} {Z : Nat → Nat → Int} {e l : Nat} {D : DataW Unit} {w : World} {base : Nat} {v : Value} (h : Rep G Z e D) (hl : isL G Z l = true) (hk : kB G Z l e = true)
    (ho : w.ownsInts base 3 .i64 v (nums (mem G Z l e) ++ [(e : Int)])) : Rep G Z (e + 1) (D.put (.int .i64 (l : Int)) (rowDatum .i64 v (nums (mem G Z l e) ++ [(e : Int)]))) := by
  refine ⟨isMap_put h.1 _ _, fun m hm => ?_⟩
  by_cases e1 : m = l
  · subst e1
    rw [atKey_put_same h.1 (by simp [WideAt.IsKeyLit]), ho.datum_pos (by simp), mem_succ_yes hk]
    have : nums (mem G Z m e ++ [e]) = nums (mem G Z m e) ++ [(e : Int)] := by simp [nums]
    rw [← this]
    cases hc : mem G Z m e ++ [e] with
    | nil => simp at hc
    | cons a r => rfl
  · rw [atKey_put_other (by intro q; injection q with q1 q2; omega), h.2 m hm]
    have : kB G Z m e = false := by
      cases hq : kB G Z m e
      · rfl
      · exact absurd (isL_unique hm hl (kB_trans hq (kB_symm hk))) e1
    rw [mem_succ_no this]

/-- what '.kept' asks of a row of another type -/
theorem groups_rowsOther {P : Program} {w : World} {k : TypeId} {base e2 b n m base2 : Nat} {q : IntKind} {e : TypeId} {D : DataW Unit} {v : Value} {xs : List Value} (h : w.ownsGroups P k base e q b n D) (ho : w.ownsRow base2 e2 1 v m xs) (hne : e ≠ e2) :
    ∀ es clock, w.heap[b]? = some (.map es clock) → ∀ x ∈ es.toList, x.val.ownBlock = none ∨ x.val.ownBlock ≠ v.ownBlock := fun es clock hb x hx => by
  obtain ⟨es', clock', hb', F, _⟩ := h
  obtain ⟨rfl, rfl⟩ : es' = es ∧ clock' = clock := by rw [hb'] at hb; simpa using hb
  obtain ⟨y, hy⟩ := F.reads x hx
  obtain ⟨z, hz, _⟩ := WideElems.rd_val hy
  obtain ⟨zs, hoi, _⟩ := rowElem_inv hz
  rcases hoi.1.2 with ⟨h1, _⟩ | ⟨g, _, _, h1, _, h2, _⟩
  · rw [h1]; exact .inl rfl
  · rw [h1]
    refine .inr fun e1 => ?_
    simp only [Value.ownBlock] at e1
    rcases ho.2 with ⟨rfl, _⟩ | ⟨g', _, _, rfl, _, h3, _⟩
    · cases e1
    · simp only [Option.some.injEq] at e1
      subst e1
      rw [h2] at h3
      simp at h3
      exact hne h3.2

end Go.Proofs.Ytnkdcmloehandaa
