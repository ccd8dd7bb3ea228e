import Derived.Test.YteionhenpehogaaGreatDoorLinS
import Derived.Test.YteionhenpehogaaGreatDoorLinA
import Derived.Test.YteionhenpehogaaGreatDoorRRat
namespace Go.Proofs.YteionhenpehogaaGreatDoor
open Go.RowKit Tally
theorem RefR.grown {w w' : World} {row : Option Nat} {v : Value} {z : Int} (h : RefR w v z) (hg : w.grownBy w' row) (hn : ∀ g, row = some g → NoInt w g) : RefR w' v z := by
 obtain ⟨neg, s, l, h1, ⟨a, b, o, c, h2, h3, h4, h5, h6⟩, h7⟩ := h
 exact ⟨neg, s, l, h1, ⟨a, b, o, c, h2, h3, h4, h5, fun i hil => hg.cell (h6 i hil) (fun e => hn b e.symm _ _ _ (h6 i hil))⟩, h7⟩
theorem RRatR.grown {w w' : World} {row : Option Nat} {v : Value} {q : Rat} (h : RRatR w v q) (hg : w.grownBy w' row) (hn : ∀ g, row = some g → NoInt w g) : RRatR w' v q := by
 obtain ⟨n1, a1, k1, c1, n2, a2, k2, c2, d, e, h1, h2, h3⟩ := h
 exact ⟨n1, a1, k1, c1, n2, a2, k2, c2, d, e, h1.grown hg hn, h2.grown hg hn, h3⟩
def rRatN (w : World) (x : Num) (q : Rat) : Prop := RRatR w x.val q
theorem rSliN_of_own {w : World} {base : Nat} {v : Value} {L : List Num} (h : w.ownsRow base 86 4 v L.length (flat L)) : SliN w v L := by
 rcases h.2 with ⟨rfl, h0⟩ | ⟨g, cap, cur, rfl, hb, hg, h1, h2, h3, h4⟩
 ·exact ⟨none, 0, 0, 0, by rw [h0], by omega, by decide, fun q => by omega, fun k x hk => by
   have := (List.getElem?_eq_some_iff.1 hk).1; omega⟩
 ·refine ⟨_, g, 0, cap, rfl, h1, by simpa [maxLen] using h2, fun _ => rfl, fun k x hk => ?_⟩
  have hc : ∀ j u, (flat L)[j]? = some u → w.cell? ⟨g, j, none⟩ = some u := fun j u hu => by
   have := h.cells (g := g) rfl j u hu
   have hadd : (⟨g, 0, none⟩ : Addr).add j = ⟨g, j, none⟩ := by unfold Addr.add; split <;> simp_all
   rw [hadd] at this; exact this
  obtain ⟨q0, q1, q2, q3⟩ := flat_get hk
  simp only [Nat.zero_add]
  exact ⟨hc _ _ q0, hc _ _ q1, hc _ _ q2, hc _ _ q3⟩
def rNumsR (w : World) (L : List Num) (f : Nat → Rat) : Prop := ∀ k x, L[k]? = some x → rRatN w x (f k)
theorem rNumsR.below {w w' : World} {L : List Num} {f : Nat → Rat} (h : rNumsR w L f) (hb : Below w.heap.size w w') : rNumsR w' L f := fun k x hk => RRatR.below (h k x hk) hb
theorem rNumsR.grown {w w' : World} {row : Option Nat} {L : List Num} {f : Nat → Rat} (h : rNumsR w L f) (hg : w.grownBy w' row) (hn : ∀ g, row = some g → NoInt w g) : rNumsR w' L f := fun k x hk => RRatR.grown (h k x hk) hg hn
theorem rNumsR.stay {lo hi : Nat} {w w' : World} {L : List Num} {f : Nat → Rat} (h : rNumsR w L f) (hs : Stay lo hi w w') (hn : ∀ g, lo ≤ g → g < hi → NoInt w g) : rNumsR w' L f := fun k x hk => RRatR.stay (h k x hk) hs hn
theorem rNumsR.snoc {w : World} {L : List Num} {f : Nat → Rat} {x : Num} (h : rNumsR w L f) (hx : rRatN w x (f L.length)) : rNumsR w (L ++ [x]) f := by
 intro k y hk
 by_cases e : k < L.length
 ·rw [List.getElem?_append_left e] at hk; exact h k y hk
 ·rw [List.getElem?_append_right (by omega)] at hk
  have : k - L.length < 1 := by have := (List.getElem?_eq_some_iff.1 hk).1; simpa using this
  have ek : k = L.length := by omega
  subst ek
  simp at hk
  subst hk; exact hx
theorem rNumsR.congr {w : World} {L : List Num} {f g : Nat → Rat} (h : rNumsR w L f) (e : ∀ k, k < L.length → f k = g k) : rNumsR w L g := fun k x hk => by
 rw [← e k (List.getElem?_eq_some_iff.1 hk).1]; exact h k x hk
def rRatsR (w : World) (v : Value) (n : Nat) (f : Nat → Rat) : Prop := ∃ L, L.length = n ∧ SliN w v L ∧ rNumsR w L f
theorem rRatsR.congr {w : World} {v : Value} {n : Nat} {f g : Nat → Rat} (h : rRatsR w v n f) (e : ∀ k, k < n → f k = g k) : rRatsR w v n g := by
 obtain ⟨L, h1, h2, h3⟩ := h; exact ⟨L, h1, h2, h3.congr (fun k hk => e k (by omega))⟩
theorem rRatsR.shape {w : World} {v : Value} {n : Nat} {f : Nat → Rat} (h : rRatsR w v n f) : ∃ a c, v = .slice a n c := by
 obtain ⟨L, rfl, ⟨a, b, o, c, rfl, _⟩, _⟩ := h; exact ⟨a, c, rfl⟩
theorem rRatsR.parts {w : World} {a : Option Addr} {n c : Nat} {f : Nat → Rat} (h : rRatsR w (.slice a n c) n f) :
  n ≤ c ∧ c ≤ 9223372036854775807 ∧ ∃ b o, (0 < n → a = some ⟨b, o, none⟩) ∧ ∀ k, k < n → ∃ x, Four w b (o + k * 4) x ∧ rRatN w x (f k) := by
 obtain ⟨L, rfl, ⟨a', b, o, c', hv, h2, h3, h4, h5⟩, h6⟩ := h
 cases hv
 refine ⟨h2, h3, b, o, h4, fun k hk => ?_⟩
 have hx : L[k]? = some L[k] := List.getElem?_eq_getElem hk
 exact ⟨L[k], h5 k _ hx, h6 k _ hx⟩
theorem rinfoQ : (Tryz.prog.info? 86).map (fun i => (i.zero, i.size, i.bytes)) = some (some (.agg #[.bool false, .slice none 0 0, .bool false, .slice none 0 0]), 4, 64) := by kernel_rfl
structure rBuildN (B : Nat) (w : World) (v : Value) (L : List Num) (k : Nat) (f : Nat → Rat) : Prop where
 len : L.length = k
 own : OwnV w B 86 4 v L.length (flat L)
 num : rNumsR w L f
theorem rBuildN.start (B : Nat) (w : World) (f : Nat → Rat) : rBuildN B w (.slice none 0 0) [] 0 f := ⟨rfl, OwnV.nil _ _ _ _, fun k x h => by simp at h⟩
theorem rBuildN.rats {B : Nat} {w : World} {v : Value} {L : List Num} {k : Nat} {f : Nat → Rat} (h : rBuildN B w v L k f) : ∃ a c, v = .slice a k c ∧ rRatsR w (.slice a k c) k f := by
 have hs := rSliN_of_own h.own.own
 have hl := h.len
 obtain ⟨a, b, o, c, hv, r⟩ := hs
 subst hv
 subst hl
 exact ⟨a, c, rfl, L, rfl, ⟨a, b, o, c, rfl, r⟩, h.num⟩
theorem rBuildN.below {B : Nat} {w w' : World} {v : Value} {L : List Num} {k : Nat} {f : Nat → Rat} (h : rBuildN B w v L k f) (hb : Below w.heap.size w w') : rBuildN B w' v L k f := ⟨h.len, h.own.below hb, h.num.below hb⟩
theorem rBuildN.snoc {B : Nat} {w w' : World} {v v' : Value} {L : List Num} {k : Nat} {f : Nat → Rat} {x : Num} (h : rBuildN B w v L k f) (ho : OwnV w' B 86 4 v' (L.length + 1) (flat L ++ flat [x])) (hg : w.grownBy w' v.ownBlock) (hx : rRatN w x (f k)) : rBuildN B w' v' (L ++ [x]) (k + 1) f := by
 refine ⟨by rw [List.length_append, h.len]; rfl, ?_, (h.num.grown hg h.own.free).snoc ?_⟩
 ·rw [List.length_append, flat_append]; exact ho
 ·rw [h.len]; exact RRatR.grown hx hg h.own.free
end Go.Proofs.YteionhenpehogaaGreatDoor
namespace Go.Proofs.YteionhenpehogaaGreatDoor
open Go.RowKit Tally
end Go.Proofs.YteionhenpehogaaGreatDoor
