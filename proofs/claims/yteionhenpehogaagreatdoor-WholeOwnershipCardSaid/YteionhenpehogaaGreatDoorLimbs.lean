import Derived.Test.YteionhenpehogaaGreatDoorChecked
import Derived.Test.YteionhenpehogaaGreatDoorPlain
import Derived.WalkKit
import Derived.WalkLawsBesides
import Derived.WalkSpells
import Derived.Lib.Hide
import Derived.Deep.QuietTactic
import Derived.BigQuiet
import Derived.Deep.OwnRows
import Derived.Deep.LoopGhost
import Derived.Deep.Light
import Derived.Outline
import Derived.Maps.AppendAt
import Derived.Laws.CopyOwn
import Derived.Lib.SmallJoins
import Derived.Lib.Builder
import Derived.Deep.RegionHeld3
namespace Go.Proofs.YteionhenpehogaaGreatDoor
open Go.RowKit Tally
def RowR (w : World) (v : Value) (n : Nat) (f : Nat → Value) : Prop :=
 ∃ (a : Option Addr) (b o c : Nat), v = .slice a n c ∧ n ≤ c ∧ c ≤ 9223372036854775807 ∧ (0 < n → a = some ⟨b, o, none⟩) ∧ ∀ i, i < n → w.cell? ⟨b, o + i, none⟩ = some (f i)
theorem RowR.below {w w' : World} {v : Value} {n : Nat} {f : Nat → Value} (h : RowR w v n f) (hb : Below w.heap.size w w') : RowR w' v n f := by
 obtain ⟨a, b, o, c, hv, h1, h2, h3, h4⟩ := h
 refine ⟨a, b, o, c, hv, h1, h2, h3, fun i hi => ?_⟩
 rw [hb.cell (p := ⟨b, o + i, none⟩) (World.block_lt_of_cell? _ _ (h4 i hi))]
 exact h4 i hi
theorem RowR.congr {w : World} {v : Value} {n : Nat} {f g : Nat → Value} (h : RowR w v n f) (e : ∀ i, i < n → f i = g i) : RowR w v n g := by
 obtain ⟨a, b, o, c, hv, h1, h2, h3, h4⟩ := h
 exact ⟨a, b, o, c, hv, h1, h2, h3, fun i hi => by rw [h4 i hi, e i hi]⟩
theorem bt {a b c : World} (h : Below a.heap.size a b) (k : Below b.heap.size b c) : Below a.heap.size a c := h.trans (k.mono h.size)
theorem keepc {w wr : World} {b o : Nat} {v : Value} (hb : Below w.heap.size w wr) (h : w.cell? ⟨b, o, none⟩ = some v) : wr.cell? ⟨b, o, none⟩ = some v := by
 rw [hb.cell (p := ⟨b, o, none⟩) (World.block_lt_of_cell? _ _ h)]; exact h
theorem ret_int {k : IntKind} {a b : Int} (h : a = b) : Ending.returned (.int k a) = .returned (.int k b) := by rw [h]
theorem Below.drewN' {B : Nat} {a w : World} (h : Below B a w) (n : Nat) : Below B a (w.drewN n) := ⟨h.os, h.tape, h.output, h.size, h.block⟩
def LR (w : World) (v : Value) (l : List Nat) : Prop := RowR w v l.length fun i => .int .u32 (l.getD i 0 : Nat)
def QR (w : World) (v : Value) (l : List Nat) : Prop := RowR w v l.length fun i => .int .i64 (l.getD i 0 : Nat)
def IntR (w : World) (v : Value) (z : Int) : Prop :=
 ∃ (neg : Bool) (s : Value) (l : List Nat), v = .agg #[.bool neg, s] ∧ LR w s l ∧ Canon 1000000000 l ∧ (neg = true → l ≠ []) ∧ z = if neg then -(val 1000000000 l : Int) else val 1000000000 l
def RefR (w : World) (v : Value) (z : Int) : Prop :=
 ∃ (neg : Bool) (s : Value) (l : List Nat), v = .agg #[.bool neg, s] ∧ QR w s l ∧ Canon 10000 l ∧ (neg = true → l ≠ []) ∧ z = if neg then -(val 10000 l : Int) else val 10000 l
theorem LR.below {w w' : World} {v : Value} {l : List Nat} (h : LR w v l) (hb : Below w.heap.size w w') : LR w' v l := RowR.below h hb
theorem IntR.below {w w' : World} {v : Value} {z : Int} (h : IntR w v z) (hb : Below w.heap.size w w') : IntR w' v z := by
 obtain ⟨neg, s, l, h1, h2, h3⟩ := h
 exact ⟨neg, s, l, h1, h2.below hb, h3⟩
end Go.Proofs.YteionhenpehogaaGreatDoor
namespace Go.Proofs.YteionhenpehogaaGreatDoor
open Go.RowKit Tally
def numsOf (K : IntKind) (L : List Nat) : List Value := L.map fun x => .int K (x : Nat)
theorem numsOf_length (K : IntKind) (L : List Nat) : (numsOf K L).length = L.length := by simp [numsOf]
theorem numsOf_append (K : IntKind) (L M : List Nat) : numsOf K (L ++ M) = numsOf K L ++ numsOf K M := by simp [numsOf]
theorem numsOf_get {K : IntKind} {L : List Nat} {i : Nat} (h : i < L.length) : (numsOf K L)[i]? = some (.int K (L.getD i 0 : Nat)) := by
 rw [getD_eq h]; simp [numsOf, h]
theorem numsOf_one {K : IntKind} {L : List Nat} : ∀ v ∈ numsOf K L, v.oneCell' = true := by
 intro v hv; simp [numsOf] at hv; obtain ⟨x, _, rfl⟩ := hv; rfl
def Own (K : IntKind) (t : TypeId) (w : World) (g : Nat) (L : List Nat) : Prop := w.heap[g]? = some (.cells (numsOf K L).toArray t (0, 0))
section
variable {K : IntKind} {t : TypeId} {w w' : World} {g : Nat} {L : List Nat}
theorem Own.heap (h : Own K t w g L) : w.heap[g]? = some (.cells (numsOf K L).toArray t (0, 0)) := h
theorem Own.cell (h : Own K t w g L) {i : Nat} (hi : i < L.length) : w.cell? ⟨g, i, none⟩ = some (.int K (L.getD i 0 : Nat)) := by
 rw [Lib.cell_of_heap h]; simpa using numsOf_get hi
theorem Own.frozen (h : Own K t w g L) (i : Nat) : w.frozen? ⟨g, i, none⟩ = false := Lib.frozen_of_heap h i
theorem Own.lt (h : Own K t w g L) : g < w.heap.size := by
 obtain ⟨hlt, _⟩ := Array.getElem?_eq_some_iff.1 h
 exact hlt
theorem Own.set (h : Own K t w g L) (k x : Nat) : Own K t (w.setCell ⟨g, k, none⟩ (.int K (x : Nat))) g (L.set k x) := by
 have := Joins.block_setCell (i := k) h (.int K (x : Nat))
 unfold Own
 rw [this]
 simp [numsOf, List.map_set]
theorem Own.keep (h : Own K t w g L) (e : w'.heap[g]? = w.heap[g]?) : Own K t w' g L := e.trans h
theorem Own.below (h : Own K t w g L) (hb : Below w.heap.size w w') : Own K t w' g L := h.keep (hb.block g h.lt)
theorem Own.alloc (h : Own K t w g L) (o : Obj) : Own K t (w.alloc o) g L := h.keep (Lib.alloc_old w o g h.lt)
theorem Own.made (w : World) (n : Nat) : Own K t (w.alloc (.cells (madeCells #[.int K 0] n) t)) w.heap.size (List.replicate n 0) := by
 unfold Own
 rw [heap_alloc_new]
 congr 2
 apply Array.ext
 ·simp [madeCells, numsOf]
 ·intro i h1 h2
  simp [madeCells, numsOf, Nat.mod_one]
theorem Own.row (h : Own K t w g L) {n c : Nat} (hn : n ≤ L.length) (hc : n ≤ c) (hm : c ≤ 9223372036854775807) :
  RowR w (.slice (some ⟨g, 0, none⟩) n c) (L.take n).length (fun i => .int K ((L.take n).getD i 0 : Nat)) := by
 have hl : (L.take n).length = n := by rw [List.length_take]; omega
 refine ⟨some ⟨g, 0, none⟩, g, 0, c, by rw [hl], by omega, hm, fun _ => rfl, fun i hi => ?_⟩
 rw [Nat.zero_add, h.cell (by omega)]
 congr 3
 rw [getD_eq hi, getD_eq (show i < L.length by omega)]
 simp
theorem Own.all (h : Own K t w g L) {n c : Nat} (hn : n = L.length) (hc : n ≤ c) (hm : c ≤ 9223372036854775807) :
  RowR w (.slice (some ⟨g, 0, none⟩) n c) L.length (fun i => .int K (L.getD i 0 : Nat)) := by
 subst hn
 have := h.row (n := L.length) (c := c) (Nat.le_refl _) hc hm
 rwa [List.take_length] at this
theorem Own.owns (h : Own K t w g L) {n base : Nat} (hn : n ≤ L.length) (hm : L.length ≤ maxLen) (hb : base ≤ g) :
  w.ownsRow base t 1 (.slice (some ⟨g, 0, none⟩) n L.length) n (numsOf K (L.take n)) :=
 ⟨by simp [numsOf]; omega, .inr ⟨g, L.length, _, rfl, hb, h, hn, hm, by simp [numsOf], by simp [numsOf, List.map_take]⟩⟩
theorem RowR.of_owns {base : Nat} {v : Value} {n : Nat} (h : w.ownsRow base t 1 v n (numsOf K L)) :
  RowR w v L.length (fun i => .int K (L.getD i 0 : Nat)) := by
 obtain ⟨h1, h2⟩ := h
 simp [numsOf] at h1
 rcases h2 with ⟨rfl, h0⟩ | ⟨g, cap, cur, rfl, _, hh, hc, hcm, hs, ht⟩
 ·exact ⟨none, 0, 0, 0, by rw [h1, h0], by omega, by omega, fun h => by omega, fun i hi => by omega⟩
 ·refine ⟨some ⟨g, 0, none⟩, g, 0, cap, by rw [h1], by omega, by unfold maxLen at hcm; omega, fun _ => rfl, fun i hi => ?_⟩
  rw [Nat.zero_add, Lib.cell_of_heap hh]
  have e : (cur.toList.take (n * 1))[i]? = some (.int K (L.getD i 0 : Nat)) := by rw [ht]; exact numsOf_get hi
  rw [List.getElem?_take, if_pos (by omega)] at e
  simpa using e
theorem owns_snoc {base : Nat} {v : Value} {n x : Nat} (h : w.ownsRow base t 1 v n (numsOf K L ++ [.int K (x : Nat)])) : w.ownsRow base t 1 v n (numsOf K (L ++ [x])) := by
 rw [numsOf_append]; exact h
end
theorem splice_all {K : IntKind} {L M : List Nat} (h : L.length = M.length) : splice (numsOf K L) 0 (numsOf K M) = numsOf K M := by
 simp [splice, numsOf]; omega
theorem splice_some {K : IntKind} {L M : List Nat} : splice (numsOf K L) 0 (numsOf K M) = numsOf K (M ++ L.drop M.length) := by
 simp [splice, numsOf, List.map_drop]
theorem addr_at (b o j : Nat) : (⟨b, o, none⟩ : Addr).add j = ⟨b, o + j, none⟩ := by
 unfold Addr.add; split
 ·rename_i h; subst h; rfl
 ·rfl
theorem copySrc {K : IntKind} {w W : World} {p : Option Addr} {b o n : Nat} {L : List Nat} (hb : Below w.heap.size w W) (hn : L.length = n) (hs : 0 < n → p = some ⟨b, o, none⟩)
  (hr : ∀ i, i < n → w.cell? ⟨b, o + i, none⟩ = some (.int K (L.getD i 0 : Nat))) (g : Nat) :
  0 < (numsOf K L).length → some (⟨g, 0, none⟩ : Addr) = some ⟨g, 0, none⟩ ∧ ∃ ad, p = some ad ∧ ∀ j v, (numsOf K L)[j]? = some v → W.cell? (ad.add j) = some v := fun h0 => by
 rw [numsOf_length, hn] at h0
 refine ⟨rfl, ⟨b, o, none⟩, hs h0, fun j v hv => ?_⟩
 have hj : j < n := by rw [← hn, ← numsOf_length K]; exact (List.getElem?_eq_some_iff.1 hv).1
 have := keepc hb (hr j hj)
 rw [numsOf_get (by rw [hn]; exact hj)] at hv
 injection hv with hv
 rw [← hv, show (⟨b, o, none⟩ : Addr).add j = ⟨b, o + j, none⟩ from addr_at b o j]
 exact this
theorem infoU : (Tryz.prog.info? 175).map (fun i => (i.zero, i.size, i.bytes)) = some (some (.int .u32 0), 1, 4) := by kernel_rfl
theorem infoI : (Tryz.prog.info? 3).map (fun i => (i.zero, i.size, i.bytes)) = some (some (.int .i64 0), 1, 8) := by kernel_rfl
theorem sizeU : (Tryz.prog.info? 175).map (·.size) = some 1 := by kernel_rfl
def GivesL (w : World) (n : Nat) (e : Ending) (w' : World) : Prop :=
 ∃ u l, e = .returned u ∧ LR w' u l ∧ Lim 1000000000 l ∧ val 1000000000 l = n ∧ Below w.heap.size w w'
def GivesQ (w : World) (n : Nat) (e : Ending) (w' : World) : Prop :=
 ∃ u l, e = .returned u ∧ QR w' u l ∧ Lim 10000 l ∧ val 10000 l = n ∧ Below w.heap.size w w'
end Go.Proofs.YteionhenpehogaaGreatDoor
namespace Go.Proofs.YteionhenpehogaaGreatDoor
open Go.RowKit Tally
theorem take_step {l : List Nat} {k : Nat} (hk : k < l.length) (h0 : l.getD k 0 = 0) : trimZ (l.take (k + 1)) = trimZ (l.take k) := by
 have e : l[k] = 0 := by simpa [List.getD, List.getElem?_eq_getElem hk] using h0
 rw [List.take_succ_eq_append_getElem hk, e, trimZ_snoc_zero]
theorem take_stop {l : List Nat} {k : Nat} (hk : k < l.length) (h0 : l.getD k 0 ≠ 0) : trimZ (l.take (k + 1)) = l.take (k + 1) := by
 have e : l[k] ≠ 0 := by simpa [List.getD, List.getElem?_eq_getElem hk] using h0
 rw [List.take_succ_eq_append_getElem hk, trimZ_snoc _ _ e]
theorem LR.take {w : World} {a : Option Addr} {b o c : Nat} {l : List Nat} {k : Nat} (hk : k ≤ l.length) (hlc : l.length ≤ c) (hm : c ≤ 9223372036854775807)
  (hs : 0 < k → a = some ⟨b, o, none⟩) (hr : ∀ i, i < l.length → w.cell? ⟨b, o + i, none⟩ = some (.int .u32 (l.getD i 0 : Nat))) : LR w (.slice a k c) (l.take k) := by
 have hlen : (l.take k).length = k := by rw [List.length_take]; omega
 refine ⟨a, b, o, c, by rw [hlen], by omega, hm, fun h => hs (by omega), fun i hi => ?_⟩
 rw [hr i (by omega)]
 have : (l.take k).getD i 0 = l.getD i 0 := by
  simp [List.getD, show i < k by omega]
 show some (Value.int .u32 (l.getD i 0 : Nat)) = some (Value.int .u32 ((l.take k).getD i 0 : Nat))
 rw [this]
theorem LR.cut {w : World} {a : Option Addr} {n c k : Nat} {l : List Nat} (h : LR w (.slice a n c) l) (hk : k ≤ l.length) : LR w (.slice a k c) (l.take k) := by
 obtain ⟨a', b, o, c', hv, h1, h2, h3, h4⟩ := h
 injection hv with e1 e2 e3
 subst e1 e2 e3
 exact LR.take hk h1 h2 (fun h => h3 (by omega)) h4
set_option maxHeartbeats 800000 in
theorem trim_any {w : World} {v : Value} {l : List Nat} (h : LR w v l) :
  Calls Tryz.prog 155 #[v] w fun e w' => ∃ u, e = .returned u ∧ (∀ w0, LR w0 v l → LR w0 u (trimZ l)) ∧ Below w.heap.size w w' := by
 obtain ⟨a, b, o, c, rfl, hlc, hm, hs, hr⟩ := h
 have hz : trimZ l = trimZ (l.take l.length) := by rw [List.take_length]
 generalize hn : l.length = n at *
 replace hz := Lib.hid hz
 go_enter Tryz.func155, Tryz.ntmps155
 go_wp2
 go_loopw [0] (fun i wr => ∃ k : Nat, k ≤ n ∧ i = .slice a k c ∧ trimZ (l.take k) = trimZ l ∧ Below w.heap.size w wr) (fun i _ => match i with | .slice _ k _ => k | _ => 0)
 case atStart => exact ⟨n, Nat.le_refl _, rfl, Eq.symm hz, Below.refl _ _⟩
 case round =>
  obtain ⟨k, hk, rfl, ht, hb⟩ := hrel
  by_cases hk0 : k = 0
  ·subst hk0
   go_wp2
   go_ret
   refine ⟨_, rfl, fun w0 q0 => ?_, hb⟩
   rw [← ht]
   exact q0.cut (by omega)
  ·obtain ⟨k, rfl⟩ : ∃ j, k = j + 1 := ⟨k - 1, by omega⟩
   obtain rfl := hs (by omega)
   have t1 : wr.cell? ⟨b, o + k, none⟩ = some (.int .u32 (l.getD k 0 : Nat)) := by rw [hb.cell (p := ⟨b, o + k, none⟩) (World.block_lt_of_cell? _ _ (hr k (by omega)))]; exact hr k (by omega)
   have hkz : (0 : Int) < ((k + 1 : Nat) : Int) := by omega
   have hi0 : ((k + 1 : Nat) : Int) - 1 = (k : Int) := by omega
   obtain ⟨x, hx⟩ : ∃ x, l.getD k 0 = x := ⟨_, rfl⟩
   rw [hx] at t1
   have go : ∀ i, i < l.length → wr.cell? ⟨b, o + i, none⟩ = some (.int .u32 (l.getD i 0 : Nat)) := fun i hi => by
    rw [hb.cell (p := ⟨b, o + i, none⟩) (World.block_lt_of_cell? _ _ (hr i (by omega)))]; exact hr i (by omega)
   replace go := Lib.hid go
   clear hr
   by_cases h0 : x = 0
   ·subst h0
    replace t1 : wr.cell? ⟨b, o + k, none⟩ = some (.int .u32 0) := t1
    replace hx := Lib.hid hx
    go_wp2
    refine ⟨⟨k, by omega, by first | rfl | go_num, by rw [← ht, take_step (by omega) hx], hb⟩, ?_⟩
    simp
   ·have hx0 : ((x : Int) == 0) = false := by simp; omega
    replace hx := Lib.hid hx
    go_wp2
    go_ret
    refine ⟨_, rfl, fun w0 q0 => ?_, hb⟩
    rw [← ht, take_stop (by omega) (by rw [hx]; exact h0)]
    exact q0.cut (by omega)
end Go.Proofs.YteionhenpehogaaGreatDoor
namespace Go.Proofs.YteionhenpehogaaGreatDoor
open Go.RowKit Tally
theorem intR_of {w : World} {neg : Bool} {u : Value} {l : List Nat} (hl : ∀ x ∈ l, x < 1000000000) (hu : LR w u (trimZ l)) :
  IntR w (.agg #[.bool (neg && decide (0 < ((trimZ l).length : Int))), u]) (if neg then -(val 1000000000 l : Int) else val 1000000000 l) := by
 have hc := canon_trimZ 1000000000 l hl
 refine ⟨_, u, trimZ l, rfl, hu, hc, ?_, ?_⟩
 ·intro h e
  rw [e] at h
  simp at h
 ·rw [val_trimZ]
  by_cases h0 : trimZ l = []
  ·have hv : val 1000000000 l = 0 := by rw [← val_trimZ, h0]; rfl
   rw [h0, hv]
   simp
  ·have : (0 : Int) < ((trimZ l).length : Int) := by have := List.length_pos_iff.2 h0; omega
   rw [decide_eq_true this, Bool.and_true]
set_option maxHeartbeats 800000 in
theorem signed_any {w : World} {v : Value} {l : List Nat} {neg : Bool} (h : LR w v l) (hl : ∀ x ∈ l, x < 1000000000) :
  Calls Tryz.prog 117 #[.bool neg, v] w fun e w' => ∃ u, e = .returned u ∧ IntR w' u (if neg then -(val 1000000000 l : Int) else val 1000000000 l) ∧ Below w.heap.size w w' := by
 go_enter Tryz.func117, Tryz.ntmps117
 go_wp2_with fail
 refine (trim_any (h.below ?hb)).mono ?_
 case hb => exact (Below.refl _ _).alloc (Nat.le_refl _) _
 rintro e w1 ⟨u, rfl, hu, hb⟩
 replace hu := hu w h
 have hbw : Below w.heap.size w w1 := ((Below.refl _ w).alloc (Nat.le_refl _) _).trans (hb.mono (by simp))
 obtain ⟨a, b, o, c, rfl, hlc, hm, hs, hr⟩ := id hu
 replace hr := Lib.hid hr
 have hg : w1.heap[w.heap.size]? = (w.alloc (.cells #[.bool false, .slice none 0 0] 35)).heap[w.heap.size]? := hb.block _ (by simp)
 rw [heap_alloc_new] at hg
 have c0 : w1.cell? ⟨w.heap.size, 0, none⟩ = some (.bool false) := by rw [Lib.cell_of_heap hg]; rfl
 have c1 : w1.cell? ⟨w.heap.size, 1, none⟩ = some (.slice none 0 0) := by rw [Lib.cell_of_heap hg]; rfl
 have f0 : w1.frozen? ⟨w.heap.size, 0, none⟩ = false := Lib.frozen_of_heap hg 0
 have f1 : w1.frozen? ⟨w.heap.size, 1, none⟩ = false := Lib.frozen_of_heap hg 1
 have fit := intR_of (neg := neg) hl hu
 clear hu h
 generalize (trimZ l).length = n at *
 replace fit := Lib.hid fit
 have fin : ∀ x, Below w.heap.size w ((w1.setCell ⟨w.heap.size, 0, none⟩ x).setCell ⟨w.heap.size, 1, none⟩ (.slice a n c)) := fun x => (hbw.setCell (p := ⟨w.heap.size, 0, none⟩) (Nat.le_refl _) _).setCell (p := ⟨w.heap.size, 1, none⟩) (Nat.le_refl _) _
 replace fin := Lib.hid fin
 have hh : ∀ x, ((w1.setCell ⟨w.heap.size, 0, none⟩ x).setCell ⟨w.heap.size, 1, none⟩ (.slice a n c)).heap[w.heap.size]? = some (.cells #[x, .slice a n c] 35 (0, 0)) := fun x => Joins.block_setCell (Joins.block_setCell hg x) _
 replace hh := Lib.hid hh
 by_cases h0 : (0 : Int) < (n : Int)
 ·rw [decide_eq_true h0] at fit
  cases neg
  ·go_wp2
   try simp only [Exit.inBlock, Exit.then]
   refine bodyPost_ret (results_cell_row rfl _ _ w.heap.size 35 _ (0, 0) _ rfl (hh _) Tryz.underlying35 rfl (by kernel_rfl)) rfl ?_
   exact ⟨_, rfl, IntR.below fit (fin _), fin _⟩
  ·go_wp2
   try simp only [Exit.inBlock, Exit.then]
   refine bodyPost_ret (results_cell_row rfl _ _ w.heap.size 35 _ (0, 0) _ rfl (hh _) Tryz.underlying35 rfl (by kernel_rfl)) rfl ?_
   have e : decide (0 < n) = true := by simp; omega
   exact ⟨_, rfl, by rw [e]; exact IntR.below fit (fin _), fin _⟩
 ·rw [decide_eq_false h0] at fit
  cases neg
  ·go_wp2
   try simp only [Exit.inBlock, Exit.then]
   refine bodyPost_ret (results_cell_row rfl _ _ w.heap.size 35 _ (0, 0) _ rfl (hh _) Tryz.underlying35 rfl (by kernel_rfl)) rfl ?_
   exact ⟨_, rfl, IntR.below fit (fin _), fin _⟩
  ·go_wp2
   try simp only [Exit.inBlock, Exit.then]
   refine bodyPost_ret (results_cell_row rfl _ _ w.heap.size 35 _ (0, 0) _ rfl (hh _) Tryz.underlying35 rfl (by kernel_rfl)) rfl ?_
   have e : decide (0 < n) = false := by simp; omega
   exact ⟨_, rfl, by rw [e]; exact IntR.below fit (fin _), fin _⟩
end Go.Proofs.YteionhenpehogaaGreatDoor
namespace Go.Proofs.YteionhenpehogaaGreatDoor
open Go.RowKit Tally
def cmpN (x y : Nat) : Int := Int.sign ((x : Int) - (y : Int))
theorem cmpN_lt {x y : Nat} (h : x < y) : cmpN x y = -1 := Int.sign_eq_neg_one_of_neg (by omega)
theorem cmpN_gt {x y : Nat} (h : y < x) : cmpN x y = 1 := Int.sign_eq_one_of_pos (by omega)
theorem cmpN_eq {x y : Nat} (h : x = y) : cmpN x y = 0 := by unfold cmpN; rw [h, Int.sub_self]; rfl
theorem drop_all_eq {a b : List Nat} {k : Nat} (hk : k < a.length) (hl : a.length = b.length) (h : a.drop (k + 1) = b.drop (k + 1)) (e : a.getD k 0 = b.getD k 0) : a.drop k = b.drop k := by
 rw [List.drop_eq_getElem_cons hk, List.drop_eq_getElem_cons (show k < b.length by omega), h]
 have hk' : k < b.length := by omega
 rw [getD_eq hk, getD_eq hk'] at e
 rw [e]
set_option maxHeartbeats 800000 in
theorem compare_any {w : World} {va vb : Value} {a b : List Nat} (ha : LR w va a) (hb : LR w vb b) (ca : Canon 1000000000 a) (cb : Canon 1000000000 b) :
  Calls Tryz.prog 116 #[va, vb] w fun e w' => e = .returned (.int .i64 (cmpN (val 1000000000 a) (val 1000000000 b))) ∧ Below w.heap.size w w' := by
 obtain ⟨p, b1, o1, c1, rfl, l1, m1, s1, r1⟩ := ha
 obtain ⟨q, b2, o2, c2, rfl, l2, m2, s2, r2⟩ := hb
 rcases Nat.lt_trichotomy a.length b.length with h | h | h
 ·have e := cmpN_lt (Canon.lt_of_length (B := 1000000000) (by decide) ca.1 cb h)
  rw [e]
  have hz : (a.length : Int) < (b.length : Int) := by omega
  have hne : ((a.length : Int) != (b.length : Int)) = true := by simp; omega
  clear r1 r2 e
  go_enter Tryz.func116, Tryz.ntmps116
  go_wp2
  go_ret
  exact ⟨rfl, Below.refl _ _⟩
 ·have R1 := Lib.hid r1
  have R2 := Lib.hid r2
  have H := Lib.hid h
  have CA := Lib.hid ca
  have CB := Lib.hid cb
  have hne : ((a.length : Int) != (b.length : Int)) = false := by simp; omega
  obtain ⟨n, hn⟩ : ∃ n, a.length = n := ⟨_, rfl⟩
  have hn2 : b.length = n := by omega
  have HN := Lib.hid hn
  have HN2 := Lib.hid hn2
  rw [hn] at l1 s1 R1 hne ⊢
  rw [hn2] at l2 s2 R2 hne ⊢
  clear r1 r2 h ca cb hn hn2
  go_enter Tryz.func116, Tryz.ntmps116
  go_wp2
  go_loopw [5] (fun i wr => ∃ (k : Nat) (z : Int), Hid (z = (k : Int) - 1) ∧ k ≤ n ∧ i = .int .i64 z ∧ Hid (a.drop k = b.drop k) ∧ Below w.heap.size w wr) (fun i _ => (intOf i + 1).toNat)
  case atStart => exact ⟨n, _, rfl, Nat.le_refl _, rfl, Lib.hid (by rw [List.drop_of_length_le (Nat.le_of_eq HN.out), List.drop_of_length_le (Nat.le_of_eq HN2.out)]), Below.refl _ _⟩
  case round =>
   obtain ⟨k, z, hz, hk, rfl, hd, hbr⟩ := hrel
   by_cases hk0 : k = 0
   ·subst hk0
    obtain rfl : z = -1 := by have := hz.out; omega
    go_wp2
    go_ret
    have e : a = b := by have := hd.out; simpa using this
    exact ⟨ret_int (by rw [e]; exact (cmpN_eq rfl).symm), hbr⟩
   ·obtain ⟨j, rfl⟩ : ∃ j, k = j + 1 := ⟨k - 1, by omega⟩
    obtain rfl : z = (j : Int) := by have := hz.out; omega
    obtain rfl := s1 (by omega)
    obtain rfl := s2 (by omega)
    have t1 := keepc hbr (R1.out j (by omega))
    have t2 := keepc hbr (R2.out j (by omega))
    obtain ⟨x, hx⟩ : ∃ x, a.getD j 0 = x := ⟨_, rfl⟩
    obtain ⟨y, hy⟩ : ∃ y, b.getD j 0 = y := ⟨_, rfl⟩
    rw [hx] at t1
    rw [hy] at t2
    have HX := Lib.hid hx
    have HY := Lib.hid hy
    clear hx hy
    have hj0 : (0 : Int) ≤ (j : Int) := by omega
    have hj1 : (j : Int) < (n : Int) := by omega
    have HB := Lib.hid hbr
    clear hbr
    by_cases hxy : x = y
    ·have hb1 : ((x : Int) != (y : Int)) = false := by simp; omega
     go_wp2
     go_quiet (fail)
     go_wp2
     refine ⟨⟨j, _, rfl, by omega, rfl, Lib.hid ?_, Below.drewN' HB.out _⟩, ?_⟩
     ·exact drop_all_eq (by have := HN.out; omega) H.out hd.out (by rw [HX.out, HY.out, hxy])
     ·simp [intOf]
    ·have hb1 : ((x : Int) != (y : Int)) = true := by simp; omega
     have fin : ∀ l m : List Nat, Lim 1000000000 l → l.drop (j + 1) = m.drop (j + 1) → j < l.length → j < m.length → l.getD j 0 < m.getD j 0 → val 1000000000 l < val 1000000000 m := fun l m hl hdd h1 h2 h3 => by
      rw [getD_eq h1, getD_eq h2] at h3
      exact val_lt_of_place 1000000000 l m j h1 h2 hl hdd h3
     have F1 := Lib.hid (fin a b CA.out.1 hd.out (by have := HN.out; omega) (by have := HN2.out; omega))
     have F2 := Lib.hid (fin b a CB.out.1 hd.out.symm (by have := HN2.out; omega) (by have := HN.out; omega))
     clear fin
     rcases Nat.lt_or_ge x y with hlt | hlt
     ·have hlz : (x : Int) < (y : Int) := by omega
      go_wp2
      go_quiet (fail)
      go_wp2
      go_quiet (fail)
      go_wp2
      go_ret
      exact ⟨ret_int (cmpN_lt (F1.out (by rw [HX.out, HY.out]; exact hlt))).symm, Below.drewN' (Below.drewN' HB.out _) _⟩
     ·have hlz : ¬ (x : Int) < (y : Int) := by omega
      have hld : decide ((x : Int) < (y : Int)) = false := by simp; omega
      go_wp2
      go_quiet (fail)
      go_wp2
      go_quiet (fail)
      go_wp2
      go_ret
      exact ⟨ret_int (cmpN_gt (F2.out (by rw [HX.out, HY.out]; omega))).symm, Below.drewN' (Below.drewN' HB.out _) _⟩
 ·have e := cmpN_gt (Canon.lt_of_length (B := 1000000000) (by decide) cb.1 ca h)
  rw [e]
  have hz : ¬ (a.length : Int) < (b.length : Int) := by omega
  have hne : ((a.length : Int) != (b.length : Int)) = true := by simp; omega
  clear r1 r2 e
  go_enter Tryz.func116, Tryz.ntmps116
  go_wp2
  go_ret
  exact ⟨rfl, Below.refl _ _⟩
theorem sign_of {neg : Bool} {l : List Nat} {z : Int} (hc : Canon 1000000000 l) (hz : z = if neg then -(val 1000000000 l : Int) else val 1000000000 l) :
  (l.length = 0 → z.sign = 0) ∧ (l.length ≠ 0 → z.sign = if neg then -1 else 1) := by
 constructor
 ·intro h
  have : l = [] := List.length_eq_zero_iff.1 h
  subst this
  rw [hz]; cases neg <;> rfl
 ·intro h
  have hp := Canon.pos (B := 1000000000) (by decide) hc (fun e => h (by rw [e]; rfl))
  rw [hz]
  cases neg
  ·exact Int.sign_eq_one_of_pos (by simp; omega)
  ·exact Int.sign_eq_neg_one_of_neg (by simp; omega)
set_option maxHeartbeats 800000 in
theorem sign_any {w : World} {v : Value} {z : Int} (h : IntR w v z) :
  Calls Tryz.prog 71 #[v] w fun e w' => e = .returned (.int .i64 z.sign) ∧ Below w.heap.size w w' := by
 obtain ⟨neg, s, l, rfl, ⟨p, b, o, c, rfl, hlc, hm, hs, hr⟩, hc, hn, hz⟩ := h
 obtain ⟨q0, q1⟩ := sign_of hc hz
 clear hz hc hn hr hs
 generalize l.length = n at *
 have fin : ∀ (x y : Int) (w1 : World), x = y → Below w.heap.size w w1 → Ending.returned (.int .i64 x) = .returned (.int .i64 y) ∧ Below w.heap.size w w1 := fun x y w1 h1 h2 => ⟨ret_int h1, h2⟩
 have F := Lib.hid fin
 clear fin
 by_cases h0 : n = 0
 ·have Q := Lib.hid (q0 h0)
  clear q0 q1
  subst h0
  go_enter Tryz.func71, Tryz.ntmps71
  go_wp2
  go_ret
  exact ⟨ret_int Q.out.symm, (Below.refl _ _).alloc (Nat.le_refl _) _⟩
 ·have Q := Lib.hid (q1 h0)
  clear q0 q1
  have hne : ((n : Int) == 0) = false := by simp; omega
  cases neg
  all_goals
   go_enter Tryz.func71, Tryz.ntmps71
   go_wp2
   go_ret
   exact ⟨ret_int Q.out.symm, (Below.refl _ _).alloc (Nat.le_refl _) _⟩
theorem cmp_signs {x y : Int} (h : x.sign ≠ y.sign) : (x.sign < y.sign → (x - y).sign = -1) ∧ (¬ x.sign < y.sign → (x - y).sign = 1) := by
 rcases Int.lt_trichotomy x 0 with a | a | a <;> rcases Int.lt_trichotomy y 0 with b | b | b
 all_goals
  first
  | (rw [Int.sign_eq_neg_one_of_neg a] at *)
  | (rw [Int.sign_eq_one_of_pos a] at *)
  | (subst a; rw [Int.sign_zero] at *)
 all_goals
  first
  | (rw [Int.sign_eq_neg_one_of_neg b] at *)
  | (rw [Int.sign_eq_one_of_pos b] at *)
  | (subst b; rw [Int.sign_zero] at *)
 all_goals
  first
  | exact absurd rfl h
  | exact ⟨fun _ => Int.sign_eq_neg_one_of_neg (by omega), fun q => absurd (by decide) q⟩
  | exact ⟨fun q => absurd q (by decide), fun _ => Int.sign_eq_one_of_pos (by omega)⟩
theorem cmp_same {n1 n2 : Bool} {l1 l2 : List Nat} {x y : Int} (c1 : Canon 1000000000 l1) (c2 : Canon 1000000000 l2) (g1 : n1 = true → l1 ≠ []) (g2 : n2 = true → l2 ≠ [])
  (z1 : x = if n1 then -(val 1000000000 l1 : Int) else val 1000000000 l1) (z2 : y = if n2 then -(val 1000000000 l2 : Int) else val 1000000000 l2) (hs : x.sign = y.sign) :
  n1 = n2 ∧ (n1 = true → (x - y).sign = cmpN (val 1000000000 l2) (val 1000000000 l1)) ∧ (n1 = false → (x - y).sign = cmpN (val 1000000000 l1) (val 1000000000 l2)) := by
 have p1 : n1 = true → 0 < val 1000000000 l1 := fun h => Canon.pos (by decide) c1 (g1 h)
 have p2 : n2 = true → 0 < val 1000000000 l2 := fun h => Canon.pos (by decide) c2 (g2 h)
 generalize val 1000000000 l1 = a at *
 generalize val 1000000000 l2 = b at *
 unfold cmpN
 cases n1 <;> cases n2
 ·subst z1 z2; simp
 ·have := p2 rfl
  simp at z1 z2; subst z1 z2
  rw [Int.sign_eq_neg_one_of_neg (a := -(b : Int)) (by omega)] at hs
  rcases Nat.eq_zero_or_pos a with h | h
  ·subst h; simp at hs
  ·rw [Int.sign_eq_one_of_pos (by omega)] at hs; simp at hs
 ·have := p1 rfl
  simp at z1 z2; subst z1 z2
  rw [Int.sign_eq_neg_one_of_neg (a := -(a : Int)) (by omega)] at hs
  rcases Nat.eq_zero_or_pos b with h | h
  ·subst h; simp at hs
  ·rw [Int.sign_eq_one_of_pos (a := (b : Int)) (by omega)] at hs; simp at hs
 ·simp at z1 z2; subst z1 z2
  refine ⟨rfl, fun _ => ?_, fun h => by simp at h⟩
  congr 1
  omega
set_option maxHeartbeats 1000000 in
theorem cmp_any {w : World} {v u : Value} {x y : Int} (h : IntR w v x) (k : IntR w u y) :
  Calls Tryz.prog 73 #[v, u] w fun e w' => e = .returned (.int .i64 (x - y).sign) ∧ Below w.heap.size w w' := by
 have h' := h
 have k' := k
 obtain ⟨n1, s1, l1, rfl, lr1, c1, g1, z1⟩ := h'
 obtain ⟨n2, s2, l2, rfl, lr2, c2, g2, z2⟩ := k'
 have H := Lib.hid h
 have K := Lib.hid k
 have Z1 := Lib.hid z1
 have Z2 := Lib.hid z2
 have G1 := Lib.hid g1
 have G2 := Lib.hid g2
 clear h k z1 z2 g1 g2
 have HB0 : Below w.heap.size w ((w.alloc (.cells #[.bool n1, s1] 35)).alloc (.cells #[.bool n2, s2] 35)) := ((Below.refl _ _).alloc (Nat.le_refl _) _).alloc (by simp) _
 have q1 : ((w.alloc (.cells #[.bool n1, s1] 35)).alloc (.cells #[.bool n2, s2] 35)).cell? ⟨w.heap.size, 0, none⟩ = some (.bool n1) := by go_simp
 have q2 : ((w.alloc (.cells #[.bool n1, s1] 35)).alloc (.cells #[.bool n2, s2] 35)).cell? ⟨w.heap.size, 1, none⟩ = some s1 := by go_simp
 have q3 : ((w.alloc (.cells #[.bool n1, s1] 35)).alloc (.cells #[.bool n2, s2] 35)).cell? ⟨w.heap.size + 1, 0, none⟩ = some (.bool n2) := by go_simp
 have q4 : ((w.alloc (.cells #[.bool n1, s1] 35)).alloc (.cells #[.bool n2, s2] 35)).cell? ⟨w.heap.size + 1, 1, none⟩ = some s2 := by go_simp
 have HQ := Lib.hid HB0
 have Q := Lib.hid (And.intro q1 (And.intro q2 (And.intro q3 q4)))
 clear HB0 q1 q2 q3 q4
 go_enter Tryz.func73, Tryz.ntmps73
 go_wp2_with fail
 revert HQ Q
 generalize ((w.alloc (.cells #[.bool n1, s1] 35)).alloc (.cells #[.bool n2, s2] 35)) = W
 intro HQ Q
 have HL := Lib.hid (fun (w' : World) (hb : Below W.heap.size W w') => (And.intro hb (And.intro (keepc hb Q.out.1) (And.intro (keepc hb Q.out.2.1) (And.intro (keepc hb Q.out.2.2.1) (keepc hb Q.out.2.2.2)))) : Below W.heap.size W w' ∧ w'.cell? ⟨w.heap.size, 0, none⟩ = some (.bool n1) ∧ w'.cell? ⟨w.heap.size, 1, none⟩ = some s1 ∧ w'.cell? ⟨w.heap.size + 1, 0, none⟩ = some (.bool n2) ∧ w'.cell? ⟨w.heap.size + 1, 1, none⟩ = some s2))
 have HA := Lib.hid (fun (w' : World) (hs : Below W.heap.size W w' ∧ w'.cell? ⟨w.heap.size, 0, none⟩ = some (.bool n1) ∧ w'.cell? ⟨w.heap.size, 1, none⟩ = some s1 ∧ w'.cell? ⟨w.heap.size + 1, 0, none⟩ = some (.bool n2) ∧ w'.cell? ⟨w.heap.size + 1, 1, none⟩ = some s2) => H.out.below (bt HQ.out hs.1))
 have HB := Lib.hid (fun (w' : World) (hs : Below W.heap.size W w' ∧ w'.cell? ⟨w.heap.size, 0, none⟩ = some (.bool n1) ∧ w'.cell? ⟨w.heap.size, 1, none⟩ = some s1 ∧ w'.cell? ⟨w.heap.size + 1, 0, none⟩ = some (.bool n2) ∧ w'.cell? ⟨w.heap.size + 1, 1, none⟩ = some s2) => K.out.below (bt HQ.out hs.1))
 go_region_held3 (fun w' => Below W.heap.size W w' ∧ w'.cell? ⟨w.heap.size, 0, none⟩ = some (.bool n1) ∧ w'.cell? ⟨w.heap.size, 1, none⟩ = some s1 ∧ w'.cell? ⟨w.heap.size + 1, 0, none⟩ = some (.bool n2) ∧ w'.cell? ⟨w.heap.size + 1, 1, none⟩ = some s2)
  (first | exact HL.out _ (Below.drew (Below.refl _ _)) | exact HL.out _ (bt (And.left (by assumption)) (by assumption)))
  (first | (go_at_call 71; (with_reducible refine (sign_any (HA.out _ (by assumption))).mono ?_); rintro e w1 ⟨rfl, hb1⟩) | (go_at_call 71; (with_reducible refine (sign_any (HB.out _ (by assumption))).mono ?_); rintro e w2 ⟨rfl, hb2⟩))
 have hW := bt (bt (Below.drew (Below.refl W.heap.size W)) hb1) hb2
 obtain ⟨_, d1, d2, d3, d4⟩ := HL.out _ hW
 have HW := Lib.hid hW
 clear hb1 hb2 hW
 by_cases hs : x.sign = y.sign
 ·obtain ⟨e12, e1, e2⟩ := cmp_same c1 c2 G1.out G2.out Z1.out Z2.out hs
  subst e12
  have hb : (x.sign != y.sign) = false := by simp [hs]
  have E1 := Lib.hid e1
  have E2 := Lib.hid e2
  clear hs e1 e2
  have L1 := lr1.below (bt HQ.out HW.out)
  have L2 := lr2.below (bt HQ.out HW.out)
  cases n1
  ·go_wp2_with fail
   refine (compare_any L1 L2 c1 c2).mono ?_
   rintro e w3 ⟨rfl, hb3⟩
   go_wp2
   go_ret
   exact ⟨ret_int (E2.out (by simp)).symm, bt (bt HQ.out HW.out) hb3⟩
  ·go_wp2_with fail
   refine (compare_any L2 L1 c2 c1).mono ?_
   rintro e w3 ⟨rfl, hb3⟩
   go_wp2
   go_ret
   exact ⟨ret_int (E1.out (by simp)).symm, bt (bt HQ.out HW.out) hb3⟩
 ·obtain ⟨e1, e2⟩ := cmp_signs hs
  have hb : (x.sign != y.sign) = true := by simp [hs]
  by_cases hlt : x.sign < y.sign
  ·have E1 := Lib.hid (e1 hlt)
   clear e1 e2 hs
   go_wp2
   go_ret
   exact ⟨ret_int E1.out.symm, bt HQ.out HW.out⟩
  ·have E1 := Lib.hid (e2 hlt)
   clear e1 e2 hs
   go_wp2
   go_ret
   exact ⟨ret_int E1.out.symm, bt HQ.out HW.out⟩
end Go.Proofs.YteionhenpehogaaGreatDoor
namespace Go.Proofs.YteionhenpehogaaGreatDoor
open Go.RowKit Tally
structure PlusI (w : World) (g : Nat) (big sml : List Nat) (k c : Nat) (L : List Nat) : Prop where
 own : Own .u32 175 w g L
 len : L.length = big.length + 1
 rest : L.drop k = (big ++ [0]).drop k
 lim : Lim 1000000000 L
 sum : val 1000000000 L + 1000000000 ^ k * c = val 1000000000 big + val 1000000000 (sml.take k)
theorem snoc_getD {l : List Nat} {k : Nat} : (l ++ [0]).getD k 0 = l.getD k 0 := by
 by_cases h : k < l.length
 ·rw [getD_eq (by simp; omega), getD_eq h, List.getElem_append_left h]
 ·rw [getD_out (l := l) (by omega)]
  by_cases h2 : k = l.length
  ·subst h2; simp [List.getD]
  ·exact getD_out (by simp; omega)
theorem val_snoc_zero {B : Nat} {l : List Nat} : val B (l ++ [0]) = val B l := by rw [val_snoc]; simp
section
variable {w w' : World} {g : Nat} {big sml : List Nat} {k c : Nat} {L : List Nat}
theorem PlusI.start (h : Own .u32 175 w g (big ++ [0])) (hl : Lim 1000000000 big) : PlusI w g big sml 0 0 (big ++ [0]) :=
 ⟨h, by simp, rfl, hl.append (Lim.single (by decide)), by rw [val_snoc_zero]; simp⟩
theorem PlusI.cell (h : PlusI w g big sml k c L) (hk : k < big.length) : w.cell? ⟨g, k, none⟩ = some (.int .u32 (big.getD k 0 : Nat)) := by
 rw [h.own.cell (by rw [h.len]; omega), getD_of_drop h.rest k (Nat.le_refl _), snoc_getD]
theorem PlusI.step (h : PlusI w g big sml k c L) (hk : k < big.length) {z : Int} (hz : z = (((big.getD k 0 + c + sml.getD k 0) % 1000000000 : Nat) : Int)) :
  PlusI (w.setCell ⟨g, k, none⟩ (.int .u32 z)) g big sml (k + 1) ((big.getD k 0 + c + sml.getD k 0) / 1000000000) (L.set k ((big.getD k 0 + c + sml.getD k 0) % 1000000000)) := by
 subst hz
 refine ⟨h.own.set k _, by simp [h.len], by rw [drop_set]; have := congrArg (List.drop 1) h.rest; simpa [List.drop_drop] using this, h.lim.set (Nat.mod_lt _ (by decide)) k, ?_⟩
 have hs := h.sum
 rw [← val_snoc_zero (l := big)] at hs
 have := plus_step (B := 1000000000) (a := big ++ [0]) (by rw [h.len]; omega) h.rest hs
 rw [snoc_getD, val_snoc_zero] at this
 exact this
theorem PlusI.top (h : PlusI w g big sml k c L) (hk : k ≤ big.length) : val 1000000000 L = val 1000000000 (L.take big.length) := by
 have e := val_take_getD 1000000000 L big.length
 rw [List.take_of_length_le (by rw [h.len]; omega), getD_of_drop h.rest _ hk, snoc_getD, getD_out (Nat.le_refl _)] at e
 rw [e]; simp
theorem PlusI.done (h : PlusI w g big sml k 0 L) (hk : k ≤ big.length) (hs : sml.length ≤ k) : val 1000000000 (L.take big.length) = val 1000000000 big + val 1000000000 sml := by
 have := h.sum
 rw [h.top hk, List.take_of_length_le hs] at this
 simpa using this
theorem PlusI.over (h : PlusI w g big sml big.length c L) (hs : sml.length ≤ big.length) : val 1000000000 (L.take big.length ++ [c]) = val 1000000000 big + val 1000000000 sml := by
 have := h.sum
 rw [h.top (Nat.le_refl _), List.take_of_length_le hs] at this
 rw [val_snoc, List.length_take, h.len, show min big.length (big.length + 1) = big.length by omega]
 exact this
theorem PlusI.give {w0 : World} {T n : Nat} (h : PlusI w g big sml k 0 L) (hk : k ≤ n) (hs : sml.length ≤ k) (hn : big.length = n) (hT : val 1000000000 big + val 1000000000 sml = T) (hm : n ≤ 1000000000000) (hb : Below w0.heap.size w0 w) :
  GivesL w0 T (.returned (.slice (some ⟨g, 0, none⟩) n (n + 1))) w := by
 subst hn
 exact ⟨_, L.take big.length, rfl, h.own.row (by rw [h.len]; omega) (by omega) (by omega), h.lim.take _, by rw [h.done hk hs, hT], hb⟩
end
set_option maxHeartbeats 2000000 in
set_option maxRecDepth 100000 in
theorem plus_any {w : World} {va vb : Value} {a b : List Nat} (ha : LR w va a) (hb : LR w vb b) (la : Lim 1000000000 a) (lb : Lim 1000000000 b)
  (na : a.length ≤ 1000000000000) (nb : b.length ≤ 1000000000000) :
  Calls Tryz.prog 123 #[va, vb] w (GivesL w (val 1000000000 a + val 1000000000 b)) := by
 obtain ⟨T, hT⟩ : ∃ T, val 1000000000 a + val 1000000000 b = T := ⟨_, rfl⟩
 rw [hT]
 obtain ⟨i0, hi, hz0, hz1, hz2⟩ := info_parts infoU
 have hcase : (a.length < b.length) ∨ (b.length ≤ a.length) := by omega
 rcases hcase with hlt | hlt
 case' inl =>
  obtain ⟨big, rfl⟩ : ∃ big, big = b := ⟨b, rfl⟩
  obtain ⟨sml, rfl⟩ : ∃ sml, sml = a := ⟨a, rfl⟩
  obtain ⟨p, b1, o1, c1, rfl, l1, m1, s1, r1⟩ := hb
  obtain ⟨q, b2, o2, c2, rfl, l2, m2, s2, r2⟩ := ha
  have LB := Lib.hid lb
  have LS := Lib.hid la
  have HT := Lib.hid (show val 1000000000 big + val 1000000000 sml = T by omega)
  have hdec : (sml.length : Int) < (big.length : Int) := by omega
  have N1 := Lib.hid nb
  clear na nb
 case' inr =>
  obtain ⟨big, rfl⟩ : ∃ big, big = a := ⟨a, rfl⟩
  obtain ⟨sml, rfl⟩ : ∃ sml, sml = b := ⟨b, rfl⟩
  obtain ⟨p, b1, o1, c1, rfl, l1, m1, s1, r1⟩ := ha
  obtain ⟨q, b2, o2, c2, rfl, l2, m2, s2, r2⟩ := hb
  have LB := Lib.hid la
  have LS := Lib.hid lb
  have HT := Lib.hid (show val 1000000000 big + val 1000000000 sml = T by omega)
  have hdec : ¬ (big.length : Int) < (sml.length : Int) := by omega
  have N1 := Lib.hid na
  clear na nb
 all_goals
  have hle : sml.length ≤ big.length := by omega
  obtain ⟨n, hn⟩ : ∃ n, big.length = n := ⟨_, rfl⟩
  obtain ⟨m, hm⟩ : ∃ m, sml.length = m := ⟨_, rfl⟩
  have HN := Lib.hid hn
  have HM := Lib.hid hm
  have R1 := Lib.hid r1
  have R2 := Lib.hid r2
  have nb := N1.out
  rw [hn] at l1 s1 R1 hdec hle nb ⊢
  rw [hm] at l2 s2 R2 hdec hle ⊢
  clear r1 r2 hn hm hT la lb
  have hmk := fun W : World => run_make (P := Tryz.prog) (w := W) 33 175 i0 (.int .u32 0) Tryz.underlying33 hi hz0 .i64 .i64 (n : Int) ((n : Int) + 1) (by omega) (by omega) (by rw [hz2]; omega) (by omega)
  have e1 : ((n : Int)).toNat = n := by omega
  have e2 : ((n : Int) + 1).toNat = n + 1 := by omega
  simp only [hz1, e1, e2, Nat.mul_one, show (Value.int IntKind.u32 0).cells = #[Value.int IntKind.u32 0] from rfl] at hmk
  clear e1 e2
  have hO := Lib.hid (Own.made (K := .u32) (t := 175) w (n + 1))
  have hbO := Lib.hid ((Below.refl w.heap.size w).alloc (Nat.le_refl _) (.cells (madeCells #[.int .u32 0] (n + 1)) 175))
  have hnn : (numsOf .u32 big).length = Nat.min n n := by rw [numsOf_length, HN.out]; exact (Nat.min_self n).symm
  have HNN := Lib.hid hnn
  clear hnn
  go_enter Tryz.func123, Tryz.ntmps123
  go_wp2_with (with_reducible refine wpList_copy_splice rfl (.tmp 22) (.tmp 23) 33 33 rfl 175 Tryz.underlying33 sizeU _ _ _ _ _ _ rfl rfl w.heap.size 0 (numsOf .u32 (List.replicate (n + 1) 0)) 175 hO.out.heap (numsOf .u32 big) HNN.out (copySrc hbO.out HN.out s1 R1.out w.heap.size) (by rw [numsOf_length, numsOf_length, HN.out, List.length_replicate]; omega) numsOf_one w.heap.size w hbO.out (Nat.le_refl _) ?_)
  intro w1 hw1 hb1
  have hO1 : Own .u32 175 w1 w.heap.size (big ++ [0]) := by
   have := hw1.out
   rw [splice_some, HN.out] at this
   unfold Own
   simpa [List.drop_replicate] using this
  have O1 := Lib.hid hO1
  have B1 := Lib.hid hb1
  clear hO1 hw1 hb1 hmk
  go_wp2
  go_loopw [6, 27] (fun c i wr => ∃ (k cc : Nat) (L : List Nat), k ≤ n ∧ i = .int .i64 k ∧ c = .int .u32 cc ∧ cc ≤ 1 ∧ PlusI wr w.heap.size big sml k cc L ∧ Below w.heap.size w wr) (fun _ i _ => n - (intOf i).toNat)
  case atStart => exact ⟨0, 0, _, Nat.zero_le _, rfl, rfl, Nat.zero_le _, PlusI.start O1.out LB.out, B1.out⟩
  case round =>
   obtain ⟨k, cc, L, hk, rfl, rfl, hcc, hI, hbr⟩ := hrel
   have HI := Lib.hid hI
   have HB := Lib.hid hbr
   have f1 := hI.own.frozen k
   have hlen := hI.len
   rw [HN.out] at hlen
   have hsz := hI.own.lt
   clear hI hbr
   by_cases hkn : k < n
   ·have hknz : (k : Int) < (n : Int) := by omega
    have t1 := HI.out.cell (by rw [HN.out]; exact hkn)
    have st := fun z hz => HI.out.step (z := z) (by rw [HN.out]; exact hkn) hz
    have bx := LB.out.getD (by decide) k
    have by' := LS.out.getD (by decide) k
    obtain rfl := s1 (by omega)
    by_cases hkm : k < m
    ·obtain rfl := s2 (by omega)
     have t2 := keepc HB.out (R2.out k hkm)
     have hkmz : ¬ (m : Int) ≤ (k : Int) := by omega
     generalize big.getD k 0 = x at *
     generalize sml.getD k 0 = y at *
     have ST := Lib.hid st
     clear st
     go_wp2
     go_roundw
     case rel => exact ⟨k + 1, (x + cc + y) / 1000000000, _, by omega, by go_num, by go_num, by omega, ST.out _ (by omega), HB.out.setCell (Nat.le_refl _) _⟩
     case measure => simp [intOf]; omega
    ·have hkmz : (m : Int) ≤ (k : Int) := by omega
     have y0 : sml.getD k 0 = 0 := getD_out (by rw [HM.out]; omega)
     rw [y0] at st by'
     clear y0 by'
     generalize big.getD k 0 = x at *
     have ST := Lib.hid st
     clear st
     by_cases hc0 : cc = 0
     ·subst hc0
      go_wp2
      go_ret
      exact HI.out.give hk (by rw [HM.out]; omega) HN.out HT.out (by have := N1.out; rw [HN.out] at this; exact this) HB.out
     ·have hc1 : ((cc : Int) == 0) = false := by simp; omega
      go_wp2
      go_roundw
      case rel => exact ⟨k + 1, (x + cc + 0) / 1000000000, _, by omega, by go_num, by go_num, by omega, ST.out _ (by omega), HB.out.setCell (Nat.le_refl _) _⟩
      case measure => simp [intOf]; omega
   ·obtain rfl : k = n := by omega
    by_cases hc0 : cc = 0
    ·subst hc0
     go_wp2
     go_ret
     exact HI.out.give hk (by rw [HM.out]; omega) HN.out HT.out (by have := N1.out; rw [HN.out] at this; exact this) HB.out
    ·have hcp : (0 : Int) < (cc : Int) := by omega
     have ho : wr.ownsRow w.heap.size 175 1 (.slice (some ⟨w.heap.size, 0, none⟩) k (k + 1)) k (numsOf .u32 (L.take k)) := by
      have := HI.out.own.owns (n := k) (base := w.heap.size) (by omega) (by unfold maxLen; omega) (Nat.le_refl _)
      rwa [hlen] at this
     have HO := Lib.hid ho
     have HL := Lib.hid hlen
     clear ho hlen
     go_wp2_with (at_builtin; refine wpList_append_fits _ rfl (.tmp 64) (.tmp 66) 33 rfl w.heap.size 175 i0 1 Tryz.underlying33 hi hz1 w.heap.size k (k + 1) _ rfl (HO.out.alloc _) ⟨wr.heap.size, 0, none⟩ 1 1 [.int .u32 (cc : Int)] rfl rfl (cell_one_new _ _ _) (numsOf_one (K := .u32) (L := [cc])) (Nat.le_refl _) ?_)
     intro w2 ho2 hg2
     have hb2 : Below w.heap.size w w2 := (HB.out.alloc (by omega) _).grown hg2 (by simp; omega) (fun j hj => by simp at hj; omega)
     have ho3 := RowR.of_owns (owns_snoc ho2)
     have HO3 := Lib.hid ho3
     have HB2 := Lib.hid hb2
     clear ho2 hg2 ho3 hb2
     go_wp2
     go_ret
     have e := PlusI.over (HN.out.symm ▸ HI.out) (by rw [HM.out, HN.out]; omega)
     rw [HN.out, HT.out] at e
     exact ⟨_, _, rfl, HO3.out, (HI.out.lim.take _).append (Lim.single (by omega)), e, HB2.out⟩
end Go.Proofs.YteionhenpehogaaGreatDoor
namespace Go.Proofs.YteionhenpehogaaGreatDoor
open Go.RowKit Tally
structure MinusI (w : World) (g : Nat) (a b : List Nat) (k c : Nat) (L : List Nat) : Prop where
 own : Own .u32 175 w g L
 len : L.length = a.length
 rest : L.drop k = a.drop k
 lim : Lim 1000000000 L
 sum : val 1000000000 L + val 1000000000 (b.take k) = val 1000000000 a + 1000000000 ^ k * c
section
variable {w w' : World} {g : Nat} {a b : List Nat} {k c c' x : Nat} {L : List Nat}
theorem MinusI.start (h : Own .u32 175 w g a) (hl : Lim 1000000000 a) : MinusI w g a b 0 0 a := ⟨h, rfl, rfl, hl, by simp⟩
theorem MinusI.cell (h : MinusI w g a b k c L) (hk : k < a.length) : w.cell? ⟨g, k, none⟩ = some (.int .u32 (a.getD k 0 : Nat)) := by
 rw [h.own.cell (by rw [h.len]; omega), getD_of_drop h.rest k (Nat.le_refl _)]
theorem MinusI.next (h : MinusI w g a b k c L) (ho : Own .u32 175 w' g (L.set k x)) (hk : k < a.length) (hx : x < 1000000000) (he : x + (b.getD k 0 + c) = a.getD k 0 + 1000000000 * c') :
  MinusI w' g a b (k + 1) c' (L.set k x) :=
 ⟨ho, by simp [h.len], by rw [drop_set]; have := congrArg (List.drop 1) h.rest; simpa [List.drop_drop] using this, h.lim.set hx k, minus_step (by rw [h.len]; omega) h.rest h.sum he⟩
theorem MinusI.step0 (h : MinusI w g a b k c L) (hk : k < a.length) (ha : a.getD k 0 < 1000000000) (hle : b.getD k 0 + c ≤ a.getD k 0) {z : Int} (hz : z = ((a.getD k 0 - (b.getD k 0 + c) : Nat) : Int)) :
  MinusI (w.setCell ⟨g, k, none⟩ (.int .u32 z)) g a b (k + 1) 0 (L.set k (a.getD k 0 - (b.getD k 0 + c))) := by
 subst hz
 exact h.next (h.own.set k _) hk (by omega) (by omega)
theorem MinusI.step1 (h : MinusI w g a b k c L) (hk : k < a.length) (hlt : a.getD k 0 < b.getD k 0 + c) (hle : b.getD k 0 + c ≤ 1000000000) {y z : Int} (hy : y = ((a.getD k 0 + 1000000000 : Nat) : Int)) (hz : z = ((a.getD k 0 + 1000000000 - (b.getD k 0 + c) : Nat) : Int)) :
  MinusI ((w.setCell ⟨g, k, none⟩ (.int .u32 y)).setCell ⟨g, k, none⟩ (.int .u32 z)) g a b (k + 1) 1 (L.set k (a.getD k 0 + 1000000000 - (b.getD k 0 + c))) := by
 subst hy hz
 have := (h.own.set k (a.getD k 0 + 1000000000)).set k (a.getD k 0 + 1000000000 - (b.getD k 0 + c))
 rw [List.set_set] at this
 exact h.next this hk (by omega) (by omega)
theorem MinusI.done (h : MinusI w g a b a.length c L) (hb : b.length ≤ a.length) (hle : val 1000000000 b ≤ val 1000000000 a) : val 1000000000 L = val 1000000000 a - val 1000000000 b := by
 have := h.sum
 rw [List.take_of_length_le hb] at this
 have hl := val_lt 1000000000 L h.lim
 rw [h.len] at hl
 rcases Nat.eq_zero_or_pos c with h0 | h0
 ·subst h0; omega
 ·have : 1000000000 ^ a.length * 1 ≤ 1000000000 ^ a.length * c := Nat.mul_le_mul_left _ h0
  omega
end
set_option maxHeartbeats 2000000 in
set_option maxRecDepth 100000 in
theorem minus_any {w : World} {va vb : Value} {a b : List Nat} (ha : LR w va a) (hb : LR w vb b) (la : Lim 1000000000 a) (lb : Lim 1000000000 b)
  (na : a.length ≤ 1000000000000) (nb : b.length ≤ a.length) (hle : val 1000000000 b ≤ val 1000000000 a) :
  Calls Tryz.prog 124 #[va, vb] w (GivesL w (val 1000000000 a - val 1000000000 b)) := by
 obtain ⟨T, hT⟩ : ∃ T, val 1000000000 a - val 1000000000 b = T := ⟨_, rfl⟩
 rw [hT]
 obtain ⟨i0, hi, hz0, hz1, hz2⟩ := info_parts infoU
 obtain ⟨p, b1, o1, c1, rfl, l1, m1, s1, r1⟩ := ha
 obtain ⟨q, b2, o2, c2, rfl, l2, m2, s2, r2⟩ := hb
 obtain ⟨n, hn⟩ : ∃ n, a.length = n := ⟨_, rfl⟩
 obtain ⟨m, hm⟩ : ∃ m, b.length = m := ⟨_, rfl⟩
 have HN := Lib.hid hn
 have HM := Lib.hid hm
 have R1 := Lib.hid r1
 have R2 := Lib.hid r2
 have LA := Lib.hid la
 have LB := Lib.hid lb
 have HT := Lib.hid hT
 have HLE := Lib.hid hle
 rw [hn] at l1 s1 R1 na nb ⊢
 rw [hm] at l2 s2 R2 nb ⊢
 clear r1 r2 hn hm hT la lb hle
 have hmk := fun W : World => run_make (P := Tryz.prog) (w := W) 33 175 i0 (.int .u32 0) Tryz.underlying33 hi hz0 .i64 .i64 (n : Int) (n : Int) (by omega) (by omega) (by rw [hz2]; omega) (by omega)
 have e1 : ((n : Int)).toNat = n := by omega
 simp only [hz1, e1, Nat.mul_one, show (Value.int IntKind.u32 0).cells = #[Value.int IntKind.u32 0] from rfl] at hmk
 clear e1
 have hO := Lib.hid (Own.made (K := .u32) (t := 175) w n)
 have hbO := Lib.hid ((Below.refl w.heap.size w).alloc (Nat.le_refl _) (.cells (madeCells #[.int .u32 0] n) 175))
 have hnn : (numsOf .u32 a).length = Nat.min n n := by rw [numsOf_length, HN.out]; exact (Nat.min_self n).symm
 have HNN := Lib.hid hnn
 clear hnn
 go_enter Tryz.func124, Tryz.ntmps124
 go_wp2_with (with_reducible refine wpList_copy_splice rfl (.tmp 12) (.tmp 13) 33 33 rfl 175 Tryz.underlying33 sizeU _ _ _ _ _ _ rfl rfl w.heap.size 0 (numsOf .u32 (List.replicate n 0)) 175 hO.out.heap (numsOf .u32 a) HNN.out (copySrc hbO.out HN.out s1 R1.out w.heap.size) (by rw [numsOf_length, numsOf_length, HN.out, List.length_replicate]; omega) numsOf_one w.heap.size w hbO.out (Nat.le_refl _) ?_)
 intro w1 hw1 hb1
 have hO1 : Own .u32 175 w1 w.heap.size a := by
  have := hw1.out
  rw [splice_all (by rw [List.length_replicate, HN.out])] at this
  exact this
 have O1 := Lib.hid hO1
 have B1 := Lib.hid hb1
 clear hO1 hw1 hb1 hmk
 go_wp2
 go_loopw [6, 17] (fun c i wr => ∃ (k cc : Nat) (L : List Nat), k ≤ n ∧ i = .int .i64 k ∧ c = .int .u32 cc ∧ cc ≤ 1 ∧ MinusI wr w.heap.size a b k cc L ∧ Below w.heap.size w wr) (fun _ i _ => n - (intOf i).toNat)
 case atStart => exact ⟨0, 0, _, Nat.zero_le _, rfl, rfl, Nat.zero_le _, MinusI.start O1.out LA.out, B1.out⟩
 case round =>
  obtain ⟨k, cc, L, hk, rfl, rfl, hcc, hI, hbr⟩ := hrel
  have HI := Lib.hid hI
  have HB := Lib.hid hbr
  have f1 := hI.own.frozen k
  clear hI hbr
  by_cases hkn : k < n
  ·have hknz : (k : Int) < (n : Int) := by omega
   have t1 := HI.out.cell (by rw [HN.out]; exact hkn)
   have bx := LA.out.getD (by decide) k
   have by' := LB.out.getD (by decide) k
   have st0 := fun h z hz => HI.out.step0 (z := z) (by rw [HN.out]; exact hkn) bx h hz
   have st1 := fun h h' y z hy hz => HI.out.step1 (y := y) (z := z) (by rw [HN.out]; exact hkn) h h' hy hz
   obtain rfl := s1 (by omega)
   by_cases hkm : k < m
   ·obtain rfl := s2 (by omega)
    have t2 := keepc HB.out (R2.out k hkm)
    have hkmz : (k : Int) < (m : Int) := by omega
    generalize a.getD k 0 = x at *
    generalize b.getD k 0 = y at *
    have S0 := Lib.hid st0
    have S1 := Lib.hid st1
    clear st0 st1
    by_cases hxy : x < y + cc
    ·have hlz : (x : Int) < (cc : Int) + (y : Int) := by omega
     go_wp2
     go_roundw
     case rel => exact ⟨k + 1, 1, _, by omega, by go_num, by go_num, by omega, S1.out hxy (by omega) _ _ (by omega) (by omega), (HB.out.setCell (Nat.le_refl _) _).setCell (Nat.le_refl _) _⟩
     case measure => simp [intOf]; omega
    ·have hlz : ¬ (x : Int) < (cc : Int) + (y : Int) := by omega
     go_wp2
     go_roundw
     case rel => exact ⟨k + 1, 0, _, by omega, by go_num, by go_num, by omega, S0.out (by omega) _ (by omega), HB.out.setCell (Nat.le_refl _) _⟩
     case measure => simp [intOf]; omega
   ·have hkmz : ¬ (k : Int) < (m : Int) := by omega
    have y0 : b.getD k 0 = 0 := getD_out (by rw [HM.out]; omega)
    rw [y0] at st0 st1 by'
    clear y0 by'
    generalize a.getD k 0 = x at *
    have S0 := Lib.hid st0
    have S1 := Lib.hid st1
    clear st0 st1
    by_cases hxy : x < cc
    ·have hlz : (x : Int) < (cc : Int) := by omega
     go_wp2
     go_roundw
     case rel => exact ⟨k + 1, 1, _, by omega, by go_num, by go_num, by omega, S1.out (by omega) (by omega) _ _ (by omega) (by omega), (HB.out.setCell (Nat.le_refl _) _).setCell (Nat.le_refl _) _⟩
     case measure => simp [intOf]; omega
    ·have hlz : ¬ (x : Int) < (cc : Int) := by omega
     go_wp2
     go_roundw
     case rel => exact ⟨k + 1, 0, _, by omega, by go_num, by go_num, by omega, S0.out (by omega) _ (by omega), HB.out.setCell (Nat.le_refl _) _⟩
     case measure => simp [intOf]; omega
  ·obtain rfl : k = n := by omega
   go_wp2
   go_ret
   have hl : L.length = k := by rw [HI.out.len, HN.out]
   have hr := HI.out.own.all (n := k) (c := k) hl.symm (Nat.le_refl _) (by omega)
   exact ⟨_, L, rfl, hr, HI.out.lim, by rw [MinusI.done (HN.out.symm ▸ HI.out) (by rw [HM.out, HN.out]; omega) HLE.out, HT.out], HB.out⟩
end Go.Proofs.YteionhenpehogaaGreatDoor
namespace Go.Proofs.YteionhenpehogaaGreatDoor
open Go.RowKit Tally
structure ValI (w : World) (g len T P c : Nat) (L : List Nat) : Prop where
 own : Own .u32 175 w g L
 len : L.length = len
 lim : Lim 1000000000 L
 sum : val 1000000000 L + P * c = T
section
variable {w : World} {g len T P c x y i k : Nat} {L b : List Nat}
theorem ValI.mul (h : ValI w g len (T + 1000000000 ^ i * (x * val 1000000000 (b.take k))) (1000000000 ^ (i + k)) c L) (hk : i + k < len) {z : Int} {o : Nat} (ho : L.getD (i + k) 0 = o) (hy : b.getD k 0 = y) (hz : z = (((x * y + o + c) % 1000000000 : Nat) : Int)) :
  ValI (w.setCell ⟨g, i + k, none⟩ (.int .u32 z)) g len (T + 1000000000 ^ i * (x * val 1000000000 (b.take (k + 1)))) (1000000000 ^ (i + (k + 1))) ((x * y + o + c) / 1000000000) (L.set (i + k) ((x * y + o + c) % 1000000000)) := by
 subst hz ho hy
 exact ⟨h.own.set _ _, by simp [h.len], h.lim.set (Nat.mod_lt _ (by decide)) _, times_step (by rw [h.len]; exact hk) h.sum⟩
theorem ValI.carry (h : ValI w g len T (1000000000 ^ k) c L) (hk : k < len) {z : Int} {o : Nat} (ho : L.getD k 0 = o) (hz : z = (((o + c) % 1000000000 : Nat) : Int)) :
  ValI (w.setCell ⟨g, k, none⟩ (.int .u32 z)) g len T (1000000000 ^ (k + 1)) ((o + c) / 1000000000) (L.set k ((o + c) % 1000000000)) := by
 subst hz ho
 exact ⟨h.own.set _ _, by simp [h.len], h.lim.set (Nat.mod_lt _ (by decide)) _, carry_step (by rw [h.len]; exact hk) h.sum⟩
end
theorem prod_bound {x y : Nat} (hx : x < 1000000000) (hy : y < 1000000000) : 0 ≤ (x : Int) * (y : Int) ∧ (x : Int) * (y : Int) ≤ 999999998000000001 := by
 have h : x * y ≤ 999999999 * 999999999 := Nat.mul_le_mul (by omega) (by omega)
 constructor
 ·exact Int.mul_nonneg (by omega) (by omega)
 ·have := Int.natCast_mul x y
  omega
theorem cast_mod {x y o c : Nat} : ((x : Int) * (y : Int) + (o : Int) + (c : Int)) % 1000000000 = (((x * y + o + c) % 1000000000 : Nat) : Int) := by
 have := Int.natCast_mul x y
 omega
theorem cast_div {x y o c : Nat} : ((x : Int) * (y : Int) + (o : Int) + (c : Int)) / 1000000000 = (((x * y + o + c) / 1000000000 : Nat) : Int) := by
 have := Int.natCast_mul x y
 omega
theorem int_eq {K : IntKind} {a b : Int} (h : a = b) : Value.int K a = Value.int K b := by rw [h]
def GivesRow (w : World) (n T : Nat) (e : Ending) (w' : World) : Prop :=
 ∃ g L, e = .returned (.slice (some ⟨g, 0, none⟩) n n) ∧ Own .u32 175 w' g L ∧ L.length = n ∧ Lim 1000000000 L ∧ val 1000000000 L = T ∧ w.heap.size ≤ g ∧ Below w.heap.size w w'
set_option maxHeartbeats 2000000 in
set_option maxRecDepth 100000 in
theorem times_any {w : World} {va vb : Value} {a b : List Nat} (ha : LR w va a) (hb : LR w vb b) (la : Lim 1000000000 a) (lb : Lim 1000000000 b)
  (na : a.length ≤ 1000000000000) (nb : b.length ≤ 1000000000000) :
  Calls Tryz.prog 118 #[va, vb] w (GivesRow w (a.length + b.length) (val 1000000000 a * val 1000000000 b)) := by
 obtain ⟨T, hT⟩ : ∃ T, val 1000000000 a * val 1000000000 b = T := ⟨_, rfl⟩
 rw [hT]
 obtain ⟨i0, hi, hz0, hz1, hz2⟩ := info_parts infoU
 obtain ⟨p, b1, o1, c1, rfl, l1, m1, s1, r1⟩ := ha
 obtain ⟨q, b2, o2, c2, rfl, l2, m2, s2, r2⟩ := hb
 obtain ⟨n, hn⟩ : ∃ n, a.length = n := ⟨_, rfl⟩
 obtain ⟨m, hm⟩ : ∃ m, b.length = m := ⟨_, rfl⟩
 have HN := Lib.hid hn
 have HM := Lib.hid hm
 have R1 := Lib.hid r1
 have R2 := Lib.hid r2
 have LA := Lib.hid la
 have LB := Lib.hid lb
 have HT := Lib.hid hT
 rw [hn] at l1 s1 R1 na ⊢
 rw [hm] at l2 s2 R2 nb ⊢
 clear r1 r2 hn hm hT la lb
 have hmk := fun W : World => run_make (P := Tryz.prog) (w := W) 33 175 i0 (.int .u32 0) Tryz.underlying33 hi hz0 .i64 .i64 ((n : Int) + (m : Int)) ((n : Int) + (m : Int)) (by omega) (by omega) (by rw [hz2]; omega) (by omega)
 have e1 : ((n : Int) + (m : Int)).toNat = n + m := by omega
 simp only [hz1, e1, Nat.mul_one, show (Value.int IntKind.u32 0).cells = #[Value.int IntKind.u32 0] from rfl] at hmk
 clear e1
 have hO := Lib.hid (Own.made (K := .u32) (t := 175) w (n + m))
 have hbO := Lib.hid ((Below.refl w.heap.size w).alloc (Nat.le_refl _) (.cells (madeCells #[.int .u32 0] (n + m)) 175))
 go_enter Tryz.func118, Tryz.ntmps118
 go_wp2
 clear hmk
 go_loopw [22] (fun i wr => ∃ (k : Nat) (L : List Nat), k ≤ n ∧ i = .int .i64 k ∧ ValI wr w.heap.size (n + m) (val 1000000000 (a.take k) * val 1000000000 b) 0 0 L ∧ Below w.heap.size w wr) (fun i _ => n - (intOf i).toNat)
 case atStart => exact ⟨0, _, Nat.zero_le _, rfl, ⟨hO.out, by simp, Lim.zeros (by decide) _, by rw [val_zeros]; simp⟩, hbO.out⟩
 case round =>
  obtain ⟨i, L, hk, rfl, hI, hbr⟩ := hrel
  obtain ⟨wo, rfl⟩ : ∃ wo : World, wo = wr := ⟨_, rfl⟩
  have HI := Lib.hid hI
  have HB := Lib.hid hbr
  clear hI hbr
  by_cases hin : i < n
  ·have hinz : (i : Int) < (n : Int) := by omega
   obtain rfl := s1 (by omega)
   have t1 := keepc HB.out (R1.out i hin)
   have bx := LA.out.getD (by decide) i
   obtain ⟨x, hx⟩ : ∃ x, a.getD i 0 = x := ⟨_, rfl⟩
   have HX := Lib.hid hx
   rw [hx] at t1 bx
   clear hx
   have hT0 : val 1000000000 (a.take (i + 1)) * val 1000000000 b < 1000000000 ^ (n + m) := by
    have := prod_lt LA.out LB.out (i + 1) (by rw [HN.out]; omega)
    rw [HM.out] at this
    exact Nat.lt_of_lt_of_le this (Nat.pow_le_pow_right (by decide) (by omega))
   have HT0 := Lib.hid hT0
   clear hT0
   go_wp2
   go_loopw [8, 29] (fun c j wr => ∃ (k cc : Nat) (L : List Nat), k ≤ m ∧ j = .int .i64 k ∧ c = .int .u64 cc ∧ cc < 1000000000 ∧ ValI wr w.heap.size (n + m) (val 1000000000 (a.take i) * val 1000000000 b + 1000000000 ^ i * (x * val 1000000000 (b.take k))) (1000000000 ^ (i + k)) cc L ∧ Below w.heap.size w wr) (fun _ j _ => m - (intOf j).toNat)
   case atStart => exact ⟨0, 0, L, Nat.zero_le _, rfl, rfl, by omega, ⟨HI.out.own, HI.out.len, HI.out.lim, by have := HI.out.sum; simpa using this⟩, HB.out⟩
   case round =>
    obtain ⟨k, cc, L2, hk2, rfl, rfl, hcc, hI2, hbr2⟩ := hrel
    have HI2 := Lib.hid hI2
    have HB2 := Lib.hid hbr2
    have f1 := hI2.own.frozen (i + k)
    clear hI2 hbr2
    by_cases hkm : k < m
    ·have hkmz : (k : Int) < (m : Int) := by omega
     obtain rfl := s2 (by omega)
     have t2 := keepc HB2.out (R2.out k hkm)
     have by' := LB.out.getD (by decide) k
     have t3 := HI2.out.own.cell (i := i + k) (by rw [HI2.out.len]; omega)
     have bo := HI2.out.lim.getD (by decide) (i + k)
     obtain ⟨y, hy⟩ : ∃ y, b.getD k 0 = y := ⟨_, rfl⟩
     obtain ⟨o, ho⟩ : ∃ o, L2.getD (i + k) 0 = o := ⟨_, rfl⟩
     rw [hy] at t2 by'
     rw [ho] at t3 bo
     have HY := Lib.hid hy
     have HOO := Lib.hid ho
     clear hy ho
     obtain ⟨pb0, pb1⟩ := prod_bound bx by'
     have mc := mul_carry x y o cc bx by' bo hcc
     go_wp2
     go_roundw
     case rel => exact ⟨k + 1, (x * y + o + cc) / 1000000000, _, by omega, by go_num, int_eq cast_div, mc, HI2.out.mul (by omega) HOO.out HY.out cast_mod, HB2.out.setCell (Nat.le_refl _) _⟩
     case measure => simp [intOf]; omega
    ·obtain rfl : k = m := by omega
     have hS : ValI wr w.heap.size (n + k) (val 1000000000 (a.take (i + 1)) * val 1000000000 b) (1000000000 ^ (i + k)) cc L2 := by
      have := HI2.out.sum
      have eb : b.take k = b := List.take_of_length_le (by rw [HM.out]; omega)
      rw [eb, ← HX.out, rows_step] at this
      exact ⟨HI2.out.own, HI2.out.len, HI2.out.lim, this⟩
     have HS := Lib.hid hS
     clear hS
     obtain ⟨wi, rfl⟩ : ∃ wi : World, wi = wr := ⟨_, rfl⟩
     go_wp2
     go_loopw [8, 12] (fun c j wr => ∃ (k2 cc : Nat) (L : List Nat), k2 ≤ n + k ∧ j = .int .i64 k2 ∧ c = .int .u64 cc ∧ cc < 1000000000 ∧ ValI wr w.heap.size (n + k) (val 1000000000 (a.take (i + 1)) * val 1000000000 b) (1000000000 ^ k2) cc L ∧ Below w.heap.size w wr) (fun _ j _ => (n + k) - (intOf j).toNat)
     case atStart => exact ⟨i + k, cc, L2, by omega, by go_num, rfl, hcc, HS.out, HB2.out⟩
     case round =>
      obtain ⟨k2, c3, L3, hk3, rfl, rfl, hc3, hI3, hbr3⟩ := hrel
      have HI3 := Lib.hid hI3
      have HB3 := Lib.hid hbr3
      have f3 := hI3.own.frozen k2
      clear hI3 hbr3
      by_cases hc0 : c3 = 0
      ·subst hc0
       go_wp2
       go_roundw
       case rel => exact ⟨i + 1, L3, by omega, by go_num, ⟨HI3.out.own, HI3.out.len, HI3.out.lim, by have := HI3.out.sum; simpa using this⟩, HB3.out⟩
       case measure => simp [intOf]; omega
      ·have hcz : (0 : Int) < (c3 : Int) := by omega
       have hlt : k2 < n + k := carry_in (by omega) HI3.out.sum HT0.out (by decide)
       have t4 := HI3.out.own.cell (i := k2) (by rw [HI3.out.len]; omega)
       have bo3 := HI3.out.lim.getD (by decide) k2
       obtain ⟨o3, ho3⟩ : ∃ o, L3.getD k2 0 = o := ⟨_, rfl⟩
       rw [ho3] at t4 bo3
       have HO3 := Lib.hid ho3
       clear ho3
       go_wp2
       go_roundw
       case rel => exact ⟨k2 + 1, (o3 + c3) / 1000000000, _, by omega, by go_num, by go_num, by omega, HI3.out.carry hlt HO3.out (by omega), HB3.out.setCell (Nat.le_refl _) _⟩
       case measure => simp [intOf]; omega
  ·obtain rfl : i = n := by omega
   go_wp2
   go_ret
   have e := HI.out.sum
   rw [List.take_of_length_le (by rw [HN.out]; omega), HT.out] at e
   exact ⟨w.heap.size, L, rfl, HI.out.own, HI.out.len, HI.out.lim, by simpa using e, Nat.le_refl _, HB.out⟩
end Go.Proofs.YteionhenpehogaaGreatDoor
