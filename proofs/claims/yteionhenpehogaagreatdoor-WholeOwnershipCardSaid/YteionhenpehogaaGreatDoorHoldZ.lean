import Derived.Test.YteionhenpehogaaGreatDoorInts
import Derived.Test.YteionhenpehogaaGreatDoorPlainSS
import Derived.Test.YteionhenpehogaaGreatDoorIter
import Derived.RangeFuncNested
import Derived.RangeFuncBox
import Derived.RangeFuncBound
import Derived.RangeFuncCalls
import Derived.RangeFuncLeaves
import Derived.Shelf.Abstract
import Derived.Shelf.RegionOpen
import Derived.WalkKit
import Derived.OwnWalkIn
import Derived.TacticsInMore
import Derived.LoopNIn
import Derived.LoopIn
import Derived.Maps.RangeWalk
import Derived.Maps.OwnSet
import Derived.DeepKeys4
namespace Go.Proofs.YteionhenpehogaaGreatDoor
open Go.RowKit Go.Shelf Tally
attribute [local go_sem] Oper.semAt_some
def HoldR (w : World) (v : Value) (k : Nat) (H : Hds) : Prop :=
 ∃ (a : Option Addr) (b o c : Nat), v = .slice a k c ∧ k ≤ c ∧ c ≤ 9223372036854775807 ∧ k ≤ 1000000 ∧ (0 < k → a = some ⟨b, o, none⟩) ∧
  ∀ i, i < k → w.cell? ⟨b, o + i * 4, none⟩ = some (.int .i64 (H.ho i)) ∧ w.cell? ⟨b, o + i * 4 + 1, none⟩ = some (.int .i64 (H.en i)) ∧ w.cell? ⟨b, o + i * 4 + 2, none⟩ = some (.int .i64 (H.da i)) ∧ w.cell? ⟨b, o + i * 4 + 3, none⟩ = some (.int .i64 (H.sh i))
theorem HoldR.from {n₀ : Nat} {w w' : World} {v : Value} {k : Nat} {H : Hds} (hn : ∀ b, (∃ o u, w.cell? ⟨b, o, none⟩ = some u) → b < n₀) (h : HoldR w v k H) (hb : Below n₀ w w') : HoldR w' v k H := by
 obtain ⟨a, b, o, c, h1, h2, h3, h4, h5, h6⟩ := h
 refine ⟨a, b, o, c, h1, h2, h3, h4, h5, fun i hi => ?_⟩
 obtain ⟨q1, q2, q3, q4⟩ := h6 i hi
 have hl := hn b ⟨_, _, q1⟩
 exact ⟨(hb.cell (p := ⟨b, _, none⟩) hl).trans q1, (hb.cell (p := ⟨b, _, none⟩) hl).trans q2, (hb.cell (p := ⟨b, _, none⟩) hl).trans q3, (hb.cell (p := ⟨b, _, none⟩) hl).trans q4⟩
theorem HoldR.below {w w' : World} {v : Value} {k : Nat} {H : Hds} (h : HoldR w v k H) (hb : Below w.heap.size w w') : HoldR w' v k H :=
 h.from (fun _ ⟨_, _, q⟩ => World.block_lt_of_cell? _ _ q) hb
def mine (H : Hds) (h e : Int) : Nat → List Nat
 | 0 => []
 | k + 1 => if H.ho k = h ∧ H.en k = e then mine H h e k ++ [k] else mine H h e k
theorem mine_yes {H : Hds} {h e : Int} {k : Nat} (h1 : H.ho k = h) (h2 : H.en k = e) : mine H h e (k + 1) = mine H h e k ++ [k] := if_pos ⟨h1, h2⟩
theorem mine_no {H : Hds} {h e : Int} {k : Nat} (h1 : ¬ (H.ho k = h ∧ H.en k = e)) : mine H h e (k + 1) = mine H h e k := if_neg h1
theorem mine_len {H : Hds} {h e : Int} {k : Nat} : (mine H h e k).length ≤ k := by
 induction k with
 | zero => exact Nat.le_refl _
 | succ k ih =>
  unfold mine
  split
  ·simp; omega
  ·omega
def KpAt (n₀ B : Nat) (W W' : World) : Prop := Below n₀ W W' ∧ ∀ i, B ≤ i → i < B + 3 → i < W.heap.size → W'.heap[i]? = W.heap[i]?
theorem KpAt.refl (n₀ B : Nat) (W : World) : KpAt n₀ B W W := ⟨Below.refl _ _, fun _ _ _ _ => rfl⟩
theorem KpAt.trans {n₀ B : Nat} {X Y Z : World} (h : KpAt n₀ B X Y) (k : KpAt n₀ B Y Z) : KpAt n₀ B X Z :=
 ⟨h.1.trans k.1, fun i h1 h2 h3 => (k.2 i h1 h2 (Nat.lt_of_lt_of_le h3 h.1.size)).trans (h.2 i h1 h2 h3)⟩
theorem KpAt.drew {n₀ B : Nat} {X Y : World} (h : KpAt n₀ B X Y) : KpAt n₀ B X Y.drew := ⟨h.1.drew, h.2⟩
theorem KpAt.alloc {n₀ B : Nat} {X Y : World} (h : KpAt n₀ B X Y) (hn : n₀ ≤ Y.heap.size) (o : Obj) : KpAt n₀ B X (Y.alloc o) :=
 ⟨h.1.alloc hn o, fun i h1 h2 h3 => (Below.heap_alloc _ _ _ (Nat.lt_of_lt_of_le h3 h.1.size)).trans (h.2 i h1 h2 h3)⟩
theorem KpAt.set {n₀ B b : Nat} {X Y : World} (h : KpAt n₀ B X Y) (hn : n₀ ≤ b) (hb : b < B ∨ B + 3 ≤ b) (u : Value) : KpAt n₀ B X (Y.setCell ⟨b, 0, none⟩ u) :=
 ⟨h.1.setCell (p := ⟨b, 0, none⟩) hn u, fun i h1 h2 h3 => (Below.heap_setCell _ ⟨b, 0, none⟩ _ _ (by show i ≠ b; omega)).trans (h.2 i h1 h2 h3)⟩
theorem KpAt.cell {n₀ B i o : Nat} {X Y : World} {u : Value} (h : KpAt n₀ B X Y) (h1 : B ≤ i) (h2 : i < B + 3) (hc : X.cell? ⟨i, o, none⟩ = some u) : Y.cell? ⟨i, o, none⟩ = some u :=
 (World.cell?_of_block (w := X) (a := ⟨i, o, none⟩) (h.2 i h1 h2 (World.block_lt_of_cell? _ _ hc))).trans hc
theorem KpAt.put {n₀ B : Nat} {w : World} (hn : n₀ ≤ w.heap.size) (hB : B + 3 ≤ w.heap.size) (W : World) (l : Nat) (o o' : Obj) (hl : w.heap.size ≤ l) (h : W.heap[l]? = some o) (h1 : o.isCells = false) (h2 : o.isWalk = false) : KpAt n₀ B W (W.putObj l o') :=
 ⟨belowK_b hn W l o o' hl h h1 h2, fun i _ h3 _ => World.putObj_heap_other (by omega)⟩
set_option maxRecDepth 100000 in
set_option maxHeartbeats 2000000 in
theorem pair1_in (F : Fence) (n : Nat) (h7 : F.fn 163) (hro : F.round = none) (hn : 1 ≤ n) (l B n₀ : Nat) (v : Value) (h e : Int) (k : Nat) (H : Hds) (J Jx : List Nat → World → Prop)
  (hY : ∀ pre x W, J pre W → pre.length < k → YieldAt F (n - 1) Tryz.prog l #[(.agg #[.int .i64 (H.ho x), .int .i64 (H.en x), .int .i64 (H.da x), .int .i64 (H.sh x)])] W fun en W' =>
   (en = .returned (.bool true) ∧ J (pre ++ [x]) W' ∧ KpAt n₀ B W W') ∨ (en = .returned (.bool false) ∧ Jx (pre ++ [x]) W'))
  (hJ : ∀ pre W W', J pre W → W.grownBy W' none → J pre W')
  (W : World) (hnW : n₀ ≤ W.heap.size) (hc0 : W.cell? ⟨B, 0, none⟩ = some v) (hc1 : W.cell? ⟨B + 1, 0, none⟩ = some (.int .i64 h)) (hc2 : W.cell? ⟨B + 1 + 1, 0, none⟩ = some (.int .i64 e)) (hH : HoldR W v k H) (hHl : ∀ a m c, 0 < k → v = .slice (some a) m c → a.block < n₀) (h0 : J [] W) :
  CallsIn F n Tryz.prog 163 #[.func (.yield l) #[] #[], .pointer (some ⟨B, 0, none⟩), .pointer (some ⟨B + 1, 0, none⟩), .pointer (some ⟨B + 1 + 1, 0, none⟩)] W fun en W' => (∃ u, en = .returned u) ∧
   ((∃ ys, ys = mine H h e k ∧ J ys W') ∨ (∃ pre, True ∧ Jx pre W')) := by
 obtain ⟨a, b, o, c, rfl, h1, h2, h3, h4, h5⟩ := hH
 refine callsIn_of_wp Tryz.func163 rfl h7 ?_ hro
 simp only [Tryz.ntmps163, List.size_toArray, List.length_cons, List.length_nil, Nat.reduceAdd, Nat.reduceSub, Array.replicate_succ, Array.replicate_zero, List.push_toArray, List.append_toArray, List.nil_append, List.cons_append]
 gi_wp2
 have H5 := Lib.hid h5
 have HY := Lib.hid hY
 have HJ := Lib.hid hJ
 have HL := Lib.hid hHl
 clear h5 hY hJ hHl
 gi_loopw [9] (fun i wr => ∃ q : Nat, q ≤ k ∧ i = .int .i64 q ∧ J (mine H h e q) wr ∧ KpAt n₀ B W wr)
  (fun i _ => k - (intOf i).toNat)
 case atStart => exact ⟨0, Nat.zero_le _, rfl, h0, KpAt.refl _ _ _⟩
 case round =>
  obtain ⟨q, hq, rfl, hJs, hnx⟩ := hrel
  by_cases hlt : q < k
  ·have hqi : (q : Int) < (k : Int) := by omega
   obtain rfl := h4 (by omega)
   have hbl : b < n₀ := HL.out _ _ _ (by omega) rfl
   obtain ⟨x0, x1, x2, x3⟩ := H5.out q hlt
   have c0 := (hnx.1.cell (p := ⟨b, o + q * 4, none⟩) hbl).trans x0
   have c1 := (hnx.1.cell (p := ⟨b, o + q * 4 + 1, none⟩) hbl).trans x1
   have c2 := (hnx.1.cell (p := ⟨b, o + q * 4 + 2, none⟩) hbl).trans x2
   have c3 := (hnx.1.cell (p := ⟨b, o + q * 4 + 3, none⟩) hbl).trans x3
   have d1 := hnx.cell (by omega) (by omega) hc1
   have d2 := hnx.cell (by omega) (by omega) hc2
   have hws := hnx.1.size
   have hl1w : B + 1 < wr.heap.size := World.block_lt_of_cell? _ _ d1
   have hl2w : B + 1 + 1 < wr.heap.size := World.block_lt_of_cell? _ _ d2
   clear x0 x1 x2 x3
   by_cases t1 : H.ho q = h
   ·by_cases t2 : H.en q = e
    ·subst t1
     subst t2
     obtain ⟨fn, tmps, assign, body, hy, hR⟩ := HY.out _ q (wr.alloc (.cells #[.int .i64 (H.ho q), .int .i64 (H.en q), .int .i64 (H.da q), .int .i64 (H.sh q)] 24)) (HJ.out _ _ _ hJs (World.grownBy_alloc _ _ none)) (Nat.lt_of_le_of_lt mine_len hlt)
     clear hJs
     gi_wp2
     refine hR.mono ?_
     rintro en W3 (⟨rfl, hJ3, hk3⟩ | ⟨rfl, hJx3⟩)
     ·gi_wp2
      go_roundw
      case rel => exact ⟨q + 1, by omega, by simp, by rw [mine_yes rfl rfl]; exact hJ3, (hnx.alloc (by omega) _).trans hk3⟩
      case measure => simp [intOf]; omega
     ·gi_wp2
      refine bodyPost_ret (results_none rfl _ _ _) rfl ?_
      exact ⟨⟨_, rfl⟩, .inr ⟨_, trivial, hJx3⟩⟩
    ·have J2 := HJ.out _ _ (wr.alloc (.cells #[.int .i64 (H.ho q), .int .i64 (H.en q), .int .i64 (H.da q), .int .i64 (H.sh q)] 24)) hJs (World.grownBy_alloc _ _ none)
     subst t1
     gi_wp2
     refine ⟨fun _ h => (by cases h), ?_⟩
     gi_wp2
     go_roundw
     case rel => exact ⟨q + 1, by omega, by simp, by rw [mine_no (fun z => t2 z.2)]; exact J2, hnx.alloc (by omega) _⟩
     case measure => simp [intOf]; omega
   ·have J2 := HJ.out _ _ (wr.alloc (.cells #[.int .i64 (H.ho q), .int .i64 (H.en q), .int .i64 (H.da q), .int .i64 (H.sh q)] 24)) hJs (World.grownBy_alloc _ _ none)
    gi_wp2
    refine ⟨fun _ h => (by cases h), ?_⟩
    gi_wp2
    go_roundw
    case rel => exact ⟨q + 1, by omega, by simp, by rw [mine_no (fun z => t1 z.1)]; exact J2, hnx.alloc (by omega) _⟩
    case measure => simp [intOf]; omega
  ·obtain rfl : q = k := by omega
   gi_wp2
   go_end0
   exact ⟨⟨_, rfl⟩, .inl ⟨_, rfl, hJs⟩⟩
theorem pair_stops (F : Fence) (n : Nat) (h7 : F.fn 163) (hro : F.round = none) (hn : 1 ≤ n) (B n₀ : Nat) (v : Value) (h e : Int) (k : Nat) (H : Hds)
  (w : World) (hnW : n₀ ≤ w.heap.size) (hc0 : w.cell? ⟨B, 0, none⟩ = some v) (hc1 : w.cell? ⟨B + 1, 0, none⟩ = some (.int .i64 h)) (hc2 : w.cell? ⟨B + 1 + 1, 0, none⟩ = some (.int .i64 e)) (hH : HoldR w v k H) (hHl : ∀ a m c, 0 < k → v = .slice (some a) m c → a.block < n₀) :
  SeqStopsK F n Tryz.prog 163 #[.pointer (some ⟨B, 0, none⟩), .pointer (some ⟨B + 1, 0, none⟩), .pointer (some ⟨B + 1 + 1, 0, none⟩)] (fun x : Nat => #[(.agg #[.int .i64 (H.ho x), .int .i64 (H.en x), .int .i64 (H.da x), .int .i64 (H.sh x)])]) (KpAt n₀ B) (fun ys => ys = mine H h e k) (fun _ => True) k w := fun l J Jx W hW hJ _ hY h0 =>
 pair1_in F n h7 hro hn l B n₀ v h e k H J Jx hY (fun pre A C hj hg => hJ pre A C none hj hg (fun r q => by cases q)) W (Nat.le_trans hnW hW.size) (keepc hW hc0) (keepc hW hc1) (keepc hW hc2) (hH.below hW) hHl h0
theorem pair_in (F : Fence) (n : Nat) (h5 : F.fn 139) (hro : F.round = none) (v : Value) (a : Option Addr) (k c : Nat) (hv : v = .slice a k c) (h e : Int) (w : World) :
  CallsIn F n Tryz.prog 139 #[v, .int .i64 h, .int .i64 e] w fun en w' => en = .returned (.func (.func 163) #[] #[.pointer (some ⟨w.heap.size, 0, none⟩), .pointer (some ⟨w.heap.size + 1, 0, none⟩), .pointer (some ⟨w.heap.size + 1 + 1, 0, none⟩)]) ∧
   w' = ((w.alloc (.cells #[v] 22)).alloc (.cells #[.int .i64 h] 3)).alloc (.cells #[.int .i64 e] 3) := by
 subst hv
 refine callsIn_of_wp Tryz.func139 rfl h5 ?_ hro
 simp only [Tryz.ntmps139, List.size_toArray, List.length_cons, List.length_nil, Nat.reduceAdd, Nat.reduceSub, Array.replicate_succ, Array.replicate_zero, List.push_toArray, List.append_toArray, List.nil_append, List.cons_append]
 gi_wp2
 go_ret
 exact ⟨rfl, rfl⟩
end Go.Proofs.YteionhenpehogaaGreatDoor
namespace Go.Proofs.YteionhenpehogaaGreatDoor
open Go.RowKit Go.Shelf Tally
attribute [local go_sem] Oper.semAt_some
def bestOf (H : Hds) (day : Int) (b : Option Nat) (i : Nat) : Option Nat := if H.da i ≤ day then (match b with
 | none => some i
 | some j => if H.da j < H.da i then some i else some j) else b
def bests (H : Hds) (day : Int) (l : List Nat) : Option Nat := l.foldl (bestOf H day) none
theorem bests_snoc (H : Hds) (day : Int) (l : List Nat) (i : Nat) : bests H day (l ++ [i]) = bestOf H day (bests H day l) i := by simp [bests]
theorem bests_mine (H : Hds) (h e day : Int) (k : Nat) : bests H day (mine H h e k) = H.best h e day k := by
 induction k with
 | zero => rfl
 | succ k ih =>
  unfold mine Hds.best
  by_cases q : H.ho k = h ∧ H.en k = e
  ·rw [if_pos q, bests_snoc, ih]
   unfold bestOf
   by_cases z : H.da k ≤ day
   ·rw [if_pos z, if_pos (show H.hits h e day k from ⟨q.1, q.2, z⟩)]
    cases H.best h e day k <;> rfl
   ·rw [if_neg z, if_neg (show ¬ H.hits h e day k from fun y => z y.2.2)]
  ·rw [if_neg q, if_neg (show ¬ H.hits h e day k from fun y => q ⟨y.1, y.2.1⟩), ih]
def bSh (H : Hds) : Option Nat → Int
 | none => 0
 | some j => H.sh j
def bDa (H : Hds) : Option Nat → Int
 | none => 0
 | some j => H.da j
theorem at_best (H : Hds) (h e day : Int) (k : Nat) : H.at h e day k = bSh H (H.best h e day k) := by
 unfold Hds.at bSh
 cases H.best h e day k <;> rfl
theorem alloc7 (w : World) (oa ob oc od oe of og : Obj) : ∃ W, W = ((((((w.alloc oa).alloc ob).alloc oc).alloc od).alloc oe).alloc of).alloc og ∧ W.heap.size = w.heap.size + 1 + 1 + 1 + 1 + 1 + 1 + 1 ∧ Below w.heap.size w W ∧ W.heap[w.heap.size]? = some oa ∧ W.heap[w.heap.size + 1]? = some ob ∧ W.heap[w.heap.size + 1 + 1]? = some oc ∧ W.heap[w.heap.size + 1 + 1 + 1]? = some od ∧ W.heap[w.heap.size + 1 + 1 + 1 + 1]? = some oe ∧ W.heap[w.heap.size + 1 + 1 + 1 + 1 + 1]? = some of ∧ W.heap[w.heap.size + 1 + 1 + 1 + 1 + 1 + 1]? = some og := by
 have q0 := World.alloc_heap_new w oa
 have q1 := World.alloc_heap_new (w.alloc oa) ob
 have q2 := World.alloc_heap_new ((w.alloc oa).alloc ob) oc
 have q3 := World.alloc_heap_new (((w.alloc oa).alloc ob).alloc oc) od
 have q4 := World.alloc_heap_new ((((w.alloc oa).alloc ob).alloc oc).alloc od) oe
 have q5 := World.alloc_heap_new (((((w.alloc oa).alloc ob).alloc oc).alloc od).alloc oe) of
 have q6 := World.alloc_heap_new ((((((w.alloc oa).alloc ob).alloc oc).alloc od).alloc oe).alloc of) og
 simp only [World.size_alloc] at q1 q2 q3 q4 q5 q6
 exact ⟨_, rfl, by simp, (((((((Below.refl _ w).alloc (Nat.le_refl _) _).alloc (by simp) _).alloc (by simp <;> omega) _).alloc (by simp <;> omega) _).alloc (by simp <;> omega) _).alloc (by simp <;> omega) _).alloc (by simp <;> omega) _, ((Below.heap_alloc _ _ _ (by simp <;> omega)).trans ((Below.heap_alloc _ _ _ (by simp <;> omega)).trans ((Below.heap_alloc _ _ _ (by simp <;> omega)).trans ((Below.heap_alloc _ _ _ (by simp <;> omega)).trans ((Below.heap_alloc _ _ _ (by simp <;> omega)).trans ((Below.heap_alloc _ _ _ (by simp <;> omega)).trans q0)))))), ((Below.heap_alloc _ _ _ (by simp <;> omega)).trans ((Below.heap_alloc _ _ _ (by simp <;> omega)).trans ((Below.heap_alloc _ _ _ (by simp <;> omega)).trans ((Below.heap_alloc _ _ _ (by simp <;> omega)).trans ((Below.heap_alloc _ _ _ (by simp <;> omega)).trans q1))))), ((Below.heap_alloc _ _ _ (by simp <;> omega)).trans ((Below.heap_alloc _ _ _ (by simp <;> omega)).trans ((Below.heap_alloc _ _ _ (by simp <;> omega)).trans ((Below.heap_alloc _ _ _ (by simp <;> omega)).trans q2)))), ((Below.heap_alloc _ _ _ (by simp <;> omega)).trans ((Below.heap_alloc _ _ _ (by simp <;> omega)).trans ((Below.heap_alloc _ _ _ (by simp <;> omega)).trans q3))), ((Below.heap_alloc _ _ _ (by simp <;> omega)).trans ((Below.heap_alloc _ _ _ (by simp <;> omega)).trans q4)), ((Below.heap_alloc _ _ _ (by simp <;> omega)).trans q5), q6⟩
theorem blk_own {β : Type} (B : Nat) (cs : Array Value) (t : TypeId) (fr : Nat × Nat) : Go.Own (β := β) (fun _ W => W.heap[B]? = some (Obj.cells cs t fr)) := fun _ X Y row hs hg hrow =>
 (hg.block B (Array.getElem?_eq_some_iff.1 hs).1 (fun e => by
  obtain ⟨o, ho, hc⟩ := hrow B e.symm
  rw [hs] at ho
  cases ho
  simp [Obj.isCells] at hc)).trans hs
theorem cells4 {w : World} {b : Nat} {x0 x1 x2 x3 : Value} {T : TypeId} (h : w.heap[b]? = some (.cells #[x0, x1, x2, x3] T (0, 0))) :
  w.cell? ⟨b, 0, none⟩ = some x0 ∧ w.cell? ⟨b, 1, none⟩ = some x1 ∧ w.cell? ⟨b, 2, none⟩ = some x2 ∧ w.cell? ⟨b, 3, none⟩ = some x3 := by
 refine ⟨?_, ?_, ?_, ?_⟩ <;> simp [World.cell?, h]
set_option maxRecDepth 100000 in
set_option maxHeartbeats 4000000 in
theorem at_in {w : World} {v : Value} {k : Nat} {H : Hds} {h e day : Int} (hH : HoldR w v k H) :
  CallsIn Fence.wide 6 Tryz.prog 97 #[v, .int .i64 h, .int .i64 e, .int .i64 day] w fun en w' => en = .returned (.int .i64 (H.at h e day k)) ∧ Below w.heap.size w w' := by
 have hl : ∀ a m c, 0 < k → v = .slice (some a) m c → a.block < w.heap.size := by
  intro a' m c' hk e
  obtain ⟨a, b, o, c, h1, _, _, _, h5, h6⟩ := hH
  have h7 := h5 hk
  rw [h1, h7] at e
  injection e with e1 e2 e3
  injection e1 with e1
  rw [← e1]
  exact World.block_lt_of_cell? _ _ (h6 0 hk).1
 obtain ⟨a, c, rfl⟩ : ∃ a c, v = .slice a k c := by obtain ⟨a, b, o, c, h1, _⟩ := hH; exact ⟨a, c, h1⟩
 have h5 : Fence.wide.fn 139 := trivial
 have h7 : Fence.wide.fn 163 := trivial
 have hro : Fence.wide.round = none := rfl
 have HH := Lib.hid hH
 have HL := Lib.hid hl
 clear hH hl
 refine callsIn_of_wp_marks Tryz.func97 rfl trivial ?_ hro
 simp only [Tryz.ntmps97, List.size_toArray, List.length_cons, List.length_nil, Nat.reduceAdd, Nat.reduceSub, Array.replicate_succ, Array.replicate_zero, List.push_toArray, List.append_toArray, List.nil_append, List.cons_append]
 gi_wp2_with (gi_at_call 139; refine (pair_in Fence.wide 5 h5 hro _ a k c rfl _ _ _).mono ?_; rintro en w' ⟨rfl, rfl⟩)
 obtain ⟨W0, hW0, hsz, hb0, q0, q1, q2, q3, q4, q5, q6⟩ := alloc7 w (.cells #[.int .i64 day] 3) (.cells #[.int .i64 0] 3) (.cells #[.int .i64 0] 3) (.cells #[.bool false] 4) (.cells #[.slice a k c] 22) (.cells #[.int .i64 h] 3) (.cells #[.int .i64 e] 3)
 rw [← hW0]
 clear hW0
 refine wpIn_rangeFunc_ownH (encs := fun x : Nat => #[(.agg #[.int .i64 (H.ho x), .int .i64 (H.en x), .int .i64 (H.da x), .int .i64 (H.sh x)])]) hro (by omega) (gf := 163) (lb := #[.pointer (some ⟨w.heap.size + 1 + 1 + 1 + 1, 0, none⟩), .pointer (some ⟨w.heap.size + 1 + 1 + 1 + 1 + 1, 0, none⟩), .pointer (some ⟨w.heap.size + 1 + 1 + 1 + 1 + 1 + 1, 0, none⟩)]) rfl h7 (enters_of Tryz.func163 (by kernel_rfl) rfl)
  (pair_stops Fence.wide _ h7 hro (by omega) (w.heap.size + 1 + 1 + 1 + 1) w.heap.size (.slice a k c) h e k H W0 (by omega) (Boxed.cell (t := 22) q4) (Boxed.cell (t := 3) q5) (Boxed.cell (t := 3) q6) (HH.out.below hb0) HL.out) KpAt.trans (KpAt.put (by omega) (by omega)) (Below.refl _ _) (fun _ => rfl)
  (fun pre W => ((Boxed W (w.heap.size + 1) 3 (.int .i64 (bSh H (bests H day pre))) ∧ Boxed W (w.heap.size + 1 + 1) 3 (.int .i64 (bDa H (bests H day pre))) ∧ Boxed W (w.heap.size + 1 + 1 + 1) 4 (.bool (bests H day pre).isSome)) ∧ Boxed W w.heap.size 3 (.int .i64 day) ∧ w.heap.size + 1 + 1 + 1 + 1 + 1 + 1 + 1 ≤ W.heap.size) ∧ Below w.heap.size w W)
  (fun _ _ _ => False)
  (OwnFrom.and (OwnFrom.and (OwnFrom.and (Own.from (boxed_own _ _ _) _) (OwnFrom.and (Own.from (boxed_own _ _ _) _) (Own.from (boxed_own _ _ _) _))) (OwnFrom.and (Own.from (boxed_own _ _ _) _) (fun _ _ _ _ hs hg _ => Nat.le_trans hs hg.size))) (ownFrom_below (Nat.le_refl _) (by omega)))
  (fun _ _ _ _ _ hs _ _ => hs)
  ⟨⟨⟨q1, q2, q3⟩, q0, by omega⟩, hb0⟩
  (fun x a' W => ∃ Bx, w.heap.size + 1 + 1 + 1 + 1 + 3 ≤ Bx ∧ W.heap[Bx]? = some (.cells #[.int .i64 (H.ho x), .int .i64 (H.en x), .int .i64 (H.da x), .int .i64 (H.sh x)] 24 (0, 0)) ∧ a' = { tmps := #[.slice a k c, .int .i64 h, .int .i64 e, .int .i64 day, undef, undef, undef, .pointer (some ⟨w.heap.size, 0, none⟩), .int .i64 0, .pointer (some ⟨w.heap.size + 1, 0, none⟩), .pointer (some ⟨w.heap.size + 1 + 1, 0, none⟩), .pointer (some ⟨w.heap.size + 1 + 1 + 1, 0, none⟩), .pointer (some ⟨Bx, 0, none⟩), .slice a k c, .int .i64 h, .int .i64 e, .func (.func 163) #[] #[.pointer (some ⟨w.heap.size + 1 + 1 + 1 + 1, 0, none⟩), .pointer (some ⟨w.heap.size + 1 + 1 + 1 + 1 + 1, 0, none⟩), .pointer (some ⟨w.heap.size + 1 + 1 + 1 + 1 + 1 + 1, 0, none⟩)], (.agg #[.int .i64 (H.ho x), .int .i64 (H.en x), .int .i64 (H.da x), .int .i64 (H.sh x)]), undef, undef, undef, undef, undef, undef, undef, undef, undef, undef, undef, undef, undef, undef, undef, undef, undef, undef, undef], defers := [] })
  (fun x a' _ X Y row hs hg hr => by obtain ⟨Bx, h1, h2, h3⟩ := hs; exact ⟨Bx, h1, blk_own (β := Unit) Bx _ _ _ () X Y row h2 hg (fun r e => (hr r e).2), h3⟩)
  ?assign ?body ?done ?stop
 case assign =>
  rintro l pre x W K ⟨⟨⟨bS, bD, bF⟩, bY, hZ⟩, hB⟩ hK
  gi_wp2
  have hsw := hB.size
  exact hK _ _ ((KeepsOthers.alloc _ _).from _) ((KpAt.refl _ _ W).alloc hsw _) ⟨⟨⟨bS.alloc _, bD.alloc _, bF.alloc _⟩, bY.alloc _, by simp; omega⟩, hB.alloc hsw _⟩ ⟨W.heap.size, by omega, World.alloc_heap_new W _, rfl⟩
 case body =>
  rintro l pre x a' W hl ⟨r, hr⟩ ⟨⟨⟨bS, bD, bF⟩, bY, hZ⟩, hB⟩ ⟨Bx, hBx, bX, rfl⟩ hlt
  obtain ⟨c0, c1, c2, c3⟩ := cells4 bX
  have cY := bY.cell
  have cS := bS.cell
  have cD := bD.cell
  have cF := bF.cell
  have fS := bS.frozen
  have fD := bD.frozen
  have fF := bF.frozen
  have hsn := bests_snoc H day pre x
  have hmx : Tryz.prog.follows .mixedOrders = true := by kernel_rfl
  have fin : bests H day (pre ++ [x]) = some x → KeepsFrom W0.heap.size W ((((W.setCell ⟨w.heap.size + 1, 0, none⟩ (.int .i64 (H.sh x))).setCell ⟨w.heap.size + 1 + 1, 0, none⟩ (.int .i64 (H.da x))).setCell ⟨w.heap.size + 1 + 1 + 1, 0, none⟩ (.bool true)).drew) ∧ KpAt w.heap.size (w.heap.size + 1 + 1 + 1 + 1) W ((((W.setCell ⟨w.heap.size + 1, 0, none⟩ (.int .i64 (H.sh x))).setCell ⟨w.heap.size + 1 + 1, 0, none⟩ (.int .i64 (H.da x))).setCell ⟨w.heap.size + 1 + 1 + 1, 0, none⟩ (.bool true)).drew) ∧ ((Boxed ((((W.setCell ⟨w.heap.size + 1, 0, none⟩ (.int .i64 (H.sh x))).setCell ⟨w.heap.size + 1 + 1, 0, none⟩ (.int .i64 (H.da x))).setCell ⟨w.heap.size + 1 + 1 + 1, 0, none⟩ (.bool true)).drew) (w.heap.size + 1) 3 (.int .i64 (bSh H (bests H day (pre ++ [x])))) ∧ Boxed ((((W.setCell ⟨w.heap.size + 1, 0, none⟩ (.int .i64 (H.sh x))).setCell ⟨w.heap.size + 1 + 1, 0, none⟩ (.int .i64 (H.da x))).setCell ⟨w.heap.size + 1 + 1 + 1, 0, none⟩ (.bool true)).drew) (w.heap.size + 1 + 1) 3 (.int .i64 (bDa H (bests H day (pre ++ [x])))) ∧ Boxed ((((W.setCell ⟨w.heap.size + 1, 0, none⟩ (.int .i64 (H.sh x))).setCell ⟨w.heap.size + 1 + 1, 0, none⟩ (.int .i64 (H.da x))).setCell ⟨w.heap.size + 1 + 1 + 1, 0, none⟩ (.bool true)).drew) (w.heap.size + 1 + 1 + 1) 4 (.bool (bests H day (pre ++ [x])).isSome)) ∧ Boxed ((((W.setCell ⟨w.heap.size + 1, 0, none⟩ (.int .i64 (H.sh x))).setCell ⟨w.heap.size + 1 + 1, 0, none⟩ (.int .i64 (H.da x))).setCell ⟨w.heap.size + 1 + 1 + 1, 0, none⟩ (.bool true)).drew) w.heap.size 3 (.int .i64 day) ∧ w.heap.size + 1 + 1 + 1 + 1 + 1 + 1 + 1 ≤ ((((W.setCell ⟨w.heap.size + 1, 0, none⟩ (.int .i64 (H.sh x))).setCell ⟨w.heap.size + 1 + 1, 0, none⟩ (.int .i64 (H.da x))).setCell ⟨w.heap.size + 1 + 1 + 1, 0, none⟩ (.bool true)).drew).heap.size) ∧ Below w.heap.size w ((((W.setCell ⟨w.heap.size + 1, 0, none⟩ (.int .i64 (H.sh x))).setCell ⟨w.heap.size + 1 + 1, 0, none⟩ (.int .i64 (H.da x))).setCell ⟨w.heap.size + 1 + 1 + 1, 0, none⟩ (.bool true)).drew) := fun e1 => by
   rw [e1]
   have hk : KpAt w.heap.size (w.heap.size + 1 + 1 + 1 + 1) W (((W.setCell ⟨w.heap.size + 1, 0, none⟩ (.int .i64 (H.sh x))).setCell ⟨w.heap.size + 1 + 1, 0, none⟩ (.int .i64 (H.da x))).setCell ⟨w.heap.size + 1 + 1 + 1, 0, none⟩ (.bool true)) := ((((KpAt.refl _ _ W).set (by omega) (by omega) _).set (by omega) (by omega) _).set (by omega) (by omega) _)
   have hw : Below w.heap.size w (((W.setCell ⟨w.heap.size + 1, 0, none⟩ (.int .i64 (H.sh x))).setCell ⟨w.heap.size + 1 + 1, 0, none⟩ (.int .i64 (H.da x))).setCell ⟨w.heap.size + 1 + 1 + 1, 0, none⟩ (.bool true)) := (((hB.setCell (p := ⟨w.heap.size + 1, 0, none⟩) (by simp <;> omega) _).setCell (p := ⟨w.heap.size + 1 + 1, 0, none⟩) (by simp <;> omega) _).setCell (p := ⟨w.heap.size + 1 + 1 + 1, 0, none⟩) (by simp <;> omega) _)
   exact ⟨((((KeepsOthers.setCell _ _ _).trans (KeepsOthers.setCell _ _ _)).trans (KeepsOthers.setCell _ _ _)).trans (KeepsOthers.drew _)).from _, hk.drew,
    ⟨⟨(((bS.set _).other (by omega) _).other (by omega) _), (((bD.other (by omega) _).set _).other (by omega) _), (((bF.other (by omega) _).other (by omega) _).set _)⟩, (((bY.other (by omega) _).other (by omega) _).other (by omega) _), by simpa [World.drew, World.setCell] using hZ⟩, hw.drew⟩
  have FIN := Lib.hid fin
  clear fin
  by_cases t1 : H.da x ≤ day
  ·cases hb : bests H day pre with
   | none =>
    rw [hb] at cD cF hsn
    have e1 := Lib.hid (FIN.out (by rw [hsn]; unfold bestOf; rw [if_pos t1]))
    simp only [bDa, Option.isSome] at cD cF
    clear FIN hsn hb
    gi_wp2
    gi_region_with_o (fail)
    all_goals exact e1.out
   | some j =>
    rw [hb] at cD cF hsn
    simp only [bDa, Option.isSome] at cD cF
    by_cases t2 : H.da j < H.da x
    ·have e1 := Lib.hid (FIN.out (by rw [hsn]; unfold bestOf; rw [if_pos t1]; exact if_pos t2))
     clear FIN hsn hb
     gi_wp2
     gi_region_with_o (fail)
     all_goals exact e1.out
    ·have e1 : bests H day (pre ++ [x]) = bests H day pre := by rw [hsn, hb]; unfold bestOf; rw [if_pos t1]; exact if_neg t2
     have E1 := Lib.hid e1
     clear FIN hsn hb e1
     gi_wp2
     exact ⟨KeepsFrom.refl _ _, KpAt.refl _ _ _, ⟨⟨by rw [E1.out]; exact bS, by rw [E1.out]; exact bD, by rw [E1.out]; exact bF⟩, bY, hZ⟩, hB⟩
  ·have e1 : bests H day (pre ++ [x]) = bests H day pre := by rw [hsn]; unfold bestOf; rw [if_neg t1]
   gi_wp2
   exact ⟨KeepsFrom.refl _ _, KpAt.refl _ _ _, ⟨⟨by rw [e1]; exact bS, by rw [e1]; exact bD, by rw [e1]; exact bF⟩, bY, hZ⟩, hB⟩
 case done =>
  rintro D zs W hD rfl ⟨⟨⟨bS, bD, bF⟩, bY, hZ⟩, hB⟩ hK
  have cS := bS.cell
  gi_wp2
  refine ⟨by simp, .inl ⟨_, _, rfl, run_takeDeferred hK, ?_⟩⟩
  exact ⟨_, results_tmp rfl _ _ _, by rw [at_best, ← bests_mine]; rfl, hB.trans (belowK_b (w := w) (Nat.le_refl _) W D _ _ (by omega) hK rfl rfl)⟩
 case stop =>
  rintro D c pre W _ _ h _
  exact h.elim
theorem at_any {w : World} {v : Value} {k : Nat} {H : Hds} {h e day : Int} (hH : HoldR w v k H) :
  Calls Tryz.prog 97 #[v, .int .i64 h, .int .i64 e, .int .i64 day] w fun en w' => en = .returned (.int .i64 (H.at h e day k)) ∧ Below w.heap.size w w' :=
 (callsIn_wide (n := 6)).1 (at_in hH)
end Go.Proofs.YteionhenpehogaaGreatDoor
namespace Go.Proofs.YteionhenpehogaaGreatDoor
open Go.RowKit Go.Maps Tally
def setD (f : Nat → Lit) : Nat → DataW Unit
 | 0 => .map []
 | n + 1 => (setD f n).put (f n) (.lit (.bool true))
theorem setD_tidy {f : Nat → Lit} (n : Nat) : IsMap (setD f n) := by
 induction n with
 | zero => exact ⟨_, rfl⟩
 | succ n ih =>
  obtain ⟨es, he⟩ := ih
  exact ⟨_, by unfold setD; rw [he]; rfl⟩
theorem setD_has {f : Nat → Lit} (hk : ∀ i, WideAt.IsKeyLit (f i)) {n : Nat} {k : Lit} : Maps.has (setD f n) k = true ↔ ∃ i, i < n ∧ f i = k := by
 induction n with
 | zero => exact ⟨fun h => (by cases h), fun ⟨_, h, _⟩ => absurd h (Nat.not_lt_zero _)⟩
 | succ n ih =>
  unfold setD
  by_cases e : k = f n
  ·subst e
   rw [Maps.has_put_same (setD_tidy n) (hk n)]
   exact ⟨fun _ => ⟨n, by omega, rfl⟩, fun _ => rfl⟩
  ·rw [Maps.has_put_other e, ih]
   constructor
   ·rintro ⟨i, h1, h2⟩; exact ⟨i, by omega, h2⟩
   ·rintro ⟨i, h1, h2⟩
    by_cases q : i = n
    ·subst q; exact absurd h2.symm e
    ·exact ⟨i, by omega, h2⟩
theorem setD_at {f : Nat → Lit} (hk : ∀ i, WideAt.IsKeyLit (f i)) {n : Nat} {k : Lit} : (setD f n).atKey k (.lit (.bool false)) = .lit (.bool (Maps.has (setD f n) k)) := by
 induction n with
 | zero => rfl
 | succ n ih =>
  unfold setD
  by_cases e : k = f n
  ·subst e
   rw [Maps.has_put_same (setD_tidy n) (hk n), Maps.atKey_put_same (setD_tidy n) (hk n)]
  ·rw [Maps.has_put_other e, Maps.atKey_put_other e, ih]
theorem plainElem_bool_inv {P : Program} {e : TypeId} (he : P.underlying e = some .bool) {v : Value} {z : DataW Unit × List MemPlace} (h : plainElem P e v = some z) : ∃ a, v = .bool a ∧ z = (.lit (.bool a), []) := by
 unfold plainElem at h
 rw [he] at h
 cases v <;> simp at h
 subst h
 exact ⟨_, rfl, rfl⟩
def ik (x : Int) : Lit := .int .i64 x
theorem ik_inj {x y : Int} (h : ik x = ik y) : x = y := by unfold ik at h; injection h
theorem ik_key (x : Int) : WideAt.IsKeyLit (ik x) := trivial
theorem ik_same (x y : Int) : (ik x).sameKey (ik y) = decide (x = y) := by
 by_cases e : x = y
 ·subst e; rw [WideAt.sameKey_self (ik_key x)]; simp
 ·have : (ik x).sameKey (ik y) = false := by
   cases h : (ik x).sameKey (ik y)
   ·rfl
   ·exact absurd (ik_inj (WideAt.sameKey_eq h)) e
  rw [this]; simp [e]
end Go.Proofs.YteionhenpehogaaGreatDoor
namespace Go.Proofs.YteionhenpehogaaGreatDoor
open Go.RowKit Go.Maps Go.Sort Go.Shelf Tally
theorem sorts_in (m : Nat) : AnyZI.SortsIn Tryz.prog Tryz.sortedA_ren Fence.wide m :=
 ⟨fun blk off cap ss W hH hblk hsz => callsIn_wide.2 (AnyM.slices_Sort_int Tryz.sortA blk off cap ss W hH hblk hsz),
  fun p cap W => callsIn_wide.2 (AnyM.slices_Sort_int_none Tryz.sortA p cap W)⟩
theorem keys_any (mb : Option Nat) (W : World) : Calls Tryz.prog 154 #[.map mb] W fun e w' => e = .returned (.func (.func 175) #[] #[.pointer (some ⟨W.heap.size, 0, none⟩)]) ∧ w' = W.alloc (.cells #[.map mb] 214) :=
 callsIn_wide.1 (AnyZI.keys_in Tryz.keysA Fence.wide 5 trivial rfl mb W)
theorem sorted_any {R : Value → Option (DataW Unit × List MemPlace)} {b nn : Nat} {D0 : DataW Unit} {w : World} (hown : w.ownsMap Tryz.prog 3 R b nn D0) (hmax : Maps.size D0 ≤ maxLen) (hbytes : Maps.size D0 * 8 ≤ 140737488355328) :
  Calls Tryz.prog 153 #[.func (.func 175) #[] #[.pointer (some ⟨w.heap.size, 0, none⟩)]] (w.alloc (.cells #[.map (some b)] 214)) fun e w' => ∃ (v : Value) (ss : List Int), e = .returned v ∧ ss.Perm (intKeys D0) ∧
   w'.ownsRow (w.alloc (.cells #[.map (some b)] 214)).heap.size 3 1 v ss.length ((ss.mergeSort (fun x y => decide (x ≤ y))).map encZ) ∧ (v = .slice none 0 0 ↔ ss = []) ∧ Below (w.alloc (.cells #[.map (some b)] 214)).heap.size (w.alloc (.cells #[.map (some b)] 214)) w' := by
 have hbl := hown.lt
 have hseq : SeqGives Fence.wide 2 Tryz.prog 175 #[.pointer (some ⟨w.heap.size, 0, none⟩)] encZ (fun ss => ss.Perm (intKeys D0)) (Maps.size D0) (w.alloc (.cells #[.map (some b)] 214)) :=
  AnyZI.keys_gives (ρ := Tryz.keysA_ren) { Tryz.keysA with } Fence.wide _ trivial rfl (by omega) w.heap.size b nn D0 _ (by simp) (by simp) (by
   obtain ⟨es, clock, hb, Ft, hs, hD⟩ := hown
   exact ⟨es, clock, (Below.heap_alloc _ _ b hbl).trans hb, Ft, hs, hD⟩)
 have cS := AnyZI.sorted_in Tryz.sortedA Fence.wide 5 trivial trivial trivial trivial rfl (by omega) (sorts_in _) (enters_of Tryz.func174 (by kernel_rfl) rfl) 175 #[.pointer (some ⟨w.heap.size, 0, none⟩)] trivial (enters_of Tryz.func175 (by kernel_rfl) rfl) _ _ hmax hbytes _ hseq
 change CallsIn _ _ Tryz.prog 153 _ _ _ at cS
 exact callsIn_wide.1 cS
theorem setD_entries (f : Nat → Int) (n : Nat) : ∃ es, setD (fun i => ik (f i)) n = .map es ∧ (∀ p ∈ es, ∃ i, i < n ∧ p.1 = ik (f i)) ∧ ∀ i, i < n → ∃ p ∈ es, p.1 = ik (f i) := by
 induction n with
 | zero => exact ⟨[], rfl, fun p hp => (by cases hp), fun i hi => absurd hi (Nat.not_lt_zero _)⟩
 | succ n ih =>
  obtain ⟨es, h1, h2, h3⟩ := ih
  refine ⟨DataW.insert (ik (f n), .lit (.bool true)) (es.filter fun p => !p.1.sameKey (ik (f n))), by unfold setD; rw [h1]; rfl, fun p hp => ?_, fun i hi => ?_⟩
  ·rcases ChangeMaps.mem_insert_iff.1 hp with rfl | hp
   ·exact ⟨n, by omega, rfl⟩
   ·obtain ⟨i, hi, e⟩ := h2 p (List.mem_filter.1 hp).1
    exact ⟨i, by omega, e⟩
  ·by_cases e : f i = f n
   ·exact ⟨_, ChangeMaps.mem_insert_iff.2 (.inl rfl), by rw [e]⟩
   ·have hin : i < n := by
     by_cases q : i = n
     ·subst q; exact absurd rfl e
     ·omega
    obtain ⟨p, hp, hpe⟩ := h3 i hin
    refine ⟨p, ChangeMaps.mem_insert_iff.2 (.inr (List.mem_filter.2 ⟨hp, ?_⟩)), hpe⟩
    rw [hpe, ik_same, decide_eq_false e]; rfl
theorem mem_keys (f : Nat → Int) (n : Nat) (x : Int) : x ∈ intKeys (setD (fun i => ik (f i)) n) ↔ ∃ i, i < n ∧ f i = x := by
 obtain ⟨es, h1, h2, h3⟩ := setD_entries f n
 rw [h1]
 show x ∈ es.map (fun p => Go.intOf p.1) ↔ _
 rw [List.mem_map]
 constructor
 ·rintro ⟨p, hp, rfl⟩
  obtain ⟨i, hi, e⟩ := h2 p hp
  exact ⟨i, hi, by rw [e]; rfl⟩
 ·rintro ⟨i, hi, rfl⟩
  obtain ⟨p, hp, e⟩ := h3 i hi
  exact ⟨p, hp, by rw [e]; rfl⟩
theorem rowR_of_owns {w : World} {base n : Nat} {t : TypeId} {v : Value} {xs : List Value} (h : w.ownsRow base t 1 v n xs) : RowR w v n (fun i => xs.getD i undef) := by
 obtain ⟨h1, h2⟩ := h
 rcases h2 with ⟨rfl, h0⟩ | ⟨g, cap, cur, rfl, _, hh, hc, hcm, hs, ht⟩
 ·exact ⟨none, 0, 0, 0, by rw [h0], by omega, by omega, fun h => by omega, fun i hi => by omega⟩
 ·refine ⟨some ⟨g, 0, none⟩, g, 0, cap, rfl, by omega, by unfold maxLen at hcm; omega, fun _ => rfl, fun i hi => ?_⟩
  rw [Nat.zero_add, Lib.cell_of_heap hh]
  have e : (cur.toList.take (n * 1))[i]? = xs[i]? := by rw [ht]
  rw [List.getElem?_take, if_pos (by omega)] at e
  show cur[i]? = some (xs.getD i undef)
  rw [List.getD_eq_getElem?_getD, ← e]
  have : i < cur.size := by omega
  simp [this]
def NumsI (w : World) (v : Value) (ss : List Int) : Prop := RowR w v ss.length fun i => .int .i64 (ss.getD i 0)
theorem NumsI.of_owns {w : World} {base : Nat} {t : TypeId} {v : Value} {ss : List Int} (h : w.ownsRow base t 1 v ss.length (ss.map encZ)) : NumsI w v ss :=
 (rowR_of_owns h).congr fun i hi => by
  rw [List.getD_eq_getElem?_getD, List.getD_eq_getElem?_getD]
  simp [hi]
set_option maxRecDepth 100000 in
set_option maxHeartbeats 4000000 in
theorem dates_any {w : World} {v : Value} {k : Nat} {H : Hds} (hH : HoldR w v k H) (hd : ∀ i, i < k → -1000000 ≤ H.da i ∧ H.da i ≤ 1000000) :
  Calls Tryz.prog 113 #[v] w fun en w' => ∃ (a' : Option Addr) (c' : Nat) (ss : List Int), en = .returned (.slice a' ss.length c') ∧ (∀ x, x ∈ ss ↔ ∃ i, i < k ∧ H.da i = x) ∧ NumsI w' (.slice a' ss.length c') ss ∧ Below w.heap.size w w' := by
 obtain ⟨a, b, o, c, rfl, h1, h2, h3, h4, h5⟩ := hH
 have HO := Lib.hid hd
 have H5 := Lib.hid h5
 clear hd h5
 have hmm := @run_makeMap Tryz.prog
 go_enter Tryz.func113, Tryz.ntmps113
 go_wp2
 clear hmm
 go_loopw [9] (fun i wr => ∃ q : Nat, q ≤ k ∧ i = .int .i64 q ∧ wr.ownsMap Tryz.prog 3 (plainElem Tryz.prog 4) w.heap.size q (setD (fun i => ik (H.da i)) q) ∧ Below w.heap.size w wr) (fun i _ => k - (RowKit.intOf i).toNat)
 case atStart => exact ⟨0, Nat.zero_le _, rfl, World.ownsMap_made _ _ _ _, (Below.refl _ _).alloc (Nat.le_refl _) _⟩
 case round =>
  obtain ⟨q, hq, rfl, hm, hb⟩ := hrel
  have HM := Lib.hid hm
  have HB := Lib.hid hb
  clear hm hb
  by_cases hlt : q < k
  ·have hqi : (q : Int) < (k : Int) := by omega
   obtain rfl := h4 (by omega)
   obtain ⟨x0, x1, x2, x3⟩ := H5.out q hlt
   have c0 := keepc HB.out x0
   have c1 := keepc HB.out x1
   have c2 := keepc HB.out x2
   have c3 := keepc HB.out x3
   clear x0 x1 x2 x3
   have hwf : (Lit.int .i64 (H.da q)).wf = true := WalkArith.wf_i64 (by have := HO.out q hlt; omega)
   have HW := Lib.hid hwf
   have hws := HB.out.size
   clear hwf
   go_wp2_with (first
    | (at_mapUpdate; refine wpList_mapUpdate_own _ rfl _ _ _ 214 rfl 3 4 (int_keyed Tryz.underlying3) Tryz.underlying214 _ w.heap.size q _ rfl (HM.out.alloc _) (by unfold maxLen; omega) _ _ _ rfl rfl (keyOf_int_mk Tryz.underlying3 HW.out) _ [] (plainElem_bool Tryz.underlying4 true) ?_; intro w1 hown1 hgrow1)
    | go_in)
   go_roundw
   case rel => exact ⟨q + 1, by omega, by simp, hown1, (HB.out.alloc hws _).grown hgrow1 (by simp; omega) (fun j hj => by cases hj; exact Nat.le_refl _)⟩
   case measure => simp [RowKit.intOf]; omega
  ·obtain rfl : q = k := by omega
   have hsz := HM.out.size_le
   have hcS := sorted_any HM.out (by unfold maxLen; omega) (by omega)
   have HS := Lib.hid hcS
   clear hcS hsz
   go_wp2_with (first
    | (go_at_call 154; refine (keys_any _ _).mono ?_; rintro e w' ⟨rfl, rfl⟩)
    | (go_at_call 153; refine HS.out.mono ?_; rintro e w' ⟨u, ss, rfl, hS, hrow, hnil, hb⟩))
   go_ret
   have hnu : NumsI w' u (ss.mergeSort (fun x y => decide (x ≤ y))) := NumsI.of_owns (by rw [List.length_mergeSort]; exact hrow)
   obtain ⟨a', c', rfl⟩ : ∃ a' c', u = .slice a' (ss.mergeSort (fun x y => decide (x ≤ y))).length c' := by obtain ⟨a', _, _, c', h, _⟩ := hnu; exact ⟨a', c', h⟩
   refine ⟨a', c', ss.mergeSort (fun x y => decide (x ≤ y)), rfl, fun x => ?_, hnu, bt HB.out (((Below.refl _ _).alloc (Nat.le_refl _) _).trans (hb.mono (by simp)))⟩
   rw [(List.mergeSort_perm ss _).mem_iff, hS.mem_iff, mem_keys]
end Go.Proofs.YteionhenpehogaaGreatDoor
namespace Go.Proofs.YteionhenpehogaaGreatDoor
open Go.RowKit Go.Maps Tally
theorem dateValid_any (d : Int) {w : World} : Calls Tryz.prog 78 #[.int .i64 d] w fun en w' => en = .returned (.bool (decide (goodDate d))) ∧ w' = w := by
 unfold goodDate
 by_cases h1 : -25567 ≤ d
 ·by_cases h2 : d ≤ 84005
  ·rw [decide_eq_true (⟨h1, h2⟩ : -25567 ≤ d ∧ d ≤ 84005)]
   go_enter Tryz.func78, Tryz.ntmps78
   go_wp2
   go_ret
   exact ⟨rfl, rfl⟩
  ·rw [decide_eq_false (fun q => h2 q.2 : ¬ (-25567 ≤ d ∧ d ≤ 84005))]
   go_enter Tryz.func78, Tryz.ntmps78
   go_wp2
   go_ret
   exact ⟨rfl, rfl⟩
 ·rw [decide_eq_false (fun q => h1 q.1 : ¬ (-25567 ≤ d ∧ d ≤ 84005))]
  go_enter Tryz.func78, Tryz.ntmps78
  go_wp2
  go_ret
  exact ⟨rfl, rfl⟩
theorem inside_any {w : World} {B : Nat} {n x : Int} (hc : w.cell? ⟨B, 0, none⟩ = some (.int .i64 n)) :
  Calls Tryz.prog 115 #[.int .i64 x, .pointer (some ⟨B, 0, none⟩)] w fun en w' => en = .returned (.bool (decide (0 ≤ x ∧ x < n))) ∧ w' = w := by
 by_cases h1 : 0 ≤ x
 ·by_cases h2 : x < n
  ·rw [decide_eq_true (⟨h1, h2⟩ : 0 ≤ x ∧ x < n)]
   go_enter Tryz.func115, Tryz.ntmps115
   go_wp2
   go_ret
   exact ⟨rfl, rfl⟩
  ·rw [decide_eq_false (fun q => h2 q.2 : ¬ (0 ≤ x ∧ x < n))]
   go_enter Tryz.func115, Tryz.ntmps115
   go_wp2
   go_ret
   exact ⟨rfl, rfl⟩
 ·rw [decide_eq_false (fun q => h1 q.1 : ¬ (0 ≤ x ∧ x < n))]
  go_enter Tryz.func115, Tryz.ntmps115
  go_wp2
  go_ret
  exact ⟨rfl, rfl⟩
theorem inside_yes {w : World} {B : Nat} {n x : Int} (h : 0 ≤ x ∧ x < n) (hc : w.cell? ⟨B, 0, none⟩ = some (.int .i64 n)) :
  Calls Tryz.prog 115 #[.int .i64 x, .pointer (some ⟨B, 0, none⟩)] w fun en w' => en = .returned (.bool true) ∧ w' = w := by
 have := inside_any (x := x) hc
 rwa [decide_eq_true h] at this
theorem inside_no {w : World} {B : Nat} {n x : Int} (h : ¬ (0 ≤ x ∧ x < n)) (hc : w.cell? ⟨B, 0, none⟩ = some (.int .i64 n)) :
  Calls Tryz.prog 115 #[.int .i64 x, .pointer (some ⟨B, 0, none⟩)] w fun en w' => en = .returned (.bool false) ∧ w' = w := by
 have := inside_any (x := x) hc
 rwa [decide_eq_false h] at this
theorem date_yes {w : World} {d : Int} (h : goodDate d) : Calls Tryz.prog 78 #[.int .i64 d] w fun en w' => en = .returned (.bool true) ∧ w' = w := by
 have := dateValid_any d (w := w)
 rwa [decide_eq_true h] at this
theorem date_no {w : World} {d : Int} (h : ¬ goodDate d) : Calls Tryz.prog 78 #[.int .i64 d] w fun en w' => en = .returned (.bool false) ∧ w' = w := by
 have := dateValid_any d (w := w)
 rwa [decide_eq_false h] at this
set_option maxRecDepth 100000 in
set_option maxHeartbeats 4000000 in
theorem proper_any {w : World} {H : Hds} {i : Nat} {n : Int} :
  Calls Tryz.prog 67 #[.int .i64 n, .agg #[.int .i64 (H.ho i), .int .i64 (H.en i), .int .i64 (H.da i), .int .i64 (H.sh i)]] w fun en w' => en = .returned (.bool (decide (H.proper n i))) ∧ Below w.heap.size w w' := by
 go_enter Tryz.func67, Tryz.ntmps67
 go_wp2_with fail
 obtain ⟨W1, hW, hs, hb, b0, b1⟩ := alloc2 w (.cells #[.int .i64 n] 3) (.cells #[.int .i64 (H.ho i), .int .i64 (H.en i), .int .i64 (H.da i), .int .i64 (H.sh i)] 24)
 rw [← hW]
 obtain ⟨c0, c1, c2, c3⟩ := cells4 b1
 have HC := Lib.hid (Boxed.cell (t := 3) b0)
 have HW := Lib.hid hb
 clear hW hs hb b0 b1
 by_cases p1 : 0 ≤ H.ho i ∧ H.ho i < n
 rotate_left
 ·have HNO := Lib.hid (decide_eq_false (fun q => p1 ⟨q.1, q.2.1⟩ : ¬ H.proper n i))
  have P1 := Lib.hid p1
  clear p1
  with_reducible refine (inside_no P1.out HC.out).mono ?_
  rintro en w1 ⟨rfl, rfl⟩
  go_wp2_with fail
  go_ret
  exact ⟨by rw [HNO.out]; rfl, HW.out⟩
 by_cases p2 : 0 ≤ H.en i ∧ H.en i < n
 rotate_left
 ·have HNO := Lib.hid (decide_eq_false (fun q => p2 ⟨q.2.2.1, q.2.2.2.1⟩ : ¬ H.proper n i))
  have P1 := Lib.hid p1
  have P2 := Lib.hid p2
  clear p1 p2
  with_reducible refine (inside_yes P1.out HC.out).mono ?_
  rintro en w1 ⟨rfl, rfl⟩
  go_wp2_with (go_at_call 115; (with_reducible refine (inside_no P2.out HC.out).mono ?_); rintro en w1 ⟨rfl, rfl⟩)
  go_ret
  exact ⟨by rw [HNO.out]; rfl, HW.out⟩
 by_cases p3 : H.ho i ≠ H.en i
 rotate_left
 ·have HNO := Lib.hid (decide_eq_false (fun q => p3 q.2.2.2.2.1 : ¬ H.proper n i))
  have P1 := Lib.hid p1
  have P2 := Lib.hid p2
  clear p1 p2
  with_reducible refine (inside_yes P1.out HC.out).mono ?_
  rintro en w1 ⟨rfl, rfl⟩
  go_wp2_with (go_at_call 115; (with_reducible refine (inside_yes P2.out HC.out).mono ?_); rintro en w1 ⟨rfl, rfl⟩)
  go_ret
  exact ⟨by rw [HNO.out]; rfl, HW.out⟩
 by_cases p4 : goodDate (H.da i)
 rotate_left
 ·have HNO := Lib.hid (decide_eq_false (fun q => p4 q.2.2.2.2.2.1 : ¬ H.proper n i))
  have P1 := Lib.hid p1
  have P2 := Lib.hid p2
  have P4 := Lib.hid p4
  have p3b : (H.ho i != H.en i) = true := bne_iff_ne.2 p3
  clear p1 p2 p4
  with_reducible refine (inside_yes P1.out HC.out).mono ?_
  rintro en w1 ⟨rfl, rfl⟩
  go_wp2_with (first
   | (go_at_call 115; (with_reducible refine (inside_yes P2.out HC.out).mono ?_); rintro en w1 ⟨rfl, rfl⟩)
   | (go_at_call 78; (with_reducible refine (date_no P4.out).mono ?_); rintro en w1 ⟨rfl, rfl⟩))
  go_ret
  exact ⟨by rw [HNO.out]; rfl, HW.out⟩
 by_cases p5 : 0 ≤ H.sh i
 rotate_left
 ·have HNO := Lib.hid (decide_eq_false (fun q => p5 q.2.2.2.2.2.2.1 : ¬ H.proper n i))
  have P1 := Lib.hid p1
  have P2 := Lib.hid p2
  have P4 := Lib.hid p4
  have p3b : (H.ho i != H.en i) = true := bne_iff_ne.2 p3
  clear p1 p2 p4
  with_reducible refine (inside_yes P1.out HC.out).mono ?_
  rintro en w1 ⟨rfl, rfl⟩
  go_wp2_with (first
   | (go_at_call 115; (with_reducible refine (inside_yes P2.out HC.out).mono ?_); rintro en w1 ⟨rfl, rfl⟩)
   | (go_at_call 78; (with_reducible refine (date_yes P4.out).mono ?_); rintro en w1 ⟨rfl, rfl⟩))
  go_ret
  exact ⟨by rw [HNO.out]; rfl, HW.out⟩
 by_cases p6 : H.sh i ≤ 10000
 rotate_left
 ·have HNO := Lib.hid (decide_eq_false (fun q => p6 q.2.2.2.2.2.2.2 : ¬ H.proper n i))
  have P1 := Lib.hid p1
  have P2 := Lib.hid p2
  have P4 := Lib.hid p4
  have p3b : (H.ho i != H.en i) = true := bne_iff_ne.2 p3
  have p6b : decide (H.sh i ≤ 10000) = false := decide_eq_false p6
  clear p1 p2 p4
  with_reducible refine (inside_yes P1.out HC.out).mono ?_
  rintro en w1 ⟨rfl, rfl⟩
  go_wp2_with (first
   | (go_at_call 115; (with_reducible refine (inside_yes P2.out HC.out).mono ?_); rintro en w1 ⟨rfl, rfl⟩)
   | (go_at_call 78; (with_reducible refine (date_yes P4.out).mono ?_); rintro en w1 ⟨rfl, rfl⟩))
  go_ret
  exact ⟨by rw [HNO.out]; rfl, HW.out⟩
 have HNO := Lib.hid (decide_eq_true (show H.proper n i from ⟨p1.1, p1.2, p2.1, p2.2, p3, p4, p5, p6⟩))
 have P1 := Lib.hid p1
 have P2 := Lib.hid p2
 have P4 := Lib.hid p4
 have p3b : (H.ho i != H.en i) = true := bne_iff_ne.2 p3
 have p6b : decide (H.sh i ≤ 10000) = true := decide_eq_true p6
 clear p1 p2 p4
 with_reducible refine (inside_yes P1.out HC.out).mono ?_
 rintro en w1 ⟨rfl, rfl⟩
 go_wp2_with (first
  | (go_at_call 115; (with_reducible refine (inside_yes P2.out HC.out).mono ?_); rintro en w1 ⟨rfl, rfl⟩)
  | (go_at_call 78; (with_reducible refine (date_yes P4.out).mono ?_); rintro en w1 ⟨rfl, rfl⟩))
 go_ret
 exact ⟨by rw [HNO.out]; rfl, HW.out⟩
theorem proper_yes {w : World} {H : Hds} {i : Nat} {n : Int} (h : H.proper n i) :
  Calls Tryz.prog 67 #[.int .i64 n, .agg #[.int .i64 (H.ho i), .int .i64 (H.en i), .int .i64 (H.da i), .int .i64 (H.sh i)]] w fun en w' => en = .returned (.bool true) ∧ Below w.heap.size w w' := by
 have := proper_any (w := w) (H := H) (i := i) (n := n)
 rwa [decide_eq_true h] at this
theorem proper_no {w : World} {H : Hds} {i : Nat} {n : Int} (h : ¬ H.proper n i) :
  Calls Tryz.prog 67 #[.int .i64 n, .agg #[.int .i64 (H.ho i), .int .i64 (H.en i), .int .i64 (H.da i), .int .i64 (H.sh i)]] w fun en w' => en = .returned (.bool false) ∧ Below w.heap.size w w' := by
 have := proper_any (w := w) (H := H) (i := i) (n := n)
 rwa [decide_eq_false h] at this
end Go.Proofs.YteionhenpehogaaGreatDoor
namespace Go.Proofs.YteionhenpehogaaGreatDoor
open Go.RowKit Go.Maps Tally
theorem laid_out : laidOutB Tryz.prog = true := by kernel_rfl
theorem hold_row : (24 : TypeId) < Tryz.prog.types.size := of_decide_eq_true (by kernel_rfl)
theorem hold_wide : (match Tryz.prog.underlying 24 with | some (.array _ _) | some (.struct _) => true | _ => false) = true := by kernel_rfl
set_option maxRecDepth 100000 in
theorem hold_law : Maps.Keyed Tryz.prog 24 := Maps.Keyed.of_law (deep_law_laid laid_out (m := 2) (by omega) hold_row (by kernel_rfl) hold_wide)
theorem hold_cells : Tryz.prog.cellsOf 24 = 4 := by kernel_rfl
theorem int_cells : Tryz.prog.cellsOf 3 = 1 := by kernel_rfl
theorem keyLits_int {d : Nat} {x : Int} (hw : (Lit.int .i64 x).wf = true) : Tryz.prog.keyLits (d + 1) 3 [.int .i64 x] = some [.int .i64 x] := by
 simp [Program.keyLits, Tryz.underlying3, hw]
theorem keyLits_hold {d : Nat} {a b c e : Int} (ha : (Lit.int .i64 a).wf = true) (hb : (Lit.int .i64 b).wf = true) (hc : (Lit.int .i64 c).wf = true) (he : (Lit.int .i64 e).wf = true) :
  Tryz.prog.keyLits (d + 1 + 1) 24 [.int .i64 a, .int .i64 b, .int .i64 c, .int .i64 e] = some [.int .i64 a, .int .i64 b, .int .i64 c, .int .i64 e] := by
 unfold Program.keyLits
 simp [Tryz.underlying24, hold_cells, int_cells, keyLits_int ha, keyLits_int hb, keyLits_int hc, keyLits_int he]
def hk (a b c e : Int) : Lit := .string (keyBytes [.int .i64 a, .int .i64 b, .int .i64 c, .int .i64 e])
theorem pos_succ {a n : Nat} (h : a < n) : ∃ s, n = s + 1 := ⟨n - 1, by omega⟩
theorem key_hold {a b c e : Int} (ha : (Lit.int .i64 a).wf = true) (hb : (Lit.int .i64 b).wf = true) (hc : (Lit.int .i64 c).wf = true) (he : (Lit.int .i64 e).wf = true) :
  keyOf Tryz.prog 24 (.agg #[.int .i64 a, .int .i64 b, .int .i64 c, .int .i64 e]) = some (hk a b c e) := by
 have h1 : Tryz.prog.keyType 24 = true := by kernel_rfl
 have h2 : (Value.agg #[.int .i64 a, .int .i64 b, .int .i64 c, .int .i64 e]).formed Tryz.prog 24 = true := by
  simp [Value.formed, Tryz.underlying24, hold_cells]
 have h3 : ∃ s, Tryz.prog.types.size = s + 1 := pos_succ hold_row
 obtain ⟨s, hs⟩ := h3
 have h4 := keyLits_hold (d := s) ha hb hc he
 unfold keyOf
 rw [h1, h2, hs]
 simp only [Tryz.underlying24]
 show (if (true && true) = true then (Tryz.prog.keyLits (s + 1 + 1) 24 [.int .i64 a, .int .i64 b, .int .i64 c, .int .i64 e]).map _ else none) = _
 rw [h4]
 rfl
theorem hk_inj {a b c a' b' c' : Int} (ha : (Lit.int .i64 a).wf = true) (hb : (Lit.int .i64 b).wf = true) (hc : (Lit.int .i64 c).wf = true) (ha' : (Lit.int .i64 a').wf = true) (hb' : (Lit.int .i64 b').wf = true) (hc' : (Lit.int .i64 c').wf = true) (h : hk a b c 0 = hk a' b' c' 0) : a = a' ∧ b = b' ∧ c = c' := by
 have h1 := key_hold ha hb hc (e := 0) (by decide)
 have h2 := key_hold ha' hb' hc' (e := 0) (by decide)
 rw [h] at h1
 have h3 := hold_law.inj h1 h2
 simp at h3
 exact h3
theorem hk_key (a b c e : Int) : WideAt.IsKeyLit (hk a b c e) := trivial
theorem zero_bool (w : World) : (zeroValue 4).run Tryz.prog w = .ok (.bool false) w := by kernel_rfl
set_option maxRecDepth 100000 in
theorem set_lookup {w : World} {T K b n : Nat} {f : Nat → Lit} {m : Nat} {key : Value} {kl : Lit} (hl : Maps.Keyed Tryz.prog K) (ht : Tryz.prog.underlying T = some (.map K 4)) (hf : ∀ i, WideAt.IsKeyLit (f i)) (h : w.ownsMap Tryz.prog K (plainElem Tryz.prog 4) b n (setD f m)) (hkey : keyOf Tryz.prog K key = some kl) :
  (Instr.lookup T (.map (some b)) key false).run Tryz.prog w = .ok (.bool (Maps.has (setD f m) kl)) w := by
 obtain ⟨v, ps, hrun, hv⟩ := h.lookup hl ht (zero_bool w) (plainElem_bool Tryz.underlying4 false) hkey
 rw [setD_at hf] at hv
 obtain ⟨x, rfl, hx⟩ := plainElem_bool_inv Tryz.underlying4 hv
 injection hx with hx _
 injection hx with hx
 injection hx with hx
 rw [hx]
 exact hrun
end Go.Proofs.YteionhenpehogaaGreatDoor
namespace Go.Proofs.YteionhenpehogaaGreatDoor
open Go.RowKit Go.Maps Tally
set_option maxRecDepth 100000 in
set_option maxHeartbeats 4000000 in
theorem total_any {w : World} {v : Value} {k N : Nat} {H : Hds} {e day : Int} (hH : HoldR w v k H) (hs : ∀ i, i < k → 0 ≤ H.sh i ∧ H.sh i ≤ 10000) (hh : ∀ i, i < k → 0 ≤ H.ho i ∧ H.ho i < N) (hN : N ≤ 1000) :
  Calls Tryz.prog 114 #[v, .int .i64 e, .int .i64 day] w fun en w' => en = .returned (.int .i64 (H.tot N e day k)) ∧ Below w.heap.size w w' := by
 obtain ⟨a, b, o, c, rfl, h1, h2, h3, h4, h5⟩ := id hH
 have HH := Lib.hid hH
 have HS := Lib.hid hs
 have HO := Lib.hid hh
 have H5 := Lib.hid h5
 clear hH hs hh h5
 have hmm := @run_makeMap Tryz.prog
 go_enter Tryz.func114, Tryz.ntmps114
 go_wp2
 clear hmm
 go_loopw [15] (fun i wr => ∃ q : Nat, q ≤ k ∧ i = .int .i64 q ∧ wr.ownsMap Tryz.prog 3 (plainElem Tryz.prog 4) w.heap.size q (setD (fun i => ik (H.ho i)) q) ∧ Below w.heap.size w wr) (fun i _ => k - (intOf i).toNat)
 case atStart => exact ⟨0, Nat.zero_le _, rfl, World.ownsMap_made _ _ _ _, (Below.refl _ _).alloc (Nat.le_refl _) _⟩
 case round =>
  obtain ⟨q, hq, rfl, hm, hb⟩ := hrel
  have HM := Lib.hid hm
  have HB := Lib.hid hb
  clear hm hb
  by_cases hlt : q < k
  ·have hqi : (q : Int) < (k : Int) := by omega
   obtain rfl := h4 (by omega)
   obtain ⟨x0, x1, x2, x3⟩ := H5.out q hlt
   have c0 := keepc HB.out x0
   have c1 := keepc HB.out x1
   have c2 := keepc HB.out x2
   have c3 := keepc HB.out x3
   clear x0 x1 x2 x3
   have hwf : (Lit.int .i64 (H.ho q)).wf = true := WalkArith.wf_i64 (by have := HO.out q hlt; omega)
   have HW := Lib.hid hwf
   have hws := HB.out.size
   clear hwf
   go_wp2_with (first
    | (at_mapUpdate; refine wpList_mapUpdate_own _ rfl _ _ _ 214 rfl 3 4 (int_keyed Tryz.underlying3) Tryz.underlying214 _ w.heap.size q _ rfl (HM.out.alloc _) (by unfold maxLen; omega) _ _ _ rfl rfl (keyOf_int_mk Tryz.underlying3 HW.out) _ [] (plainElem_bool Tryz.underlying4 true) ?_; intro w1 hown1 hgrow1)
    | go_in)
   go_roundw
   case rel => exact ⟨q + 1, by omega, by simp, hown1, (HB.out.alloc hws _).grown hgrow1 (by simp; omega) (fun j hj => by cases hj; exact Nat.le_refl _)⟩
   case measure => simp [intOf]; omega
  ·obtain rfl : q = k := by omega
   go_wp2_with (first
    | (at_range; refine wpList_range_own _ rfl _ 214 rfl 3 4 (int_keyed Tryz.underlying3) Tryz.underlying214 _ w.heap.size q _ rfl HM.out ?_; intro w0 hrg0 hg0 hs0)
    | go_in)
   go_frame
   have hwr := HB.out.size
   have hb0 : Below w.heap.size w w0 := HB.out.grown hg0 hwr (fun j hj => by cases hj)
   have HB0 := Lib.hid hb0
   obtain ⟨D, hD⟩ : ∃ D, setD (fun i => ik (H.ho i)) q = D := ⟨_, rfl⟩
   obtain ⟨r, hr⟩ : ∃ r, wr.heap.size = r := ⟨_, rfl⟩
   rw [hD, hr] at hrg0
   rw [hr]
   have hrw : w.heap.size ≤ r := by omega
   have HD := Lib.hid (show ∀ x : Int, Maps.has D (ik x) = true ↔ ∃ i, i < q ∧ H.ho i = x from fun x => by
    rw [← hD, setD_has (fun i => ik_key _)]
    exact ⟨fun ⟨i, h1, h2⟩ => ⟨i, h1, ik_inj h2⟩, fun ⟨i, h1, h2⟩ => ⟨i, h1, by rw [h2]⟩⟩)
   have start : isum N (fun j => if (Maps.has D (ik (j : Nat)) && !Maps.has D (ik (j : Nat))) = true then H.at (j : Nat) e day q else 0) = 0 := isum_zero fun j _ => by simp
   have ST := Lib.hid start
   have HR := Lib.hid hrg0
   clear start hrg0 hg0 hs0 hb0 hD hr HM HB
   go_loopw [10] (fun s wr => ∃ (left : Lit → Bool) (cnt : Nat), s = .int .i64 (isum N (fun j => if (Maps.has D (ik (j : Nat)) && !left (ik (j : Nat))) = true then H.at (j : Nat) e day q else 0)) ∧ wr.ranges Tryz.prog 3 (plainElem Tryz.prog 4) w.heap.size r q D left cnt ∧ Below w.heap.size w wr ∧ (∀ z, left z = true → Maps.has D z = true)) (fun _ wr => wr.rangeLeft w.heap.size r)
   case atStart => exact ⟨_, _, by rw [ST.out], HR.out, HB0.out, fun _ h => h⟩
   case round =>
    clear HR HB0 ST
    obtain ⟨left, cnt, rfl, hrg, hb, hl⟩ := hrel
    have HR := Lib.hid hrg
    have HB := Lib.hid hb
    have HL := Lib.hid hl
    obtain ⟨sm, hsm⟩ : ∃ sm, isum N (fun j => if (Maps.has D (ik (j : Nat)) && !left (ik (j : Nat))) = true then H.at (j : Nat) e day q else 0) = sm := ⟨_, rfl⟩
    rw [hsm]
    have HSM := Lib.hid hsm
    clear hrg hb hl hsm
    go_wp2_with (first
     | (at_next; refine wpList_next_ranges _ rfl _ rfl 3 (int_keyed Tryz.underlying3) (plainElem Tryz.prog 4) (fun x : Int => Value.int .i64 x) id (fun key kl hk => by obtain ⟨x, hx, _⟩ := Maps.keyOf_int_inv Tryz.underlying3 hk; exact ⟨x, hx⟩) (fun v _ _ => ⟨v, rfl⟩) w.heap.size r q _ _ _ rfl HR.out ?_ ?_)
     | go_in)
    ·intro hc0 hl0
     have e1 : sm = H.tot N e day q := by
      rw [← HSM.out, ← tot_occur (H := H) (n := N) (k := q) (e := e) (day := day)]
      refine isum_congr fun j _ => ?_
      rw [hl0]
      by_cases z : ∃ i, i < q ∧ H.ho i = (j : Nat)
      ·rw [if_pos (by rw [(HD.out _).2 z]; rfl), if_pos z]
      ·rw [if_neg (fun y => z ((HD.out _).1 (by simpa using y))), if_neg z]
     have E1 := Lib.hid e1
     clear e1 hc0 hl0
     go_wp2
     go_ret
     exact ⟨by rw [E1.out]; rfl, HB.out⟩
    ·intro x c kl yd yp w2 cnt2 hkey hlk hv hat hrg2 hlt hg2 hs2 hen
     obtain ⟨x', ex, rfl, _⟩ := Maps.keyOf_int_inv Tryz.underlying3 hkey
     obtain rfl : x = x' := by injection ex
     have hin := (HD.out x).1 (HL.out _ hlk)
     obtain ⟨i, hi, hix⟩ := hin
     obtain ⟨hx0, hxN⟩ := HO.out i hi
     rw [hix] at hx0 hxN
     have hxt : ((x.toNat : Nat) : Int) = x := by omega
     have hat0 := at_range (H := H) (h := x) (e := e) (day := day) (k := q) HS.out
     have hsum := isum_more (n := N) (p := fun j => Maps.has D (ik (j : Nat)) && !left (ik (j : Nat))) (q := fun j => Maps.has D (ik (j : Nat)) && !(left (ik (j : Nat)) && !(ik (j : Nat)).sameKey (ik x))) (f := fun j => H.at (j : Nat) e day q) (j := x.toNat) (by omega)
      (by rw [hxt]; show (_ && !left (ik x)) = false; rw [show left (ik x) = true from hlk]; simp) (by rw [hxt, ik_same]; show (Maps.has D (ik x) && _) = true; rw [show Maps.has D (ik x) = true from HL.out _ hlk]; simp)
      (fun j _ hj => by
       have : ¬ ((j : Nat) : Int) = x := fun z => hj (by omega)
       rw [ik_same, decide_eq_false this]; simp)
     rw [HSM.out, hxt] at hsum
     have hrange := isum_range (n := N) (c := 10000) (f := fun j => if (Maps.has D (ik (j : Nat)) && !left (ik (j : Nat))) = true then H.at (j : Nat) e day q else 0) (fun j _ => by
      have := at_range (H := H) (h := (j : Nat)) (e := e) (day := day) (k := q) HS.out
      by_cases z : (Maps.has D (ik (j : Nat)) && !left (ik (j : Nat))) = true
      ·rw [if_pos z]; exact this
      ·rw [if_neg z]; exact ⟨Int.le_refl _, by decide⟩)
     rw [HSM.out] at hrange
     have HNX := Lib.hid hsum
     have H2 := Lib.hid (HH.out.below (HB.out.grown hg2 HB.out.size (fun j hj => by cases hj; exact hrw)))
     have HB2 := Lib.hid (HB.out.grown hg2 HB.out.size (fun j hj => by cases hj; exact hrw))
     have HR2 := Lib.hid hrg2
     have hcap : (N : Int) * 10000 ≤ 10000000 := by omega
     clear hs2 hkey hlk hat hsum hrg2 hv hix ex
     go_wp2_with (go_at_call 97; (with_reducible refine (at_any H2.out).mono ?_); rintro en w3 ⟨rfl, hb3⟩)
     have hg3 : w2.grownBy w3 none := ⟨hb3.os, hb3.tape, hb3.output, hb3.size, fun i hi _ => hb3.block i hi⟩
     have hrg3 := HR2.out.kept hg3 (by simp) (by simp)
     go_roundw
     case rel =>
      refine ⟨_, cnt2, ?_, hrg3, bt HB2.out hb3, fun z hz => HL.out z (by simp only [Bool.and_eq_true] at hz; exact hz.1)⟩
      exact congrArg _ HNX.out.symm
     case measure => rw [hrg3.left_eq, HR.out.left_eq]; exact hlt
end Go.Proofs.YteionhenpehogaaGreatDoor
namespace Go.Proofs.YteionhenpehogaaGreatDoor
open Go.RowKit Go.Maps Tally
def Hwf (H : Hds) (k : Nat) : Prop := ∀ i, i < k → (Lit.int .i64 (H.ho i)).wf = true ∧ (Lit.int .i64 (H.en i)).wf = true ∧ (Lit.int .i64 (H.da i)).wf = true ∧ (Lit.int .i64 (H.sh i)).wf = true
def hkey (H : Hds) (i : Nat) : Lit := hk (H.ho i) (H.en i) (H.da i) 0
theorem hkey_same {H : Hds} {k i j : Nat} (hw : Hwf H k) (hi : i < k) (hj : j < k) : hkey H j = hkey H i ↔ H.same j i := by
 obtain ⟨a1, a2, a3, _⟩ := hw i hi
 obtain ⟨b1, b2, b3, _⟩ := hw j hj
 constructor
 ·intro h; exact hk_inj b1 b2 b3 a1 a2 a3 h
 ·rintro ⟨h1, h2, h3⟩; unfold hkey; rw [h1, h2, h3]
set_option maxRecDepth 100000 in
set_option maxHeartbeats 4000000 in
theorem validH_any {w : World} {v : Value} {k : Nat} {H : Hds} {n : Int} {b : Bool} (hH : HoldR w v k H) (hw : Hwf H k) (hb : b = true ↔ H.valid n k) :
  Calls Tryz.prog 66 #[.int .i64 n, v] w fun en w' => en = .returned (.bool b) ∧ Below w.heap.size w w' := by
 obtain ⟨a, bb, o, c, rfl, h1, h2, h3, h4, h5⟩ := id hH
 have HH := Lib.hid hH
 have HW := Lib.hid hw
 have H5 := Lib.hid h5
 have HBV := Lib.hid hb
 clear hH hw h5 hb
 have hmm := @run_makeMap Tryz.prog
 by_cases n1 : n < 1
 ·have hno : b = false := by cases b; rfl; exact absurd (HBV.out.1 rfl).1 (by omega)
  have HN := Lib.hid hno
  clear hno hmm
  go_enter Tryz.func66, Tryz.ntmps66
  go_wp2
  go_ret
  exact ⟨by rw [HN.out]; rfl, Below.refl _ _⟩
 by_cases n2 : 12 < n
 ·have hno : b = false := by cases b; rfl; exact absurd (HBV.out.1 rfl).2.1 (by omega)
  have HN := Lib.hid hno
  clear hno hmm
  go_enter Tryz.func66, Tryz.ntmps66
  go_wp2
  go_ret
  exact ⟨by rw [HN.out]; rfl, Below.refl _ _⟩
 by_cases n3 : 200 < (k : Int)
 ·have hno : b = false := by cases b; rfl; exact absurd (HBV.out.1 rfl).2.2.1 (by omega)
  have HN := Lib.hid hno
  clear hno hmm
  go_enter Tryz.func66, Tryz.ntmps66
  go_wp2
  go_ret
  exact ⟨by rw [HN.out]; rfl, Below.refl _ _⟩
 go_enter Tryz.func66, Tryz.ntmps66
 go_wp2
 clear hmm
 go_loopw [26] (fun i wr => ∃ q : Nat, q ≤ k ∧ i = .int .i64 q ∧ H.fine n q ∧ wr.ownsMap Tryz.prog 24 (plainElem Tryz.prog 4) w.heap.size q (setD (hkey H) q) ∧ Below w.heap.size w wr) (fun i _ => k - (RowKit.intOf i).toNat)
 case atStart => exact ⟨0, Nat.zero_le _, rfl, Hds.fine.start, World.ownsMap_made _ _ _ _, (Below.refl _ _).alloc (Nat.le_refl _) _⟩
 case round =>
  obtain ⟨q, hq, rfl, hf, hm, hb⟩ := hrel
  have HF := Lib.hid hf
  have HM := Lib.hid hm
  have HB := Lib.hid hb
  clear hf hm hb
  by_cases hlt : q < k
  ·have hqi : (q : Int) < (k : Int) := by omega
   obtain rfl := h4 (by omega)
   obtain ⟨x0, x1, x2, x3⟩ := H5.out q hlt
   have c0 := keepc HB.out x0
   have c1 := keepc HB.out x1
   have c2 := keepc HB.out x2
   have c3 := keepc HB.out x3
   clear x0 x1 x2 x3
   go_wp2_with fail
   obtain ⟨W1, hW, hs, hbW, b0, b1⟩ := alloc2 wr (.cells #[.int .i64 (H.ho q), .int .i64 (H.en q), .int .i64 (H.da q), .int .i64 (H.sh q)] 24) (.cells #[.int .i64 (H.ho q), .int .i64 (H.en q), .int .i64 (H.da q), .int .i64 0] 24)
   have hm1 : W1.ownsMap Tryz.prog 24 (plainElem Tryz.prog 4) w.heap.size q (setD (hkey H) q) := by rw [hW]; exact (HM.out.alloc _).alloc _
   rw [← hW]
   have HM1 := Lib.hid hm1
   have HB1 := Lib.hid (bt HB.out hbW)
   have HK := Lib.hid b1
   clear hW hs hbW b0 b1 hm1 c0 c1 c2 c3
   by_cases hp : H.proper n q
   ·with_reducible refine (proper_yes hp).mono ?_
    rintro en w2 ⟨rfl, hb2⟩
    have HP := Lib.hid hp
    have HB2 := Lib.hid (bt HB1.out hb2)
    have HM2 := Lib.hid (HM1.out.kept ⟨hb2.os, hb2.tape, hb2.output, hb2.size, fun i hi _ => hb2.block i hi⟩ (row := none) (by simp))
    obtain ⟨k0, k1, k2, k3⟩ := cells4 (blk_next HK.out hb2)
    obtain ⟨wa, wb, wc, _⟩ := HW.out q hlt
    have hkey' := key_hold wa wb wc (e := 0) (by decide)
    have hlook := set_lookup (T := 163) (f := hkey H) hold_law Tryz.underlying163 (fun i => hk_key _ _ _ _) HM2.out hkey'
    have HKY := Lib.hid hkey'
    clear hp hb2 HK HM1 HB1 hkey'
    cases hh : Maps.has (setD (hkey H) q) (hk (H.ho q) (H.en q) (H.da q) 0)
    ·rw [hh] at hlook
     have hnew : ∀ j, j < q → ¬ H.same j q := fun j hj hs => by
      have := (setD_has (f := hkey H) (fun i => hk_key _ _ _ _) (n := q) (k := hkey H q)).2 ⟨j, hj, (hkey_same HW.out hlt (by omega)).2 hs⟩
      have hh' : Maps.has (setD (hkey H) q) (hkey H q) = false := hh
      rw [hh'] at this
      exact absurd this (by decide)
     have HF2 := Lib.hid (HF.out.succ HP.out hnew)
     clear hnew hh HF wa wb wc
     go_wp2_with (first
      | (at_mapUpdate; refine wpList_mapUpdate_own _ rfl _ _ _ 163 rfl 24 4 hold_law Tryz.underlying163 _ w.heap.size q _ rfl HM2.out (by unfold maxLen; omega) _ _ _ rfl rfl HKY.out _ [] (plainElem_bool Tryz.underlying4 true) ?_; intro w3 hown3 hgrow3)
      | go_in)
     go_roundw
     case rel => exact ⟨q + 1, by omega, by simp, HF2.out, hown3, HB2.out.grown hgrow3 HB2.out.size (fun j hj => by cases hj; exact Nat.le_refl _)⟩
     case measure => simp [RowKit.intOf]; omega
    ·rw [hh] at hlook
     have hno : b = false := by
      cases b
      ·rfl
      ·obtain ⟨j, hj, he⟩ := (setD_has (f := hkey H) (fun i => hk_key _ _ _ _) (n := q) (k := hkey H q)).1 hh
       exact absurd (HBV.out.1 rfl) (not_valid_same hlt hj ((hkey_same HW.out hlt (by omega)).1 he))
     have HN := Lib.hid hno
     clear hno hh wa wb wc
     go_wp2
     go_ret
     exact ⟨by rw [HN.out]; rfl, HB2.out⟩
   ·have hno : b = false := by
     cases b
     ·rfl
     ·exact absurd (HBV.out.1 rfl) (not_valid_proper hlt hp)
    have HN := Lib.hid hno
    clear hno
    with_reducible refine (proper_no hp).mono ?_
    rintro en w2 ⟨rfl, hb2⟩
    have HB2 := Lib.hid (bt HB1.out hb2)
    clear hb2 hp
    go_wp2
    go_ret
    exact ⟨by rw [HN.out]; rfl, HB2.out⟩
  ·obtain rfl : q = k := by omega
   obtain ⟨N, hN⟩ : ∃ N : Nat, n = N := ⟨n.toNat, by omega⟩
   subst hN
   have hd : ∀ i, i < q → -1000000 ≤ H.da i ∧ H.da i ≤ 1000000 := fun i hi => by
    have h := (HF.out i hi).1.2.2.2.2.2.1
    unfold goodDate at h
    omega
   have HD := Lib.hid hd
   have HS := Lib.hid HF.out.sh
   have HO := Lib.hid (show ∀ i, i < q → 0 ≤ H.ho i ∧ H.ho i < (N : Int) from fun i hi => HF.out.ho i hi)
   clear hd HM
   go_wp2_with (go_at_call 113; refine (dates_any (HH.out.below HB.out) HD.out).mono ?_; rintro en w2 ⟨a2, c2, ss, rfl, hmem, hnums, hb2⟩)
   obtain ⟨_, bu, ou, _, e1, hu1, hu2, hu3, hu4⟩ := id hnums
   injection e1 with e1 _ e2
   subst e1
   subst e2
   have HU := Lib.hid hu4
   have HBD := Lib.hid (bt HB.out hb2)
   have HMEM := Lib.hid hmem
   clear hnums hu4 hb2 hmem
   go_loopw [47] (fun i wr => ∃ d : Nat, d ≤ ss.length ∧ i = .int .i64 d ∧ (∀ j, j < d → ∀ e : Nat, e < N → H.tot N e (ss.getD j 0) q ≤ 10000) ∧ Below w.heap.size w wr ∧ Below w2.heap.size w2 wr) (fun i _ => ss.length - (RowKit.intOf i).toNat)
   case atStart => exact ⟨0, Nat.zero_le _, rfl, fun j hj => absurd hj (Nat.not_lt_zero _), HBD.out, Below.refl _ _⟩
   case round =>
    obtain ⟨d, hd, rfl, ht, hb, hbu⟩ := hrel
    have HT := Lib.hid ht
    have HB2 := Lib.hid hb
    have HB3 := Lib.hid hbu
    clear ht hb hbu
    by_cases hdl : d < ss.length
    ·have hdi : (d : Int) < (ss.length : Int) := by omega
     obtain rfl := hu3 (by omega)
     obtain ⟨day, hday⟩ : ∃ day, ss.getD d 0 = day := ⟨_, rfl⟩
     have cu : wr.cell? ⟨bu, ou + d, none⟩ = some (.int .i64 day) := by rw [← hday]; exact keepc HB3.out (HU.out d hdl)
     have HDAY := Lib.hid hday
     clear hday
     go_wp2_with fail
     clear cu
     go_loopw [52] (fun i wr => ∃ e : Nat, e ≤ N ∧ i = .int .i64 e ∧ (∀ j : Nat, j < e → H.tot N j day q ≤ 10000) ∧ Below w.heap.size w wr ∧ Below w2.heap.size w2 wr) (fun i _ => N - (RowKit.intOf i).toNat)
     case atStart => exact ⟨0, Nat.zero_le _, rfl, fun j hj => absurd hj (Nat.not_lt_zero _), HB2.out, HB3.out⟩
     case round =>
      obtain ⟨e, he, rfl, hte, hb, hbu⟩ := hrel
      have HTE := Lib.hid hte
      have HB4 := Lib.hid hb
      have HB5 := Lib.hid hbu
      clear hte hb hbu
      by_cases hel : e < N
      ·have hei : (e : Int) < (N : Int) := by omega
       by_cases hbig : 10000 < H.tot N e day q
       ·have hno : b = false := by
         cases b
         ·rfl
         ·exact absurd (HBV.out.1 rfl) (not_valid_tot (n := (N : Int)) (by rw [Int.toNat_natCast]; exact hbig))
        have HNO := Lib.hid hno
        clear hno
        go_wp2_with (go_at_call 114; refine (total_any (HH.out.below HB4.out) HS.out HO.out (by omega)).mono ?_; rintro en w3 ⟨rfl, hb3⟩)
        go_ret
        exact ⟨by rw [HNO.out]; rfl, bt HB4.out hb3⟩
       ·go_wp2_with (go_at_call 114; refine (total_any (HH.out.below HB4.out) HS.out HO.out (by omega)).mono ?_; rintro en w3 ⟨rfl, hb3⟩)
        go_roundw
        case rel =>
         exact ⟨e + 1, by omega, by simp, fun j hj => by
          by_cases z : j = e
          ·subst z; omega
          ·exact HTE.out j (by omega), bt HB4.out hb3, bt HB5.out hb3⟩
        case measure => simp [RowKit.intOf]; omega
      ·obtain rfl : e = N := by omega
       go_wp2_with fail
       go_roundw
       case rel =>
        exact ⟨d + 1, by omega, by simp, fun j hj => by
         by_cases z : j = d
         ·subst z; rw [HDAY.out]; exact HTE.out
         ·exact HT.out j (by omega), HB4.out, HB5.out⟩
       case measure => simp [RowKit.intOf]; omega
    ·obtain rfl : d = ss.length := by omega
     have hyes : b = true := by
      refine HBV.out.2 (valid_own (by omega) (by omega) (by omega) HF.out fun i hi => ?_)
      obtain ⟨_, _, e0, e1, _⟩ := (HF.out i hi).1
      obtain ⟨j, hj, hje⟩ := List.mem_iff_getElem.1 ((HMEM.out _).2 ⟨i, hi, rfl⟩)
      have h := HT.out j hj (H.en i).toNat (by omega)
      rw [List.getD_eq_getElem?_getD, List.getElem?_eq_getElem hj, Option.getD_some, hje, show (((H.en i).toNat : Nat) : Int) = H.en i by omega] at h
      rwa [Int.toNat_natCast]
     have HY := Lib.hid hyes
     clear hyes
     go_wp2_with fail
     go_ret
     exact ⟨by rw [HY.out]; rfl, HB2.out⟩
end Go.Proofs.YteionhenpehogaaGreatDoor
