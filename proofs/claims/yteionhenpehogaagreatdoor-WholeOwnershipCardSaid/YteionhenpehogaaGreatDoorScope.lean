import Derived.Test.YteionhenpehogaaGreatDoorMeth
import Derived.Test.YteionhenpehogaaGreatDoorPlainCtl
namespace Go.Proofs.YteionhenpehogaaGreatDoor
open Go.RowKit Go.Maps Tally
theorem sorted_le (ss : List Int) : (ss.mergeSort (fun x y => decide (x ≤ y))).Pairwise (· ≤ ·) := by
 have := List.pairwise_mergeSort (le := fun (x y : Int) => decide (x ≤ y)) (fun a b c h1 h2 => by simp at *; omega) (fun a b => by simp; omega) ss
 exact this.imp fun h => by simpa using h
theorem keys_le (f : Nat → Int) (n : Nat) (h : Maps.size (setD (fun i => ik (f i)) n) ≤ n) : (intKeys (setD (fun i => ik (f i)) n)).length ≤ n := by
 obtain ⟨es, h1, _⟩ := setD_entries f n
 rw [h1] at h ⊢
 simpa [intKeys, Maps.size] using h
theorem own_ints {w : World} {base : Nat} {a : Option Addr} {c : Nat} {ss : List Int} {m n : Nat} (h : w.ownsRow base 3 1 (.slice a m c) n (ss.map encZ)) (hnn : n = ss.length) (hp : 0 < ss.length) :
  ∃ (g : Nat) (cur : Array Value), a = some ⟨g, 0, none⟩ ∧ w.heap[g]? = some (.cells cur 3 (0, 0)) ∧ ∀ i, i < ss.length → cur[i]? = some (.int .i64 (ss.getD i 0)) := by
 rcases h.2 with ⟨_, h0⟩ | ⟨g, cap, cur, e, _, hh, hn, hm, hs, ht⟩
 ·omega
 ·injection e with e1 e2 e3
  refine ⟨g, cur, e1, hh, fun i hi => ?_⟩
  subst hnn
  have h1 : (cur.toList.take (ss.length * 1))[i]? = (ss.map encZ)[i]? := by rw [ht]
  rw [List.getElem?_take, if_pos (by omega), List.getElem?_map, List.getElem?_eq_getElem hi] at h1
  rw [List.getD_eq_getElem?_getD, List.getElem?_eq_getElem hi]
  simpa [encZ] using h1
set_option maxRecDepth 100000 in
set_option maxHeartbeats 4000000 in
theorem dates_s {w : World} {v : Value} {k : Nat} {H : Hds} (hH : HoldR w v k H) (hd : ∀ i, i < k → -1000000 ≤ H.da i ∧ H.da i ≤ 1000000) :
  Calls Tryz.prog 113 #[v] w fun en w' => ∃ (a' : Option Addr) (c' : Nat) (ss : List Int), en = .returned (.slice a' ss.length c') ∧ (∀ x, x ∈ ss ↔ ∃ i, i < k ∧ H.da i = x) ∧ ss.Pairwise (· ≤ ·) ∧ ss.length ≤ k ∧ (0 < ss.length → ∃ (g : Nat) (cur : Array Value), a' = some ⟨g, 0, none⟩ ∧ w'.heap[g]? = some (.cells cur 3 (0, 0)) ∧ ∀ i, i < ss.length → cur[i]? = some (.int .i64 (ss.getD i 0))) ∧ NumsI w' (.slice a' ss.length c') ss ∧ Below w.heap.size w w' := by
 obtain ⟨a, b, o, c, rfl, h1, h2, h3, h4, h5⟩ := hH
 have HO := Lib.hid hd
 have H5 := Lib.hid h5
 clear hd h5
 have hmm := @run_makeMap Tryz.prog
 go_enter Tryz.func113, Tryz.ntmps113
 go_wp2
 clear hmm
 go_loopw [9] (fun i wr => ∃ q : Nat, q ≤ k ∧ i = .int .i64 q ∧ wr.ownsMap Tryz.prog 3 (plainElem Tryz.prog 4) w.heap.size q (setD (fun i => ik (H.da i)) q) ∧ Below w.heap.size w wr) (fun i _ => k - (RowKit.intOf i).toNat)
 case atStart => exact ⟨0, Nat.zero_le _, rfl, World.ownsMap_made _ _ _ _, (Below.refl _ _).alloc (Nat.le_refl _) _⟩
 case round =>
  obtain ⟨q, hq, rfl, hm, hb⟩ := hrel
  have HM := Lib.hid hm
  have HB := Lib.hid hb
  clear hm hb
  by_cases hlt : q < k
  ·have hqi : (q : Int) < (k : Int) := by omega
   obtain rfl := h4 (by omega)
   obtain ⟨x0, x1, x2, x3⟩ := H5.out q hlt
   have c0 := keepc HB.out x0
   have c1 := keepc HB.out x1
   have c2 := keepc HB.out x2
   have c3 := keepc HB.out x3
   clear x0 x1 x2 x3
   have hwf : (Lit.int .i64 (H.da q)).wf = true := WalkArith.wf_i64 (by have := HO.out q hlt; omega)
   have HW := Lib.hid hwf
   have hws := HB.out.size
   clear hwf
   go_wp2_with (first
    | (at_mapUpdate; refine wpList_mapUpdate_own _ rfl _ _ _ 214 rfl 3 4 (int_keyed Tryz.underlying3) Tryz.underlying214 _ w.heap.size q _ rfl (HM.out.alloc _) (by unfold maxLen; omega) _ _ _ rfl rfl (keyOf_int_mk Tryz.underlying3 HW.out) _ [] (plainElem_bool Tryz.underlying4 true) ?_; intro w1 hown1 hgrow1)
    | go_in)
   go_roundw
   case rel => exact ⟨q + 1, by omega, by simp, hown1, (HB.out.alloc hws _).grown hgrow1 (by simp; omega) (fun j hj => by cases hj; exact Nat.le_refl _)⟩
   case measure => simp [RowKit.intOf]; omega
  ·obtain rfl : q = k := by omega
   have hsz := HM.out.size_le
   have hcS := sorted_any HM.out (by unfold maxLen; omega) (by omega)
   have HS := Lib.hid hcS
   have HSZ := Lib.hid hsz
   clear hcS hsz
   go_wp2_with (first
    | (go_at_call 154; refine (keys_any _ _).mono ?_; rintro e w' ⟨rfl, rfl⟩)
    | (go_at_call 153; refine HS.out.mono ?_; rintro e w' ⟨u, ss, rfl, hS, hrow, hnil, hb⟩))
   go_ret
   have hnu : NumsI w' u (ss.mergeSort (fun x y => decide (x ≤ y))) := NumsI.of_owns (by rw [List.length_mergeSort]; exact hrow)
   obtain ⟨a', c', rfl⟩ : ∃ a' c', u = .slice a' (ss.mergeSort (fun x y => decide (x ≤ y))).length c' := by obtain ⟨a', _, _, c', h, _⟩ := hnu; exact ⟨a', c', h⟩
   refine ⟨a', c', ss.mergeSort (fun x y => decide (x ≤ y)), rfl, fun x => ?_, sorted_le ss, ?_, fun hp => ?_, hnu, bt HB.out (((Below.refl _ _).alloc (Nat.le_refl _) _).trans (hb.mono (by simp)))⟩
   ·rw [(List.mergeSort_perm ss _).mem_iff, hS.mem_iff, mem_keys]
   ·rw [List.length_mergeSort, hS.length_eq]; exact keys_le _ _ HSZ.out
   ·exact own_ints hrow (by rw [List.length_mergeSort]) hp
end Go.Proofs.YteionhenpehogaaGreatDoor
namespace Go.Proofs.YteionhenpehogaaGreatDoor
open Go.RowKit Go.Shelf Tally
attribute [local go_sem] Oper.semAt_some
def KpT (n₀ B : Nat) (W W' : World) : Prop := Below n₀ W W' ∧ (B < W.heap.size → W'.heap[B]? = W.heap[B]?) ∧ ∀ (b : Nat) (cs : Array Value) (fr : Nat × Nat), W.heap[b]? = some (.cells cs 3 fr) → W'.heap[b]? = some (.cells cs 3 fr)
theorem KpT.refl (n₀ B : Nat) (W : World) : KpT n₀ B W W := ⟨Below.refl _ _, fun _ => rfl, fun _ _ _ h => h⟩
theorem KpT.trans {n₀ B : Nat} {X Y Z : World} (h : KpT n₀ B X Y) (k : KpT n₀ B Y Z) : KpT n₀ B X Z :=
 ⟨h.1.trans k.1, fun h3 => (k.2.1 (Nat.lt_of_lt_of_le h3 h.1.size)).trans (h.2.1 h3), fun b cs fr q => k.2.2 b cs fr (h.2.2 b cs fr q)⟩
theorem KpT.of_below {n₀ B : Nat} {X Y : World} (hn : n₀ ≤ X.heap.size) (h : Below X.heap.size X Y) : KpT n₀ B X Y :=
 ⟨h.mono hn, fun hB => h.block B hB, fun b _ _ q => (h.block b (Array.getElem?_eq_some_iff.1 q).1).trans q⟩
theorem KpT.set {n₀ B b o : Nat} {X Y : World} {cs : Array Value} {T : TypeId} {fr : Nat × Nat} (h : KpT n₀ B X Y) (hn : n₀ ≤ b) (hb : b ≠ B) (hT : Y.heap[b]? = some (.cells cs T fr)) (hne : T ≠ 3) (u : Value) : KpT n₀ B X (Y.setCell ⟨b, o, none⟩ u) :=
 ⟨h.1.setCell (p := ⟨b, o, none⟩) hn u, fun h3 => (Below.heap_setCell _ ⟨b, o, none⟩ _ _ (by show B ≠ b; omega)).trans (h.2.1 h3), fun c cs2 fr2 q => by
  have q2 := h.2.2 c cs2 fr2 q
  refine (Below.heap_setCell _ ⟨b, o, none⟩ _ _ (fun e => ?_)).trans q2
  have e2 : c = b := e
  rw [e2, hT] at q2
  injection q2 with q2
  injection q2 with _ q3
  exact hne q3⟩
theorem KpT.grown {n₀ B : Nat} {X Y Z : World} {row : Option Nat} (h : KpT n₀ B X Y) (hg : Y.grownBy Z row) (hn : n₀ ≤ Y.heap.size) (hr : ∀ g, row = some g → n₀ ≤ g ∧ g ≠ B ∧ ∀ cs fr, Y.heap[g]? ≠ some (.cells cs 3 fr)) : KpT n₀ B X Z :=
 ⟨h.1.grown hg hn (fun j e => (hr j e).1), fun h3 => (hg.block B (Nat.lt_of_lt_of_le h3 h.1.size) (fun e => (hr B e.symm).2.1 rfl)).trans (h.2.1 h3), fun c cs fr q => by
  have q2 := h.2.2 c cs fr q
  exact (hg.block c (Array.getElem?_eq_some_iff.1 q2).1 (fun e => (hr c e.symm).2.2 cs fr q2)).trans q2⟩
theorem KpT.cell {n₀ B o : Nat} {X Y : World} {u : Value} (h : KpT n₀ B X Y) (hc : X.cell? ⟨B, o, none⟩ = some u) : Y.cell? ⟨B, o, none⟩ = some u :=
 (World.cell?_of_block (w := X) (a := ⟨B, o, none⟩) (h.2.1 (World.block_lt_of_cell? _ _ hc))).trans hc
theorem KpT.put {n₀ B : Nat} {w : World} (hn : n₀ ≤ w.heap.size) (hB : B < w.heap.size) (W : World) (l : Nat) (o o' : Obj) (hl : w.heap.size ≤ l) (h : W.heap[l]? = some o) (h1 : o.isCells = false) (h2 : o.isWalk = false) : KpT n₀ B W (W.putObj l o') :=
 ⟨belowK_b hn W l o o' hl h h1 h2, fun _ => World.putObj_heap_other (by omega), fun b cs fr q => by
  refine (World.putObj_heap_other (fun e => ?_)).trans q
  subst e
  rw [q] at h
  cases h
  cases h1⟩
abbrev GD := { d : Int // goodDate d }
def DaysS (k : Nat) (H : Hds) (ys : List GD) : Prop :=
 ∃ ss : List Int, ss.Pairwise (· ≤ ·) ∧ (∀ x, x ∈ ss ↔ ∃ i, i < k ∧ H.da i = x) ∧ ys.map (·.1) = -25567 :: ss.filter (fun d => decide (-25567 < d))
set_option maxRecDepth 100000 in
set_option maxHeartbeats 4000000 in
theorem days1_in (n : Nat) (hn : 1 ≤ n) (l B : Nat) {w0 : World} (v : Value) {k : Nat} {H : Hds} (hH : HoldR w0 v k H) (hd : ∀ i, i < k → goodDate (H.da i)) (J Jx : List GD → World → Prop)
  (hY : ∀ pre (x : GD) W, J pre W → pre.length < k + 1 → YieldAt Fence.wide (n - 1) Tryz.prog l #[.int .i64 x.1] W fun en W' =>
   (en = .returned (.bool true) ∧ J (pre ++ [x]) W' ∧ KpT w0.heap.size B W W') ∨ (en = .returned (.bool false) ∧ Jx (pre ++ [x]) W'))
  (hJ : ∀ pre W W', J pre W → W.grownBy W' none → J pre W')
  (W : World) (hW : Below w0.heap.size w0 W) (hc0 : W.cell? ⟨B, 0, none⟩ = some v) (h0 : J [] W) :
  CallsIn Fence.wide n Tryz.prog 157 #[.func (.yield l) #[] #[], .pointer (some ⟨B, 0, none⟩)] W fun en W' => (∃ u, en = .returned u) ∧
   ((∃ ys, DaysS k H ys ∧ J ys W') ∨ (∃ pre, True ∧ Jx pre W')) := by
 have hro : Fence.wide.round = none := rfl
 obtain ⟨a, c, rfl⟩ : ∃ a c, v = .slice a k c := by obtain ⟨a, b, o, c, h1, _⟩ := id hH; exact ⟨a, c, h1⟩
 refine callsIn_of_wp Tryz.func157 rfl trivial ?_ hro
 simp only [Tryz.ntmps157, List.size_toArray, List.length_cons, List.length_nil, Nat.reduceAdd, Nat.reduceSub, Array.replicate_succ, Array.replicate_zero, List.push_toArray, List.append_toArray, List.nil_append, List.cons_append]
 obtain ⟨fn, tmps, assign, body, hy, hR⟩ := hY [] ⟨-25567, by decide⟩ W h0 (by simp)
 have HY := Lib.hid hY
 have HJ := Lib.hid hJ
 have HH := Lib.hid hH
 have HD := Lib.hid hd
 have HW := Lib.hid hW
 clear hY hJ hH hd hW h0
 dsimp only at hy
 gi_wp2
 refine hR.mono ?_
 rintro en W3 (⟨rfl, hJ3, hk3⟩ | ⟨rfl, hJx3⟩)
 rotate_left
 ·gi_wp2
  refine bodyPost_ret (results_none rfl _ _ _) rfl ?_
  exact ⟨⟨_, rfl⟩, .inr ⟨_, trivial, hJx3⟩⟩
 have hb3 := hk3.cell hc0
 have HH3 := Lib.hid (HH.out.below (HW.out.trans hk3.1))
 clear hy hR
 gi_wp2_with (refine ⟨trivial, ?_⟩; gi_at_call 113; refine (callsIn_wide.2 (dates_s HH3.out (fun i hi => by have := HD.out i hi; unfold goodDate at this; omega))).mono ?_; rintro en w4 ⟨a4, c4, ss, rfl, hmem, hsort, hlen, hblk, hnum, hb4⟩)
 have hJ4 := HJ.out _ _ _ hJ3 (grown_of_below hb4)
 obtain ⟨g, cur, hg⟩ : ∃ (g : Nat) (cur : Array Value), 0 < ss.length → a4 = some ⟨g, 0, none⟩ ∧ w4.heap[g]? = some (.cells cur 3 (0, 0)) ∧ ∀ i, i < ss.length → cur[i]? = some (.int .i64 (ss.getD i 0)) := by
  by_cases hp : 0 < ss.length
  ·obtain ⟨g, cur, q⟩ := hblk hp
   exact ⟨g, cur, fun _ => q⟩
  ·exact ⟨0, #[], fun h => absurd h hp⟩
 have hsl : ss.length ≤ 9223372036854775807 := by obtain ⟨_, _, _, _, e, h1, h2, _⟩ := hnum; omega
 have HG := Lib.hid hg
 have HMEM := Lib.hid hmem
 have HSORT := Lib.hid hsort
 clear hJ3 hb4 hblk hnum hg hmem hsort
 gi_loopw [11] (fun i wr => ∃ (q : Nat) (pre : List GD), q ≤ ss.length ∧ i = .int .i64 (q : Nat) ∧ pre.map (·.1) = -25567 :: (ss.take q).filter (fun d => decide (-25567 < d)) ∧ J pre wr ∧ (0 < ss.length → wr.heap[g]? = some (.cells cur 3 (0, 0)))) (fun i _ => ss.length - (intOf i).toNat)
 case atStart => exact ⟨0, _, Nat.zero_le _, rfl, by simp, hJ4, fun h => (HG.out h).2.1⟩
 case round =>
  obtain ⟨q, pre, hq, rfl, hpre, hJr, hgr⟩ := hrel
  by_cases hlt : q < ss.length
  ·have hqi : (q : Int) < (ss.length : Int) := by omega
   obtain ⟨rfl, _, hcur⟩ := HG.out (by omega)
   have hgb := hgr (by omega)
   have x1 : wr.cell? ⟨g, q, none⟩ = some (.int .i64 (ss.getD q 0)) := by rw [Lib.cell_of_heap hgb]; exact hcur q hlt
   have htk : ss.take (q + 1) = ss.take q ++ [ss.getD q 0] := by rw [List.take_add_one, List.getD_eq_getElem?_getD, List.getElem?_eq_getElem hlt]; rfl
   have hin : ss.getD q 0 ∈ ss := by rw [List.getD_eq_getElem?_getD, List.getElem?_eq_getElem hlt]; exact List.getElem_mem hlt
   have hpl : pre.length < k + 1 := by
    have h1 : (pre.map (·.1)).length = pre.length := List.length_map _
    rw [hpre] at h1
    have h2 := List.length_filter_le (fun d => decide (-25567 < d)) (ss.take q)
    rw [List.length_take] at h2
    simp only [List.length_cons] at h1
    omega
   obtain ⟨d, hdd⟩ : ∃ d, ss.getD q 0 = d := ⟨_, rfl⟩
   rw [hdd] at x1 htk hin
   obtain ⟨i0, hi0, hi1⟩ := (HMEM.out d).1 hin
   have hgd : goodDate d := by rw [← hi1]; exact HD.out i0 hi0
   have HGB := Lib.hid hgb
   have HPRE := Lib.hid hpre
   have HTK := Lib.hid htk
   clear hcur hgr hgb hpre htk hin hdd
   by_cases hd0 : -25567 < d
   ·obtain ⟨fn, tmps, assign, body, hy, hR⟩ := HY.out pre ⟨d, hgd⟩ wr hJr hpl
    dsimp only at hy
    clear hJr
    gi_wp2
    refine hR.mono ?_
    rintro en W5 (⟨rfl, hJ5, hk5⟩ | ⟨rfl, hJx5⟩)
    ·have HG5 := Lib.hid (hk5.2.2 _ _ _ HGB.out)
     gi_wp2
     go_roundw
     case rel => exact ⟨q + 1, _, by omega, by go_num, by rw [HTK.out, List.filter_append, List.map_append, HPRE.out]; simp [hd0], hJ5, fun _ => HG5.out⟩
     case measure => simp [intOf]; omega
    ·gi_wp2
     refine bodyPost_ret (results_none rfl _ _ _) rfl ?_
     exact ⟨⟨_, rfl⟩, .inr ⟨_, trivial, hJx5⟩⟩
   ·gi_wp2
    refine ⟨fun _ h => (by cases h), ?_⟩
    gi_wp2
    go_roundw
    case rel => exact ⟨q + 1, pre, by omega, by go_num, by rw [HTK.out, List.filter_append, HPRE.out]; simp [hd0], hJr, fun _ => HGB.out⟩
    case measure => simp [intOf]; omega
  ·obtain rfl : q = ss.length := by omega
   rw [List.take_length] at hpre
   gi_wp2
   go_end0
   exact ⟨⟨_, rfl⟩, .inl ⟨_, ⟨ss, HSORT.out, HMEM.out, hpre⟩, hJr⟩⟩
theorem days_stops (n : Nat) (hn : 1 ≤ n) (B : Nat) {w0 : World} (v : Value) {k : Nat} {H : Hds} (hH : HoldR w0 v k H) (hd : ∀ i, i < k → goodDate (H.da i)) (w : World) (hW : Below w0.heap.size w0 w) (hc0 : w.cell? ⟨B, 0, none⟩ = some v) :
  SeqStopsK Fence.wide n Tryz.prog 157 #[.pointer (some ⟨B, 0, none⟩)] (fun x : GD => #[.int .i64 x.1]) (KpT w0.heap.size B) (DaysS k H) (fun _ => True) (k + 1) w := fun l J Jx W hW' hJ _ hY h0 =>
 days1_in n hn l B v hH hd J Jx hY (fun pre A C hj hg => hJ pre A C none hj hg (fun r q => by cases q)) W (hW.trans (hW'.mono hW.size)) (keepc hW' hc0) h0
theorem days_in (n : Nat) (a : Option Addr) (k c : Nat) (w : World) :
  CallsIn Fence.wide n Tryz.prog 121 #[.slice a k c] w fun en w' => en = .returned (.func (.func 157) #[] #[.pointer (some ⟨w.heap.size, 0, none⟩)]) ∧ w' = w.alloc (.cells #[.slice a k c] 22) := by
 refine callsIn_of_wp Tryz.func121 rfl trivial ?_ rfl
 simp only [Tryz.ntmps121, List.size_toArray, List.length_cons, List.length_nil, Nat.reduceAdd, Nat.reduceSub, Array.replicate_succ, Array.replicate_zero, List.push_toArray, List.append_toArray, List.nil_append, List.cons_append]
 gi_wp2
 go_ret
 exact ⟨rfl, rfl⟩
theorem wpListIn_load_row {F : Fence} {n : Nat} {P : Program} {ops : Array Oper} {rest : List Oper} {o : Oper} {a : Act} {w : World} {Q : Exit → Act → World → Prop} (hgd : o.guard = none) (ty : TypeId) (x : Operand) (ho : o.op = .load ty x)
  (g : Nat) (hx : a.eval x = .pointer (some ⟨g, 0, none⟩)) (t : TypeId) (cs : Array Value) (fr : Nat × Nat) (d : TypeDesc) (hg : w.heap[g]? = some (.cells cs t fr))
  (hu : P.underlying ty = some d) (hd : (match d with | .struct _ | .array _ _ => true | _ => false) = true) (hi : (P.info? ty).map (·.size) = some cs.size)
  (h : wpListIn F n P ops Q rest (a.put o.dst (.agg cs)) w) : wpListIn F n P ops Q (o :: rest) a w := by
 refine wpListIn_plain hgd fun K hK' => ?_
 unfold Oper.wpIn
 refine ⟨?_, ?_⟩
 ·simp [Oper.about, ho]
 ·rw [Oper.semAt_plain F _ _ (by rw [ho]; intro c hc'; cases hc')]
  simp only [execOp, ho, hx, Instr.loadAt, Instr.sureAddr, Sem.run_bind, Sem.run_pure, Result.andThen_ok, run_loadVar_row w g t ty cs fr d hg hu hd hi]
  exact hK' _ _ h
end Go.Proofs.YteionhenpehogaaGreatDoor
