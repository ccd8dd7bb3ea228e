import Derived.Test.YteionhenpehogaaGreatDoorCtl
import Derived.Test.YteionhenpehogaaGreatDoorHoldZ
namespace Go.Proofs.YteionhenpehogaaGreatDoor
open Go.RowKit Go.Shelf Tally
attribute [local go_sem] Oper.semAt_some
def KpB (n₀ B : Nat) (W W' : World) : Prop := Below n₀ W W' ∧ (B < W.heap.size → W'.heap[B]? = W.heap[B]?)
theorem KpB.refl (n₀ B : Nat) (W : World) : KpB n₀ B W W := ⟨Below.refl _ _, fun _ => rfl⟩
theorem KpB.trans {n₀ B : Nat} {X Y Z : World} (h : KpB n₀ B X Y) (k : KpB n₀ B Y Z) : KpB n₀ B X Z :=
 ⟨h.1.trans k.1, fun h3 => (k.2 (Nat.lt_of_lt_of_le h3 h.1.size)).trans (h.2 h3)⟩
theorem KpB.set {n₀ B b o : Nat} {X Y : World} (h : KpB n₀ B X Y) (hn : n₀ ≤ b) (hb : b ≠ B) (u : Value) : KpB n₀ B X (Y.setCell ⟨b, o, none⟩ u) :=
 ⟨h.1.setCell (p := ⟨b, o, none⟩) hn u, fun h3 => (Below.heap_setCell _ ⟨b, o, none⟩ _ _ (by show B ≠ b; omega)).trans (h.2 h3)⟩
theorem KpB.cell {n₀ B o : Nat} {X Y : World} {u : Value} (h : KpB n₀ B X Y) (hc : X.cell? ⟨B, o, none⟩ = some u) : Y.cell? ⟨B, o, none⟩ = some u :=
 (World.cell?_of_block (w := X) (a := ⟨B, o, none⟩) (h.2 (World.block_lt_of_cell? _ _ hc))).trans hc
theorem KpB.put {n₀ B : Nat} {w : World} (hn : n₀ ≤ w.heap.size) (hB : B < w.heap.size) (W : World) (l : Nat) (o o' : Obj) (hl : w.heap.size ≤ l) (h : W.heap[l]? = some o) (h1 : o.isCells = false) (h2 : o.isWalk = false) : KpB n₀ B W (W.putObj l o') :=
 ⟨belowK_b hn W l o o' hl h h1 h2, fun _ => World.putObj_heap_other (by omega)⟩
theorem bit_at (a : Nat) : (2 : Int) ^ a = ((2 ^ a : Nat) : Int) := by rw [Int.natCast_pow]; rfl
set_option maxRecDepth 100000 in
set_option maxHeartbeats 4000000 in
theorem steps1_in (n : Nat) (hn : 1 ≤ n) (l B : Nat) {w0 : World} (v : Value) {N : Nat} {Z : Nat → Nat → Int} (hN1 : 1 ≤ N) (hN : N ≤ 12) (hz : ∀ i k, i < N → k < N → 0 ≤ Z i k ∧ Z i k ≤ 10000) (J Jx : List Nat → World → Prop)
  (hY : ∀ pre x W, J pre W → pre.length < 4096 → YieldAt Fence.wide (n - 1) Tryz.prog l #[.int .i64 (x : Nat), .int .u16 (msk (fsh N Z x) N : Nat)] W fun en W' =>
   (en = .returned (.bool true) ∧ J (pre ++ [x]) W' ∧ KpB w0.heap.size B W W') ∨ (en = .returned (.bool false) ∧ Jx (pre ++ [x]) W'))
  (W : World) (hW : Below w0.heap.size w0 W) (hc0 : W.cell? ⟨B, 0, none⟩ = some v) (hM : MatZ w0 v N N Z) (h0 : J [] W) :
  CallsIn Fence.wide n Tryz.prog 156 #[.func (.yield l) #[] #[], .pointer (some ⟨B, 0, none⟩)] W fun en W' => (∃ u, en = .returned u) ∧
   ((∃ ys, (∃ j, ys = List.range j ∧ ∀ e, e < N → fsh N Z j e = false) ∧ J ys W') ∨ (∃ pre, True ∧ Jx pre W')) := by
 have hro : Fence.wide.round = none := rfl
 obtain ⟨am, cm, rfl, hcm⟩ : ∃ a c, v = .slice a N c ∧ c ≤ 9223372036854775807 := by obtain ⟨a, _, _, c, h1, h2, h3, _⟩ := id hM; exact ⟨a, c, h1, h3⟩
 refine callsIn_of_wp Tryz.func156 rfl trivial ?_ hro
 simp only [Tryz.ntmps156, List.size_toArray, List.length_cons, List.length_nil, Nat.reduceAdd, Nat.reduceSub, Array.replicate_succ, Array.replicate_zero, List.push_toArray, List.append_toArray, List.nil_append, List.cons_append]
 gi_wp2
 have HY := Lib.hid hY
 have HM := Lib.hid hM
 have HZ := Lib.hid hz
 have HW := Lib.hid hW
 clear hY hM hz hW
 gi_loopw [3, 4, 5] (fun al fr i wr => ∃ q : Nat, (msk (fsh N Z q) N ≠ 0 → q ≤ msk (alls N Z q) N) ∧ al = .int .u16 (msk (alls N Z q) N : Nat) ∧ fr = .int .u16 (msk (fsh N Z q) N : Nat) ∧ i = .int .i64 (q : Nat) ∧ J (List.range q) wr ∧ KpB w0.heap.size B W wr)
  (fun al fr _ _ => 4096 - (intOf al).toNat + min (intOf fr).toNat 1)
 case atStart => exact ⟨0, fun _ => Nat.zero_le _, by rw [show msk (alls N Z 0) N = 1 from msk_start N hN1]; rfl, by rw [show msk (fsh N Z 0) N = 1 from msk_start N hN1]; rfl, rfl, h0, KpB.refl _ _ _⟩
 case round =>
  obtain ⟨q, hq, rfl, rfl, rfl, hJs, hk⟩ := hrel
  have hsa := msk_small (alls N Z q) hN
  have hsf := msk_small (fsh N Z q) hN
  by_cases hf0 : msk (fsh N Z q) N = 0
  ·rw [hf0]
   have hdone := Lib.hid (msk_none N hf0)
   gi_wp2
   refine ⟨fun _ h => (by cases h), ?_⟩
   gi_wp2
   go_end0
   exact ⟨⟨_, rfl⟩, .inl ⟨_, ⟨q, rfl, hdone.out⟩, hJs⟩⟩
  ·have hq2 := hq hf0
   have hfb : ((msk (fsh N Z q) N : Nat) : Int) ≠ 0 := by omega
   have hfc : (((msk (fsh N Z q) N : Nat) : Int) != 0) = true := bne_iff_ne.2 hfb
   obtain ⟨fn, tmps, assign, body, hy, hR⟩ := HY.out _ q wr hJs (by simp; omega)
   clear hJs
   gi_wp2
   refine hR.mono ?_
   rintro en W3 (⟨rfl, hJ3, hk3⟩ | ⟨rfl, hJx3⟩)
   ·have hk4 := hk.trans hk3
    have HM3 := Lib.hid (HM.out.below (HW.out.trans hk4.1))
    have hb3 := hk4.cell hc0
    gi_wp2
    gi_loopw [4, 20] (fun fr i wi => ∃ e : Nat, e ≤ N ∧ fr = .int .u16 (msk (frs N Z (alls N Z q)) e : Nat) ∧ i = .int .i64 (e : Nat) ∧ wi = W3) (fun _ i _ => N - (intOf i).toNat)
    case atStart => exact ⟨0, Nat.zero_le _, rfl, rfl, rfl⟩
    case round =>
     obtain ⟨e, he, rfl, rfl, hwi⟩ := hrel
     subst hwi
     have hse := msk_small (frs N Z (alls N Z q)) (N := e) (by omega)
     by_cases heN : e < N
     ·have heI : (e : Int) < (N : Int) := by omega
      have hb := msk_and (s := alls N Z q) hN heN
      cases hs : alls N Z q e
      ·have hb2 : (bits BinOp.and IntKind.u16 ((msk (alls N Z q) N : Int) / 2 ^ e) 1 == 0) = true := by rw [hb, hs]; rfl
       clear hb
       obtain ⟨V, hV⟩ : ∃ V, vts N Z (alls N Z q) e = V := ⟨_, rfl⟩
       have HV := Lib.hid hV
       clear hV
       by_cases hv : 5000 < V
       ·have hfe : frs N Z (alls N Z q) e = true := by unfold frs; rw [hs, HV.out, decide_eq_true heN, decide_eq_true hv]; rfl
        have hor : bits BinOp.or IntKind.u16 ((msk (frs N Z (alls N Z q)) e : Nat) : Int) (IntKind.u16.wrap (2 ^ e)) = ((msk (frs N Z (alls N Z q)) (e + 1) : Nat) : Int) := by
         have h12 : 2 ^ e ≤ 4096 := Nat.le_trans (Nat.pow_le_pow_right (by decide) (show e ≤ 12 by omega)) (by decide)
         have hwr : ∀ p : Nat, p ≤ 4096 → IntKind.u16.wrap (p : Int) = (p : Int) := fun p hp => by rw [IntKind.wrap_u16]; omega
         rw [bit_at, hwr _ h12, bits_or_u16_nat _ _ (by omega) (Nat.lt_of_le_of_lt h12 (by decide)), msk_put, show msk (frs N Z (alls N Z q)) (e + 1) = msk (frs N Z (alls N Z q)) e + if frs N Z (alls N Z q) e = true then 2 ^ e else 0 from rfl, if_pos hfe]
        have HOR := Lib.hid hor
        clear hor hfe hs
        gi_wp2_with (refine ⟨trivial, ?_⟩; gi_at_call 120; refine (callsIn_wide.2 (votes_any HM3.out hN heN HZ.out)).mono ?_; rintro en w5 ⟨rfl, rfl⟩; rw [show isum N (fun h => if alls N Z q h = true then Z h e else 0) = V from HV.out])
        rw [HOR.out]
        go_roundw
        case rel => exact ⟨e + 1, by omega, rfl, by go_num, trivial⟩
        case measure => simp [intOf]; omega
       ·have hfe : msk (frs N Z (alls N Z q)) (e + 1) = msk (frs N Z (alls N Z q)) e := by
         rw [show msk (frs N Z (alls N Z q)) (e + 1) = msk (frs N Z (alls N Z q)) e + if frs N Z (alls N Z q) e = true then 2 ^ e else 0 from rfl, if_neg (by unfold frs; rw [HV.out, decide_eq_false hv]; simp)]
         rfl
        have HFE := Lib.hid hfe
        clear hfe hs
        gi_wp2_with (refine ⟨trivial, ?_⟩; gi_at_call 120; refine (callsIn_wide.2 (votes_any HM3.out hN heN HZ.out)).mono ?_; rintro en w5 ⟨rfl, rfl⟩; rw [show isum N (fun h => if alls N Z q h = true then Z h e else 0) = V from HV.out])
        go_roundw
        case rel => exact ⟨e + 1, by omega, by rw [HFE.out], by go_num, trivial⟩
        case measure => simp [intOf]; omega
      ·have hb2 : (bits BinOp.and IntKind.u16 ((msk (alls N Z q) N : Int) / 2 ^ e) 1 == 0) = false := by rw [hb, hs]; rfl
       have hfe : msk (frs N Z (alls N Z q)) (e + 1) = msk (frs N Z (alls N Z q)) e := by
        rw [show msk (frs N Z (alls N Z q)) (e + 1) = msk (frs N Z (alls N Z q)) e + if frs N Z (alls N Z q) e = true then 2 ^ e else 0 from rfl, if_neg (by unfold frs; rw [hs]; simp)]
        rfl
       have HFE := Lib.hid hfe
       clear hfe hs hb
       gi_wp2
       refine ⟨trivial, ?_⟩
       gi_wp2
       go_roundw
       case rel => exact ⟨e + 1, by omega, by rw [HFE.out], by go_num, trivial⟩
       case measure => simp [intOf]; omega
     ·obtain rfl : e = N := by omega
      have hor : bits BinOp.or IntKind.u16 ((msk (alls e Z q) e : Nat) : Int) ((msk (frs e Z (alls e Z q)) e : Nat) : Int) = ((msk (alls e Z (q + 1)) e : Nat) : Int) := by
       rw [bits_or_u16_nat _ _ (by omega) (by omega), msk_or]
       rfl
      have hgr : msk (alls e Z (q + 1)) e = msk (alls e Z q) e + msk (frs e Z (alls e Z q)) e := msk_grow e fun x hx h => frs_new h
      have HOR := Lib.hid hor
      have HGR := Lib.hid hgr
      clear hor hgr
      have hsn := msk_small (alls e Z (q + 1)) hN
      gi_wp2
      rw [HOR.out]
      go_roundw
      case rel => exact ⟨q + 1, fun h => by rw [HGR.out]; have h2 : msk (frs e Z (alls e Z q)) e ≠ 0 := h; omega, rfl, rfl, by go_num, by rw [List.range_succ]; exact hJ3, hk4⟩
      case measure => simp [intOf]; rw [HGR.out]; omega
   ·gi_wp2
    go_end0
    exact ⟨⟨_, rfl⟩, .inr ⟨_, trivial, hJx3⟩⟩
theorem steps_stops (n : Nat) (hn : 1 ≤ n) (B : Nat) {w0 : World} (v : Value) {N : Nat} {Z : Nat → Nat → Int} (hN1 : 1 ≤ N) (hN : N ≤ 12) (hz : ∀ i k, i < N → k < N → 0 ≤ Z i k ∧ Z i k ≤ 10000) (w : World) (hW : Below w0.heap.size w0 w) (hc0 : w.cell? ⟨B, 0, none⟩ = some v) (hM : MatZ w0 v N N Z) :
  SeqStopsK Fence.wide n Tryz.prog 156 #[.pointer (some ⟨B, 0, none⟩)] (fun x : Nat => #[.int .i64 (x : Nat), .int .u16 (msk (fsh N Z x) N : Nat)]) (KpB w0.heap.size B) (fun ys => ∃ j, ys = List.range j ∧ ∀ e, e < N → fsh N Z j e = false) (fun _ => True) 4096 w := fun l J Jx W hW' _ _ hY h0 =>
 steps1_in n hn l B v hN1 hN hz J Jx hY W (hW.trans (hW'.mono hW.size)) (keepc hW' hc0) hM h0
theorem steps_in (n : Nat) (a : Option Addr) (k c : Nat) (w : World) :
  CallsIn Fence.wide n Tryz.prog 119 #[.slice a k c] w fun en w' => en = .returned (.func (.func 156) #[] #[.pointer (some ⟨w.heap.size, 0, none⟩)]) ∧ w' = w.alloc (.cells #[.slice a k c] 101) := by
 refine callsIn_of_wp Tryz.func119 rfl trivial ?_ rfl
 simp only [Tryz.ntmps119, List.size_toArray, List.length_cons, List.length_nil, Nat.reduceAdd, Nat.reduceSub, Array.replicate_succ, Array.replicate_zero, List.push_toArray, List.append_toArray, List.nil_append, List.cons_append]
 gi_wp2
 go_ret
 exact ⟨rfl, rfl⟩
theorem rowIs_own {β : Type} (B : Nat) (t : TypeId) (n : Nat) (f : β → Nat → Value) : Go.Own (β := β) (fun x W => W.rowIs B t n (f x)) := fun s X Y row hs hg hrow => by
 obtain ⟨c, hc, _⟩ := id hs
 refine hs.of_block (hg.block B hs.lt fun e => ?_)
 obtain ⟨o, ho, hn⟩ := hrow B e.symm
 rw [hc] at ho
 cases ho
 cases hn
set_option maxRecDepth 100000 in
set_option maxHeartbeats 4000000 in
theorem rank_in {w : World} {v : Value} {k N : Nat} {H : Hds} {day : Int} (hH : HoldR w v k H) (hw : Hwf H k) (hv : H.valid N k) (hd : goodDate day) :
  CallsIn Fence.wide 6 Tryz.prog 76 #[.int .i64 N, v, .int .i64 day] w fun en w' => ∃ (B : Nat) (l : List Nat), en = .returned (.tuple #[.slice (some ⟨B, 0, none⟩) N N, .int .i64 0]) ∧ w'.rowIs B 3 N (fun e => .int .i64 (rks N (fun h e => H.at h e day k) l e)) ∧ IsCtl N (fun h e => H.at h e day k) (ufs N (fun h e => H.at h e day k) l) ∧ Below w.heap.size w w' := by
 obtain ⟨a, c, rfl⟩ : ∃ a c, v = .slice a k c := by obtain ⟨a, b, o, c, h1, _⟩ := hH; exact ⟨a, c, h1⟩
 have hN1 : 1 ≤ N := by have := hv.1; omega
 have hN2 : N ≤ 12 := by have := hv.2.1; omega
 have hmake := run_make_row' (P := Tryz.prog) 53 3 (.int .i64 0) 8 Tryz.underlying53 infoI rfl .i64 .i64 N (by omega) (by omega)
 have HZ := Lib.hid (show ∀ h e : Nat, h < N → e < N → 0 ≤ H.at h e day k ∧ H.at h e day k ≤ 10000 from at_zrange hv)
 have HH := Lib.hid hH
 have HV := Lib.hid hv
 have HWf := Lib.hid hw
 have HD := Lib.hid hd
 clear hH hv hw hd
 refine callsIn_of_wp_marks Tryz.func76 rfl trivial ?_ rfl
 simp only [Tryz.ntmps76, List.size_toArray, List.length_cons, List.length_nil, Nat.reduceAdd, Nat.reduceSub, Array.replicate_succ, Array.replicate_zero, List.push_toArray, List.append_toArray, List.nil_append, List.cons_append]
 gi_wp2_with (refine ⟨trivial, ?_⟩; gi_at_call 51; refine (callsIn_wide.2 (matrix_yes HH.out HWf.out HV.out HD.out)).mono ?_; rintro en w1 ⟨am, cm, rfl, hM, hb1⟩)
 clear hmake
 have HM := Lib.hid hM
 have HB1 := Lib.hid hb1
 clear hM hb1
 gi_loopw [29] (fun i wr => ∃ q : Nat, q ≤ N ∧ i = .int .i64 (q : Nat) ∧ Below w1.heap.size w1 wr ∧ wr.heap.size = w1.heap.size + 1 + 1 ∧ wr.rowIs w1.heap.size 3 N (fun e => .int .i64 (if e < q then -1 else 0)) ∧ Boxed wr (w1.heap.size + 1) 53 (.slice (some ⟨w1.heap.size, 0, none⟩) N N)) (fun i _ => N - (intOf i).toNat)
 case atStart => exact ⟨0, Nat.zero_le _, rfl, ((Below.refl _ _).alloc (Nat.le_refl _) _).alloc (by simp) _, by simp, ((World.rowIs_made w1 _ N 3).alloc _).congr (fun i _ => by simp), by simpa using Boxed.new (w1.alloc _) 53 _⟩
 case round =>
  obtain ⟨q, hq, rfl, hB, hS, hrow, hbox⟩ := hrel
  have HR := Lib.hid hrow
  have HX := Lib.hid hbox
  have HB := Lib.hid hB
  clear hrow hB
  have cX := hbox.cell
  clear hbox
  by_cases hlt : q < N
  ·have hqi : (q : Int) < (N : Int) := by omega
   have y1 := HR.out.cell hlt
   have y2 := HR.out.frozen q
   gi_wp2
   go_roundw
   case rel =>
    refine ⟨q + 1, by omega, by go_num, HB.out.setCell (p := ⟨w1.heap.size, q, none⟩) (Nat.le_refl _) _, by simpa using hS, (HR.out.set q _).congr fun j hj => ?_, (Below.heap_setCell _ ⟨w1.heap.size, q, none⟩ _ _ (by show w1.heap.size + 1 ≠ w1.heap.size; omega)).trans HX.out⟩
    by_cases e1 : j = q
    ·subst e1; simp
    ·simp only [e1, if_false]
     by_cases e2 : j < q
     ·rw [if_pos e2, if_pos (by omega)]
     ·rw [if_neg e2, if_neg (by omega)]
   case measure => simp [intOf]; omega
  ·obtain rfl : q = N := by omega
   gi_wp2_with (refine ⟨trivial, ?_⟩; gi_at_call 119; refine (steps_in _ am _ cm _).mono ?_; rintro en w' ⟨rfl, rfl⟩)
   obtain ⟨W0, hW0, hsz, hb0, q0⟩ := alloc1 wr (.cells #[.slice am q cm] 101)
   rw [← hW0]
   have HB2 := Lib.hid (HB.out.trans (hb0.mono HB.out.size))
   have HR2 := Lib.hid ((HR.out.of_block (hb0.block _ (by omega))).congr (g := fun e => .int .i64 (rks q (fun h e => H.at (h : Nat) (e : Nat) day k) [] e)) fun i hi => by rw [if_pos hi]; rfl)
   have HX2 := Lib.hid (HX.out.alloc (.cells #[.slice am q cm] 101))
   rw [← hW0] at HX2
   clear hW0 hb0
   rw [hS] at q0
   refine wpIn_rangeFunc_ownH (encs := fun x : Nat => #[.int .i64 (x : Nat), .int .u16 (msk (fsh q (fun h e => H.at (h : Nat) (e : Nat) day k) x) q : Nat)]) rfl (by omega) (gf := 156) (lb := #[.pointer (some ⟨w1.heap.size + 1 + 1, 0, none⟩)]) rfl trivial (enters_of Tryz.func156 (by kernel_rfl) rfl)
    (steps_stops _ (by omega) (w1.heap.size + 1 + 1) (w0 := w1) (.slice am q cm) hN1 hN2 HZ.out W0 HB2.out (Boxed.cell (t := 101) q0) HM.out) KpB.trans (KpB.put (by omega) (by omega)) (Below.refl _ _) (fun _ => rfl)
    (fun pre W => (W.rowIs w1.heap.size 3 q (fun e => .int .i64 (rks q (fun h e => H.at (h : Nat) (e : Nat) day k) pre e)) ∧ Boxed W (w1.heap.size + 1) 53 (.slice (some ⟨w1.heap.size, 0, none⟩) q q)) ∧ Below w1.heap.size w1 W)
    (fun _ _ _ => False)
    (OwnFrom.and (OwnFrom.and (Own.from (rowIs_own _ _ _ _) _) (Own.from (boxed_own _ _ _) _)) (ownFrom_below (Nat.le_refl _) (by omega)))
    (fun _ _ _ _ _ hs _ _ => hs)
    ⟨⟨HR2.out, HX2.out⟩, HB2.out⟩
    (fun x a' W => a' = { tmps := #[.int .i64 q, .slice a k c, .int .i64 day, undef, undef, undef, .slice none 0 0, .int .i64 0, .slice am q cm, .int .i64 0, .pointer (some ⟨w1.heap.size + 1, 0, none⟩), u11, .int .i64 (x : Nat), .int .u16 (msk (fsh q (fun h e => H.at (h : Nat) (e : Nat) day k) x) q : Nat), undef, .tuple #[.slice am q cm, .int .i64 0], .int .i64 q, .slice a k c, .int .i64 day, .tuple #[.slice am q cm, .int .i64 0], .slice am q cm, .int .i64 0, .int .i64 0, .bool false, undef, .int .i64 q, .slice (some ⟨w1.heap.size, 0, none⟩) q q, .slice (some ⟨w1.heap.size, 0, none⟩) q q, .int .i64 q, .int .i64 q, .bool false, u31, u32, u33, u34, u35, .slice am q cm, .func (.func 156) #[] #[.pointer (some ⟨w1.heap.size + 1 + 1, 0, none⟩)], .int .i64 (x : Nat), .int .u16 (msk (fsh q (fun h e => H.at (h : Nat) (e : Nat) day k) x) q : Nat), undef, undef, undef, undef, undef, undef, undef, undef, undef, undef, undef, undef, undef, undef, undef, undef], defers := [] })
    (fun x a' _ X Y row hs hg hr => hs)
    ?assign ?body ?done ?stop
   case assign =>
    rintro l pre x W K ⟨⟨hr, hx⟩, hB⟩ hK
    gi_wp2
    exact hK _ _ (KeepsFrom.refl _ _) (KpB.refl _ _ _) ⟨⟨hr, hx⟩, hB⟩ rfl
   case body =>
    rintro l pre x a' W hl ⟨r, hr⟩ ⟨⟨hrow, hx⟩, hB⟩ rfl hlt
    have cX := hx.cell
    have hsx := msk_small (fsh q (fun h e => H.at (h : Nat) (e : Nat) day k) x) hN2
    have hsn : ∀ e, rks q (fun h e => H.at (h : Nat) (e : Nat) day k) (pre ++ [x]) e = if fsh q (fun h e => H.at (h : Nat) (e : Nat) day k) x e = true then (x : Int) else rks q (fun h e => H.at (h : Nat) (e : Nat) day k) pre e := fun e => by rw [rks_snoc]
    obtain ⟨fs, hfs⟩ : ∃ fs, fsh q (fun h e => H.at (h : Nat) (e : Nat) day k) x = fs := ⟨_, rfl⟩
    obtain ⟨R1, hR1⟩ : ∃ R1, rks q (fun h e => H.at (h : Nat) (e : Nat) day k) pre = R1 := ⟨_, rfl⟩
    obtain ⟨R2, hR2⟩ : ∃ R2, rks q (fun h e => H.at (h : Nat) (e : Nat) day k) (pre ++ [x]) = R2 := ⟨_, rfl⟩
    have HR2' := Lib.hid hR2
    rw [hfs, hR1, hR2] at hsn
    rw [hR1] at hrow
    rw [hfs] at hsx ⊢
    have HSN := Lib.hid hsn
    clear hsn hfs hR1 hR2
    gi_wp2
    gi_loopw [42] (fun i wi => ∃ e : Nat, e ≤ q ∧ i = .int .i64 (e : Nat) ∧ wi.rowIs w1.heap.size 3 q (fun j => .int .i64 (if j < e then R2 j else R1 j)) ∧ Boxed wi (w1.heap.size + 1) 53 (.slice (some ⟨w1.heap.size, 0, none⟩) q q) ∧ KeepsFrom W0.heap.size W wi ∧ KpB w1.heap.size (w1.heap.size + 1 + 1) W wi) (fun i _ => q - (intOf i).toNat)
    case atStart => exact ⟨0, Nat.zero_le _, rfl, hrow.congr fun j _ => by simp, hx, KeepsFrom.refl _ _, KpB.refl _ _ _⟩
    case round =>
     obtain ⟨e, he, rfl, hrow, hx, hkf, hkp⟩ := hrel
     have cX := hx.cell
     by_cases heq : e < q
     ·have heI : (e : Int) < (q : Int) := by omega
      have hb := msk_and (s := fs) hN2 heq
      have y1 := hrow.cell heq
      have y2 := hrow.frozen e
      have Y := Lib.hid hrow
      have X := Lib.hid hx
      have KF := Lib.hid hkf
      have KP := Lib.hid hkp
      clear hrow hx hkf hkp
      cases hs : fs e
      ·have hb2 : (bits BinOp.and IntKind.u16 ((msk fs q : Int) / 2 ^ e) 1 == 1) = false := by rw [hb, hs]; rfl
       have HR3 := Lib.hid (show R2 e = R1 e from by rw [HSN.out, hs]; rfl)
       clear hb hs
       gi_wp2
       go_roundw
       case rel => exact ⟨e + 1, by omega, by go_num, Y.out.congr fun j _ => by
        by_cases e1 : j = e
        ·subst e1; rw [if_neg (by omega), if_pos (by omega), HR3.out]
        ·by_cases e2 : j < e
         ·rw [if_pos e2, if_pos (by omega)]
         ·rw [if_neg e2, if_neg (by omega)], X.out, KF.out, KP.out⟩
       case measure => simp [intOf]; omega
      ·have hb2 : (bits BinOp.and IntKind.u16 ((msk fs q : Int) / 2 ^ e) 1 == 1) = true := by rw [hb, hs]; rfl
       have HR3 := Lib.hid (show R2 e = (x : Int) from by rw [HSN.out, hs]; rfl)
       clear hb hs
       gi_wp2
       go_roundw
       case rel => exact ⟨e + 1, by omega, by go_num, (Y.out.set e _).congr fun j _ => by
        by_cases e1 : j = e
        ·subst e1; rw [if_pos rfl, if_pos (by omega), HR3.out]
        ·rw [if_neg e1]
         by_cases e2 : j < e
         ·rw [if_pos e2, if_pos (by omega)]
         ·rw [if_neg e2, if_neg (by omega)], (Below.heap_setCell _ ⟨w1.heap.size, e, none⟩ _ _ (by show w1.heap.size + 1 ≠ w1.heap.size; omega)).trans X.out, KF.out.trans ((KeepsOthers.setCell _ _ _).from _), KP.out.set (Nat.le_refl _) (by omega) _⟩
       case measure => simp [intOf]; omega
     ·obtain rfl : e = q := by omega
      have Y := Lib.hid hrow
      have X := Lib.hid hx
      have KF := Lib.hid hkf
      have KP := Lib.hid hkp
      clear hrow hx hkf hkp
      gi_wp2
      exact ⟨KF.out, KP.out, ⟨Y.out.congr fun j hj => (by rw [if_pos hj, HR2'.out]), X.out⟩, hB.trans KP.out.1⟩
   case done =>
    rintro D zs W hD ⟨j, rfl, hj⟩ ⟨⟨hrow, hx⟩, hB⟩ hK
    have cX := hx.cell
    gi_wp2
    refine ⟨by simp, .inl ⟨_, _, rfl, run_takeDeferred hK, ?_⟩⟩
    have hbp := belowK_b (w := w1) (Nat.le_refl _) W D (.deferred (some [])) (.deferred none) (by omega) hK rfl rfl
    exact ⟨_, results_tmp2 rfl _ _ _, _, _, rfl, hrow.of_block (World.putObj_heap_other (by omega)), ufs_done (fun i j hi hj => (HZ.out i j hi hj).1) hN1 hj, HB1.out.trans ((hB.trans hbp).mono HB1.out.size)⟩
   case stop =>
    rintro D c pre W _ _ h _
    exact h.elim
set_option maxRecDepth 100000 in
set_option maxHeartbeats 4000000 in
theorem votesAll_in {w : World} {v : Value} {k N : Nat} {H : Hds} {day : Int} (hH : HoldR w v k H) (hw : Hwf H k) (hv : H.valid N k) (hd : goodDate day) :
  CallsIn Fence.wide 6 Tryz.prog 77 #[.int .i64 N, v, .int .i64 day] w fun en w' => ∃ (B : Nat) (s : Nat → Bool), en = .returned (.tuple #[.slice (some ⟨B, 0, none⟩) N N, .int .i64 0]) ∧ w'.rowIs B 3 N (fun e => .int .i64 (vts N (fun h e => H.at h e day k) s e)) ∧ IsCtl N (fun h e => H.at h e day k) s ∧ Below w.heap.size w w' := by
 obtain ⟨a, c, rfl⟩ : ∃ a c, v = .slice a k c := by obtain ⟨a, b, o, c, h1, _⟩ := hH; exact ⟨a, c, h1⟩
 have hN1 : 1 ≤ N := by have := hv.1; omega
 have hN2 : N ≤ 12 := by have := hv.2.1; omega
 have hmake := run_make_row' (P := Tryz.prog) 53 3 (.int .i64 0) 8 Tryz.underlying53 infoI rfl .i64 .i64 N (by omega) (by omega)
 have HZ := Lib.hid (show ∀ h e : Nat, h < N → e < N → 0 ≤ H.at h e day k ∧ H.at h e day k ≤ 10000 from at_zrange hv)
 have HH := Lib.hid hH
 have HV := Lib.hid hv
 have HWf := Lib.hid hw
 have HD := Lib.hid hd
 clear hH hv hw hd
 refine callsIn_of_wp_marks Tryz.func77 rfl trivial ?_ rfl
 simp only [Tryz.ntmps77, List.size_toArray, List.length_cons, List.length_nil, Nat.reduceAdd, Nat.reduceSub, Array.replicate_succ, Array.replicate_zero, List.push_toArray, List.append_toArray, List.nil_append, List.cons_append]
 gi_wp2_with (refine ⟨trivial, ?_⟩; first | (gi_at_call 51; refine (callsIn_wide.2 (matrix_yes HH.out HWf.out HV.out HD.out)).mono ?_; rintro en w1 ⟨am, cm, rfl, hM, hb1⟩) | (gi_at_call 119; refine (steps_in _ am _ cm _).mono ?_; rintro en w' ⟨rfl, rfl⟩))
 have HM := Lib.hid hM
 have HB1 := Lib.hid hb1
 clear hM hb1
 obtain ⟨W0, hW0, hsz, hb0, q1, q0⟩ := alloc2 w1 (.cells #[.int .u16 0] 172) (.cells #[.slice am N cm] 101)
 rw [← hW0]
 clear hW0
 have h00 : msk (ufs N (fun h e => H.at (h : Nat) (e : Nat) day k) []) N = 0 := msk_zero fun e _ => rfl
 refine wpIn_rangeFunc_ownH (encs := fun x : Nat => #[.int .i64 (x : Nat), .int .u16 (msk (fsh N (fun h e => H.at (h : Nat) (e : Nat) day k) x) N : Nat)]) rfl (by omega) (gf := 156) (lb := #[.pointer (some ⟨w1.heap.size + 1, 0, none⟩)]) rfl trivial (enters_of Tryz.func156 (by kernel_rfl) rfl)
  (steps_stops _ (by omega) (w1.heap.size + 1) (w0 := w1) (.slice am N cm) hN1 hN2 HZ.out W0 hb0 (Boxed.cell (t := 101) q0) HM.out) KpB.trans (KpB.put (by omega) (by omega)) (Below.refl _ _) (fun _ => rfl)
  (fun pre W => (Boxed W w1.heap.size 172 (.int .u16 (msk (ufs N (fun h e => H.at (h : Nat) (e : Nat) day k) pre) N : Nat))) ∧ Below w1.heap.size w1 W)
  (fun _ _ _ => False)
  (OwnFrom.and (Own.from (boxed_own _ _ _) _) (ownFrom_below (Nat.le_refl _) (by omega)))
  (fun _ _ _ _ _ hs _ _ => hs)
  ⟨by rw [h00]; exact q1, hb0⟩
  (fun x a' W => a' = { tmps := #[.int .i64 N, .slice a k c, .int .i64 day, undef, undef, undef, .slice none 0 0, .int .i64 0, .slice am N cm, .int .i64 0, .pointer (some ⟨w1.heap.size, 0, none⟩), undef, .int .u16 (msk (fsh N (fun h e => H.at (h : Nat) (e : Nat) day k) x) N : Nat), undef, undef, .tuple #[.slice am N cm, .int .i64 0], .int .i64 N, .slice a k c, .int .i64 day, .tuple #[.slice am N cm, .int .i64 0], .slice am N cm, .int .i64 0, .int .i64 0, .bool false, undef, .slice am N cm, .func (.func 156) #[] #[.pointer (some ⟨w1.heap.size + 1, 0, none⟩)], .int .i64 (x : Nat), .int .u16 (msk (fsh N (fun h e => H.at (h : Nat) (e : Nat) day k) x) N : Nat), undef, undef, undef, undef, undef, undef, undef, undef, undef, undef, undef, undef, undef, undef, undef, undef, undef, undef, undef], defers := [] })
  (fun x a' _ X Y row hs hg hr => hs)
  ?assign ?body ?done ?stop
 case assign =>
  rintro l pre x W K ⟨hx, hB⟩ hK
  gi_wp2
  exact hK _ _ (KeepsFrom.refl _ _) (KpB.refl _ _ _) ⟨hx, hB⟩ rfl
 case body =>
  rintro l pre x a' W hl ⟨r, hr⟩ ⟨hx, hB⟩ rfl hlt
  have cX := hx.cell
  have fX := hx.frozen
  have hor : bits BinOp.or IntKind.u16 ((msk (ufs N (fun h e => H.at (h : Nat) (e : Nat) day k) pre) N : Nat) : Int) ((msk (fsh N (fun h e => H.at (h : Nat) (e : Nat) day k) x) N : Nat) : Int) = ((msk (ufs N (fun h e => H.at (h : Nat) (e : Nat) day k) (pre ++ [x])) N : Nat) : Int) := by
   have h1 := msk_small (ufs N (fun h e => H.at (h : Nat) (e : Nat) day k) pre) hN2
   have h2 := msk_small (fsh N (fun h e => H.at (h : Nat) (e : Nat) day k) x) hN2
   rw [bits_or_u16_nat _ _ (by omega) (by omega), msk_or, ← ufs_snoc]
  have HOR := Lib.hid hor
  clear hor
  gi_wp2
  rw [HOR.out]
  exact ⟨(KeepsOthers.setCell _ _ _).from _, (KpB.refl _ _ _).set (Nat.le_refl _) (by omega) _, hx.set _, hB.setCell (p := ⟨w1.heap.size, 0, none⟩) (Nat.le_refl _) _⟩
 case stop =>
  rintro D c pre W _ _ h _
  exact h.elim
 case done =>
  rintro D zs W hD ⟨j, rfl, hj⟩ ⟨hx, hB⟩ hK
  have hDl : D < W.heap.size := (Array.getElem?_eq_some_iff.1 hK).1
  have cX := hx.cell
  have HCT := Lib.hid (ufs_done (fun i j hi hj => (HZ.out i j hi hj).1) hN1 hj)
  have hsx := msk_small (ufs N (fun h e => H.at (h : Nat) (e : Nat) day k) (List.range j)) hN2
  have hsw := hB.size
  obtain ⟨s, hs⟩ : ∃ s, ufs N (fun h e => H.at (h : Nat) (e : Nat) day k) (List.range j) = s := ⟨_, rfl⟩
  rw [hs] at HCT hsx cX
  clear hs hx hj
  gi_wp2
  gi_loopw [36] (fun i wi => ∃ e : Nat, e ≤ N ∧ i = .int .i64 (e : Nat) ∧ Below W.heap.size W wi ∧ wi.rowIs W.heap.size 3 N (fun j => .int .i64 (if j < e then vts N (fun h e => H.at (h : Nat) (e : Nat) day k) s j else 0))) (fun i _ => N - (intOf i).toNat)
  case atStart => exact ⟨0, Nat.zero_le _, rfl, (Below.refl _ _).alloc (Nat.le_refl _) _, (World.rowIs_made W _ N 3).congr fun j _ => by simp⟩
  case round =>
   obtain ⟨e, he, rfl, hBi, hrow⟩ := hrel
   have cX2 := keepc hBi cX
   by_cases heN : e < N
   ·have heI : (e : Int) < (N : Int) := by omega
    have y1 := hrow.cell heN
    have y2 := hrow.frozen e
    have Y := Lib.hid hrow
    have BI := Lib.hid hBi
    have HM3 := Lib.hid (HM.out.below (hB.trans (hBi.mono hsw)))
    clear hrow hBi
    gi_wp2_with (refine ⟨trivial, ?_⟩; gi_at_call 120; refine (callsIn_wide.2 (votes_any HM3.out hN2 heN HZ.out)).mono ?_; rintro en w5 ⟨rfl, rfl⟩)
    go_roundw
    case rel => exact ⟨e + 1, by omega, by go_num, BI.out.setCell (p := ⟨W.heap.size, e, none⟩) (Nat.le_refl _) _, (Y.out.set e _).congr fun j _ => by
     by_cases e1 : j = e
     ·subst e1; rw [if_pos rfl, if_pos (by omega)]; rfl
     ·rw [if_neg e1]
      by_cases e2 : j < e
      ·rw [if_pos e2, if_pos (by omega)]
      ·rw [if_neg e2, if_neg (by omega)]⟩
    case measure => simp [intOf]; omega
   ·obtain rfl : e = N := by omega
    have hKK : wr.heap[D]? = some (.deferred (some [])) := by rw [hBi.block D hDl]; exact hK
    gi_wp2
    refine ⟨by simp, .inl ⟨_, _, rfl, run_takeDeferred hKK, ?_⟩⟩
    have hbp := belowK_b (w := w1) (Nat.le_refl _) wr D (.deferred (some [])) (.deferred none) (by omega) hKK rfl rfl
    exact ⟨_, results_tmp2 rfl _ _ _, _, s, rfl, (hrow.of_block (World.putObj_heap_other (by omega))).congr fun j hj => (by rw [if_pos hj]), HCT.out, HB1.out.trans (((hB.trans (hBi.mono hsw)).trans hbp).mono HB1.out.size)⟩
theorem rank_no {w : World} {v : Value} {k : Nat} {H : Hds} {n day : Int} (hH : HoldR w v k H) (hw : Hwf H k) {c : Int} (hc : c = 1 ∧ ¬ H.valid n k ∨ c = 2 ∧ H.valid n k ∧ ¬ goodDate day) :
  Calls Tryz.prog 76 #[.int .i64 n, v, .int .i64 day] w fun en w' => en = .returned (.tuple #[.slice none 0 0, .int .i64 c]) ∧ Below w.heap.size w w' := by
 obtain ⟨a, cp, rfl⟩ : ∃ a c, v = .slice a k c := by obtain ⟨a, b, o, c, h1, _⟩ := hH; exact ⟨a, c, h1⟩
 have hm : Calls Tryz.prog 51 #[.int .i64 n, .slice a k cp, .int .i64 day] w fun en w' => en = .returned (.tuple #[.slice none 0 0, .int .i64 c]) ∧ Below w.heap.size w w' := by
  rcases hc with ⟨rfl, h⟩ | ⟨rfl, h, h2⟩
  ·exact matrix_no1 hH hw h
  ·exact matrix_no2 hH hw h h2
 have hc2 : (c != 0) = true := bne_iff_ne.2 (by omega)
 have HM := Lib.hid hm
 clear hm hH hw hc
 refine (callsIn_wide (n := 3)).1 (callsIn_of_wp_marks Tryz.func76 rfl trivial ?_ rfl)
 simp only [Tryz.ntmps76, List.size_toArray, List.length_cons, List.length_nil, Nat.reduceAdd, Nat.reduceSub, Array.replicate_succ, Array.replicate_zero, List.push_toArray, List.append_toArray, List.nil_append, List.cons_append]
 gi_wp2_with (refine ⟨trivial, ?_⟩; gi_at_call 51; refine (callsIn_wide.2 HM.out).mono ?_; rintro en w1 ⟨rfl, hb1⟩)
 refine ⟨_, results_tmp2 rfl _ _ _, rfl, hb1⟩
theorem ctl_no {w : World} {v : Value} {k : Nat} {H : Hds} {n day : Int} (hH : HoldR w v k H) (hw : Hwf H k) {c : Int} (hc : c = 1 ∧ ¬ H.valid n k ∨ c = 2 ∧ H.valid n k ∧ ¬ goodDate day) :
  Calls Tryz.prog 23 #[.int .i64 n, v, .int .i64 day] w fun en w' => en = .returned (.tuple #[.slice none 0 0, .int .i64 c]) ∧ Below w.heap.size w w' := by
 obtain ⟨a, cp, rfl⟩ : ∃ a c, v = .slice a k c := by obtain ⟨a, b, o, c, h1, _⟩ := hH; exact ⟨a, c, h1⟩
 have hc2 : (c != 0) = true := bne_iff_ne.2 (by omega)
 have HM := Lib.hid (rank_no hH hw hc)
 clear hH hw hc
 go_enter Tryz.func23, Tryz.ntmps23
 go_wp2_with (go_at_call 76; refine HM.out.mono ?_; rintro en w1 ⟨rfl, hb1⟩)
 go_ret2
 exact ⟨rfl, hb1⟩
theorem infoBo : (Tryz.prog.info? 4).map (fun i => (i.zero, i.size, i.bytes)) = some (some (.bool false), 1, 1) := by kernel_rfl
set_option maxRecDepth 100000 in
set_option maxHeartbeats 4000000 in
theorem ctl_yes {w : World} {v : Value} {k N : Nat} {H : Hds} {day : Int} (hH : HoldR w v k H) (hw : Hwf H k) (hv : H.valid N k) (hd : goodDate day) :
  Calls Tryz.prog 23 #[.int .i64 N, v, .int .i64 day] w fun en w' => ∃ (B : Nat) (s : Nat → Bool), en = .returned (.tuple #[.slice (some ⟨B, 0, none⟩) N N, .int .i64 0]) ∧ w'.rowIs B 4 N (fun e => .bool (s e)) ∧ IsCtl N (fun h e => H.at h e day k) s ∧ Below w.heap.size w w' := by
 obtain ⟨a, cp, rfl⟩ : ∃ a c, v = .slice a k c := by obtain ⟨a, b, o, c, h1, _⟩ := hH; exact ⟨a, c, h1⟩
 have hN1 : 1 ≤ N := by have := hv.1; omega
 have hN2 : N ≤ 12 := by have := hv.2.1; omega
 have hmake := run_make_row' (P := Tryz.prog) 41 4 (.bool false) 1 Tryz.underlying41 infoBo rfl .i64 .i64 N (by omega) (by omega)
 have HRK := Lib.hid ((callsIn_wide (n := 6)).1 (rank_in hH hw hv hd))
 clear hH hw hv hd
 go_enter Tryz.func23, Tryz.ntmps23
 go_wp2_with (go_at_call 76; refine HRK.out.mono ?_; rintro en w1 ⟨B, l, rfl, hrow, hct, hb1⟩)
 clear hmake
 have hR : ∀ e, decide (0 ≤ rks N (fun h e => H.at (h : Nat) (e : Nat) day k) l e) = ufs N (fun h e => H.at (h : Nat) (e : Nat) day k) l e := fun e => by
  rw [Bool.eq_iff_iff, decide_eq_true_iff]; exact rks_pos
 obtain ⟨R, hRR⟩ : ∃ R, rks N (fun h e => H.at (h : Nat) (e : Nat) day k) l = R := ⟨_, rfl⟩
 obtain ⟨s, hss⟩ : ∃ s, ufs N (fun h e => H.at (h : Nat) (e : Nat) day k) l = s := ⟨_, rfl⟩
 rw [hRR] at hrow hR
 rw [hss] at hct hR
 have HR := Lib.hid hR
 have HRow := Lib.hid hrow
 have HCT := Lib.hid hct
 have HB1 := Lib.hid hb1
 have hBl := hrow.lt
 clear hR hRR hss hrow hct hb1
 go_loopw [27] (fun i wr => ∃ e : Nat, e ≤ N ∧ i = .int .i64 (e : Nat) ∧ Below w1.heap.size w1 wr ∧ wr.rowIs w1.heap.size 4 N (fun j => .bool (if j < e then s j else false))) (fun i _ => N - (RowKit.intOf i).toNat)
 case atStart => exact ⟨0, Nat.zero_le _, rfl, (Below.refl _ _).alloc (Nat.le_refl _) _, (World.rowIs_made w1 _ N 4).congr fun j _ => by simp⟩
 case round =>
  obtain ⟨e, he, rfl, hBi, hrow⟩ := hrel
  by_cases heN : e < N
  ·have heI : (e : Int) < (N : Int) := by omega
   have x1 := keepc hBi (HRow.out.cell heN)
   have y1 := hrow.cell heN
   have y2 := hrow.frozen e
   have Y := Lib.hid hrow
   have BI := Lib.hid hBi
   clear hrow hBi
   go_wp2
   rw [HR.out e]
   go_roundw
   case rel => exact ⟨e + 1, by omega, by go_num, BI.out.setCell (p := ⟨w1.heap.size, e, none⟩) (Nat.le_refl _) _, (Y.out.set e _).congr fun j _ => by
     by_cases e1 : j = e
     ·subst e1; rw [if_pos rfl, if_pos (by omega)]
     ·rw [if_neg e1]
      by_cases e2 : j < e
      ·rw [if_pos e2, if_pos (by omega)]
      ·rw [if_neg e2, if_neg (by omega)]⟩
   case measure => simp [RowKit.intOf]; omega
  ·obtain rfl : e = N := by omega
   have Y := Lib.hid hrow
   have BI := Lib.hid hBi
   clear hrow hBi
   go_wp2
   go_ret2
   exact ⟨_, s, rfl, Y.out.congr (fun j hj => by rw [if_pos hj]), HCT.out, HB1.out.trans (BI.out.mono HB1.out.size)⟩
end Go.Proofs.YteionhenpehogaaGreatDoor
