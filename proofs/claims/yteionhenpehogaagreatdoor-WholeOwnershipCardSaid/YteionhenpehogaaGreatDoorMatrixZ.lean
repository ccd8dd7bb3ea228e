import Derived.Test.YteionhenpehogaaGreatDoorHoldZ
import Derived.Test.YteionhenpehogaaGreatDoorLinA
namespace Go.Proofs.YteionhenpehogaaGreatDoor
open Go.RowKit Go.Maps Tally
def MatZ (w : World) (v : Value) (m N : Nat) (Z : Nat → Nat → Int) : Prop :=
 ∃ (a : Option Addr) (b o c : Nat), v = .slice a m c ∧ m ≤ c ∧ c ≤ 9223372036854775807 ∧ (0 < m → a = some ⟨b, o, none⟩) ∧ ∀ i, i < m → ∃ a' c', w.cell? ⟨b, o + i, none⟩ = some (.slice a' N c') ∧ RowR w (.slice a' N c') N fun k => .int .i64 (Z i k)
theorem MatZ.below {w w' : World} {v : Value} {m N : Nat} {Z : Nat → Nat → Int} (h : MatZ w v m N Z) (hb : Below w.heap.size w w') : MatZ w' v m N Z := by
 obtain ⟨a, b, o, c, h1, h2, h3, h4, h5⟩ := h
 exact ⟨a, b, o, c, h1, h2, h3, h4, fun i hi => by obtain ⟨a', c', q, r⟩ := h5 i hi; exact ⟨a', c', keepc hb q, r.below hb⟩⟩
structure BuildI (B : Nat) (w : World) (v : Value) (V : List Value) (k N : Nat) (Z : Nat → Nat → Int) : Prop where
 len : V.length = k
 own : OwnV w B 53 1 v k V
 row : ∀ i u, V[i]? = some u → RowR w u N fun j => .int .i64 (Z i j)
theorem RowR.grownI {w w' : World} {row : Option Nat} {v : Value} {n : Nat} {f : Nat → Int} (h : RowR w v n fun j => .int .i64 (f j)) (hg : w.grownBy w' row) (hn : ∀ g, row = some g → NoInt w g) : RowR w' v n fun j => .int .i64 (f j) := by
 obtain ⟨a, b, o, c, h2, h3, h4, h5, h6⟩ := h
 exact ⟨a, b, o, c, h2, h3, h4, h5, fun i hil => hg.cell (h6 i hil) (fun e => hn b e.symm _ _ _ (h6 i hil))⟩
theorem grown_of_below {w w' : World} (h : Below w.heap.size w w') : w.grownBy w' none := ⟨h.os, h.tape, h.output, h.size, fun i hi _ => h.block i hi⟩
theorem BuildI.start (B : Nat) (w : World) (N : Nat) (Z : Nat → Nat → Int) : BuildI B w (.slice none 0 0) [] 0 N Z := ⟨rfl, OwnV.nil _ _ _ _, fun i u h => by simp at h⟩
theorem BuildI.below {B : Nat} {w w' : World} {v : Value} {V : List Value} {k N : Nat} {Z : Nat → Nat → Int} (h : BuildI B w v V k N Z) (hb : Below w.heap.size w w') : BuildI B w' v V k N Z := by
 exact ⟨h.len, h.own.below hb, fun i u hu => (h.row i u hu).below hb⟩
theorem BuildI.push {B : Nat} {w w' : World} {v v' u : Value} {V : List Value} {k N : Nat} {Z : Nat → Nat → Int} (h : BuildI B w v V k N Z) (ho : OwnV w' B 53 1 v' (k + 1) (V ++ [u])) (hg : w.grownBy w' v.ownBlock) (hu : RowR w u N fun j => .int .i64 (Z k j)) : BuildI B w' v' (V ++ [u]) (k + 1) N Z := by
 refine ⟨by simp [h.len], ho, fun i x hx => ?_⟩
 by_cases e : i < V.length
 ·rw [List.getElem?_append_left e] at hx
  exact (h.row i x hx).grownI hg h.own.free
 ·rw [List.getElem?_append_right (by omega)] at hx
  have e1 : i = k := by
   have := (List.getElem?_eq_some_iff.1 hx).1
   have := h.len
   simp at *
   omega
  subst e1
  rw [h.len, Nat.sub_self] at hx
  obtain rfl : u = x := by simpa using hx
  exact hu.grownI hg h.own.free
theorem BuildI.mat {B : Nat} {w : World} {v : Value} {V : List Value} {k N : Nat} {Z : Nat → Nat → Int} (h : BuildI B w v V k N Z) : ∃ a c, v = .slice a k c ∧ MatZ w (.slice a k c) k N Z := by
 obtain ⟨h1, h2⟩ := h.own.own
 rcases h2 with ⟨rfl, h0⟩ | ⟨g, cap, cur, rfl, _, hh, hc, hcm, hs, ht⟩
 ·exact ⟨none, 0, by rw [h0], none, 0, 0, 0, rfl, by omega, by omega, fun h => by omega, fun i hi => by omega⟩
 ·refine ⟨_, _, rfl, some ⟨g, 0, none⟩, g, 0, cap, rfl, by omega, by unfold maxLen at hcm; omega, fun _ => rfl, fun i hi => ?_⟩
  have hl : i < V.length := by rw [h.len]; exact hi
  have e : (cur.toList.take (k * 1))[i]? = V[i]? := by rw [ht]
  rw [List.getElem?_take, if_pos (by omega)] at e
  have e2 : V[i]? = some V[i] := List.getElem?_eq_getElem hl
  have hr := h.row i _ e2
  obtain ⟨a', b', o', c', q1, q2, q3, q4, q5⟩ := id hr
  refine ⟨a', c', ?_, by rw [← q1]; exact hr⟩
  rw [Nat.zero_add, Lib.cell_of_heap hh, ← q1]
  rw [e2] at e
  simpa using e
end Go.Proofs.YteionhenpehogaaGreatDoor
namespace Go.Proofs.YteionhenpehogaaGreatDoor
open Go.RowKit Go.Maps Tally
theorem infoSI : (Tryz.prog.info? 53).map (fun i => (i.zero, i.size, i.bytes)) = some (some (.slice none 0 0), 1, 24) := by kernel_rfl
theorem arr_len : Tryz.prog.arrayLen 151 = 12 := by kernel_rfl
theorem slice_arr (w : World) (R e : Nat) (he : e ≤ 12) : (Instr.sliceAt 151 (.pointer (some ⟨R, 0, none⟩)) none (some (.int .i64 (e : Int))) none).run Tryz.prog w = .ok (.slice (some ⟨R, 0, none⟩) e 12) w := by
 rw [run_sliceAt_array_h (P := Tryz.prog) w 151 ⟨R, 0, none⟩ (by kernel_rfl) .i64 e (by omega) (by rw [arr_len]; omega), arr_len]
 have h : (sizeOf (Tryz.prog.elem 151)).run Tryz.prog w = .ok 1 w := by kernel_rfl
 rw [h]
 have : ¬ (12 : Nat) = 0 := by decide
 simp [Result.andThen, slicedAt, Addr.add]
def fillZ (f : Nat → Int) (e : Nat) : Nat → Value := fun j => .int .i64 (if j < e then f j else 0)
theorem matrix_no1 {w : World} {v : Value} {k : Nat} {H : Hds} {n day : Int} (hH : HoldR w v k H) (hw : Hwf H k) (hv : ¬ H.valid n k) :
  Calls Tryz.prog 51 #[.int .i64 n, v, .int .i64 day] w fun en w' => en = .returned (.tuple #[.slice none 0 0, .int .i64 1]) ∧ Below w.heap.size w w' := by
 obtain ⟨a, c, rfl⟩ : ∃ a c, v = .slice a k c := by obtain ⟨a, b, o, c, h1, _⟩ := hH; exact ⟨a, c, h1⟩
 have HV := Lib.hid (show (false = true) ↔ H.valid n k from ⟨fun h => (by cases h), fun h => absurd h hv⟩)
 have HH := Lib.hid hH
 have HW := Lib.hid hw
 clear hH hw hv
 go_enter Tryz.func51, Tryz.ntmps51
 go_wp2_with (go_at_call 66; refine (validH_any HH.out HW.out HV.out).mono ?_; rintro en w1 ⟨rfl, hb⟩)
 go_ret2
 exact ⟨rfl, hb⟩
theorem matrix_no2 {w : World} {v : Value} {k : Nat} {H : Hds} {n day : Int} (hH : HoldR w v k H) (hw : Hwf H k) (hv : H.valid n k) (hd : ¬ goodDate day) :
  Calls Tryz.prog 51 #[.int .i64 n, v, .int .i64 day] w fun en w' => en = .returned (.tuple #[.slice none 0 0, .int .i64 2]) ∧ Below w.heap.size w w' := by
 obtain ⟨a, c, rfl⟩ : ∃ a c, v = .slice a k c := by obtain ⟨a, b, o, c, h1, _⟩ := hH; exact ⟨a, c, h1⟩
 have HV := Lib.hid (show (true = true) ↔ H.valid n k from ⟨fun _ => hv, fun _ => rfl⟩)
 have HH := Lib.hid hH
 have HW := Lib.hid hw
 have HD := Lib.hid hd
 clear hH hw hv hd
 go_enter Tryz.func51, Tryz.ntmps51
 go_wp2_with (first
  | (go_at_call 66; refine (validH_any HH.out HW.out HV.out).mono ?_; rintro en w1 ⟨rfl, hb⟩)
  | (go_at_call 78; refine (date_no HD.out).mono ?_; rintro en w2 ⟨rfl, rfl⟩))
 go_ret2
 exact ⟨rfl, hb⟩
set_option maxRecDepth 100000 in
set_option maxHeartbeats 4000000 in
theorem matrix_yes {w : World} {v : Value} {k N : Nat} {H : Hds} {day : Int} (hH : HoldR w v k H) (hw : Hwf H k) (hv : H.valid N k) (hd : goodDate day) :
  Calls Tryz.prog 51 #[.int .i64 N, v, .int .i64 day] w fun en w' => ∃ a c, en = .returned (.tuple #[.slice a N c, .int .i64 0]) ∧ MatZ w' (.slice a N c) N N (fun h e => H.at h e day k) ∧ Below w.heap.size w w' := by
 obtain ⟨i0, hi, hz0, hz1, hz2⟩ := info_parts infoSI
 obtain ⟨a, c, rfl⟩ : ∃ a c, v = .slice a k c := by obtain ⟨a, b, o, c, h1, _⟩ := hH; exact ⟨a, c, h1⟩
 have HV := Lib.hid (show (true = true) ↔ H.valid N k from ⟨fun _ => hv, fun _ => rfl⟩)
 have hN1 : 1 ≤ N := by have := hv.1; omega
 have hN2 : N ≤ 12 := by have := hv.2.1; omega
 have HH := Lib.hid hH
 have HW := Lib.hid hw
 have HD := Lib.hid hd
 clear hH hw hv hd
 go_enter Tryz.func51, Tryz.ntmps51
 go_wp2_with (first
  | (go_at_call 66; refine (validH_any HH.out HW.out HV.out).mono ?_; rintro en w1 ⟨rfl, hb⟩)
  | (go_at_call 78; refine (date_yes HD.out).mono ?_; rintro en w2 ⟨rfl, rfl⟩))
 have HB := Lib.hid hb
 have HH1 := Lib.hid (HH.out.below hb)
 clear hb HH
 go_loopw [8, 20] (fun s i wr => ∃ (h : Nat) (V : List Value), h ≤ N ∧ i = .int .i64 h ∧ BuildI w2.heap.size wr s V h N (fun h e => H.at h e day k) ∧ Below w2.heap.size w2 wr) (fun _ i _ => N - (RowKit.intOf i).toNat)
 case atStart => exact ⟨0, [], Nat.zero_le _, rfl, BuildI.start _ _ _ _, Below.refl _ _⟩
 case round =>
  obtain ⟨h, V, hh, rfl, hbi, hb⟩ := hrel
  obtain ⟨wo, hwo⟩ : ∃ wo, wo = wr := ⟨_, rfl⟩
  subst hwo
  have HBI := Lib.hid hbi
  have HB1 := Lib.hid hb
  clear hbi hb
  by_cases hlt : h < N
  ·have hhi : (h : Int) < (N : Int) := by omega
   go_wp2_with fail
   obtain ⟨R, hR⟩ : ∃ R, wo.heap.size = R := ⟨_, rfl⟩
   obtain ⟨W1, hW, hs, hbW, b0⟩ := alloc1 wo (.cells #[.int .i64 0, .int .i64 0, .int .i64 0, .int .i64 0, .int .i64 0, .int .i64 0, .int .i64 0, .int .i64 0, .int .i64 0, .int .i64 0, .int .i64 0, .int .i64 0] 151)
   rw [← hW, hR]
   rw [hR] at hbW b0
   have hrow : W1.rowIs R 151 12 (fillZ (fun e => H.at h e day k) 0) := ⟨_, b0, rfl, fun i hi => by
    show (Array.replicate 12 (Value.int .i64 0))[i]? = _
    rw [Array.getElem?_replicate, if_pos hi]
    unfold fillZ
    rw [if_neg (Nat.not_lt_zero _)]⟩
   have HROW := Lib.hid hrow
   have HBW := Lib.hid hbW
   have HRW := Lib.hid hR
   clear hW hs hbW b0 hrow hR
   go_loopw [24] (fun i ws => ∃ e : Nat, e ≤ N ∧ i = .int .i64 e ∧ ws.rowIs R 151 12 (fillZ (fun e => H.at h e day k) e) ∧ Below R wo ws) (fun i _ => N - (RowKit.intOf i).toNat)
   case atStart => exact ⟨0, Nat.zero_le _, rfl, HROW.out, HBW.out⟩
   case round =>
    obtain ⟨e, he, rfl, hrow, hb⟩ := hrel
    have HR := Lib.hid hrow
    have HB2 := Lib.hid hb
    clear hrow hb HROW HBW
    by_cases hel : e < N
    ·have hei : (e : Int) < (N : Int) := by omega
     have HH2 := Lib.hid ((HH1.out.below HB1.out).below (HRW.out ▸ HB2.out))
     go_wp2_with (go_at_call 97; (with_reducible refine (at_any HH2.out).mono ?_); rintro en w3 ⟨rfl, hb3⟩; have HR3 := Lib.hid (HR.out.of_block (hb3.block _ HR.out.lt)); have HB3 := Lib.hid (HB2.out.trans (hb3.mono (by have := HB2.out.size; have := HRW.out; omega))); have y1 := HR3.out.cell (i := e) (by omega); have y2 := HR3.out.frozen e; clear hb3)
     go_roundw
     case rel => exact ⟨e + 1, by omega, by simp, (HR3.out.set e _).congr fun j _ => by
      unfold fillZ
      by_cases z : j = e
      ·subst z; rw [if_pos rfl, if_pos (by omega)]
      ·rw [if_neg z]
       by_cases y : j < e
       ·rw [if_pos y, if_pos (by omega)]
       ·rw [if_neg y, if_neg (by omega)], HB3.out.setCell (p := ⟨_, e, none⟩) (Nat.le_refl _) _⟩
     case measure => simp [RowKit.intOf]; omega
    ·obtain rfl : e = N := by omega
     have hcl := Tryz.slices_Clone_int R 0 e 12 ((List.range e).map fun j => H.at h (j : Nat) day k) wr (by simp) (by omega) (fun j hj => by
      have hje : j < e := by simpa using hj
      rw [Nat.zero_add, HR.out.cell (i := j) (by omega)]
      unfold fillZ
      rw [if_pos hje, List.getD_eq_getElem?_getD]
      simp [hje])
     have HCL := Lib.hid hcl
     have hsl := slice_arr wr R e (by omega)
     clear hcl
     go_wp2_with fail
     refine HCL.out.mono ?_
     rintro en w4 ⟨v', rfl, hown, _, hb4⟩
     have hr4 := rowR_of_owns hown
     obtain ⟨a', c', rfl⟩ : ∃ a' c', v' = .slice a' e c' := by obtain ⟨a', _, _, c', q, _⟩ := hr4; exact ⟨a', c', q⟩
     have HB4 := Lib.hid (show Below wo.heap.size wo w4 from (HRW.out ▸ HB2.out : Below wo.heap.size wo wr).trans (hb4.mono (by have := HB2.out.size; omega)))
     have HB5 := Lib.hid (HB4.out.alloc HB4.out.size (.cells #[.slice a' e c'] 53))
     have HOB := Lib.hid (HBI.out.below HB5.out)
     have HR5 := Lib.hid (hr4.below ((Below.refl _ w4).alloc (Nat.le_refl _) (.cells #[.slice a' e c'] 53)))
     have hle5 := (bt HB1.out HB5.out).size
     clear hr4 hown hb4 HCL hsl
     go_wp2_with (at_builtin; refine wpList_append_free _ rfl _ _ 101 rfl w2.heap.size 53 i0 (.slice none 0 0) 1 24 Tryz.underlying101 hi hz0 hz1 hz2 rfl (by decide) _ _ _ rfl HOB.out.own ⟨_, 0, none⟩ 1 1 [.slice _ e _] rfl rfl (cell_one_new _ _ _) (fun u hu => by obtain rfl := List.mem_singleton.1 hu; rfl) (by unfold maxLen; omega) (by omega) hle5 (fun u hu K x e => by obtain rfl := List.mem_singleton.1 hu; cases e) (fun u hu K x e => by subst e; simp [Value.cells] at hu) ?_; intro v5 w5 ho5 hg5 hnil5)
     go_roundw
     case rel => exact ⟨h + 1, _, by omega, by simp, HOB.out.push ho5 hg5 (by
      refine HR5.out.congr fun j hj => ?_
      rw [List.getD_eq_getElem?_getD]
      simp [hj]), (bt HB1.out HB5.out).grown hg5 (bt HB1.out HB5.out).size (fun j hj => (HOB.out.own.own.lt j hj).1)⟩
     case measure => simp [RowKit.intOf]; omega
  ·obtain rfl : h = N := by omega
   obtain ⟨a', c', rfl, hm⟩ := HBI.out.mat
   have HM := Lib.hid hm
   clear hm HBI
   go_wp2_with fail
   go_ret2
   exact ⟨a', c', rfl, HM.out, bt HB.out HB1.out⟩
end Go.Proofs.YteionhenpehogaaGreatDoor
