import Derived.Test.YteionhenpehogaaGreatDoorRRatI
import Derived.Test.YteionhenpehogaaGreatDoorPlainSS
import Derived.Test.YteionhenpehogaaGreatDoorRMatS
import Derived.Test.YteionhenpehogaaGreatDoorSolveZ
namespace Go.Proofs.YteionhenpehogaaGreatDoor
open Go.RowKit Tally Go.Lib
set_option maxHeartbeats 2000000 in
set_option maxRecDepth 100000 in
theorem rshare_any {w : World} {n : Int} (h1 : -9223372036854775808 ≤ n) (h2 : n ≤ 9223372036854775807) :
  Calls Tryz.prog 109 #[.int .i64 n] w (rGivesP w (Tally.part n)) := by
 have d1 := dg_int h1 h2
 have d2 : Dg 19 (10000 : Int) := by unfold Dg; decide
 have HN0 := Lib.hid (show (10000 : Int) ≠ 0 by decide)
 go_enter Tryz.func109, Tryz.ntmps109
 go_wp2_with fail
 obtain ⟨W1, hW, hs, hb, b0⟩ := alloc1 w (.cells #[.bool false, .slice none 0 0, .bool false, .slice none 0 0] 86)
 rw [← hW]
 have HB := Lib.hid hb
 have BR := Lib.hid b0
 clear hW hs hb b0
 (with_reducible refine (rof_any h1 h2).mono ?_)
 rintro e w2 ⟨n_2, a_2, k_2, c_2, rfl, hu_2, hb⟩
 replace HB := Lib.hid (bt HB.out hb)
 replace BR := Lib.hid (blk_next BR.out hb)
 have HA := Lib.hid hu_2
 clear hu_2
 clear hb
 go_wp2_with fail
 (with_reducible refine (rof_any (n := 10000) (by decide) (by decide)).mono ?_)
 rintro e w3 ⟨n_3, a_3, k_3, c_3, rfl, hu_3, hb⟩
 replace HB := Lib.hid (bt HB.out hb)
 replace HA := Lib.hid (HA.out.below hb)
 replace BR := Lib.hid (blk_next BR.out hb)
 have HB1 := Lib.hid hu_3
 clear hu_3
 clear hb
 go_wp2_with fail
 (with_reducible refine (rreduced_any HA.out HB1.out HN0.out d1 d2 (by omega)).mono ?_)
 rintro e w4 ⟨n_4, a_4, k_4, c_4, n2_4, a2_4, k2_4, c2_4, rfl, hu_4, hv_4, hb⟩
 replace HB := Lib.hid (bt HB.out hb)
 replace HA := Lib.hid (HA.out.below hb)
 replace HB1 := Lib.hid (HB1.out.below hb)
 replace BR := Lib.hid (blk_next BR.out hb)
 have HC := Lib.hid hu_4
 have HE := Lib.hid hv_4
 clear hu_4 hv_4
 clear hb
 have lt1_R : w.heap.size < w4.heap.size := (Array.getElem?_eq_some_iff.1 BR.out).1
 obtain ⟨⟨cR0, cR1, cR2, cR3⟩, fR0, fR1, fR2, fR3⟩ := res4_facts BR.out
 go_wp2
 try simp only [Exit.inBlock, Exit.then]
 refine bodyPost_ret (results_cell_row rfl _ _ (w.heap.size) 86 _ (0, 0) _ rfl (res4_set BR.out) Tryz.underlying86 rfl (by kernel_rfl)) rfl ?_
 exact ⟨_, _, _, _, _, _, _, _, rfl, ((HC.out.stay set4_stay (noInt_one (noInt4 BR.out))).as (by rfl)), ((HE.out.stay set4_stay (noInt_one (noInt4 BR.out))).as (by rfl)), (fin4 HB.out (by omega))⟩
end Go.Proofs.YteionhenpehogaaGreatDoor
namespace Go.Proofs.YteionhenpehogaaGreatDoor
open Go.RowKit Tally Graph.Plain
theorem rg_unitS {N : Nat} (h : 1 ≤ N) : Rg N (1 : Rat) := Rg.of (fw_mono (show Fw 1 1 by constructor <;> decide) h)
theorem rnum_1 (w : World) {v : Value} (h : RRatR w v (((1 : Int)) : Rat)) : RRatR w v 1 := h.as rfl
theorem sliN_nil (w : World) : SliN w (.slice none 0 0) [] := ⟨none, 0, 0, 0, rfl, Nat.le_refl _, by decide, fun h => absurd h (Nat.lt_irrefl 0), fun k x h => by simp at h⟩
theorem rats_nil (w : World) {f : Nat → Rat} : RatsR w (.slice none 0 0) 0 f := ⟨[], rfl, sliN_nil w, fun k x h => by simp at h⟩
theorem rrats_nil (w : World) {f : Nat → Rat} : rRatsR w (.slice none 0 0) 0 f := ⟨[], rfl, sliN_nil w, fun k x h => by simp at h⟩
theorem direct_congr {n : Nat} {D E : Nat → Int} (h : ∀ e, 1 ≤ e → e < n → D e = E e) : direct n D = direct n E := by
 funext e
 exact propext ⟨fun ⟨a, b, c⟩ => ⟨a, b, by rw [← h e a b]; exact c⟩, fun ⟨a, b, c⟩ => ⟨a, b, by rw [h e a b]; exact c⟩⟩
theorem direct_dec {n : Nat} {D : Nat → Int} : (fun a => decide (1 ≤ a ∧ a < n ∧ 0 < D a) = true) = direct n D := by
 funext e
 exact propext ⟨fun h => (of_decide_eq_true h : 1 ≤ e ∧ e < n ∧ 0 < D e), fun h => decide_eq_true (show 1 ≤ e ∧ e < n ∧ 0 < D e from h)⟩
theorem RowX.made {w : World} {b n : Nat} {T : TypeId} (h : w.heap[b]? = some (.cells (madeCells #[.bool false, .slice none 0 0, .bool false, .slice none 0 0] (n * 4)) T (0, 0))) : RowX w b n (fun _ => 0) := by
 have hf := flat_zeros n
 have hx : ∀ k x, (List.replicate n zeroNum)[k]? = some x → k < n ∧ x = zeroNum := fun k x hx => by
  rw [List.getElem?_replicate] at hx
  split at hx
  ·rename_i q; exact ⟨q, by simpa using hx.symm⟩
  ·cases hx
 refine ⟨List.replicate n zeroNum, _, T, by simp, h, noInt_of_cells h (fun u hu K x e => ?_), fun k x hk => ?_, fun k x hk => ?_⟩
 ·have hu2 : u ∈ flat (List.replicate n zeroNum) := by rw [hf]; exact Array.mem_toList_iff.2 hu
  have := (flat_one u hu2).2
  exact this K x e
 ·have e := hk
  obtain ⟨q0, q1, q2, q3⟩ := flat_get (L := List.replicate n zeroNum) e
  rw [hf] at q0 q1 q2 q3
  refine ⟨?_, ?_, ?_, ?_⟩ <;> rw [Lib.cell_of_heap h] <;> simp only [Array.getElem?_toList] at * <;> assumption
 ·obtain ⟨_, rfl⟩ := hx k x hk
  exact rratR_zero w
theorem sol_congr {n : Nat} {Z : Nat → Nat → Int} {D : Nat → Int} {o p : Nat → Bool} {y : Nat → Rat} (h : ∀ e, e < n → p e = o e) (hy : Sol n Z D p y) : Sol n Z D o y :=
 ⟨fun e he q => hy.1 e he (by rw [h e he]; exact q), fun e he q => hy.2 e he (by rw [h e he]; exact q)⟩
end Go.Proofs.YteionhenpehogaaGreatDoor
