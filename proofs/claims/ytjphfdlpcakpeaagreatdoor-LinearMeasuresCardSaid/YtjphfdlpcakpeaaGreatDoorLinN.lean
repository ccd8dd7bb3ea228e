/- Apply, Solve and Det of arguments that are refused. -/
import Derived.Test.YtjphfdlpcakpeaaGreatDoorLinG
import Derived.Test.YtjphfdlpcakpeaaGreatDoorLinPZ
namespace Go.Proofs.YtjphfdlpcakpeaaGreatDoor
open Go.RowKit Tally

set_option maxHeartbeats 4000000 in
set_option maxRecDepth 100000 in
theorem apply_no {w : World} {v u : Value} {m n : Nat} {L : Nat → Nat} {A : Mx} {x : Nat → Rat} (h : MatsR w v m L A) (hx : RatsR w u n x) (hno : ¬ (IsMat m L ∧ n = colsN m L)) :
    Calls Tryz.prog 18 #[v, u] w fun e w' => e = .returned (.tuple #[.slice none 0 0, .int .i64 1]) ∧ Below w.heap.size w w' := by
  have H := Lib.hid h
  have HNO := Lib.hid hno
  obtain ⟨a, c, rfl⟩ := h.shape
  obtain ⟨a2, c2, rfl⟩ := hx.shape
  clear h hx hno
  by_cases hv : IsMat m L
  · have HV := Lib.hid hv
    have hne : ((n : Int) == ((colsN m L : Nat) : Int)) = false := by
      rw [beq_eq_false_iff_ne]
      intro e
      exact HNO.out ⟨HV.out, by omega⟩
    clear hv
    go_enter Tryz.func18, Tryz.ntmps18
    go_wp2_with fail
    refine (valid_any H.out true (iff_of_true rfl HV.out)).mono ?_
    rintro e w' ⟨rfl, hww⟩
    obtain rfl := hww.symm
    go_wp2_with fail
    refine (columns_any H.out).mono ?_
    rintro e w' ⟨rfl, hww⟩
    obtain rfl := hww.symm
    go_wp2
    go_ret2
    exact ⟨rfl, Below.refl _ _⟩
  · have HV := Lib.hid hv
    clear hv
    go_enter Tryz.func18, Tryz.ntmps18
    go_wp2_with fail
    refine (valid_any H.out false (iff_of_false (by decide) HV.out)).mono ?_
    rintro e w' ⟨rfl, hww⟩
    obtain rfl := hww.symm
    go_wp2
    go_ret2
    exact ⟨rfl, Below.refl _ _⟩

set_option maxHeartbeats 4000000 in
set_option maxRecDepth 100000 in
theorem solve_no {w : World} {v u : Value} {m n : Nat} {L : Nat → Nat} {A : Mx} {x : Nat → Rat} (h : MatsR w v m L A) (hx : RatsR w u n x) (hno : ¬ (IsMat m L ∧ m = colsN m L ∧ n = m)) :
    Calls Tryz.prog 9 #[v, u] w fun e w' => e = .returned (.tuple #[.slice none 0 0, .int .i64 1]) ∧ Below w.heap.size w w' := by
  have H := Lib.hid h
  have HNO := Lib.hid hno
  obtain ⟨a, c, rfl⟩ := h.shape
  obtain ⟨a2, c2, rfl⟩ := hx.shape
  clear h hx hno
  by_cases hv : IsMat m L ∧ m = colsN m L
  · have HV := Lib.hid hv
    have hne : ((n : Int) == (m : Int)) = false := by
      rw [beq_eq_false_iff_ne]
      intro e
      exact HNO.out ⟨HV.out.1, HV.out.2, by omega⟩
    clear hv
    go_enter Tryz.func9, Tryz.ntmps9
    go_wp2_with fail
    refine (square_any H.out true (iff_of_true rfl HV.out)).mono ?_
    rintro e w' ⟨rfl, hww⟩
    obtain rfl := hww.symm
    go_wp2
    go_ret2
    exact ⟨rfl, Below.refl _ _⟩
  · have HV := Lib.hid hv
    clear hv
    go_enter Tryz.func9, Tryz.ntmps9
    go_wp2_with fail
    refine (square_any H.out false (iff_of_false (by decide) HV.out)).mono ?_
    rintro e w' ⟨rfl, hww⟩
    obtain rfl := hww.symm
    go_wp2
    go_ret2
    exact ⟨rfl, Below.refl _ _⟩

set_option maxHeartbeats 4000000 in
set_option maxRecDepth 100000 in
theorem det_no {w : World} {v : Value} {m : Nat} {L : Nat → Nat} {A : Mx} (h : MatsR w v m L A) (hno : ¬ (IsMat m L ∧ m = colsN m L)) :
    Calls Tryz.prog 14 #[v] w (GivesRE w 0 1) := by
  have H := Lib.hid h
  have HNO := Lib.hid hno
  obtain ⟨a, c, rfl⟩ := h.shape
  clear h hno
  go_enter Tryz.func14, Tryz.ntmps14
  go_wp2_with fail
  obtain ⟨W1, hW, hs, hb, b0⟩ := alloc1 w (.cells #[.bool false, .slice none 0 0, .bool false, .slice none 0 0] 47)
  rw [← hW]
  have HB := Lib.hid hb
  have HR := Lib.hid b0
  replace H := Lib.hid (H.out.below hb)
  clear hW hs hb b0
  refine (square_any H.out false (iff_of_false (by decide) HNO.out)).mono ?_
  rintro e w' ⟨rfl, hww⟩
  obtain rfl := hww.symm
  obtain ⟨⟨z0, z1, z2, z3⟩, z4, z5, z6, z7⟩ := res4_facts HR.out
  have hlt := (Array.getElem?_eq_some_iff.1 HR.out).1
  go_wp2
  refine bodyPost_ret (results_cell_slot rfl _ _ (w.heap.size) 47 _ (0, 0) _ (.int .i64 1) rfl rfl (res4_set HR.out) Tryz.underlying47 rfl (by kernel_rfl)) rfl ?_
  exact ⟨_, _, _, _, _, _, _, _, rfl, ratR_zero _, fin4 HB.out (by omega)⟩
end Go.Proofs.YtjphfdlpcakpeaaGreatDoor
