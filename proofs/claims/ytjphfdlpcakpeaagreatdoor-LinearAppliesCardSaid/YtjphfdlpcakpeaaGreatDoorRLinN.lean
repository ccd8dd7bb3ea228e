/- The reference's Apply that refuses; Check of both then. -/
import Derived.Test.YtjphfdlpcakpeaaGreatDoorRLinP
import Derived.Test.YtjphfdlpcakpeaaGreatDoorLinN
namespace Go.Proofs.YtjphfdlpcakpeaaGreatDoor
open Go.RowKit Tally

set_option maxHeartbeats 4000000 in
set_option maxRecDepth 100000 in
theorem rapply_no {w : World} {v u : Value} {m n : Nat} {L : Nat → Nat} {A : Mx} {x : Nat → Rat} (h : rMatsR w v m L A) (hx : rRatsR w u n x) (hno : ¬ (IsMat m L ∧ n = colsN m L)) :
    Calls Tryz.prog 19 #[v, u] w fun e w' => e = .returned (.tuple #[.slice none 0 0, .int .i64 1]) ∧ Below w.heap.size w w' := by
  have H := Lib.hid h
  have HNO := Lib.hid hno
  obtain ⟨a, c, rfl⟩ := h.shape
  obtain ⟨a2, c2, rfl⟩ := hx.shape
  clear h hx hno
  by_cases hv : IsMat m L
  · have HV := Lib.hid hv
    have hne : ((n : Int) == ((colsN m L : Nat) : Int)) = false := by
      rw [beq_eq_false_iff_ne]
      intro e
      exact HNO.out ⟨HV.out, by omega⟩
    clear hv
    go_enter Tryz.func19, Tryz.ntmps19
    go_wp2_with fail
    refine (rvalid_any H.out true (iff_of_true rfl HV.out)).mono ?_
    rintro e wv ⟨rfl, hbv⟩
    have HBV := Lib.hid hbv
    clear hbv
    go_wp2_with fail
    refine (rcolumns_any (H.out.below HBV.out)).mono ?_
    rintro e w' ⟨rfl, hww⟩
    obtain rfl := hww.symm
    go_wp2
    go_ret2
    exact ⟨rfl, HBV.out⟩
  · have HV := Lib.hid hv
    clear hv
    go_enter Tryz.func19, Tryz.ntmps19
    go_wp2_with fail
    refine (rvalid_any H.out false (iff_of_false (by decide) HV.out)).mono ?_
    rintro e wv ⟨rfl, hbv⟩
    have HBV := Lib.hid hbv
    clear hbv
    go_wp2
    go_ret2
    exact ⟨rfl, HBV.out⟩

set_option maxHeartbeats 4000000 in
set_option maxRecDepth 100000 in
theorem check_no {w : World} {v u t : Value} {m n q : Nat} {L : Nat → Nat} {A : Mx} {x y : Nat → Rat} (h : MatsR w v m L A) (hx : RatsR w u n x) (hb : RatsR w t q y) (hno : ¬ (IsMat m L ∧ n = colsN m L)) :
    Calls Tryz.prog 22 #[v, u, t] w fun e w' => e = .returned (.bool false) ∧ Below w.heap.size w w' := by
  have H := Lib.hid h
  have HX := Lib.hid hx
  have HNO := Lib.hid hno
  obtain ⟨a, c, rfl⟩ := h.shape
  obtain ⟨a2, c2, rfl⟩ := hx.shape
  obtain ⟨a3, c3, rfl⟩ := hb.shape
  clear h hx hb hno
  go_enter Tryz.func22, Tryz.ntmps22
  go_wp2_with fail
  refine (apply_no H.out HX.out HNO.out).mono ?_
  rintro e w' ⟨rfl, hb⟩
  have HB := Lib.hid hb
  clear hb
  go_wp2
  go_ret
  exact ⟨rfl, HB.out⟩

set_option maxHeartbeats 4000000 in
set_option maxRecDepth 100000 in
theorem rcheck_no {w : World} {v u t : Value} {m n q : Nat} {L : Nat → Nat} {A : Mx} {x y : Nat → Rat} (h : rMatsR w v m L A) (hx : rRatsR w u n x) (hb : rRatsR w t q y) (hno : ¬ (IsMat m L ∧ n = colsN m L)) :
    Calls Tryz.prog 23 #[v, u, t] w fun e w' => e = .returned (.bool false) ∧ Below w.heap.size w w' := by
  have H := Lib.hid h
  have HX := Lib.hid hx
  have HNO := Lib.hid hno
  obtain ⟨a, c, rfl⟩ := h.shape
  obtain ⟨a2, c2, rfl⟩ := hx.shape
  obtain ⟨a3, c3, rfl⟩ := hb.shape
  clear h hx hb hno
  go_enter Tryz.func23, Tryz.ntmps23
  go_wp2_with fail
  refine (rapply_no H.out HX.out HNO.out).mono ?_
  rintro e w' ⟨rfl, hb⟩
  have HB := Lib.hid hb
  clear hb
  go_wp2
  go_ret
  exact ⟨rfl, HB.out⟩

end Go.Proofs.YtjphfdlpcakpeaaGreatDoor
