/- The two Reach. -/
import Derived.Test.YtnkdcmloehandaaRefReach
import Derived.Test.YtnkdcmloehandaaRefValid
namespace Go.Proofs.Ytnkdcmloehandaa
open Go.RowKit Plain

/-- is e reached from h? -/
noncomputable def rB (n : Nat) (Z : Nat → Nat → Int) (h e : Nat) : Bool := @decide (R n Z h e) (Classical.propDecidable _)
theorem rB_iff {n : Nat} {Z : Nat → Nat → Int} {h e : Nat} : rB n Z h e = true ↔ R n Z h e := by unfold rB; exact @decide_eq_true_iff _ (Classical.propDecidable _)
theorem rB_of {n : Nat} {Z : Nat → Nat → Int} {h : Nat} {o : Nat → Bool} (k : IsReach n Z (fun a => a = h) o) : ∀ e, e < n → o e = rB n Z h e := by
  intro e he
  rw [Bool.eq_iff_iff, k.iff he, rB_iff]
  rfl

/-- a new row of bools -/
def NewRow (w : World) (G : Nat) (f : Nat → Bool) (e : Ending) (w' : World) : Prop :=
  ∃ bk, w.heap.size ≤ bk ∧ e = .returned (.slice (some ⟨bk, 0, none⟩) G G) ∧ w'.rowIs bk 4 G (fun i => .bool (f i)) ∧ Below w.heap.size w w'

def Nil (w : World) (e : Ending) (w' : World) : Prop := e = .returned (.slice none 0 0) ∧ Below w.heap.size w w'

theorem ints_one (x : Nat) : ints [x] = [.int .i64 (x : Int)] := rfl

section
variable {w : World} {v : Value} {G : Nat} {L : Nat → Nat} {Z : Nat → Nat → Int}

theorem vb_true (hv : Vld G L Z) : (true = true) ↔ Vld G L Z := ⟨fun _ => hv, fun _ => rfl⟩
theorem vb_false (hv : ¬ Vld G L Z) : (false = true) ↔ Vld G L Z := ⟨(fun h => by cases h), fun h => absurd h hv⟩

theorem MatR.shape (h : MatR w v G L Z) : ∃ a c, v = .slice a G c ∧ G ≤ 9223372036854775807 := by
  obtain ⟨a, b, o, c, _, _, _, _, hv, h1, h2, _⟩ := h
  exact ⟨a, c, hv, by omega⟩

set_option maxHeartbeats 400000 in
theorem reach_yes {f : Nat} (hv : Vld G L Z) (h : MatR w v G L Z) (hf : f < G) : Calls Try.prog 15 #[v, .int .i64 (f : Int)] w (NewRow w G (rB G Z f)) := by
  obtain ⟨a, c, rfl, hG⟩ := h.shape
  have h0 : ¬ (f : Int) < 0 := by omega
  have h1 : (f : Int) < (G : Int) := by omega
  have HV := Lib.hid hv
  have HM := Lib.hid h
  clear hv h
  go_enter Try.func15, Try.ntmps15
  go_wp2_with (go_at_call 12; refine (valid_any (vb_true HV.out) HM.out).mono ?_; rintro e w1 ⟨rfl, hb⟩)
  go_wp2_with fail
  have own := World.ownsRow_lit (base := w1.heap.size) (e := 3) (size := 1) w1 #[.int .i64 (f : Int)] 1 (Nat.le_refl _) (by unfold maxLen; omega) rfl
  refine (mark_any (w0 := w1) (xs := [f]) (I := fun a => a = f) HV.out ((Below.refl _ _).alloc (Nat.le_refl _) _) (HM.out.below hb) own (Mk.start (by simp [hf]) (by simp) (by simp)) (by simp)).mono ?_
  rintro e w2 ⟨o, rfl, hrow, hreach, hb2⟩
  rw [World.size_alloc] at hrow
  go_wp2
  go_ret
  exact ⟨_, by have := hb.size; omega, rfl, hrow.congr (fun i hi => by rw [rB_of hreach i hi]), hb.trans (hb2.mono hb.size)⟩

set_option maxHeartbeats 400000 in
theorem refReach_yes {f : Nat} (hv : Vld G L Z) (h : MatR w v G L Z) (hf : f < G) : Calls Try.prog 16 #[v, .int .i64 (f : Int)] w (NewRow w G (rB G Z f)) := by
  obtain ⟨a, c, rfl, hG⟩ := h.shape
  have h0 : ¬ (f : Int) < 0 := by omega
  have h1 : (f : Int) < (G : Int) := by omega
  have HV := Lib.hid hv
  have HM := Lib.hid h
  clear hv h
  go_enter Try.func16, Try.ntmps16
  go_wp2_with (go_at_call 13; refine (refValid_any (vb_true HV.out) HM.out).mono ?_; rintro e w1 ⟨rfl, hb⟩)
  go_wp2_with fail
  refine (refreach_any HV.out (HM.out.below hb) hf).mono ?_
  rintro e w2 ⟨o, rfl, hrow, hreach, hb2⟩
  go_wp2
  go_ret
  exact ⟨_, hb.size, rfl, hrow.congr (fun i hi => by rw [rB_of hreach i hi]), hb.trans (hb2.mono hb.size)⟩

set_option maxHeartbeats 400000 in
theorem reach_no {x : Int} (hv : ¬ Vld G L Z ∨ x < 0 ∨ (G : Int) ≤ x) (h : MatR w v G L Z) : Calls Try.prog 15 #[v, .int .i64 x] w (Nil w) := by
  obtain ⟨a, c, rfl, hG⟩ := h.shape
  have HM := Lib.hid h
  have HV := Lib.hid hv
  clear h hv
  by_cases hv : Vld G L Z
  · have HV2 := Lib.hid hv
    clear hv
    by_cases h0 : x < 0
    · go_enter Try.func15, Try.ntmps15
      go_wp2_with (go_at_call 12; refine (valid_any (vb_true HV2.out) HM.out).mono ?_; rintro e w1 ⟨rfl, hb⟩)
      go_ret
      exact ⟨rfl, hb⟩
    · have h1 : (G : Int) ≤ x := by rcases HV.out with h | h | h; exact absurd HV2.out h; exact absurd h h0; exact h
      go_enter Try.func15, Try.ntmps15
      go_wp2_with (go_at_call 12; refine (valid_any (vb_true HV2.out) HM.out).mono ?_; rintro e w1 ⟨rfl, hb⟩)
      go_ret
      exact ⟨rfl, hb⟩
  · have HV2 := Lib.hid hv
    clear hv
    go_enter Try.func15, Try.ntmps15
    go_wp2_with (go_at_call 12; refine (valid_any (vb_false HV2.out) HM.out).mono ?_; rintro e w1 ⟨rfl, hb⟩)
    go_ret
    exact ⟨rfl, hb⟩

set_option maxHeartbeats 400000 in
theorem refReach_no {x : Int} (hv : ¬ Vld G L Z ∨ x < 0 ∨ (G : Int) ≤ x) (h : MatR w v G L Z) : Calls Try.prog 16 #[v, .int .i64 x] w (Nil w) := by
  obtain ⟨a, c, rfl, hG⟩ := h.shape
  have HM := Lib.hid h
  have HV := Lib.hid hv
  clear h hv
  by_cases hv : Vld G L Z
  · have HV2 := Lib.hid hv
    clear hv
    by_cases h0 : x < 0
    · go_enter Try.func16, Try.ntmps16
      go_wp2_with (go_at_call 13; refine (refValid_any (vb_true HV2.out) HM.out).mono ?_; rintro e w1 ⟨rfl, hb⟩)
      go_ret
      exact ⟨rfl, hb⟩
    · have h1 : (G : Int) ≤ x := by rcases HV.out with h | h | h; exact absurd HV2.out h; exact absurd h h0; exact h
      go_enter Try.func16, Try.ntmps16
      go_wp2_with (go_at_call 13; refine (refValid_any (vb_true HV2.out) HM.out).mono ?_; rintro e w1 ⟨rfl, hb⟩)
      go_ret
      exact ⟨rfl, hb⟩
  · have HV2 := Lib.hid hv
    clear hv
    go_enter Try.func16, Try.ntmps16
    go_wp2_with (go_at_call 13; refine (refValid_any (vb_false HV2.out) HM.out).mono ?_; rintro e w1 ⟨rfl, hb⟩)
    go_ret
    exact ⟨rfl, hb⟩
end
end Go.Proofs.Ytnkdcmloehandaa
