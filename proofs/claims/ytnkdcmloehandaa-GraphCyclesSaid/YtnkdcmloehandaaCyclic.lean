/- graph.Cyclic. -/
import Derived.Test.YtnkdcmloehandaaReach
namespace Go.Proofs.Ytnkdcmloehandaa
open Go.RowKit Plain

/-- is e cyclic? -/
noncomputable def cB (n : Nat) (Z : Nat → Nat → Int) (e : Nat) : Bool := @decide (∃ k, k < n ∧ 0 < Z e k ∧ R n Z k e) (Classical.propDecidable _)
theorem cB_iff {n : Nat} {Z : Nat → Nat → Int} {e : Nat} : cB n Z e = true ↔ ∃ k, k < n ∧ 0 < Z e k ∧ R n Z k e := by unfold cB; exact @decide_eq_true_iff _ (Classical.propDecidable _)
theorem cB_of {n : Nat} {Z : Nat → Nat → Int} {h : Nat} {o : Nat → Bool} (hn : h < n) (k : IsReach n Z (fun a => a < n ∧ 0 < Z h a) o) : o h = cB n Z h := by
  rw [Bool.eq_iff_iff, k.iff hn, cB_iff]
  constructor
  · intro hr
    refine hr (fun e => ∃ k, k < n ∧ 0 < Z h k ∧ R n Z k e) (fun a ha => ⟨a, ha.1, ha.2, R.refl _ _ _⟩) (fun a b ha hb hS hz => ?_)
    obtain ⟨k, h1, h2, h3⟩ := hS
    exact ⟨k, h1, h2, h3.step ha hb hz⟩
  · rintro ⟨k, h1, h2, h3⟩
    exact ReachF.mono h3 fun a ha => by subst ha; exact ReachF.init ⟨h1, h2⟩

/-- the list of successors that graph.Cyclic gathers -/
structure Succ (n : Nat) (Z : Nat → Nat → Int) (h e : Nat) (xs : List Nat) : Prop where
  mem : ∀ x, x ∈ xs → x < n ∧ 0 < Z h x
  all : ∀ a, a < e → 0 < Z h a → a ∈ xs
  len : xs.length ≤ e

theorem Succ.push {n : Nat} {Z : Nat → Nat → Int} {h e : Nat} {xs : List Nat} (k : Succ n Z h e xs) (he : e < n) (hz : 0 < Z h e) : Succ n Z h (e + 1) (xs ++ [e]) :=
  ⟨fun x hx => by
    rcases List.mem_append.1 hx with q | q
    · exact k.mem x q
    · simp at q; subst q; exact ⟨he, hz⟩, fun a ha hza => by
    by_cases e1 : a = e
    · simp [e1]
    · simp [k.all a (by omega) hza], by have := k.len; simp; omega⟩
theorem Succ.pass {n : Nat} {Z : Nat → Nat → Int} {h e : Nat} {xs : List Nat} (k : Succ n Z h e xs) (hz : ¬ 0 < Z h e) : Succ n Z h (e + 1) xs :=
  ⟨k.mem, fun a ha hza => by
    by_cases e1 : a = e
    · subst e1; exact absurd hza hz
    · exact k.all a (by omega) hza, by have := k.len; omega⟩

section
variable {w : World} {v : Value} {G : Nat} {L : Nat → Nat} {Z : Nat → Nat → Int}

set_option maxHeartbeats 400000 in
theorem cyclic_no (hv : ¬ Vld G L Z) (h : MatR w v G L Z) : Calls Try.prog 22 #[v] w (Nil w) := by
  have HM := Lib.hid h
  have HV := Lib.hid hv
  clear h hv
  go_enter Try.func22, Try.ntmps22
  go_wp2_with (go_at_call 12; refine (valid_any (vb_false HV.out) HM.out).mono ?_; rintro e w1 ⟨rfl, hb⟩)
  go_ret
  exact ⟨rfl, hb⟩

set_option maxHeartbeats 1000000 in
theorem cyclic_yes (hv : Vld G L Z) (h : MatR w v G L Z) : Calls Try.prog 22 #[v] w (NewRow w G (cB G Z)) := by
  have HV := Lib.hid hv
  have HM := Lib.hid h
  obtain ⟨g1, g2, g3, g4, g5⟩ := hv
  have h' := h
  obtain ⟨a, b, o, c, A, B, O, C, rfl, l1, m1, s1, r1⟩ := h'
  obtain rfl := s1 (by omega)
  have hmake := run_make_row' (P := Try.prog) 26 4 (.bool false) 1 Try.underlying26 info4 rfl .i64 .i64 G (by omega) (by omega)
  obtain ⟨i0, hi, hz0, hz1, hz2⟩ := info_parts info3
  have R1 := Lib.hid r1
  have G3 := Lib.hid g3
  clear r1 g3 g4 g5 h
  go_enter Try.func22, Try.ntmps22
  go_wp2_with (go_at_call 12; refine (valid_any (vb_true HV.out) HM.out).mono ?_; rintro e w1 ⟨rfl, hb⟩)
  clear hmake
  have hsz1 := hb.size
  go_loopg [17] G (fun g s wr => ∃ k : Nat, k ≤ G ∧ g = G - k ∧ s = .int .i64 k ∧ Below w.heap.size w wr ∧ w1.heap.size < wr.heap.size ∧ ∃ f : Nat → Bool, wr.rowIs w1.heap.size 4 G (fun i => .bool (f i)) ∧ ∀ i, i < k → f i = cB G Z i)
  case atStart =>
    go_light
    exact ⟨0, Nat.zero_le _, rfl, rfl, hb.alloc hsz1 _, by simp, _, World.rowIs_made w1 _ G 4, fun i hi => absurd hi (Nat.not_lt_zero _)⟩
  case round =>
    obtain ⟨k, hk, rfl, rfl, hbr, hszr, f, hrow, hf⟩ := hrel
    have HF := Lib.hid hf
    clear hf
    by_cases hkG : k < G
    · have hkz : (k : Int) < (G : Int) := by omega
      obtain ⟨t1, t2, t3, t4, t5⟩ := R1.out k hkG
      have hL := G3.out k hkG
      rw [t4 (by omega)] at t1
      have x1 := keepc hbr t1
      have hLz : (L k : Int) ≤ 12 := by omega
      have HL := Lib.hid hL
      have H5 := Lib.hid t5
      have HB := Lib.hid hbr
      have HW := Lib.hid hrow
      clear t1 t4 t5 hL hbr hrow
      obtain ⟨wo, rfl⟩ : ∃ wo : World, wo = wr := ⟨_, rfl⟩
      go_wp2
      go_loopg [6, 24] G (fun g s i wi => ∃ (xs : List Nat) (e : Nat), e ≤ G ∧ g = G - e ∧ i = .int .i64 e ∧ Below wo.heap.size wo wi ∧ wi.ownsRow wo.heap.size 3 1 s xs.length (ints xs) ∧ Succ G Z k e xs)
      case atStart => go_light; exact ⟨[], 0, Nat.zero_le _, rfl, rfl, Below.refl _ _, World.ownsRow_nil _ _ _ _, ⟨by simp, fun a ha => absurd ha (Nat.not_lt_zero _), Nat.le_refl _⟩⟩
      case round =>
        obtain ⟨xs, e, he, rfl, rfl, hbi, hown, hsucc⟩ := hrel
        by_cases heG : e < G
        · have hez : (e : Int) < (L k : Int) := by rw [HL.out]; omega
          have z1 := keepc hbi (keepc HB.out (H5.out e (by rw [HL.out]; exact heG)))
          have hxl := hsucc.len
          have HS := Lib.hid hsucc
          have HBI := Lib.hid hbi
          have hszi := hbi.size
          clear hsucc hbi
          by_cases hz : 0 < Z k e
          · go_wp2_with (at_builtin; refine wpList_append_own _ rfl _ _ 32 rfl wo.heap.size 3 i0 (.int .i64 0) 1 8 Try.underlying32 hi hz0 hz1 hz2 rfl (by decide) _ _ _ rfl (hown.alloc _) ⟨wr.heap.size, 0, none⟩ 1 1 [.int .i64 (e : Int)] rfl rfl (cell_one_new _ _ _) (ints_oneCell .i64 [(e : Int)]) (by unfold maxLen; omega) (by omega) (by simp; omega) ?_)
            intro v' w1' hown' hgrow _
            have hb2 : Below wo.heap.size wo w1' := (HBI.out.alloc hszi _).grown hgrow (by simp; omega) (fun j hj => (hown.lt j hj).1)
            have ho2 : w1'.ownsRow wo.heap.size 3 1 v' (xs ++ [e]).length (ints (xs ++ [e])) := by rw [ints_snoc, List.length_append]; exact hown'
            clear hown' hgrow hown
            go_wp2
            go_roundg (G - (e + 1))
            case measure => go_light; omega
            case rel => go_light; exact ⟨_, e + 1, by omega, rfl, by simp, hb2, ho2, HS.out.push heG hz⟩
          · go_wp2
            go_roundg (G - (e + 1))
            case measure => go_light; omega
            case rel => go_light; exact ⟨_, e + 1, by omega, rfl, by simp, HBI.out, hown, HS.out.pass (by omega)⟩
        · have hez : ¬ (e : Int) < (L k : Int) := by rw [HL.out]; omega
          obtain rfl : e = G := by omega
          have HS := Lib.hid hsucc
          have HBI := Lib.hid hbi
          have HO := Lib.hid hown
          clear hsucc hbi hown
          go_wp2_with fail
          refine (mark_any (w0 := wo) (I := fun a => a < e ∧ 0 < Z k a) HV.out HBI.out (HM.out.below HB.out) HO.out (Mk.start (fun x hx => (HS.out.mem x hx).1) HS.out.mem (fun a ha hI => HS.out.all a hI.1 hI.2)) (by have := HS.out.len; omega)).mono ?_
          rintro e2 w2 ⟨q, rfl, hrow2, hreach, hb2⟩
          have y1 := hrow2.cell hkG
          have hrow3 := HW.out.of_block (hb2.block w1.heap.size hszr)
          have y2 := hrow3.cell hkG
          have y3 := hrow3.frozen k
          rw [cB_of hkG hreach] at y1
          have HR3 := Lib.hid hrow3
          have HB2 := Lib.hid hb2
          clear hrow2 hrow3 hb2 hreach
          go_wp2
          go_roundg (e - (k + 1))
          case measure => go_light; omega
          case rel =>
            go_light
            refine ⟨k + 1, by omega, rfl, by simp, (HB.out.trans (HB2.out.mono HB.out.size)).setCell hsz1 _, by have := HB2.out.size; simp; omega, fun j => if j = k then cB e Z k else f j, (HR3.out.set k _).congr (fun j _ => ?_), fun i hi => ?_⟩
            · by_cases e1 : j = k
              · subst e1; simp
              · simp [e1]
            · by_cases e1 : i = k
              · subst e1; simp
              · simp only [e1, if_false]; exact HF.out i (by omega)
    · have hkz : ¬ (k : Int) < (G : Int) := by omega
      obtain rfl : k = G := by omega
      have HB := Lib.hid hbr
      have HW := Lib.hid hrow
      clear hbr hrow
      go_wp2
      go_ret
      exact ⟨_, hsz1, rfl, HW.out.congr (fun i hi => by rw [HF.out i hi]), HB.out⟩
end
end Go.Proofs.Ytnkdcmloehandaa
