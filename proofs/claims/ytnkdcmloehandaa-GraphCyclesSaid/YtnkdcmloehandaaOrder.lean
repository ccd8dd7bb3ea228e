/- free, and the two Order. -/
import Derived.Test.YtnkdcmloehandaaClosed
import Derived.WalkMore
namespace Go.Proofs.Ytnkdcmloehandaa
open Go.RowKit Plain

section
variable {w : World} {v : Value} {G : Nat} {L : Nat → Nat} {Z : Nat → Nat → Int}

set_option maxHeartbeats 1000000 in
theorem free_any {u : Value} {d : Nat → Bool} {e : Nat} {fb : Bool} (hfb : fb = true ↔ Free G Z d e) (hv : Vld G L Z) (h : MatR w v G L Z) (hu : RowR w u G fun i => .bool (d i)) (he : e < G) :
    Calls Try.prog 31 #[v, u, .int .i64 (e : Int)] w fun en w' => en = .returned (.bool fb) ∧ w = w' := by
  obtain ⟨b, o, c, B, O, C, rfl, l1, m1, hrows⟩ := h.rowsAt hv
  have HR := Lib.hid (hrows w (Below.refl _ _))
  have HV := Lib.hid hv
  have HF := Lib.hid hfb
  obtain ⟨a2, b2, o2, c2, rfl, l2, m2, s2, r2⟩ := hu
  obtain rfl := s2 (by omega)
  have R2 := Lib.hid r2
  clear hv h hrows hfb r2
  go_enter Try.func31, Try.ntmps31
  go_wp2
  go_loopg [11] G (fun g s wr => ∃ k : Nat, k ≤ G ∧ g = G - k ∧ s = .int .i64 k ∧ wr = w ∧ ∀ i, i < k → Z i e = 0 ∨ d i = true)
  case atStart => exact ⟨0, Nat.zero_le _, rfl, rfl, rfl, fun i hi => absurd hi (Nat.not_lt_zero _)⟩
  case round =>
    obtain ⟨k, hk, rfl, rfl, rfl, hd⟩ := hrel
    have HD := Lib.hid hd
    clear hd
    by_cases hkG : k < G
    · have hkz : (k : Int) < (G : Int) := by omega
      obtain ⟨t1, t2, t3, t4, t5⟩ := HR.out k hkG
      have x1 := t5 e he
      have heL : (e : Int) < (L k : Int) := by omega
      have y1 := R2.out k hkG
      obtain ⟨g1, g2, g3, g4, g5⟩ := HV.out
      have hz0 := (g4 k e hkG he).1
      clear t4 t5 g3 g4 g5
      by_cases hz : 0 < Z k e
      · cases hdk : d k
        · rw [hdk] at y1
          have hf : fb = false := by
            cases fb
            · rfl
            · rcases HF.out.1 rfl k hkG with q | q
              · omega
              · rw [hdk] at q; cases q
          subst hf
          clear HF hdk
          go_wp2
          go_ret
          exact ⟨rfl, rfl⟩
        · rw [hdk] at y1
          have HK := Lib.hid hdk
          clear hdk
          go_wp2
          go_roundg (G - (k + 1))
          case measure => go_light; omega
          case rel =>
            go_light
            refine ⟨k + 1, by omega, rfl, by simp, rfl, fun i hi => ?_⟩
            by_cases e1 : i = k
            · subst e1; exact .inr HK.out
            · exact HD.out i (by omega)
      · go_wp2
        go_roundg (G - (k + 1))
        case measure => go_light; omega
        case rel =>
          go_light
          refine ⟨k + 1, by omega, rfl, by simp, rfl, fun i hi => ?_⟩
          by_cases e1 : i = k
          · subst e1; exact .inl (by omega)
          · exact HD.out i (by omega)
    · have hkz : ¬ (k : Int) < (G : Int) := by omega
      have hf : fb = true := HF.out.2 fun i hi => HD.out i (by omega)
      subst hf
      clear HF
      go_wp2
      go_ret
      exact ⟨rfl, rfl⟩

/-- what the two Order hand back -/
def OrdPost (w : World) (G : Nat) (Z : Nat → Nat → Int) (e : Ending) (w' : World) : Prop :=
  ∃ (v : Value) (er : Int) (l : List Nat), e = .returned (.tuple #[v, .int .i64 er]) ∧ Below w.heap.size w w' ∧ Ord G Z l ∧
    ((er = 0 ∧ l.length = G ∧ RowR w' v G (fun i => .int .i64 ((l.reverse.getD i 0 : Nat) : Int))) ∨ (er = 7 ∧ l.length < G ∧ NoPick G Z (has l) ∧ v = .slice none 0 0))

def ArgErr (w : World) (e : Ending) (w' : World) : Prop := e = .returned (.tuple #[.slice none 0 0, .int .i64 1]) ∧ Below w.heap.size w w'

theorem RowR.of_ints {w : World} {base : Nat} {v : Value} {xs : List Nat} (h : w.ownsRow base 3 1 v xs.length (ints xs)) : RowR w v xs.length (fun i => .int .i64 ((xs.getD i 0 : Nat) : Int)) := by
  rcases h.2 with ⟨rfl, hn⟩ | ⟨g, cap, cur, rfl, _, _, hl, hm, _, _⟩
  · have : xs = [] := List.eq_nil_of_length_eq_zero hn
    subst this
    exact ⟨_, 0, 0, 0, rfl, Nat.le_refl _, by omega, fun h => absurd h (Nat.not_lt_zero _), fun i hi => absurd hi (Nat.not_lt_zero _)⟩
  · refine ⟨_, g, 0, cap, rfl, hl, (by unfold maxLen at hm; exact hm), fun _ => rfl, fun i hi => ?_⟩
    rw [Nat.zero_add, h.cellAt i (by omega)]
    simp [ints, List.getD, hi]

theorem has_cons (l : List Nat) (e i : Nat) : has (e :: l) i = if i = e then true else has l i := by
  unfold has
  by_cases h : i = e
  · subst h; simp
  · simp [h]

set_option maxHeartbeats 400000 in
theorem order_no (hv : ¬ Vld G L Z) (h : MatR w v G L Z) : Calls Try.prog 24 #[v] w (ArgErr w) := by
  have HM := Lib.hid h
  have HV := Lib.hid hv
  clear h hv
  go_enter Try.func24, Try.ntmps24
  go_wp2
  go_step3
  go_wp2_with (go_at_call 12; refine (valid_any (vb_false HV.out) HM.out).mono ?_; rintro e w1 ⟨rfl, hb⟩)
  rw [Exit.noGoto_ret]
  go_ret2
  exact ⟨rfl, hb⟩

theorem Ord.le {l : List Nat} (h : Ord G Z l) : l.length ≤ G := by
  have ⟨h1, h2⟩ := Ord.nodup l h
  have h3 : ∀ (m : Nat) (l : List Nat), l.Nodup → (∀ x, x ∈ l → x < m) → l.length ≤ m := by
    intro m
    induction m with
    | zero =>
      intro l _ h2
      cases l with
      | nil => exact Nat.le_refl _
      | cons a l => exact absurd (h2 a (by simp)) (Nat.not_lt_zero _)
    | succ m ih =>
      intro l h1 h2
      by_cases hm : m ∈ l
      · have := ih (l.erase m) (h1.erase m) (fun x hx => by
          have hne := ((List.Nodup.mem_erase_iff h1).1 hx)
          have := h2 x hne.2
          have := hne.1
          omega)
        rw [List.length_erase_of_mem hm] at this
        omega
      · have := ih l h1 (fun x hx => by
          have := h2 x hx
          have : x ≠ m := fun e => hm (e ▸ hx)
          omega)
        omega
  exact h3 G l h1 h2

/-- a store into a row of another type leaves what is owned -/
theorem own_store {w : World} {base b i n m : Nat} {t e : TypeId} {f : Nat → Value} {v : Value} {xs : List Value} (h : w.ownsRow base e 1 v m xs) (hr : w.rowIs b t n f) (hne : t ≠ e) (u : Value) : (w.setCell ⟨b, i, none⟩ u).ownsRow base e 1 v m xs := by
  refine h.kept (row := some b) ⟨rfl, rfl, rfl, by simp [World.setCell], fun k _ hk => Below.heap_setCell _ _ _ _ (fun e => hk (by rw [e]))⟩ (.inr ?_)
  intro e1
  obtain ⟨cs, hcs, _⟩ := hr
  rcases h.2 with ⟨rfl, _⟩ | ⟨g', _, _, rfl, _, h2, _⟩
  · simp [Value.ownBlock] at e1
  · simp [Value.ownBlock] at e1
    subst e1
    rw [hcs] at h2
    simp at h2
    exact hne h2.2

set_option maxHeartbeats 1600000 in
theorem order_yes (hv : Vld G L Z) (h : MatR w v G L Z) : Calls Try.prog 24 #[v] w (OrdPost w G Z) := by
  have HV := Lib.hid hv
  have HM := Lib.hid h
  obtain ⟨a, c, rfl, hG⟩ := h.shape
  have g1 := hv.1
  have g2 := hv.2.1
  have hmake := run_make_row' (P := Try.prog) 26 4 (.bool false) 1 Try.underlying26 info4 rfl .i64 .i64 G (by omega) (by omega)
  obtain ⟨i0, hi, hz0, hz1, hz2⟩ := info_parts info3
  clear h hv
  go_enter Try.func24, Try.ntmps24
  go_wp2
  go_step3
  go_wp2_with (go_at_call 12; refine (valid_any (vb_true HV.out) HM.out).mono ?_; rintro e w1 ⟨rfl, hb⟩)
  clear hmake
  go_step3
  go_wp2
  have hsz1 := hb.size
  have HB1 := Lib.hid (hb.alloc hsz1 (.cells (madeCells #[.bool false] G) 4))
  have R0 := Lib.hid (World.rowIs_made w1 (.bool false) G 4)
  clear hb
  go_loopg [5] G (fun g s wr => ∃ l : List Nat, g = G - l.length ∧ Ord G Z l ∧ Below w.heap.size w wr ∧ wr.rowIs w1.heap.size 4 G (fun i => .bool (has l i)) ∧ wr.ownsRow w.heap.size 3 1 s l.reverse.length (ints l.reverse))
  case atStart =>
    go_light
    exact ⟨[], rfl, trivial, HB1.out, R0.out.congr (fun j _ => by simp [has]), World.ownsRow_nil _ _ _ _⟩
  case round =>
    obtain ⟨l, rfl, hord, hbr, hrow, hown⟩ := hrel
    clear HB1 R0
    have hlG := Ord.le hord
    have HO := Lib.hid hord
    have HB := Lib.hid hbr
    have HW := Lib.hid hrow
    have HN := Lib.hid hown
    have hlen : l.reverse.length = l.length := by simp
    clear hord hbr hrow
    obtain ⟨sa, sc, rfl⟩ : ∃ sa sc, u5 = .slice sa l.length sc := by
      rcases hown.2 with ⟨rfl, hn⟩ | ⟨g, cap, cur, rfl, _⟩
      · exact ⟨none, 0, by rw [← hlen, hn]⟩
      · exact ⟨_, _, by rw [hlen]⟩
    clear hown hlen
    by_cases hlt : l.length < G
    · have hlz : (l.length : Int) < (G : Int) := by omega
      obtain ⟨wo, hwo⟩ : ∃ wo : World, wo = wr := ⟨_, rfl⟩
      subst hwo
      go_wp2
      go_loopg [5, 20] G (fun g s5 s wr => ∃ e : Nat, e ≤ G ∧ g = G - e ∧ s5 = .slice sa l.length sc ∧ s = .int .i64 e ∧ wr = wo ∧ ∀ i, i < e → has l i = true ∨ ¬ Free G Z (has l) i)
      case atStart => go_light; exact ⟨0, Nat.zero_le _, rfl, rfl, rfl, rfl, fun i hi => absurd hi (Nat.not_lt_zero _)⟩
      case round =>
        obtain ⟨e, he, rfl, rfl, rfl, rfl, hno⟩ := hrel
        have HNO := Lib.hid hno
        clear hno
        by_cases heG : e < G
        · have hez : (e : Int) < (G : Int) := by omega
          have y1 := HW.out.cell heG
          have y2 := HW.out.frozen e
          cases hhe : has l e
          · rw [hhe] at y1
            have HE := Lib.hid hhe
            clear hhe
            by_cases hfr : Free G Z (has l) e
            · have HFR := Lib.hid hfr
              clear hfr
              have hown := own_store (i := e) HN.out HW.out (by decide) (.bool true)
              have hll : l.reverse.length = l.length := by simp
              rw [hll] at hown
              have hsz := HB.out.size
              go_wp2_with (first | (go_at_call 31; refine (free_any (fb := true) ⟨fun _ => HFR.out, fun _ => rfl⟩ HV.out (HM.out.below HB.out) (RowR.of_rowIs HW.out hG) heG).mono ?_; rintro e2 w2 ⟨rfl, rfl⟩) | (at_builtin; refine wpList_append_own _ rfl _ _ 32 rfl w.heap.size 3 i0 (.int .i64 0) 1 8 Try.underlying32 hi hz0 hz1 hz2 rfl (by decide) (.slice sa l.length sc) l.length (ints l.reverse) rfl (hown.alloc _) ⟨wr.heap.size, 0, none⟩ 1 1 [.int .i64 (e : Int)] rfl rfl (cell_one_at _ _ _ (by simp)) (ints_oneCell .i64 [(e : Int)]) (by unfold maxLen; omega) (by omega) (by simp; omega) ?_))
              intro v' w2 hown' hgrow _
              have hown3 : w2.ownsRow w.heap.size 3 1 v' (e :: l).reverse.length (ints (e :: l).reverse) := by
                rw [List.reverse_cons, ints_snoc, List.length_append, hll]; exact hown'
              have hb3 : Below w.heap.size w w2 := ((HB.out.setCell (p := ⟨w1.heap.size, e, none⟩) hsz1 _).alloc (by simpa using hsz) _).grown hgrow (by simp; omega) (fun j hj => (hown.lt j hj).1)
              have hr3 : w2.rowIs w1.heap.size 4 G (fun i => .bool (has (e :: l) i)) := (rowIs_grown ((HW.out.set e _).alloc _) (hown.alloc _) hgrow (by decide)).congr fun j _ => by rw [has_cons]; by_cases e1 : j = e <;> simp [e1]
              have ho3 : Ord G Z (e :: l) := ⟨HO.out, heG, HE.out, HFR.out, HNO.out⟩
              clear hown' hgrow hown hll
              go_wp2
              go_roundg (G - (e :: l).length)
              case measure => go_light; simp; omega
              case rel => go_light; exact ⟨e :: l, rfl, ho3, hb3, hr3, hown3⟩
            · have HFR := Lib.hid hfr
              clear hfr
              go_wp2_with (go_at_call 31; refine (free_any (fb := false) ⟨(fun h => by cases h), fun h => absurd h HFR.out⟩ HV.out (HM.out.below HB.out) (RowR.of_rowIs HW.out hG) heG).mono ?_; rintro e2 w2 ⟨rfl, rfl⟩)
              go_roundg (G - (e + 1))
              case measure => go_light; omega
              case rel =>
                go_light
                refine ⟨e + 1, by omega, rfl, rfl, by simp, rfl, fun i hi => ?_⟩
                by_cases e1 : i = e
                · subst e1; exact .inr HFR.out
                · exact HNO.out i (by omega)
          · rw [hhe] at y1
            have HE := Lib.hid hhe
            clear hhe
            go_wp2
            go_roundg (G - (e + 1))
            case measure => go_light; omega
            case rel =>
              go_light
              refine ⟨e + 1, by omega, rfl, rfl, by simp, rfl, fun i hi => ?_⟩
              by_cases e1 : i = e
              · subst e1; exact .inl HE.out
              · exact HNO.out i (by omega)
        · have hez : ¬ (e : Int) < (G : Int) := by omega
          obtain rfl : e = G := by omega
          go_wp2
          go_ret2
          exact ⟨_, _, l, rfl, HB.out, HO.out, .inr ⟨rfl, hlt, HNO.out, rfl⟩⟩
    · have hlz : ¬ (l.length : Int) < (G : Int) := by omega
      go_wp2
      go_ret2
      refine ⟨_, _, l, rfl, HB.out, HO.out, .inl ⟨rfl, by omega, ?_⟩⟩
      have h1 := RowR.of_ints HN.out
      have h2 : l.reverse.length = G := by simp; omega
      rw [h2] at h1
      exact h1
end
end Go.Proofs.Ytnkdcmloehandaa
