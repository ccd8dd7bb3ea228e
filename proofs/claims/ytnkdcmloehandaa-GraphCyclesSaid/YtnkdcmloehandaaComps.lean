/- graph.Components. -/
import Derived.Test.YtnkdcmloehandaaGroups
namespace Go.Proofs.Ytnkdcmloehandaa
open Go.RowKit Plain Go.Maps

theorem zero32 (w : World) : (zeroValue 32).run Try.prog w = .ok (.slice none 0 0) w := by kernel_rfl
theorem law3 : Keyed Try.prog 3 := int_keyed Try.underlying3

/-- the table of what is reached, as far as it is filled -/
def top (BK : Nat → Nat) (G k : Nat) : Nat → Value := fun j => if j < k then .slice (some ⟨BK j, 0, none⟩) G G else .slice none 0 0

structure Table (w : World) (RB G : Nat) (Z : Nat → Nat → Int) (BK : Nat → Nat) (k : Nat) : Prop where
  top : w.rowIs RB 26 G (top BK G k)
  rows : ∀ j, j < k → w.rowIs (BK j) 4 G (fun i => .bool (rB G Z j i))

theorem Table.below {w w' : World} {RB G k : Nat} {Z : Nat → Nat → Int} {BK : Nat → Nat} (h : Table w RB G Z BK k) (hb : Below w.heap.size w w') : Table w' RB G Z BK k :=
  ⟨h.top.of_block (hb.block _ h.top.lt), fun j hj => (h.rows j hj).of_block (hb.block _ (h.rows j hj).lt)⟩

theorem row_ne {w : World} {a b n m : Nat} {t u : TypeId} {f g : Nat → Value} (h : w.rowIs a t n f) (k : w.rowIs b u m g) (hne : t ≠ u) : a ≠ b := by
  intro e
  subst e
  obtain ⟨c, hc, _⟩ := h
  obtain ⟨d, hd, _⟩ := k
  rw [hc] at hd
  simp at hd
  exact hne hd.2

theorem Table.push {w : World} {RB G k bk : Nat} {Z : Nat → Nat → Int} {BK : Nat → Nat} (h : Table w RB G Z BK k) (hr : w.rowIs bk 4 G (fun i => .bool (rB G Z k i))) :
    Table (w.setCell ⟨RB, k, none⟩ (.slice (some ⟨bk, 0, none⟩) G G)) RB G Z (fun j => if j = k then bk else BK j) (k + 1) := by
  refine ⟨(h.top.set k _).congr fun j _ => ?_, fun j hj => ?_⟩
  · unfold Ytnkdcmloehandaa.top
    by_cases e : j = k
    · subst e; simp
    · have e2 : (j < k) = (j < k + 1) := by apply propext; omega
      simp [e, e2]
  · by_cases e : j = k
    · subst e
      simp only [if_true]
      exact hr.setOther (row_ne hr h.top (by decide)) _
    · simp only [e, if_false]
      exact (h.rows j (by omega)).setOther (row_ne (h.rows j (by omega)) h.top (by decide)) _

/-- what the second loop carries -/
structure Round (wm wr : World) (G : Nat) (Z : Nat → Nat → Int) (e : Nat) (s : Value) (D : DataW Unit) : Prop where
  below : Below wm.heap.size wm wr
  size : wm.heap.size < wr.heap.size
  own : wr.ownsRow (wm.heap.size + 1) 3 1 s (lds G Z e).length (ints (lds G Z e))
  groups : wr.ownsGroups Try.prog 3 (wm.heap.size + 1) 3 .i64 wm.heap.size e D
  rep : Rep G Z e D
  shuns : wr.Shuns wm.heap.size (fun g => s.ownBlock = some g)

theorem round_end {wm wa w3 w2 : World} {G e l : Nat} {Z : Nat → Nat → Int} {s v v' : Value} {D : DataW Unit} {zs : List Int} {o : Obj}
    (hb : Below wm.heap.size wm wa) (hsz : wm.heap.size < wa.heap.size) (hown : wa.ownsRow (wm.heap.size + 1) 3 1 s (lds G Z (e + 1)).length (ints (lds G Z (e + 1)))) (hsA : wa.Shuns wm.heap.size (fun g => s.ownBlock = some g))
    (hrep : Rep G Z e D) (hl : isL G Z l = true) (hk : kB G Z l e = true) (hez : e ≤ 1000)
    (hat : D.atKey (.int .i64 (l : Int)) .nil = rowDatum .i64 v zs) (hoi : wa.ownsInts (wm.heap.size + 1) 3 .i64 v zs) (hsh : ∀ No : Nat → Prop, wa.Shuns wm.heap.size No → ∀ g, v.ownBlock = some g → ¬ No g)
    (hown' : w3.ownsRow (wm.heap.size + 1) 3 1 v' (zs.length + 1) (zs.map (Value.int .i64) ++ [.int .i64 (e : Int)])) (hgrow : (wa.alloc o).grownBy w3 v.ownBlock)
    (hown2 : w2.ownsGroups Try.prog 3 (wm.heap.size + 1) 3 .i64 wm.heap.size (e + 1) (D.put (.int .i64 (l : Int)) (rowDatum .i64 v' (zs ++ [(e : Int)])))) (hgrow2 : w3.grownBy w2 (some wm.heap.size)) (hsh2 : w2.Shuns wm.heap.size (fun g => s.ownBlock = some g)) :
    Round wm w2 G Z (e + 1) s (D.put (.int .i64 (l : Int)) (rowDatum .i64 v' (zs ++ [(e : Int)]))) := by
  have hg3 : wa.grownBy w3 v.ownBlock := (World.grownBy_alloc wa o _).trans hgrow
  have hz := rep_read (xs := mem G Z l e) hoi (by rw [← hrep.2 l hl]; exact hat)
  have hoi3 := hoi.appended hown' (WalkArith.wf_i64 (by omega))
  have hs1 := hg3.size
  have hs2 := hgrow2.size
  refine ⟨(hb.grown hg3 (by omega) (fun j hj => by have := (hoi.1.lt j hj).1; omega)).grown hgrow2 (by omega) (fun j hj => by cases hj; exact Nat.le_refl _), by omega, ?_, hown2, ?_, hsh2⟩
  · refine (hown.kept hg3 ?_).kept hgrow2 ?_
    · cases hv : s.ownBlock with
      | none => exact .inl rfl
      | some g => exact .inr fun e1 => hsh _ hsA g e1.symm hv
    · cases hv : s.ownBlock with
      | none => exact .inl rfl
      | some g => exact .inr fun e1 => by have := (hown.lt g hv).1; simp at e1; omega
  · rw [hz]
    rw [hz] at hoi3
    exact hrep.step hl hk hoi3

section
variable {w : World} {v : Value} {G : Nat} {L : Nat → Nat} {Z : Nat → Nat → Int}

set_option maxHeartbeats 400000 in
theorem comps_no (hv : ¬ Vld G L Z) (h : MatR w v G L Z) : Calls Try.prog 20 #[v] w (Nil w) := by
  have HM := Lib.hid h
  have HV := Lib.hid hv
  clear h hv
  have hmm := @run_makeMap Try.prog
  go_enter Try.func20, Try.ntmps20
  go_wp2_with (go_at_call 12; refine (valid_any (vb_false HV.out) HM.out).mono ?_; rintro e w1 ⟨rfl, hb⟩)
  go_ret
  exact ⟨rfl, hb⟩

set_option maxHeartbeats 3200000 in
theorem comps_yes (hv : Vld G L Z) (h : MatR w v G L Z) : Calls Try.prog 20 #[v] w (CompPost w (comps G Z)) := by
  have HV := Lib.hid hv
  have HM := Lib.hid h
  have g1 := hv.1
  have g2 := hv.2.1
  obtain ⟨a, c, rfl, hG⟩ := h.shape
  have hmake := run_make_row' (P := Try.prog) 44 26 (.slice none 0 0) 24 Try.underlying44 info26 rfl .i64 .i64 G (by omega) (by omega)
  have hmm := @run_makeMap Try.prog
  obtain ⟨i0, hi, hz0, hz1, hz2⟩ := info_parts info3
  obtain ⟨j0, hj, hy0, hy1, hy2⟩ := info_parts info32
  clear h hv
  go_enter Try.func20, Try.ntmps20
  go_wp2_with (go_at_call 12; refine (valid_any (vb_true HV.out) HM.out).mono ?_; rintro e w1 ⟨rfl, hb⟩)
  clear hmake
  have hsz1 := hb.size
  have HB1 := Lib.hid (hb.alloc hsz1 (.cells (madeCells #[.slice none 0 0] G) 26))
  have R0 := Lib.hid (World.rowIs_made w1 (.slice none 0 0) G 26)
  clear hb
  go_loopg [20] G (fun g s wr => ∃ (k : Nat) (BK : Nat → Nat), k ≤ G ∧ g = G - k ∧ s = .int .i64 k ∧ Below w.heap.size w wr ∧ Table wr w1.heap.size G Z BK k)
  case atStart => go_light; exact ⟨0, fun _ => 0, Nat.zero_le _, rfl, rfl, HB1.out, R0.out.congr (fun j _ => by simp [top]), fun j hj => absurd hj (Nat.not_lt_zero _)⟩
  case round =>
    obtain ⟨k, BK, hk, rfl, rfl, hbr, htab⟩ := hrel
    clear HB1 R0
    have HB := Lib.hid hbr
    have HT := Lib.hid htab
    clear hbr htab
    by_cases hkG : k < G
    · have hkz : (k : Int) < (G : Int) := by omega
      go_wp2_with fail
      have own := World.ownsRow_lit (base := wr.heap.size) (e := 3) (size := 1) wr #[.int .i64 (k : Int)] 1 (Nat.le_refl _) (by unfold maxLen; omega) rfl
      refine (mark_any (w0 := wr) (xs := [k]) (I := fun a => a = k) HV.out ((Below.refl _ _).alloc (Nat.le_refl _) _) (HM.out.below HB.out) own (Mk.start (by simp [hkG]) (by simp) (by simp)) (by simp)).mono ?_
      rintro e w2 ⟨q, rfl, hrow, hreach, hb2⟩
      rw [World.size_alloc] at hrow
      have hrow2 := hrow.congr (g := fun i => .bool (rB G Z k i)) fun i hi => by rw [rB_of hreach i hi]
      have htab2 := HT.out.below hb2
      have HT3 := Lib.hid (htab2.push hrow2)
      have y1 := htab2.top.cell hkG
      have y2 := htab2.top.frozen k
      have HB2 := Lib.hid (bt HB.out hb2)
      clear own hrow hrow2 hreach hb2 htab2
      go_wp2
      go_roundg (G - (k + 1))
      case measure => go_light; omega
      case rel => go_light; exact ⟨k + 1, _, by omega, rfl, by simp, HB2.out.setCell hsz1 _, HT3.out⟩
    · have hkz : ¬ (k : Int) < (G : Int) := by omega
      obtain rfl : k = G := by omega
      obtain ⟨wm, hwm⟩ : ∃ wm : World, wm = wr := ⟨_, rfl⟩
      subst hwm
      have hszm := HB.out.size
      go_wp2
      clear hmm
      have HG0 := Lib.hid (World.ownsGroups_made (H := Unit) wm Try.prog 3 3 .i64)
      have HS0 := Lib.hid (World.Shuns_made wm (fun g => (Value.slice none 0 0).ownBlock = some g))
      go_loopg [6, 34] k (fun g s6 s wr => ∃ (e : Nat) (D : DataW Unit), e ≤ k ∧ g = k - e ∧ s = .int .i64 e ∧ Round wm wr k Z e s6 D)
      case atStart => go_light; exact ⟨0, _, Nat.zero_le _, rfl, rfl, (Below.refl _ _).alloc (Nat.le_refl _) _, by simp, World.ownsRow_nil _ _ _ _, HG0.out, Rep.start _ _, HS0.out⟩
      case round =>
        obtain ⟨e, D, he, rfl, rfl, hbr, hsz, hown, hgro, hrep, hshun⟩ := hrel
        clear HG0 HS0
        have HBR := Lib.hid hbr
        have HO := Lib.hid hown
        have HG := Lib.hid hgro
        have HR := Lib.hid hrep
        have HS := Lib.hid hshun
        clear hbr hown hgro hrep hshun
        by_cases hek : e < k
        · have hez : (e : Int) < (k : Int) := by omega
          have htab := HT.out.below HBR.out
          have HTR := Lib.hid htab
          clear htab
          obtain ⟨ld, hld1, hld2, hld3, hld4⟩ := leader k Z e
          have HL2 := Lib.hid hld2
          have HL3 := Lib.hid hld3
          have HL4 := Lib.hid hld4
          clear hld2 hld3 hld4
          obtain ⟨wo, hwo⟩ : ∃ wo : World, wo = wr := ⟨_, rfl⟩
          subst hwo
          go_wp2
          go_loopg [8] k (fun g s wr => ∃ l : Nat, l ≤ ld ∧ g = k - l ∧ s = .int .i64 l ∧ wr = wo)
          case atStart => go_light; exact ⟨0, Nat.zero_le _, rfl, rfl, rfl⟩
          case round =>
            obtain ⟨l, hl, rfl, rfl, rfl⟩ := hrel
            have hlk : l < k := by omega
            have hlz : (l : Int) < (k : Int) := by omega
            have x1 : wr.cell? ⟨w1.heap.size, l, none⟩ = some (.slice (some ⟨BK l, 0, none⟩) k k) := by have := HTR.out.top.cell hlk; simpa [top, hlk] using this
            have x2 : wr.cell? ⟨w1.heap.size, e, none⟩ = some (.slice (some ⟨BK e, 0, none⟩) k k) := by have := HTR.out.top.cell hek; simpa [top, hek] using this
            have x3 := (HTR.out.rows l hlk).cell hek
            have x4 := (HTR.out.rows e hek).cell hlk
            by_cases hll : l = ld
            · subst hll
              obtain ⟨r1, r2⟩ : rB k Z l e = true ∧ rB k Z e l = true := by have := HL2.out; unfold kB at this; simpa using this
              rw [r1] at x3
              rw [r2] at x4
              clear r1 r2
              have hll2 : (lds k Z e).length ≤ 12 := by have := lds_len k Z e; omega
              have hml : (mem k Z l e).length ≤ 12 := by have := mem_len k Z l e; omega
              have hkey : keyOf Try.prog 3 (.int .i64 (l : Int)) = some (.int .i64 (l : Int)) := keyOf_int_mk Try.underlying3 (WalkArith.wf_i64 (by omega))
              by_cases hle : l = e
              · subst hle
                have heq : ((l : Int) == (l : Int)) = true := by simp
                have hownL := HO.out
                go_wp2_with (at_builtin; refine wpList_append_own_at _ rfl (.tmp 60) (.tmp 62) 32 rfl (wm.heap.size + 1) 3 i0 (.int .i64 0) 1 8 Try.underlying32 hi hz0 hz1 hz2 rfl (by decide) _ (lds k Z l).length (ints (lds k Z l)) rfl (hownL.alloc _) ⟨wr.heap.size, 0, none⟩ 1 1 [.int .i64 (l : Int)] rfl rfl (cell_one_new _ _ _) (ints_oneCell .i64 [(l : Int)]) (by unfold maxLen; omega) (by omega) (by simp; omega) ?_)
                intro v1 wa hownA hgrowA _ hlocA
                have hgA : wr.grownBy wa u6.ownBlock := (World.grownBy_alloc wr _ _).trans hgrowA
                have hne6 : some wm.heap.size ≠ u6.ownBlock := fun e1 => by have := (hownL.lt _ e1.symm).1; omega
                have hgroA := HG.out.kept hgA hne6 (HS.out.rowsOff fun j hj => hj)
                have hshA : wa.Shuns wm.heap.size (fun g => v1.ownBlock = some g) := (HS.out.reno HG.out (fun g hg => by
                  rcases hlocA with h1 | h1
                  · left; rw [← h1]; exact hg
                  · right; rw [h1] at hg; simp at hg; omega)).kept hgA hsz hne6
                have hownA2 : wa.ownsRow (wm.heap.size + 1) 3 1 v1 (lds k Z (l + 1)).length (ints (lds k Z (l + 1))) := by
                  rw [lds_succ_yes HL3.out, ints_snoc, List.length_append]; exact hownA
                have hbA : Below wm.heap.size wm wa := HBR.out.grown hgA (by omega) (fun j hj => by have := (hownL.lt j hj).1; omega)
                have hszA : wm.heap.size + 1 ≤ wa.heap.size := by have := hgA.size; omega
                have HOA := Lib.hid hownA2
                have HBA := Lib.hid hbA
                have HSA := Lib.hid hshA
                clear hownA hgrowA hownL hgA hne6 hownA2 hbA hshA hlocA x1 x2 x3 x4
                go_wp2_with (first
                  | (at_lookup; refine wpList_lookup_groups_shuns _ rfl _ _ 45 rfl 3 32 3 .i64 law3 Try.underlying45 (zero32 _) (wm.heap.size + 1) wm.heap.size l D rfl hgroA (by unfold maxLen; omega) _ _ rfl hkey ?_; intro v zs hat hoi hzl hback hsh)
                  | (at_builtin; refine wpList_append_own_at _ rfl (.tmp 68) (.tmp 70) 32 rfl (wm.heap.size + 1) 3 i0 (.int .i64 0) 1 8 Try.underlying32 hi hz0 hz1 hz2 rfl (by decide) v _ _ rfl (hoi.1.alloc _) ⟨wa.heap.size, 0, none⟩ 1 1 [.int .i64 (l : Int)] rfl rfl (cell_one_new _ _ _) (ints_oneCell .i64 [(l : Int)]) (by unfold maxLen; omega) (by omega) (by simp; omega) ?_; intro v' w3 hown' hgrow hnil hloc)
                  | (at_mapUpdate; refine wpList_mapUpdate_back_shuns _ rfl _ _ _ 45 rfl law3 Try.underlying45 hkey hgroA (by unfold maxLen; omega) hoi HSA.out ?hno hback rfl rfl rfl ((World.grownBy_alloc _ _ _).trans hgrow) (hoi.appended hown' (WalkArith.wf_i64 (by omega))) (by simp; omega) (hloc.imp id (fun h => ⟨_, h, by simp⟩)) ?_))
                case hno =>
                  intro g hg hg2
                  have h2 := (HOA.out.lt g hg2).2
                  rcases hloc with q | q
                  · exact hsh _ HSA.out g (by rw [← q]; exact hg) hg2
                  · rw [q] at hg; simp at hg; omega
                intro w2 hown2 hgrow2 hsh2
                have hend := round_end HBA.out hszA HOA.out HSA.out HR.out HL3.out HL2.out (by omega) hat hoi hsh hown' hgrow hown2 hgrow2 hsh2
                have HEND := Lib.hid hend
                clear hend hown2 hgrow2 hsh2 hown' hgrow hat hoi hsh hback hgroA
                go_wp2
                go_roundg (k - (l + 1))
                case measure => go_light; omega
                case rel => go_light; exact ⟨l + 1, _, by omega, rfl, by simp, HEND.out⟩
              · have heq : ((l : Int) == (e : Int)) = false := by simp; omega
                have heq2 : (l == e) = false := by simp [hle]
                have HLE := Lib.hid hle
                clear hle
                have hnl : isL k Z e = false := by
                  cases hq : isL k Z e
                  · rfl
                  · exact absurd (isL_unique HL3.out hq HL2.out) HLE.out
                have hown3 : wr.ownsRow (wm.heap.size + 1) 3 1 u6 (lds k Z (e + 1)).length (ints (lds k Z (e + 1))) := by rw [lds_succ_no hnl]; exact HO.out
                have hgroA := HG.out
                have HOA := Lib.hid hown3
                clear hnl hown3
                go_wp2_with (first
                  | (at_lookup; refine wpList_lookup_groups_shuns _ rfl _ _ 45 rfl 3 32 3 .i64 law3 Try.underlying45 (zero32 _) (wm.heap.size + 1) wm.heap.size e D rfl hgroA (by unfold maxLen; omega) _ _ rfl hkey ?_; intro v zs hat hoi hzl hback hsh)
                  | (at_builtin; refine wpList_append_own_at _ rfl (.tmp 68) (.tmp 70) 32 rfl (wm.heap.size + 1) 3 i0 (.int .i64 0) 1 8 Try.underlying32 hi hz0 hz1 hz2 rfl (by decide) v _ _ rfl (hoi.1.alloc _) ⟨wr.heap.size, 0, none⟩ 1 1 [.int .i64 (e : Int)] rfl rfl (cell_one_new _ _ _) (ints_oneCell .i64 [(e : Int)]) (by unfold maxLen; omega) (by omega) (by simp; omega) ?_; intro v' w3 hown' hgrow hnil hloc)
                  | (at_mapUpdate; refine wpList_mapUpdate_back_shuns _ rfl _ _ _ 45 rfl law3 Try.underlying45 hkey hgroA (by unfold maxLen; omega) hoi HS.out ?hno2 hback rfl rfl rfl ((World.grownBy_alloc _ _ _).trans hgrow) (hoi.appended hown' (WalkArith.wf_i64 (by omega))) (by simp; omega) (hloc.imp id (fun h => ⟨_, h, by simp⟩)) ?_))
                case hno2 =>
                  intro g hg hg2
                  have h2 := (HOA.out.lt g hg2).2
                  rcases hloc with q | q
                  · exact hsh _ HS.out g (by rw [← q]; exact hg) hg2
                  · rw [q] at hg; simp at hg; omega
                intro w2 hown2 hgrow2 hsh2
                have hend := round_end HBR.out hsz HOA.out HS.out HR.out HL3.out HL2.out (by omega) hat hoi hsh hown' hgrow hown2 hgrow2 hsh2
                have HEND := Lib.hid hend
                clear hend hown2 hgrow2 hsh2 hown' hgrow hat hoi hsh hback hgroA
                go_wp2
                go_roundg (k - (e + 1))
                case measure => go_light; omega
                case rel => go_light; exact ⟨e + 1, _, by omega, rfl, by simp, HEND.out⟩
            · have hkf : kB k Z l e = false := HL4.out l (by omega)
              cases hr1 : rB k Z l e
              · rw [hr1] at x3
                clear hr1 hkf
                go_wp2
                go_roundg (k - (l + 1))
                case measure => go_light; omega
                case rel => go_light; exact ⟨l + 1, by omega, rfl, by simp, rfl⟩
              · have hr2 : rB k Z e l = false := by unfold kB at hkf; rw [hr1] at hkf; simpa using hkf
                rw [hr1] at x3
                rw [hr2] at x4
                clear hr1 hr2 hkf
                go_wp2
                go_roundg (k - (l + 1))
                case measure => go_light; omega
                case rel => go_light; exact ⟨l + 1, by omega, rfl, by simp, rfl⟩
        · have hez : ¬ (e : Int) < (k : Int) := by omega
          obtain rfl : e = k := by omega
          have hll2 : (lds e Z e).length ≤ 12 := by have := lds_len e Z e; omega
          obtain ⟨n, hn⟩ : ∃ n, n = (lds e Z e).length := ⟨_, rfl⟩
          obtain ⟨la, lc, rfl⟩ : ∃ la lc, u6 = .slice la n lc := by
            rcases HO.out.2 with ⟨h1, h2⟩ | ⟨g, cap, cur, h1, _⟩
            · exact ⟨none, 0, by rw [h1, hn, h2]⟩
            · exact ⟨_, _, by rw [h1, hn]⟩
          rw [← hn] at hll2
          have HN := Lib.hid hn
          clear hn
          go_wp2
          go_loopg [9, 75] n (fun g s9 s wr => ∃ (r : Nat) (vs : List Value), r ≤ n ∧ g = n - r ∧ s = .int .i64 r ∧ Below wm.heap.size wm wr ∧ wm.heap.size < wr.heap.size ∧ wr.ownsRow (wm.heap.size + 1) 3 1 (.slice la n lc) n (ints (lds e Z e)) ∧
            wr.ownsGroups Try.prog 3 (wm.heap.size + 1) 3 .i64 wm.heap.size e D ∧ ListsIn wr (wm.heap.size + 1) s9 (((lds e Z e).take r).map fun l => mem e Z l e) vs)
          case atStart => go_light; exact ⟨0, [], Nat.zero_le _, rfl, rfl, HBR.out, hsz, by rw [HN.out]; rw [HN.out] at HO; exact HO.out, HG.out, ListsIn.start _ _⟩
          case round =>
            obtain ⟨r, vs, hr, rfl, rfl, hbr, hsz2, hown, hgro, hls⟩ := hrel
            clear HBR HO HG HS
            have HBR := Lib.hid hbr
            have HO := Lib.hid hown
            have HL := Lib.hid hls
            have hvl : vs.length ≤ 12 := by have h1 := hls.len; simp at h1; omega
            clear hbr hown hls
            by_cases hrn : r < n
            · have hrz : (r : Int) < (n : Int) := by omega
              obtain ⟨l, hl⟩ : ∃ l, (lds e Z e)[r]? = some l := ⟨(lds e Z e)[r]'(by rw [← HN.out]; exact hrn), by simp⟩
              have hlm := lds_mem.1 (List.mem_of_getElem? hl)
              obtain ⟨hlk, hlL⟩ := hlm
              have hml : (mem e Z l e).length ≤ 12 := by have := mem_len e Z l e; omega
              have hkey : keyOf Try.prog 3 (.int .i64 (l : Int)) = some (.int .i64 (l : Int)) := keyOf_int_mk Try.underlying3 (WalkArith.wf_i64 (by omega))
              obtain ⟨lb, rfl, x1⟩ : ∃ lb, la = some ⟨lb, 0, none⟩ ∧ wr.cell? ⟨lb, r, none⟩ = some (.int .i64 (l : Int)) := by
                have ho := HO.out
                rcases ho.2 with ⟨h1, h2⟩ | ⟨g, cap, cur, h1, _⟩
                · omega
                · injection h1 with h1 h2 h3
                  subst h1
                  subst h3
                  refine ⟨g, rfl, ?_⟩
                  rw [ho.cellAt r (by omega)]
                  simp [ints, hl]
              have HLL := Lib.hid hlL
              have HLR := Lib.hid hl
              clear hl hlL
              go_wp2_with (at_lookup; refine wpList_lookup_groups _ rfl _ _ 45 rfl 3 32 3 .i64 law3 Try.underlying45 (zero32 _) (wm.heap.size + 1) wm.heap.size e D rfl hgro (by unfold maxLen; omega) _ _ rfl hkey ?_)
              intro v zs hat hoi hzl hback
              have hz := rep_read (xs := mem e Z l e) hoi (by rw [← HR.out.2 l HLL.out]; exact hat)
              have hzn : zs.length = (mem e Z l e).length := by rw [hz]; simp [nums]
              have hvo : wr.ownsRow (wm.heap.size + 1) 3 1 v (mem e Z l e).length (ints (mem e Z l e)) := by have := hoi.1; rw [hz, nums_ints] at this; simpa [nums] using this
              obtain ⟨xa, xn, xc, rfl⟩ : ∃ xa xn xc, v = .slice xa xn xc := by
                rcases hvo.2 with ⟨rfl, _⟩ | ⟨g, cap, cur, rfl, _⟩
                · exact ⟨_, _, _, rfl⟩
                · exact ⟨_, _, _, rfl⟩
              have HVO := Lib.hid hvo
              have HGR := Lib.hid hgro
              have hown2 := HL.out.own
              clear hz hzn hvo hback hat hoi hzl hgro
              go_wp2_with (at_builtin; refine wpList_append_own _ rfl _ _ 22 rfl (wm.heap.size + 1) 32 j0 (.slice none 0 0) 1 24 Try.underlying22 hj hy0 hy1 hy2 rfl (by decide) _ vs.length vs rfl (hown2.alloc _) ⟨wr.heap.size, 0, none⟩ 1 1 [.slice xa xn xc] rfl rfl (cell_one_new _ _ _) (fun u hu => by simp at hu; subst hu; rfl) (by unfold maxLen; omega) (by omega) (by simp; omega) ?_)
              intro v' w4 hown' hgrow _
              have hg4 : wr.grownBy w4 u9.ownBlock := (World.grownBy_alloc wr _ _).trans hgrow
              have hne9 : some wm.heap.size ≠ u9.ownBlock := fun e1 => by have := (hown2.lt _ e1.symm).1; omega
              have hl4 := HL.out.push HVO.out hown' hgrow
              have hgro4 := HGR.out.kept hg4 hne9 (groups_rowsOther HGR.out hown2 (by decide))
              have ho4 := own_other HO.out hown2 hg4 (by decide)
              have hb4 : Below wm.heap.size wm w4 := HBR.out.grown hg4 (by omega) (fun j hj => by have := (hown2.lt j hj).1; omega)
              have hs4 : wm.heap.size < w4.heap.size := by have := hg4.size; omega
              have e4 : ((lds e Z e).take (r + 1)).map (fun l => mem e Z l e) = ((lds e Z e).take r).map (fun l => mem e Z l e) ++ [mem e Z l e] := by
                rw [List.take_add_one, HLR.out, List.map_append]; rfl
              rw [← e4] at hl4
              have HL4 := Lib.hid hl4
              have HG4 := Lib.hid hgro4
              have HO4 := Lib.hid ho4
              clear hown' hgrow hown2 hl4 hgro4 ho4 e4 hne9 hg4
              go_wp2
              go_roundg (n - (r + 1))
              case measure => go_light; omega
              case rel => go_light; exact ⟨r + 1, _, by omega, rfl, by simp, hb4, hs4, HO4.out, HG4.out, HL4.out⟩
            · have hrz : ¬ (r : Int) < (n : Int) := by omega
              obtain rfl : r = n := by omega
              go_wp2
              go_ret
              have hl5 := HL.out
              rw [HN.out, List.take_length] at hl5
              exact ⟨_, rfl, hl5.mat, HB.out.trans (HBR.out.mono hszm)⟩
end
end Go.Proofs.Ytnkdcmloehandaa
