/- The law GraphTransitive. -/
import Derived.Test.YtnkdcmloehandaaHas
namespace Go.Proofs.Ytnkdcmloehandaa
open Go.RowKit Plain

theorem comps_has {n : Nat} {Z : Nat → Nat → Int} {a b : Nat} (ha : a < n) (hb : b < n) : (∃ r, r < (comps n Z).length ∧ a ∈ (comps n Z).getD r [] ∧ b ∈ (comps n Z).getD r []) ↔ kB n Z a b = true := by
  constructor
  · rintro ⟨r, hr, h1, h2⟩
    have hm : (comps n Z).getD r [] ∈ comps n Z := by
      have : (comps n Z).getD r [] = (comps n Z)[r] := by simp [List.getD, hr]
      rw [this]; exact List.getElem_mem hr
    generalize (comps n Z).getD r [] = c at *
    obtain ⟨l, hl, rfl⟩ := List.mem_map.1 hm
    exact kB_trans (kB_symm (mem_mem.1 h1).2) (mem_mem.1 h2).2
  · intro hk
    obtain ⟨l, h1, h2, h3, _⟩ := leader n Z a
    have hm : mem n Z l n ∈ comps n Z := List.mem_map.2 ⟨l, lds_mem.2 ⟨by omega, h3⟩, rfl⟩
    obtain ⟨r, hr, he⟩ := List.getElem_of_mem hm
    refine ⟨r, hr, ?_⟩
    have : (comps n Z).getD r [] = mem n Z l n := by simp [List.getD, hr, he]
    rw [this]
    exact ⟨mem_mem.2 ⟨ha, h2⟩, mem_mem.2 ⟨hb, kB_trans h2 hk⟩⟩

/-- has the search met both so far? -/
def Tg (cs : List (List Nat)) (a b r : Nat) (t : Bool) : Prop := t = true ↔ ∃ q, q < r ∧ a ∈ cs.getD q [] ∧ b ∈ cs.getD q []
theorem Tg.keep {cs : List (List Nat)} {a b r : Nat} (h : Tg cs a b r true) : Tg cs a b (r + 1) true := ⟨fun _ => by obtain ⟨q, h1, h2⟩ := h.1 rfl; exact ⟨q, by omega, h2⟩, fun _ => rfl⟩
theorem Tg.yes {cs : List (List Nat)} {a b r : Nat} (h1 : a ∈ cs.getD r []) (h2 : b ∈ cs.getD r []) : Tg cs a b (r + 1) true := ⟨fun _ => ⟨r, by omega, h1, h2⟩, fun _ => rfl⟩
theorem Tg.no {cs : List (List Nat)} {a b r : Nat} (h : Tg cs a b r false) (hn : ¬ (a ∈ cs.getD r [] ∧ b ∈ cs.getD r [])) : Tg cs a b (r + 1) false :=
  ⟨(fun q => by cases q), fun ⟨q, h1, h2⟩ => by
    by_cases e : q = r
    · subst e; exact absurd h2 hn
    · exact h.2 ⟨q, by omega, h2⟩⟩

theorem mem_index {c : List Nat} {a : Nat} : a ∈ c ↔ ∃ i, i < c.length ∧ ((c.getD i 0 : Nat) : Int) = (a : Int) := by
  constructor
  · intro h
    obtain ⟨i, hi, he⟩ := List.getElem_of_mem h
    exact ⟨i, hi, by simp [List.getD, hi, he]⟩
  · rintro ⟨i, hi, he⟩
    have : c.getD i 0 = a := by omega
    rw [← this]
    simp [List.getD, hi]

theorem bt_drew {w w1 : World} (h : Below w.heap.size w w1) (n : Nat) : Below w.heap.size w (w1.drewN n) := below_drewN h n
theorem MatR.drew {w : World} {v : Value} {G : Nat} {L : Nat → Nat} {Z : Nat → Nat → Int} (h : MatR w v G L Z) (n : Nat) : MatR (w.drewN n) v G L Z := h.below (below_drewN (Below.refl _ _) n)

set_option maxHeartbeats 3200000 in
theorem lawTrans_any {w : World} {v : Value} {G : Nat} {L : Nat → Nat} {Z : Nat → Nat → Int} {x y z : Int} (hx : 0 ≤ x ∧ 0 ≤ y ∧ 0 ≤ z ∧ x ≤ 255 ∧ y ≤ 255 ∧ z ≤ 255) (h : MatR w v G L Z) :
    Calls Try.prog 8 #[v, .agg #[.int .u8 x, .int .u8 y, .int .u8 z]] w (True1 w) := by
  obtain ⟨hx0, hy0, hz0, hx1, hy1, hz1⟩ := hx
  by_cases hv : Vld G L Z
  · have g1 := hv.1
    have g2 := hv.2.1
    obtain ⟨b, o, c, B, O, C, rfl, l1, m1, hrows⟩ := h.rowsAt hv
    have HR := Lib.hid hrows
    have HM := Lib.hid h
    have HV := Lib.hid hv
    clear h hv hrows
    go_enter Try.func8, Try.ntmps8
    go_wp2_with fail
    refine (awake_any _).mono ?_
    rintro e w1 ⟨rfl, hb1⟩
    have hbw := ((Below.refl w.heap.size w).alloc (Nat.le_refl _) _).trans (hb1.mono (by simp))
    have c0 := hb1.cell (p := ⟨w.heap.size, 0, none⟩) (by simp)
    have c1 := hb1.cell (p := ⟨w.heap.size, 1, none⟩) (by simp)
    have c2 := hb1.cell (p := ⟨w.heap.size, 2, none⟩) (by simp)
    rw [cell_new] at c0 c1 c2
    have hm1 := Lib.hid (HM.out.below hbw)
    have HB1 := Lib.hid hbw
    clear hb1 hbw
    go_wp2_with fail
    refine (refValid_any (vb_true HV.out) hm1.out).mono ?_
    rintro e w2 ⟨rfl, hb2⟩
    have d0 := keepc hb2 c0
    have d1 := keepc hb2 c1
    have d2 := keepc hb2 c2
    have hm2 := Lib.hid (hm1.out.below hb2)
    have HB2 := Lib.hid (bt HB1.out hb2)
    clear hb2 c0 c1 c2
    obtain ⟨A, hA⟩ : ∃ A : Nat, x % (G : Int) = A := Int.eq_ofNat_of_zero_le (Int.emod_nonneg _ (by omega))
    obtain ⟨Bq, hB⟩ : ∃ A : Nat, y % (G : Int) = A := Int.eq_ofNat_of_zero_le (Int.emod_nonneg _ (by omega))
    obtain ⟨Cq, hC⟩ : ∃ A : Nat, z % (G : Int) = A := Int.eq_ofNat_of_zero_le (Int.emod_nonneg _ (by omega))
    have hAG : A < G := by have := Int.emod_lt_of_pos x (show (0 : Int) < G by omega); omega
    have hBG : Bq < G := by have := Int.emod_lt_of_pos y (show (0 : Int) < G by omega); omega
    have hCG : Cq < G := by have := Int.emod_lt_of_pos z (show (0 : Int) < G by omega); omega
    go_wp2_with fail
    go_quiet (fail)
    clear d0 d1 d2
    have HA := Lib.hid hA
    have HBq := Lib.hid hB
    have HCq := Lib.hid hC
    clear hA hB hC
    have hneq : ((G : Int) != (G : Int)) = false := by simp
    go_wp2_with fail
    rw [HA.out, HBq.out, HCq.out]
    clear HA HBq HCq
    refine (reach_yes HV.out (hm2.out.drew _) hAG).mono ?_
    rintro e w3 ⟨bk, _, rfl, hrow, hb3⟩
    have HB3 := Lib.hid (bt (bt_drew HB2.out _) hb3)
    have hm3 := Lib.hid ((hm2.out.drew _).below hb3)
    have HX := Lib.hid hrow
    clear hrow hb3
    go_wp2_with fail
    refine (reach_yes HV.out hm3.out hBG).mono ?_
    rintro e w4 ⟨bk2, _, rfl, hrow2, hb4⟩
    have HB4 := Lib.hid (bt HB3.out hb4)
    have hm4 := Lib.hid (hm3.out.below hb4)
    have HX4 := Lib.hid (HX.out.of_block (hb4.block _ HX.out.lt))
    have HY := Lib.hid hrow2
    clear hrow2 hb4 HX
    have x1 := HX4.out.cell hAG
    rw [rB_iff.2 (R.refl G Z A)] at x1
    have x2 := HX4.out.cell hBG
    have x3 := HX4.out.cell hCG
    have x4 := HY.out.cell hCG
    have x5 := HY.out.cell hAG
    obtain ⟨t1, t2, t3, t4, t5⟩ := HR.out _ HB4.out A hAG
    have x6 := t5 Bq hBG
    have hBL : (Bq : Int) < (L A : Int) := by omega
    have hAz : (A : Int) < (G : Int) := by omega
    have hBz : (Bq : Int) < (G : Int) := by omega
    have hCz : (Cq : Int) < (G : Int) := by omega
    clear t4 t5
    have key : ∀ p q r : Bool, p = rB G Z A Bq → q = rB G Z Bq Cq → r = rB G Z A Cq → (p && q && !r) = false := by
      intro p q r hp hq hr
      cases hpp : p <;> cases hqq : q <;> try rfl
      have h1 := R.trans (rB_iff.1 (by rw [← hp, hpp])) (rB_iff.1 (by rw [← hq, hqq]))
      rw [hr, rB_iff.2 h1]
      rfl
    have keyz : 0 < Z A Bq → rB G Z A Bq = true := fun h => rB_iff.2 (R.edge hAG hBG h)
    obtain ⟨p, hp⟩ : ∃ p, p = rB G Z A Bq := ⟨_, rfl⟩
    obtain ⟨q, hq⟩ : ∃ q, q = rB G Z Bq Cq := ⟨_, rfl⟩
    obtain ⟨r, hr⟩ : ∃ r, r = rB G Z A Cq := ⟨_, rfl⟩
    obtain ⟨s, hs⟩ : ∃ s, s = rB G Z Bq A := ⟨_, rfl⟩
    obtain ⟨zz, hzz⟩ : ∃ zz, zz = Z A Bq := ⟨_, rfl⟩
    rw [← hp] at x2
    rw [← hr] at x3
    rw [← hq] at x4
    rw [← hs] at x5
    rw [← hzz] at x6
    have hk := key p q r hp hq hr
    have hkz : 0 < zz → p = true := fun h => by rw [hp]; exact keyz (by rw [← hzz]; exact h)
    have hps : kB G Z A Bq = (p && s) := by rw [hp, hs]; rfl
    have HPS := Lib.hid hps
    have HX4' := Lib.hid hp
    have HY4' := Lib.hid hs
    clear key keyz hp hq hr hs hzz hps
    have hcase : (p = false ∧ ¬ (0 : Int) < zz) ∨ (p = true ∧ q = false) ∨ (p = true ∧ q = true ∧ r = true) := by
      cases p
      · exact .inl ⟨rfl, fun h => by have := hkz h; cases this⟩
      · cases q
        · exact .inr (.inl ⟨rfl, rfl⟩)
        · cases r
          · cases hk
          · exact .inr (.inr ⟨rfl, rfl, rfl⟩)
    clear hkz hk
    have hcase2 : (p = false ∧ ¬ (0 : Int) < zz) ∨ (p = true ∧ q = false ∧ (0 : Int) < zz) ∨ (p = true ∧ q = false ∧ ¬ (0 : Int) < zz) ∨ (p = true ∧ q = true ∧ r = true ∧ (0 : Int) < zz) ∨ (p = true ∧ q = true ∧ r = true ∧ ¬ (0 : Int) < zz) := by
      by_cases hz : (0 : Int) < zz
      · rcases hcase with ⟨h1, h2⟩ | ⟨h1, h2⟩ | ⟨h1, h2, h3⟩
        · exact absurd hz h2
        · exact .inr (.inl ⟨h1, h2, hz⟩)
        · exact .inr (.inr (.inr (.inl ⟨h1, h2, h3, hz⟩)))
      · rcases hcase with ⟨h1, h2⟩ | ⟨h1, h2⟩ | ⟨h1, h2, h3⟩
        · exact .inl ⟨h1, hz⟩
        · exact .inr (.inr (.inl ⟨h1, h2, hz⟩))
        · exact .inr (.inr (.inr (.inr ⟨h1, h2, h3, hz⟩)))
    clear hcase
    rcases hcase2 with ⟨rfl, hz0⟩ | ⟨rfl, rfl, hz0⟩ | ⟨rfl, rfl, hz0⟩ | ⟨rfl, rfl, rfl, hz0⟩ | ⟨rfl, rfl, rfl, hz0⟩
    all_goals
      cases s
      all_goals
        go_wp2_with fail
        refine (comps_yes HV.out hm4.out).mono ?_
        rintro e w5 ⟨vm, rfl, hmat, hb5⟩
        have HX5 := Lib.hid (HX4.out.of_block (hb5.block _ HX4.out.lt))
        have HY5 := Lib.hid (HY.out.of_block (hb5.block _ HY.out.lt))
        have HB5 := Lib.hid (bt HB4.out hb5)
        obtain ⟨cs, hcs⟩ : ∃ cs, cs = comps G Z := ⟨_, rfl⟩
        rw [← hcs] at hmat
        have HCS := Lib.hid hcs
        have hcn : cs.length ≤ 12 := by have := lds_len G Z G; rw [hcs]; simp [comps]; omega
        obtain ⟨ma, mb, mo, mc, MA, MB, MO, MC, rfl, hl1, hl2, hl3, hl4⟩ := hmat
        have HMM := Lib.hid hl4
        clear hcs hb5 hl4
        have y2 := HX5.out.cell hBG
        have y5 := HY5.out.cell hAG
        rw [← HX4'.out] at y2
        rw [← HY4'.out] at y5
        clear x1 x2 x3 x4 x5 x6
        go_wp2
        go_loopg [11, 13] cs.length (fun g s11 s wr => ∃ (r : Nat) (tb : Bool), r ≤ cs.length ∧ g = cs.length - r ∧ s = .int .i64 r ∧ s11 = .bool tb ∧ wr = w5 ∧ Tg cs A Bq r tb)
        case atStart => go_light; exact ⟨0, false, Nat.zero_le _, rfl, rfl, rfl, rfl, (fun q => by cases q), fun ⟨_, h1, _⟩ => absurd h1 (Nat.not_lt_zero _)⟩
        case round =>
          obtain ⟨r, tb, hr, rfl, rfl, rfl, rfl, htg⟩ := hrel
          have HT := Lib.hid htg
          clear htg
          by_cases hrn : r < cs.length
          · have hrz : (r : Int) < (cs.length : Int) := by omega
            obtain rfl := hl3 (by omega)
            obtain ⟨u1, u2, u3, u4, u5⟩ := HMM.out r hrn
            obtain ⟨cr, hcr⟩ : ∃ cr, cr = cs.getD r [] := ⟨_, rfl⟩
            obtain ⟨cl, hcl⟩ : ∃ cl, cl = cr.length := ⟨_, rfl⟩
            rw [← hcr, ← hcl] at u1 u2 u4 u5
            have hrow : RowR wr (.slice (MA r) cl (MC r)) cr.length (fun k => .int .i64 ((cr.getD k 0 : Nat) : Int)) := by rw [← hcl]; exact ⟨_, MB r, MO r, MC r, rfl, u2, u3, u4, u5⟩
            have HRow := Lib.hid hrow
            have HCR := Lib.hid hcr
            clear u4 u5 hrow hcr hcl
            cases tb
            · by_cases ha : A ∈ cr
              · by_cases hb : Bq ∈ cr
                · have HA := Lib.hid ha
                  have HBq := Lib.hid hb
                  clear ha hb
                  go_wp2_with fail
                  refine (has_any (hb := true) ⟨fun _ => mem_index.1 HA.out, fun _ => rfl⟩ HRow.out).mono ?_
                  rintro e w6 ⟨rfl, rfl⟩
                  go_wp2_with fail
                  refine (has_any (hb := true) ⟨fun _ => mem_index.1 HBq.out, fun _ => rfl⟩ HRow.out).mono ?_
                  rintro e w6 ⟨rfl, rfl⟩
                  go_wp2
                  go_roundg (cs.length - (r + 1))
                  case measure => go_light; omega
                  case rel => go_light; exact ⟨r + 1, true, by omega, rfl, by simp, rfl, rfl, Tg.yes (by rw [← HCR.out]; exact HA.out) (by rw [← HCR.out]; exact HBq.out)⟩
                · have HA := Lib.hid ha
                  have HBq := Lib.hid hb
                  clear ha hb
                  go_wp2_with fail
                  refine (has_any (hb := true) ⟨fun _ => mem_index.1 HA.out, fun _ => rfl⟩ HRow.out).mono ?_
                  rintro e w6 ⟨rfl, rfl⟩
                  go_wp2_with fail
                  refine (has_any (hb := false) ⟨(fun q => by cases q), fun q => absurd (mem_index.2 q) HBq.out⟩ HRow.out).mono ?_
                  rintro e w6 ⟨rfl, rfl⟩
                  go_wp2
                  go_roundg (cs.length - (r + 1))
                  case measure => go_light; omega
                  case rel => go_light; exact ⟨r + 1, false, by omega, rfl, by simp, rfl, rfl, HT.out.no fun q => HBq.out (by rw [HCR.out]; exact q.2)⟩
              · have HA := Lib.hid ha
                clear ha
                go_wp2_with fail
                refine (has_any (hb := false) ⟨(fun q => by cases q), fun q => absurd (mem_index.2 q) HA.out⟩ HRow.out).mono ?_
                rintro e w6 ⟨rfl, rfl⟩
                go_wp2
                go_roundg (cs.length - (r + 1))
                case measure => go_light; omega
                case rel => go_light; exact ⟨r + 1, false, by omega, rfl, by simp, rfl, rfl, HT.out.no fun q => HA.out (by rw [HCR.out]; exact q.1)⟩
            · go_wp2
              go_roundg (cs.length - (r + 1))
              case measure => go_light; omega
              case rel => go_light; exact ⟨r + 1, true, by omega, rfl, by simp, rfl, rfl, HT.out.keep⟩
          · have hrz : ¬ (r : Int) < (cs.length : Int) := by omega
            obtain rfl : r = cs.length := by omega
            have htb : tb = kB G Z A Bq := by
              rw [Bool.eq_iff_iff, ← comps_has hAG hBG, ← HCS.out]
              exact HT.out
            rw [HPS.out] at htb
            subst htb
            clear HT
            go_wp2
            go_ret
            exact ⟨by simp, HB5.out⟩
  · have HM := Lib.hid h
    have HV := Lib.hid hv
    obtain ⟨a, c, rfl, hG⟩ := h.shape
    clear h hv
    go_enter Try.func8, Try.ntmps8
    go_wp2_with fail
    refine (awake_any _).mono ?_
    rintro e w1 ⟨rfl, hb1⟩
    have hbw := ((Below.refl w.heap.size w).alloc (Nat.le_refl _) _).trans (hb1.mono (by simp))
    have hm1 := Lib.hid (HM.out.below hbw)
    have HB1 := Lib.hid hbw
    clear hb1 hbw
    go_wp2_with fail
    refine (refValid_any (vb_false HV.out) hm1.out).mono ?_
    rintro e w2 ⟨rfl, hb2⟩
    go_wp2
    go_ret
    exact ⟨rfl, bt HB1.out hb2⟩
end Go.Proofs.Ytnkdcmloehandaa
