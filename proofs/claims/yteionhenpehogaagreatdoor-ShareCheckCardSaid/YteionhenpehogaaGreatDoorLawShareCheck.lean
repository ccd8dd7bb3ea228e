/- ShareCheck walked. -/
import Derived.Test.YteionhenpehogaaGreatDoorCheckS
import Derived.Test.YteionhenpehogaaGreatDoorOwnRow
namespace Go.Proofs.YteionhenpehogaaGreatDoor
open Go.RowKit Tally

theorem no_more {e : Rat} {z : Int} (h : ¬ z = 0) : ¬ e + Rat.divInt z 10000 = e := fun q => by
  have h0 : Tally.part z = 0 := by
    have : e + Tally.part z = e := q
    grind
  by_cases hp : 0 < z
  · have := part_pos hp
    rw [h0] at this
    exact absurd this (by decide)
  · have h1 := part_pos (show 0 < 0 - z by omega)
    rw [part_sub, h0, part_zero] at h1
    exact absurd h1 (by decide +kernel)
theorem more_rg {N kx : Nat} {e q : Rat} {f : Nat → Rat} (h1 : Rg 50000 e) (h2 : Rg 50000 q) (h : ∀ i, i < N → Rg 50000 (f i)) : ∀ i, i < N → Rg 100001 (if i = kx then e + q else f i) := fun i hi => by
  by_cases c : i = kx
  · rw [if_pos c]; exact (Rg.add h1 h2).mono (by omega)
  · rw [if_neg c]; exact (h i hi).mono (by omega)
set_option maxHeartbeats 8000000 in
set_option maxRecDepth 100000 in
theorem lawCheck_any {w : World} {v : Value} {k : Nat} {n day kk by' : Int} {H : Hds} (h : HoldIn w v k H) (hb1 : -9223372036854775808 ≤ by') (hb2 : by' ≤ 9223372036854775807) (ht : Tab w) :
    Calls Tryz.prog 13 #[.int .i64 n, v, .agg #[.int .i64 day, .int .i64 kk, .int .i64 by']] w fun e w' => e = .returned (.bool true) ∧ Below w.heap.size w w' := by
  obtain ⟨ti2, hi2, hz20, hz21, hz22⟩ := info_parts infoQ4
  obtain ⟨⟨a, c, rfl, hkc⟩, hh, hw⟩ := h
  have HH := Lib.hid hh
  have HW := Lib.hid hw
  have HT := Lib.hid ht
  clear hh hw ht
  go_enter Tryz.func13, Tryz.ntmps13
  go_wp2_with fail
  obtain ⟨w0, hW, hs0, hb0, x0⟩ := alloc1 w (.cells #[.int .i64 day, .int .i64 kk, .int .i64 by'] 112)
  rw [← hW]
  have HB0 := Lib.hid hb0
  have HX0 := Lib.hid x0
  clear hW hs0 hb0 x0
  refine (sawake_any (HT.out.below HB0.out)).mono ?_
  rintro en w1 ⟨rfl, hb⟩
  have HB1 := Lib.hid (bt HB0.out hb)
  have HX1 := Lib.hid (blk_next HX0.out hb)
  clear hb HX0 HB0
  go_wp2_with fail
  refine sfew_any.mono ?_
  rintro en w1' ⟨rfl, hwf⟩
  obtain rfl := hwf.symm
  clear hwf
  by_cases hf : n ≤ 8 ∧ k ≤ 30
  case neg =>
    rw [decide_eq_false hf]
    go_wp2
    go_ret
    exact ⟨rfl, HB1.out⟩
  rw [decide_eq_true hf]
  have HHR := Lib.hid ((HH.out hf.2).below HB1.out)
  clear HH
  obtain ⟨c0, c1, c2⟩ := three_cells HX1.out
  go_wp2_with fail
  go_quiet (fail)
  clear c0 c1 c2
  have HBD := Lib.hid (fun n => Below.drewN' (Below.refl w1.heap.size w1) n)
  by_cases hvd : H.valid n k ∧ goodDate day
  case neg =>
    have hno : ∀ W : World, Below w1.heap.size w1 W → Calls Tryz.prog 16 #[.int .i64 n, .slice a k c, .int .i64 day] W fun e w' => ∃ z : Int, ¬ z = 0 ∧ e = .returned (.tuple #[.slice none 0 0, .int .i64 z]) ∧ Below W.heap.size W w' := fun W hW => by
      by_cases h1 : H.valid n k
      · exact (eff_no2 (HHR.out.below hW) HW.out h1 (fun h => hvd ⟨h1, h⟩)).mono fun e w' h => ⟨2, by decide, h.1, h.2⟩
      · exact (eff_no1 (HHR.out.below hW) HW.out h1).mono fun e w' h => ⟨1, by decide, h.1, h.2⟩
    have HNO := Lib.hid hno
    have HVD := Lib.hid hvd
    clear hno hvd
    go_wp2_with fail
    refine (HNO.out _ (HBD.out _)).mono ?_
    rintro en w2 ⟨z, hz, rfl, hb2⟩
    have hzb : (z == 0) = false := by rw [beq_eq_false_iff_ne]; exact hz
    have HB2 := Lib.hid (bt (bt HB1.out (HBD.out _)) hb2)
    have HH2 := Lib.hid (HHR.out.below (bt (HBD.out _) hb2))
    clear hb2
    go_wp2_with fail
    refine (check_no HH2.out HW.out HVD.out rfl).mono ?_
    rintro en w3 ⟨rfl, hb3⟩
    have HB3 := Lib.hid (bt HB2.out hb3)
    clear hb3
    go_wp2
    go_ret
    exact ⟨rfl, HB3.out⟩
  obtain ⟨hv, hd⟩ := hvd
  obtain ⟨N, rfl⟩ : ∃ N : Nat, n = N := ⟨n.toNat, by have := hv.1; omega⟩
  have hN1 : 1 ≤ N := by have := hv.1; omega
  have hN2 : N ≤ 12 := by have := hv.2.1; omega
  have HV := Lib.hid hv
  have HD := Lib.hid hd
  clear hv hd
  go_wp2_with fail
  refine (eff_yes (HHR.out.below (HBD.out _)) HW.out HV.out HD.out).mono ?_
  rintro en w2 ⟨ax, cx, o, x, rfl, ho, hx, hg, hr, hb2⟩
  have HB2 := Lib.hid (bt (bt HB1.out (HBD.out _)) hb2)
  have HH2 := Lib.hid (HHR.out.below (bt (HBD.out _) hb2))
  have HO := Lib.hid ho
  have HXS := Lib.hid hx
  have HG := Lib.hid (show ∀ e, e < N → Rg 50000 (eff x e) from fun e he => eff_rg hg he)
  have HR := Lib.hid (show RatsR w2 (.slice ax N cx) N (eff x) from hr)
  clear ho hx hg hr hb2 HB1 HHR
  go_wp2_with fail
  refine (check_any HH2.out HW.out HV.out HD.out HO.out HXS.out HR.out HG.out (Nat.le_refl _) (by omega) (b := true) ⟨fun _ => ⟨rfl, fun _ _ => rfl⟩, fun _ => rfl⟩).mono ?_
  rintro en w3 ⟨rfl, hb3⟩
  have HB3 := Lib.hid (bt HB2.out hb3)
  have HH3 := Lib.hid (HH2.out.below hb3)
  have HR3 := Lib.hid (HR.out.below hb3)
  clear hb3 HB2 HH2 HR
  obtain ⟨hNc, hcm, bx, ox, h3, h4⟩ := HR3.out.parts
  obtain rfl := h3 (by omega)
  have HRL := Lib.hid h4
  clear h3 h4
  go_wp2_with fail
  refine (check_any (m := N - 1) HH3.out HW.out HV.out HD.out HO.out HXS.out (HR3.out.take (Nat.sub_le _ _)) (fun i hi => HG.out i (by omega)) (Nat.le_refl _) (by omega) (b := false) ⟨fun h => (by cases h), fun h => absurd h.1 (by omega)⟩).mono ?_
  rintro en w4 ⟨rfl, hb4⟩
  have HB4 := Lib.hid (bt HB3.out hb4)
  have HH4 := Lib.hid (HH3.out.below hb4)
  have HR4 := Lib.hid (HR3.out.below hb4)
  clear hb4 HB3 HH3 HR3
  go_wp2_with fail
  refine (of_r hb1 hb2 (by decide) (by decide) (by decide)).mono ?_
  rintro en w5 ⟨n1, a1, k1, c1, n2, a2, k2, c2, rfl, hq, hb5⟩
  have HQ := Lib.hid (show RatN w5 ⟨n1, a1, k1, c1, n2, a2, k2, c2⟩ (Rat.divInt by' 10000) from hq)
  have HB5 := Lib.hid (bt HB4.out hb5)
  have HH5 := Lib.hid (HH4.out.below hb5)
  have HR5 := Lib.hid (HR4.out.below hb5)
  clear hq hb5 HB4 HH4 HR4 HRL
  by_cases hy0 : by' = 0
  · subst hy0
    go_wp2
    go_ret
    exact ⟨rfl, bt HB5.out (allocs_below1 _ _)⟩
  have hyb : (by' == 0) = false := by rw [beq_eq_false_iff_ne]; exact hy0
  by_cases hk0 : kk < 0
  · go_wp2
    go_ret
    exact ⟨rfl, bt HB5.out (allocs_below1 _ _)⟩
  by_cases hkn : (N : Int) ≤ kk
  · go_wp2
    go_ret
    exact ⟨rfl, bt HB5.out (allocs_below1 _ _)⟩
  obtain ⟨kx, rfl⟩ : ∃ kx : Nat, kk = kx := ⟨kk.toNat, by omega⟩
  have hKN : kx < N := by omega
  have hki : (kx : Int) < (N : Int) := by omega
  obtain ⟨L, hL, hsl, hnum⟩ := HR5.out
  obtain ⟨_, _, _, _, he, _, _, t3, t4⟩ := hsl
  injection he with he1 heN he3
  clear heN
  subst he3
  obtain rfl := t3 (by omega)
  injection he1 with he1
  injection he1 with he1 he2
  subst he1
  subst he2
  have HT4 := Lib.hid t4
  have HNUM := Lib.hid hnum
  have HLL := Lib.hid hL
  clear t3 t4 hnum hL
  go_wp2_with (at_builtin; obtain ⟨w6, hW, hs6, hb6, b6⟩ := alloc1 w5 (.cells #[.bool n1, .slice a1 k1 c1, .bool n2, .slice a2 k2 c2] 37); rw [← hW]; rw [← hs6]; refine wpList_append_good (G := notInt) _ rfl _ _ 26 rfl w6.heap.size 37 ti2 (.agg #[.bool false, .slice none 0 0, .bool false, .slice none 0 0]) 4 64 Tryz.underlying26 hi2 hz20 hz21 hz22 rfl (by decide) (.slice (some ⟨w6.heap.size, 0, none⟩) 0 0) 0 [] rfl (OwnG.empty (heap_alloc_new _ _) (Nat.le_refl _)) ⟨bx, ox, none⟩ N cx (flat L) rfl (by rw [flat_length, HLL.out]) ?_ (fun u hu => (flat_one u hu).1) (by unfold maxLen; omega) (by omega) (by simp) (fun u hu => (flat_one u hu).2) zero_notInt ?_)
  · exact flat_src (fun kk x hx => ((HT4.out kk x hx).below hb6).below (allocs_below1 _ _))
  · intro v3 w7 ho hg _
    try rw [← hW] at hg
    try rw [← hs6] at hg
    try rw [← hW] at ho
    try rw [← hs6] at ho
    have HB7 := Lib.hid (grown_below (allocs_below1 w6 _) (OwnG.empty (G := notInt) (size := 4) (heap_alloc_new w6 (.cells #[] 37)) (Nat.le_refl _)).own hg (Nat.le_refl _) (by simp))
    try simp only [Nat.zero_add, List.nil_append] at ho
    obtain ⟨g, cp, cur, rfl, hbg, hgg, hni, hmc, hcm2, h4⟩ := own_block ho HLL.out (by omega)
    have HBW := Lib.hid (bt (bt HB5.out hb6) HB7.out)
    have HH6 := Lib.hid (HH5.out.below hb6)
    have HB6 := Lib.hid (bt HB5.out hb6)
    have HQ7 := Lib.hid (show RatR w7 (.agg #[.bool n1, .slice a1 k1 c1, .bool n2, .slice a2 k2 c2]) (Rat.divInt by' 10000) from RatR.below (RatR.below HQ.out hb6) HB7.out)
    have HN7 := Lib.hid ((HNUM.out.below hb6).below HB7.out)
    have HK7 := Lib.hid (blk_next b6 HB7.out)
    have H4 := Lib.hid h4
    have HGG := Lib.hid hgg
    have HNI := Lib.hid hni
    have HQ0 := Lib.hid (no_more (e := eff x kx) hy0)
    have hgr : w5.heap.size < g := by omega
    clear ho hg h4 hgg hni b6 HQ HNUM HH5 HB5 HT4 HR5 hW hb6
    obtain ⟨yk, hyk⟩ : ∃ yk, L[kx]? = some yk := ⟨_, List.getElem?_eq_getElem (by rw [HLL.out]; omega)⟩
    obtain ⟨g0, g1, g2, g3⟩ := H4.out kx yk hyk
    have HYK := Lib.hid (show RatR w7 (.agg #[.bool yk.n1, .slice yk.a1 yk.k1 yk.c1, .bool yk.n2, .slice yk.a2 yk.k2 yk.c2]) (eff x kx) from HN7.out kx yk hyk)
    obtain ⟨⟨p0, p1, p2, p3⟩, _⟩ := res4_facts HK7.out
    clear hyk
    go_wp2_with fail
    have HL := Lib.hid (fun (w' : World) (hs : Stay g (g + 1) w7 w') => (⟨hs, hs.cell (.inl hgr) p0, hs.cell (.inl hgr) p1, hs.cell (.inl hgr) p2, hs.cell (.inl hgr) p3⟩ : Stay g (g + 1) w7 w' ∧ w'.cell? ⟨w5.heap.size, 0, none⟩ = some (.bool n1) ∧ w'.cell? ⟨w5.heap.size, 1, none⟩ = some (.slice a1 k1 c1) ∧ w'.cell? ⟨w5.heap.size, 2, none⟩ = some (.bool n2) ∧ w'.cell? ⟨w5.heap.size, 3, none⟩ = some (.slice a2 k2 c2)))
    have rq : Rg 50000 (Rat.divInt by' 10000) := (Rg.of (fw_divInt (N := 19) (by decide) (by omega) (by decide))).mono (by omega)
    have ry := HG.out kx hKN
    clear p0 p1 p2 p3
    refine wp_region_held_drew (S := fun w' => Stay g (g + 1) w7 w' ∧ w'.cell? ⟨w5.heap.size, 0, none⟩ = some (.bool n1) ∧ w'.cell? ⟨w5.heap.size, 1, none⟩ = some (.slice a1 k1 c1) ∧ w'.cell? ⟨w5.heap.size, 2, none⟩ = some (.bool n2) ∧ w'.cell? ⟨w5.heap.size, 3, none⟩ = some (.slice a2 k2 c2)) (by kernel_rfl) ?_ (fun hHeld => ?_)
    · exact HL.out _ (Stay.drew (Stay.refl _ _ _))
    (try dsimp only at hHeld)
    refine wpAnyH_take (i := 0) (oi := ({ dst := some 87, op := Op.move (Operand.tmp 14), type := 26, pos := "law.go:85", after := #[], guard := none } : Oper)) (v := ?y1_1_v) rfl (by kernel_rfl) (by kernel_rfl) (by kernel_rfl) (fun _ _ _ h => h) (Or.inl ⟨by rfl, ?y1_1_h⟩) hHeld ?y1_1_r
    case y1_1_h => (intro w hSw; (try dsimp only at hSw); go_simp; all_goals with_reducible rfl)
    (try simp only [Act.put, List.setIfInBounds_toArray, List.set_cons_zero, List.set_cons_succ])
    refine wpAnyH_take (i := 1) (oi := ({ dst := some 88, op := Op.move (Operand.tmp 8), type := 3, pos := "law.go:85", after := #[], guard := none } : Oper)) (v := ?y1_2_v) rfl (by kernel_rfl) (by kernel_rfl) (by kernel_rfl) (fun _ _ _ h => h) (Or.inl ⟨by rfl, ?y1_2_h⟩) hHeld ?y1_2_r
    case y1_2_h => (intro w hSw; (try dsimp only at hSw); go_simp; all_goals with_reducible rfl)
    (try simp only [Act.put, List.setIfInBounds_toArray, List.set_cons_zero, List.set_cons_succ])
    refine wpAnyH_take (i := 2) (oi := ({ dst := some 89, op := Op.move (Operand.tmp 14), type := 26, pos := "law.go:85", after := #[], guard := none } : Oper)) (v := ?y1_3_v) rfl (by kernel_rfl) (by kernel_rfl) (by kernel_rfl) (fun _ _ _ h => h) (Or.inl ⟨by rfl, ?y1_3_h⟩) hHeld ?y1_3_r
    case y1_3_h => (intro w hSw; (try dsimp only at hSw); go_simp; all_goals with_reducible rfl)
    (try simp only [Act.put, List.setIfInBounds_toArray, List.set_cons_zero, List.set_cons_succ])
    refine wpAnyH_take (i := 3) (oi := ({ dst := some 90, op := Op.move (Operand.tmp 8), type := 3, pos := "law.go:85", after := #[], guard := none } : Oper)) (v := ?y1_4_v) rfl (by kernel_rfl) (by kernel_rfl) (by kernel_rfl) (fun _ _ _ h => h) (Or.inl ⟨by rfl, ?y1_4_h⟩) hHeld ?y1_4_r
    case y1_4_h => (intro w hSw; (try dsimp only at hSw); go_simp; all_goals with_reducible rfl)
    (try simp only [Act.put, List.setIfInBounds_toArray, List.set_cons_zero, List.set_cons_succ])
    refine wpAnyH_take (i := 4) (oi := ({ dst := some 91, op := Op.indexAddr 26 (Operand.tmp 89) (Operand.tmp 90), type := 0, pos := "law.go:85", after := #[{ on := 2, ground := Ground.data }, { on := 3, ground := Ground.data }], guard := none } : Oper)) (v := ?y1_5_v) rfl (by kernel_rfl) (by kernel_rfl) (by kernel_rfl) (fun _ _ _ h => h) (Or.inl ⟨by rfl, ?y1_5_h⟩) hHeld ?y1_5_r
    case y1_5_h => (intro w hSw; (try dsimp only at hSw); go_simp; all_goals with_reducible rfl)
    (try simp only [Act.put, List.setIfInBounds_toArray, List.set_cons_zero, List.set_cons_succ])
    refine wpAnyH_take (i := 6) (oi := ({ dst := some 93, op := Op.load 37 (Operand.tmp 12), type := 37, pos := "law.go:85", after := #[], guard := none } : Oper)) (v := ?y1_6_v) rfl (by kernel_rfl) (by kernel_rfl) (by kernel_rfl) (fun _ _ _ h => h) (Or.inl ⟨by rfl, ?y1_6_h⟩) hHeld ?y1_6_r
    case y1_6_h => (intro w hSw; (try dsimp only at hSw); go_simp; all_goals with_reducible rfl)
    (try simp only [Act.put, List.setIfInBounds_toArray, List.set_cons_zero, List.set_cons_succ])
    refine wpAnyH_ready (rs := [5]) (by kernel_rfl) (by simp) ?_
    refine AllReadyH.cons (o := ({ dst := some 92, op := Op.load 37 (Operand.tmp 91), type := 37, pos := "law.go:85", after := #[{ on := 4, ground := Ground.data }], guard := none } : Oper)) rfl (fun K hK => ?_) AllReadyH.nil
    go_simp
    first | refine hK.out _ _ ?_ (fun hHeld => ?_) | (go_wp2_with fail; refine hK.out _ _ ?_ (fun hHeld => ?_))
    · exact HL.out _ (Stay.drew (Stay.refl _ _ _))
    clear hK K
    (try dsimp only at hHeld)
    (try simp only [Act.put, List.setIfInBounds_toArray, List.set_cons_zero, List.set_cons_succ])
    refine wpAnyH_ready (rs := [7]) (by kernel_rfl) (by simp) ?_
    refine AllReadyH.cons (o := ({ dst := some 94, op := Op.call { callee := Callee.value (Operand.func 28), args := #[Operand.tmp 92, Operand.tmp 93], argTypes := #[37, 37] }, type := 37, pos := "law.go:85", after := #[{ on := 5, ground := Ground.data }, { on := 6, ground := Ground.data }], guard := none } : Oper)) rfl (fun K hK => ?_) AllReadyH.nil
    go_simp
    (go_at_call 28; (with_reducible refine (add_r (N := 50000) (RatR.below HYK.out (Below.drew (Below.refl w7.heap.size w7))) (RatR.below HQ7.out (Below.drew (Below.refl w7.heap.size w7))) ry rq (by omega)).mono ?_); rintro en w8 ⟨m1, b1, j1, d1, m2, b2, j2, d2, rfl, hm, hb8⟩; have HB8 := Lib.hid (bt (Below.drew (Below.refl w7.heap.size w7)) hb8); have HP8 := Lib.hid (show RatN w8 ⟨m1, b1, j1, d1, m2, b2, j2, d2⟩ (eff x kx + Rat.divInt by' 10000) from hm); have HS8 := Lib.hid (Stay.next (Stay.drew (Stay.refl g (g + 1) w7)) hb8); replace g0 := keepc HB8.out g0; replace g1 := keepc HB8.out g1; replace g2 := keepc HB8.out g2; replace g3 := keepc HB8.out g3; have HG8 := Lib.hid (blk_next HGG.out HB8.out); have z0 := Lib.frozen_of_heap HG8.out (kx * 4); have z1 := Lib.frozen_of_heap HG8.out (kx * 4 + 1); have z2 := Lib.frozen_of_heap HG8.out (kx * 4 + 2); have z3 := Lib.frozen_of_heap HG8.out (kx * 4 + 3); clear hb8 hm)
    first | refine hK.out _ _ ?_ (fun hHeld => ?_) | (go_wp2_with fail; refine hK.out _ _ ?_ (fun hHeld => ?_))
    · exact HL.out _ HS8.out
    clear hK K
    (try dsimp only at hHeld)
    (try simp only [Act.put, List.setIfInBounds_toArray, List.set_cons_zero, List.set_cons_succ])
    refine wpAnyH_take (i := 8) (oi := ({ dst := some 95, op := Op.indexAddr 26 (Operand.tmp 87) (Operand.tmp 88), type := 0, pos := "law.go:85", after := #[{ on := 0, ground := Ground.data }, { on := 1, ground := Ground.data }, { on := 0, ground := Ground.phase }, { on := 1, ground := Ground.phase }, { on := 2, ground := Ground.phase }, { on := 3, ground := Ground.phase }, { on := 4, ground := Ground.phase }, { on := 5, ground := Ground.phase }, { on := 6, ground := Ground.phase }, { on := 7, ground := Ground.phase }], guard := none } : Oper)) (v := ?y1_7_v) rfl (by kernel_rfl) (by kernel_rfl) (by kernel_rfl) (fun _ _ _ h => h) (Or.inl ⟨by rfl, ?y1_7_h⟩) hHeld ?y1_7_r
    case y1_7_h => (intro w hSw; (try dsimp only at hSw); go_simp; all_goals with_reducible rfl)
    (try simp only [Act.put, List.setIfInBounds_toArray, List.set_cons_zero, List.set_cons_succ])
    refine wpAnyH_ready (rs := [9]) (by kernel_rfl) (by simp) ?_
    refine AllReadyH.cons (o := ({ dst := none, op := Op.store 37 (Operand.tmp 95) (Operand.tmp 94), type := 0, pos := "law.go:85", after := #[{ on := 8, ground := Ground.data }, { on := 7, ground := Ground.data }, { on := 7, ground := Ground.chain }, { on := 0, ground := Ground.phase }, { on := 1, ground := Ground.phase }, { on := 2, ground := Ground.phase }, { on := 3, ground := Ground.phase }, { on := 4, ground := Ground.phase }, { on := 5, ground := Ground.phase }, { on := 6, ground := Ground.phase }, { on := 7, ground := Ground.phase }], guard := none } : Oper)) rfl (fun K hK => ?_) AllReadyH.nil
    go_simp
    first | refine hK.out _ _ ?_ (fun hHeld => ?_) | (go_wp2_with fail; refine hK.out _ _ ?_ (fun hHeld => ?_))
    · exact HL.out _ (stay_four HS8.out)
    clear hK K
    (try dsimp only at hHeld)
    (try simp only [Act.put, List.setIfInBounds_toArray, List.set_cons_zero, List.set_cons_succ])
    refine wpAnyH_done (by kernel_rfl) ?_ _
    have HY9 := Lib.hid (rats_put (x := ⟨m1, b1, j1, d1, m2, b2, j2, d2⟩) HLL.out HG8.out (fun o K' x e => HNI.out o K' x ((HB8.out.cell (p := ⟨g, o, none⟩) (Array.getElem?_eq_some_iff.1 HGG.out).1).symm.trans e)) hmc hcm2 (fun k x hx => (H4.out k x hx).below HB8.out) (HN7.out.below HB8.out) hKN HP8.out)
    have HB9 := Lib.hid (HB7.out.trans ((below_put (o := kx * 4) (x := ⟨m1, b1, j1, d1, m2, b2, j2, d2⟩) (HB8.out.mono (Nat.le_of_lt (Array.getElem?_eq_some_iff.1 HGG.out).1)) (Nat.le_refl g)).mono hbg))
    have HH9 := Lib.hid (HH6.out.below HB9.out)
    clear g0 g1 g2 g3 z0 z1 z2 z3
    go_wp2_with fail
    refine (check_any (M := 100001) HH9.out HW.out HV.out HD.out HO.out HXS.out HY9.out (more_rg ry rq HG.out) (by omega) (by omega) (b := false) ⟨fun h => (by cases h), fun h => absurd (h.2 kx hKN) (by rw [if_pos rfl]; exact HQ0.out)⟩).mono ?_
    rintro en wa ⟨rfl, hba⟩
    have HBA := Lib.hid (bt (bt HB6.out HB9.out) hba)
    clear hba
    go_wp2
    go_ret
    exact ⟨rfl, HBA.out⟩
end Go.Proofs.YteionhenpehogaaGreatDoor
