import Derived.Test.YteionhenpehogaaGreatDoorPlainSS
import Derived.Test.YteionhenpehogaaGreatDoorRBas
import Derived.Test.YteionhenpehogaaGreatDoorAwakeZ
import Derived.WalkMore
import Derived.BigRegion
import Derived.Deep.RegionWith
import Derived.Deep.DeepCutAuto
namespace Tally
open Graph.Plain
section
variable {f : Mx → Nat → Nat → Mx} {m c n N : Nat} {A : Mx} {s : St} {Z : Nat → Nat → Int} {D : Nat → Int} {o : Nat → Bool} {y : Nat → Rat}
theorem run_further (h : Run f m A c s) : ∀ d, ∃ t, Run f m A (c + d) t ∧ t.rank ≤ s.rank + d := by
 intro d
 induction d with
 | zero => exact ⟨s, h, Nat.le_refl _⟩
 | succ d ih =>
  obtain ⟨t, ht, hr⟩ := ih
  rcases least_ne (r := t.rank) (m := m) (fun j => t.A j (c + d)) with h | ⟨i, h1, h2, h3, h4⟩
  ·exact ⟨_, Run.succ ht (IsStep.none h), by omega⟩
  ·exact ⟨_, Run.succ ht (IsStep.piv i h1 h2 h3 h4), by show t.rank + 1 ≤ _; omega⟩
theorem pivot_there (hs : Shares n Z D) (ho : IsReach n (inner Z) (direct n D) o) {i : Nat} (h : Run upR (plc o n).length (wideM (plc o n).length (eqM (plB o n Z)) y) i s) (hr : s.rank = i) (hi : i < (plc o n).length)
  (hz : ∀ j, i ≤ j → j < (plc o n).length → s.A j i = 0) : False := by
 have h1 := Run.succ h (IsStep.none (by rw [hr]; exact hz))
 obtain ⟨t, ht, hle⟩ := run_further h1 ((plc o n).length - (i + 1))
 rw [show i + 1 + ((plc o n).length - (i + 1)) = (plc o n).length by omega] at ht
 have := pl_rank hs ho ht
 omega
theorem step_from {i p : Nat} (h : Run upR m A i s) (hr : s.rank = i) (hp1 : i ≤ p) (hp2 : p < m) (hz : ∀ j, i ≤ j → j < p → s.A j i = 0) (hn : s.A p i ≠ 0) :
  Run upR m A (i + 1) ⟨upFrom (swapR s.A p i) i i, i + 1, (if p = i then s.det else -s.det) * s.A p i⟩ := by
 have h1 := Run.succ h (IsStep.piv p (by omega) hp2 (by rw [hr]; exact hz) hn)
 rw [hr] at h1
 rw [upFrom_eq]
 ·exact h1
 ·intro k hk
  have e : swapR s.A p i i k = s.A p k := by
   simp only [swapR, swapI]
   split
   ·rename_i e; rw [e]
   ·simp
  rw [e]
  exact run_low h p (by omega) hp2 k (by omega)
end
end Tally
namespace Go.Proofs.YteionhenpehogaaGreatDoor
open Go.RowKit Tally Graph.Plain
def BlkS (B : Nat) (q : Rat) (s : Value) (w : World) : Prop :=
 ∃ (g : Nat) (n1 : Bool) (a1 : Option Addr) (k1 c1 : Nat) (n2 : Bool) (a2 : Option Addr) (k2 c2 : Nat), s = .pointer (some ⟨g, 0, none⟩) ∧ w.heap[g]? = some (.cells #[.bool n1, .slice a1 k1 c1, .bool n2, .slice a2 k2 c2] 86 (0, 0)) ∧ RRatR w (.agg #[.bool n1, .slice a1 k1 c1, .bool n2, .slice a2 k2 c2]) q ∧ B ≤ g
theorem wide_in {n : Nat} {A : Mx} {y : Nat → Rat} {i k : Nat} (h : k < n) : wideM n A y i k = A i k := if_pos h
theorem wide_end {n : Nat} {A : Mx} {y : Nat → Rat} {i : Nat} : wideM n A y i n = y i := if_neg (Nat.lt_irrefl n)
set_option maxRecDepth 100000 in
set_option maxHeartbeats 8000000 in
theorem requations_any {w : World} {v u t : Value} {G : Nat} {Z : Nat → Nat → Int} {D : Nat → Int} {l : List Nat} (h : MatZ w v G G Z) (hd : RowR w u G fun e => .int .i64 (D e)) (hl : PlR w t l) (hlt : ∀ x, x ∈ l → x < G) (hG2 : G ≤ 12) (hll : l.length ≤ 12)
  (hz : ∀ i k, i < G → k < G → 0 ≤ Z i k ∧ Z i k ≤ 10000) (hdz : ∀ i, i < l.length → 0 ≤ D (l.getD i 0) ∧ D (l.getD i 0) ≤ 10000) :
  Calls Tryz.prog 138 #[v, u, t] w fun e w' => ∃ (sv : Value) (V : List Value), e = .returned sv ∧
   BuildX w.heap.size w' sv V l.length (l.length + 1) (wideM l.length (eqM fun i k => Tally.part (Z (l.getD k 0) (l.getD i 0))) (fun i => Tally.part (D (l.getD i 0)))) ∧ Below w.heap.size w w' := by
 obtain ⟨a, b, o, c, rfl, l1, m1, s1, r1⟩ := h
 obtain ⟨a2, b2, o2, c2, rfl, l2, m2, s2, r2⟩ := hd
 obtain ⟨a3, b3, o3, c3, rfl, l3, m3, s3, r3⟩ := hl
 obtain ⟨ti1, hi1, hz10, hz11, hz12⟩ := info_parts rinfoS
 obtain ⟨ti2, hi2, hz20, hz21, hz22⟩ := info_parts rinfoQ
 have R1 := Lib.hid r1
 have R2 := Lib.hid r2
 have R3 := Lib.hid r3
 obtain ⟨AA, hAA⟩ : ∃ AA : Mx, AA = wideM l.length (eqM fun i k => Tally.part (Z (l.getD k 0) (l.getD i 0))) (fun i => Tally.part (D (l.getD i 0))) := ⟨_, rfl⟩
 rw [← hAA]
 have HA := Lib.hid (show ∀ i j, j < l.length → AA i j = (if j = i then 1 else 0) - Tally.part (Z (l.getD j 0) (l.getD i 0)) from fun i j hj => by rw [hAA, wide_in hj]; rfl)
 have HAE := Lib.hid (show ∀ i, AA i l.length = Tally.part (D (l.getD i 0)) from fun i => by rw [hAA, wide_end])
 clear r1 r2 r3 hAA
 go_enter Tryz.func138, Tryz.ntmps138
 have HL := Lib.hid (show ∀ i, i < l.length → l.getD i 0 < G from fun i hi => hlt _ (by
  rw [List.getD_eq_getElem?_getD, List.getElem?_eq_getElem hi]; exact List.getElem_mem hi))
 have HZ := Lib.hid hz
 have HDZ := Lib.hid hdz
 clear hlt hz hdz
 go_wp2_with fail
 go_loopw [7, 8] (fun s i wr => ∃ (k : Nat) (V : List Value) (sv : Value), sv = s ∧ i = .int .i64 k ∧ k ≤ l.length ∧ BuildX w.heap.size wr s V k (l.length + 1) AA ∧ Below w.heap.size w wr) (fun _ i _ => l.length - (RowKit.intOf i).toNat)
 case atStart => exact ⟨0, [], _, rfl, rfl, Nat.zero_le _, BuildX.start _ _ _ _, Below.refl _ _⟩
 case round =>
  obtain ⟨k, V, s, rfl, rfl, hk, hbm, hb⟩ := hrel
  have HX := Lib.hid hbm
  have HB := Lib.hid hb
  clear hbm hb
  by_cases hkl : k < l.length
  case neg =>
   obtain rfl : k = l.length := by omega
   go_wp2
   go_ret
   exact ⟨_, V, rfl, HX.out, HB.out⟩
  have hki : (k : Int) < (l.length : Int) := by omega
  obtain rfl := s3 (by omega)
  obtain ⟨e, he⟩ : ∃ e, l.getD k 0 = e := ⟨_, rfl⟩
  have heG := HL.out k hkl
  have x1 := R3.out k hkl
  have HDk := HDZ.out k hkl
  rw [he] at heG x1 HDk
  have hei : (e : Int) < (G : Int) := by omega
  have HE := Lib.hid he
  have X1 := Lib.hid x1
  clear he x1
  obtain ⟨wo, hwo⟩ : ∃ wo, wo = wr := ⟨_, rfl⟩
  subst hwo
  go_wp2_with fail
  go_loopw [9, 10] (fun q i wr => ∃ (j : Nat) (L : List Num) (qv : Value), qv = q ∧ i = .int .i64 j ∧ j ≤ l.length ∧ rBuildN wo.heap.size wr q L j (AA k) ∧ Below wo.heap.size wo wr) (fun _ i _ => l.length - (RowKit.intOf i).toNat)
  case atStart => exact ⟨0, [], _, rfl, rfl, Nat.zero_le _, rBuildN.start _ _ _, Below.refl _ _⟩
  case round =>
   obtain ⟨j, L, q, rfl, rfl, hj, hbq, hbw⟩ := hrel
   have HQ := Lib.hid hbq
   have HW := Lib.hid hbw
   clear hbq hbw
   by_cases hjl : j < l.length
   case neg =>
    obtain rfl : j = l.length := by omega
    have x1 := keepc (bt HB.out HW.out) X1.out
    obtain rfl := s2 (by omega)
    have x5 := keepc (bt HB.out HW.out) (R2.out e heG)
    have hql := HQ.out.len
    have hVl := HX.out.len
    go_wp2_with fail
    (with_reducible refine ((rshare_any (by omega) (by omega)).mono fun _ _ h => h.plain).mono ?_)
    rintro en w3 ⟨t1, t2, t3, t4, t5, t6, t7, t8, rfl, hx, hb3⟩
    have HT3 := Lib.hid (show rRatN w3 ⟨t1, t2, t3, t4, t5, t6, t7, t8⟩ (AA k l.length) from by rw [HAE.out, HE.out]; exact hx)
    have hb4 := allocs_below1 w3 (.cells #[.bool t1, .slice t2 t3 t4, .bool t5, .slice t6 t7 t8] 86)
    have hal := heap_alloc_new w3 (.cells #[.bool t1, .slice t2 t3 t4, .bool t5, .slice t6 t7 t8] 86)
    have HAL := Lib.hid hal
    have HO := Lib.hid ((HQ.out.below hb3).below hb4)
    have HB4 := Lib.hid (bt (bt HW.out hb3) hb4)
    have hs3 := (bt HW.out hb3).size
    clear hx hb3 hb4 hal x1 x5
    go_wp2_with (at_builtin; refine wpList_append_good (G := notInt) _ rfl _ _ 76 rfl wo.heap.size 86 ti2 (.agg #[.bool false, .slice none 0 0, .bool false, .slice none 0 0]) 4 64 Tryz.underlying76 hi2 hz20 hz21 hz22 rfl (by decide) q L.length (flat L) rfl HO.out.own.good ⟨w3.heap.size, 0, none⟩ 1 1 (flat [⟨t1, t2, t3, t4, t5, t6, t7, t8⟩]) rfl rfl ?_ (fun u hu => (flat_one u hu).1) (by unfold maxLen; omega) (by omega) (by simp; omega) (fun u hu => (flat_one u hu).2) zero_notInt ?_)
    ·first | exact row_cells (x := ⟨t1, t2, t3, t4, t5, t6, t7, t8⟩) HAL.out | (intro jj u hu; have := row_cells (x := ⟨t1, t2, t3, t4, t5, t6, t7, t8⟩) HAL.out jj u hu; simpa [Addr.add] using this) | exact fun _ _ hq => hq
    ·intro v4 w4 ho hg _
     have HR4 := Lib.hid (rBuildN.snoc HO.out (by rw [hql]; exact ho.noInts) hg (show rRatN _ ⟨t1, t2, t3, t4, t5, t6, t7, t8⟩ (AA k l.length) from RRatR.below HT3.out (allocs_below1 _ _)))
     have HB9 := Lib.hid (grown_below HB4.out HO.out.own.own hg (Nat.le_refl _) (by simp; omega))
     obtain ⟨g, cq, rfl, hbg, hc1, hc2, hrow⟩ := own_rowx (n := l.length + 1) (by have := HR4.out.own.good; rwa [HR4.out.len] at this) HR4.out.len (by omega) HR4.out.num
     have hs4 := HB9.out.size
     have hsr := HB.out.size
     have hal := heap_alloc_new w4 (.cells #[.slice (some ⟨g, 0, none⟩) (l.length + 1) cq] 76)
     have HAL2 := Lib.hid hal
     have hb5 := allocs_below1 w4 (.cells #[.slice (some ⟨g, 0, none⟩) (l.length + 1) cq] 76)
     have HN := Lib.hid ((HX.out.below HB9.out).below hb5)
     have HB5 := Lib.hid (bt (bt HB.out HB9.out) hb5)
     have HRW := Lib.hid (hrow.below hb5)
     clear hal hb5 hrow ho hg HR4 HO HB4 HAL HT3
     go_wp2_with (at_builtin; refine wpList_append_good (G := OnlySl) _ rfl _ _ 71 rfl w.heap.size 76 ti1 (.slice none 0 0) 1 24 Tryz.underlying71 hi1 hz10 hz11 hz12 rfl (by decide) s V.length V rfl HN.out.own ⟨w4.heap.size, 0, none⟩ 1 1 [.slice (some ⟨g, 0, none⟩) (l.length + 1) cq] rfl rfl ?_ (one_cell_sl _ _ _) (by unfold maxLen; omega) (by omega) (by simp; omega) (only_sl_one _ _ _) only_sl0 ?_)
     all_goals first | exact row_one HAL2.out | (intro jj u hu; have := row_one HAL2.out jj u hu; simpa [Addr.add] using this; done) | (intro hu; have := row_one HAL2.out 0 _ hu; simpa [Addr.add] using this; done) | skip
     intro v5 w5 ho hg _
     have HM5 := Lib.hid (HN.out.snoc (S := wo.heap.size) (by rw [hVl]; exact ho) hg HX.out.old (fun _ => ⟨g, cq, rfl, by omega, hbg, hc1, hc2, HRW.out⟩))
     have HB6 := Lib.hid (grown_below HB5.out HN.out.own.own hg (Nat.le_refl _) (by simp; omega))
     clear ho hg HN HRW HAL2 HB5
     go_wp2
     go_roundw
     case rel => exact ⟨k + 1, _, _, rfl, by go_num, by omega, HM5.out, HB6.out⟩
     case measure => simp [RowKit.intOf]; omega
   have hji : (j : Int) < (l.length : Int) := by omega
   obtain ⟨f, hf⟩ : ∃ f, l.getD j 0 = f := ⟨_, rfl⟩
   have hfG := HL.out j hjl
   have x2 := keepc (bt HB.out HW.out) (R3.out j hjl)
   rw [hf] at hfG x2
   have hfi : (f : Int) < (G : Int) := by omega
   obtain rfl := s1 (by omega)
   obtain ⟨a4, c4, y1, y2⟩ := R1.out f hfG
   obtain ⟨_, b4, o4, _, te, y3, y4, y5, y6⟩ := y2
   injection te with te1 _ te2
   subst te1
   subst te2
   obtain rfl := y5 (by omega)
   have x1 := keepc (bt HB.out HW.out) X1.out
   have x3 := keepc (bt HB.out HW.out) y1
   have x4 := keepc (bt HB.out HW.out) (y6 e heG)
   have hzr := HZ.out f e hfG heG
   have HAJ := Lib.hid (show AA k j = (if j = k then 1 else 0) - Tally.part (Z f e) from by rw [HA.out k j hjl, hf, HE.out])
   have hql := HQ.out.len
   have hsw := HW.out.size
   clear hf y1 y5 y6
   go_wp2_with fail
   go_cut [11] (fun s11 wx => BlkS wr.heap.size (-(Tally.part (Z f e))) s11 wx ∧ Below wr.heap.size wr wx)
   case first =>
    have y1 := Lib.hid x1
    have y2 := Lib.hid x2
    have y3 := Lib.hid x3
    have y4 := Lib.hid x4
    clear x1 x2 x3 x4
    have HLS := Lib.hid (fun (w' : World) (hb : Below wr.heap.size wr w') => (⟨keepc hb y2.out, keepc hb y1.out, keepc hb y3.out, keepc hb y4.out⟩ : w'.cell? ⟨b3, o3 + j, none⟩ = some (.int .i64 (f : Nat)) ∧ w'.cell? ⟨b3, o3 + k, none⟩ = some (.int .i64 (e : Nat)) ∧ w'.cell? ⟨b, o + f, none⟩ = some (.slice (some ⟨b4, o4, none⟩) G c4) ∧ w'.cell? ⟨b4, o4 + e, none⟩ = some (.int .i64 (Z f e))))
    have HDR := Lib.hid (Below.drew (Below.refl wr.heap.size wr))
    refine wp_region_held_drew (S := fun w' => w'.cell? ⟨b3, o3 + j, none⟩ = some (.int .i64 (f : Nat)) ∧ w'.cell? ⟨b3, o3 + k, none⟩ = some (.int .i64 (e : Nat)) ∧ w'.cell? ⟨b, o + f, none⟩ = some (.slice (some ⟨b4, o4, none⟩) G c4) ∧ w'.cell? ⟨b4, o4 + e, none⟩ = some (.int .i64 (Z f e))) (by kernel_rfl) ?_ (fun hHeld => ?_)
    ·exact HLS.out _ HDR.out
    (try dsimp only at hHeld)
    refine wpAnyH_take (i := 0) (oi := (⟨some 24, .move (.tmp 0), 101, "ref.go:40", #[], none⟩ : Oper)) (v := ?y1_1_v) rfl (by kernel_rfl) (by kernel_rfl) (by kernel_rfl) (fun _ _ _ h => h) (Or.inl ⟨by rfl, ?y1_1_h⟩) hHeld ?y1_1_r
    case y1_1_h => (intro w hSw; (try dsimp only at hSw); go_simp; all_goals with_reducible rfl)
    (try simp only [Act.put, List.setIfInBounds_toArray, List.set_cons_zero, List.set_cons_succ])
    refine wpAnyH_take (i := 1) (oi := (⟨some 25, .move (.tmp 2), 53, "ref.go:40", #[], none⟩ : Oper)) (v := ?y1_2_v) rfl (by kernel_rfl) (by kernel_rfl) (by kernel_rfl) (fun _ _ _ h => h) (Or.inl ⟨by rfl, ?y1_2_h⟩) hHeld ?y1_2_r
    case y1_2_h => (intro w hSw; (try dsimp only at hSw); go_simp; all_goals with_reducible rfl)
    (try simp only [Act.put, List.setIfInBounds_toArray, List.set_cons_zero, List.set_cons_succ])
    refine wpAnyH_take (i := 2) (oi := (⟨some 26, .move (.tmp 10), 3, "ref.go:40", #[], none⟩ : Oper)) (v := ?y1_3_v) rfl (by kernel_rfl) (by kernel_rfl) (by kernel_rfl) (fun _ _ _ h => h) (Or.inl ⟨by rfl, ?y1_3_h⟩) hHeld ?y1_3_r
    case y1_3_h => (intro w hSw; (try dsimp only at hSw); go_simp; all_goals with_reducible rfl)
    (try simp only [Act.put, List.setIfInBounds_toArray, List.set_cons_zero, List.set_cons_succ])
    refine wpAnyH_take (i := 3) (oi := (⟨some 27, .indexAddr 53 (.tmp 25) (.tmp 26), 0, "ref.go:40", #[⟨1, .data⟩, ⟨2, .data⟩], none⟩ : Oper)) (v := ?y1_4_v) rfl (by kernel_rfl) (by kernel_rfl) (by kernel_rfl) (fun _ _ _ h => h) (Or.inl ⟨by rfl, ?y1_4_h⟩) hHeld ?y1_4_r
    case y1_4_h => (intro w hSw; (try dsimp only at hSw); go_simp; all_goals with_reducible rfl)
    (try simp only [Act.put, List.setIfInBounds_toArray, List.set_cons_zero, List.set_cons_succ])
    refine wpAnyH_take (i := 4) (oi := (⟨some 28, .load 3 (.tmp 27), 3, "ref.go:40", #[⟨3, .data⟩], none⟩ : Oper)) (v := ?y1_5_v) rfl (by kernel_rfl) (by kernel_rfl) (by kernel_rfl) (fun _ _ _ h => h) (Or.inl ⟨by rfl, ?y1_5_h⟩) hHeld ?y1_5_r
    case y1_5_h => (intro w hSw; (try dsimp only at hSw); go_simp; all_goals with_reducible rfl)
    (try simp only [Act.put, List.setIfInBounds_toArray, List.set_cons_zero, List.set_cons_succ])
    refine wpAnyH_take (i := 5) (oi := (⟨some 29, .indexAddr 101 (.tmp 24) (.tmp 28), 0, "ref.go:40", #[⟨0, .data⟩, ⟨4, .data⟩], none⟩ : Oper)) (v := ?y1_6_v) rfl (by kernel_rfl) (by kernel_rfl) (by kernel_rfl) (fun _ _ _ h => h) (Or.inl ⟨by rfl, ?y1_6_h⟩) hHeld ?y1_6_r
    case y1_6_h => (intro w hSw; (try dsimp only at hSw); go_simp; all_goals with_reducible rfl)
    (try simp only [Act.put, List.setIfInBounds_toArray, List.set_cons_zero, List.set_cons_succ])
    refine wpAnyH_take (i := 6) (oi := (⟨some 30, .load 53 (.tmp 29), 53, "ref.go:40", #[⟨5, .data⟩], none⟩ : Oper)) (v := ?y1_7_v) rfl (by kernel_rfl) (by kernel_rfl) (by kernel_rfl) (fun _ _ _ h => h) (Or.inl ⟨by rfl, ?y1_7_h⟩) hHeld ?y1_7_r
    case y1_7_h => (intro w hSw; (try dsimp only at hSw); go_simp; all_goals with_reducible rfl)
    (try simp only [Act.put, List.setIfInBounds_toArray, List.set_cons_zero, List.set_cons_succ])
    refine wpAnyH_take (i := 7) (oi := (⟨some 31, .move (.tmp 2), 53, "ref.go:40", #[], none⟩ : Oper)) (v := ?y1_8_v) rfl (by kernel_rfl) (by kernel_rfl) (by kernel_rfl) (fun _ _ _ h => h) (Or.inl ⟨by rfl, ?y1_8_h⟩) hHeld ?y1_8_r
    case y1_8_h => (intro w hSw; (try dsimp only at hSw); go_simp; all_goals with_reducible rfl)
    (try simp only [Act.put, List.setIfInBounds_toArray, List.set_cons_zero, List.set_cons_succ])
    refine wpAnyH_take (i := 8) (oi := (⟨some 32, .move (.tmp 8), 3, "ref.go:40", #[], none⟩ : Oper)) (v := ?y1_9_v) rfl (by kernel_rfl) (by kernel_rfl) (by kernel_rfl) (fun _ _ _ h => h) (Or.inl ⟨by rfl, ?y1_9_h⟩) hHeld ?y1_9_r
    case y1_9_h => (intro w hSw; (try dsimp only at hSw); go_simp; all_goals with_reducible rfl)
    (try simp only [Act.put, List.setIfInBounds_toArray, List.set_cons_zero, List.set_cons_succ])
    refine wpAnyH_take (i := 9) (oi := (⟨some 33, .indexAddr 53 (.tmp 31) (.tmp 32), 0, "ref.go:40", #[⟨7, .data⟩, ⟨8, .data⟩], none⟩ : Oper)) (v := ?y1_10_v) rfl (by kernel_rfl) (by kernel_rfl) (by kernel_rfl) (fun _ _ _ h => h) (Or.inl ⟨by rfl, ?y1_10_h⟩) hHeld ?y1_10_r
    case y1_10_h => (intro w hSw; (try dsimp only at hSw); go_simp; all_goals with_reducible rfl)
    (try simp only [Act.put, List.setIfInBounds_toArray, List.set_cons_zero, List.set_cons_succ])
    refine wpAnyH_take (i := 10) (oi := (⟨some 34, .load 3 (.tmp 33), 3, "ref.go:40", #[⟨9, .data⟩], none⟩ : Oper)) (v := ?y1_11_v) rfl (by kernel_rfl) (by kernel_rfl) (by kernel_rfl) (fun _ _ _ h => h) (Or.inl ⟨by rfl, ?y1_11_h⟩) hHeld ?y1_11_r
    case y1_11_h => (intro w hSw; (try dsimp only at hSw); go_simp; all_goals with_reducible rfl)
    (try simp only [Act.put, List.setIfInBounds_toArray, List.set_cons_zero, List.set_cons_succ])
    refine wpAnyH_take (i := 11) (oi := (⟨some 35, .indexAddr 53 (.tmp 30) (.tmp 34), 0, "ref.go:40", #[⟨6, .data⟩, ⟨10, .data⟩], none⟩ : Oper)) (v := ?y1_12_v) rfl (by kernel_rfl) (by kernel_rfl) (by kernel_rfl) (fun _ _ _ h => h) (Or.inl ⟨by rfl, ?y1_12_h⟩) hHeld ?y1_12_r
    case y1_12_h => (intro w hSw; (try dsimp only at hSw); go_simp; all_goals with_reducible rfl)
    (try simp only [Act.put, List.setIfInBounds_toArray, List.set_cons_zero, List.set_cons_succ])
    refine wpAnyH_take (i := 12) (oi := (⟨some 36, .load 3 (.tmp 35), 3, "ref.go:40", #[⟨11, .data⟩], none⟩ : Oper)) (v := ?y1_13_v) rfl (by kernel_rfl) (by kernel_rfl) (by kernel_rfl) (fun _ _ _ h => h) (Or.inl ⟨by rfl, ?y1_13_h⟩) hHeld ?y1_13_r
    case y1_13_h => (intro w hSw; (try dsimp only at hSw); go_simp; all_goals with_reducible rfl)
    (try simp only [Act.put, List.setIfInBounds_toArray, List.set_cons_zero, List.set_cons_succ])
    refine wpAnyH_ready (rs := [13, 15]) (by kernel_rfl) (by simp) ?_
    refine AllReadyH.cons (o := (⟨some 37, .call { callee := .value (.func 109), args := #[.tmp 36], argTypes := #[3] }, 86, "ref.go:40", #[⟨12, .data⟩], none⟩ : Oper)) rfl (fun K hK => ?_) (AllReadyH.cons (o := (⟨some 11, .alloc 86, 0, "ref.go:40", #[], none⟩ : Oper)) rfl (fun K hK => ?_) AllReadyH.nil)
    ·go_simp
     (go_at_call 109; (with_reducible refine ((rshare_any (by omega) (by omega)).mono fun _ _ h => h.plain).mono ?_); rintro en u13 ⟨e1_, e2_, e3_, e4_, e5_, e6_, e7_, e8_, rfl, hx, hb⟩; have HV := Lib.hid hx; have HZ13 := Lib.hid (bt HDR.out hb); clear hx hb)
     first | refine hK.out _ _ ?_ (fun hHeld => ?_) | (go_wp2_with fail; refine hK.out _ _ ?_ (fun hHeld => ?_))
     ·exact HLS.out _ HZ13.out
     clear hK K
     (try dsimp only at hHeld)
     (try simp only [Act.put, List.setIfInBounds_toArray, List.set_cons_zero, List.set_cons_succ])
     refine wpAnyH_ready (rs := [14, 15]) (by kernel_rfl) (by simp) ?_
     refine AllReadyH.cons (o := (⟨some 38, .call { callee := .value (.func 101), args := #[.tmp 37], argTypes := #[86] }, 86, "ref.go:40", #[⟨13, .data⟩, ⟨13, .chain⟩], none⟩ : Oper)) rfl (fun K hK => ?_) (AllReadyH.cons (o := (⟨some 11, .alloc 86, 0, "ref.go:40", #[], none⟩ : Oper)) rfl (fun K hK => ?_) AllReadyH.nil)
     ·go_simp
      (go_at_call 101; (with_reducible refine (rratneg_any HV.out).mono ?_); rintro en u14 ⟨m1, b1, j1, d1, m2, b2, j2, d2, rfl, hx, hb⟩; replace HV := Lib.hid hx; have HZ14 := Lib.hid (bt HZ13.out hb); clear hx hb)
      first | refine hK.out _ _ ?_ (fun hHeld => ?_) | (go_wp2_with fail; refine hK.out _ _ ?_ (fun hHeld => ?_))
      ·exact HLS.out _ HZ14.out
      clear hK K
      (try dsimp only at hHeld)
      (try simp only [Act.put, List.setIfInBounds_toArray, List.set_cons_zero, List.set_cons_succ])
      refine wpAnyH_ready (rs := [15]) (by kernel_rfl) (by simp) ?_
      refine AllReadyH.cons (o := (⟨some 11, .alloc 86, 0, "ref.go:40", #[], none⟩ : Oper)) rfl (fun K hK => ?_) AllReadyH.nil
      go_simp
      (obtain ⟨u15, hW, hs, hb, hx⟩ := alloc1 u14 (.cells #[.bool false, .slice none 0 0, .bool false, .slice none 0 0] 86); rw [← hW]; have HZ15 := Lib.hid (bt HZ14.out hb); have HA := Lib.hid hx; have hla := HZ14.out.size; replace HV := Lib.hid (HV.out.below hb); clear hW hs hb hx)
      first | refine hK.out _ _ ?_ (fun hHeld => ?_) | (go_wp2_with fail; refine hK.out _ _ ?_ (fun hHeld => ?_))
      ·exact HLS.out _ HZ15.out
      clear hK K
      (try dsimp only at hHeld)
      (try simp only [Act.put, List.setIfInBounds_toArray, List.set_cons_zero, List.set_cons_succ])
      refine wpAnyH_ready (rs := [16]) (by kernel_rfl) (by simp) ?_
      refine AllReadyH.cons (o := (⟨none, .store 86 (.tmp 11) (.tmp 38), 0, "ref.go:40", #[⟨15, .data⟩, ⟨14, .data⟩, ⟨14, .chain⟩, ⟨0, .phase⟩, ⟨1, .phase⟩, ⟨2, .phase⟩, ⟨3, .phase⟩, ⟨4, .phase⟩, ⟨5, .phase⟩, ⟨6, .phase⟩, ⟨7, .phase⟩, ⟨8, .phase⟩, ⟨9, .phase⟩, ⟨10, .phase⟩, ⟨11, .phase⟩, ⟨12, .phase⟩, ⟨13, .phase⟩, ⟨14, .phase⟩, ⟨15, .phase⟩], none⟩ : Oper)) rfl (fun K hK => ?_) AllReadyH.nil
      (obtain ⟨⟨d0_, d1_, d2_, d3_⟩, e0_, e1_, e2_, e3_⟩ := res4_facts HA.out; go_simp)
      first | refine hK.out _ _ ?_ (fun hHeld => ?_) | (go_wp2_with fail; refine hK.out _ _ ?_ (fun hHeld => ?_))
      ·exact HLS.out _ (held_set4 HZ15.out hla)
      clear hK K
      (try dsimp only at hHeld)
      (try simp only [Act.put, List.setIfInBounds_toArray, List.set_cons_zero, List.set_cons_succ])
      refine wpAnyH_done (by kernel_rfl) ?_ _
      go_wp2_with fail
      go_meet
      exact ⟨⟨_, m1, b1, j1, d1, m2, b2, j2, d2, rfl, res4_set HA.out, HV.out.stay set4_stay (noInt_one (noInt4 HA.out)), hla⟩, held_set4 HZ15.out hla⟩
     ·go_simp
      (obtain ⟨u15, hW, hs, hb, hx⟩ := alloc1 u13 (.cells #[.bool false, .slice none 0 0, .bool false, .slice none 0 0] 86); rw [← hW]; have HZ15 := Lib.hid (bt HZ13.out hb); have HA := Lib.hid hx; have hla := HZ13.out.size; replace HV := Lib.hid (HV.out.below hb); clear hW hs hb hx)
      first | refine hK.out _ _ ?_ (fun hHeld => ?_) | (go_wp2_with fail; refine hK.out _ _ ?_ (fun hHeld => ?_))
      ·exact HLS.out _ HZ15.out
      clear hK K
      (try dsimp only at hHeld)
      (try simp only [Act.put, List.setIfInBounds_toArray, List.set_cons_zero, List.set_cons_succ])
      refine wpAnyH_ready (rs := [14]) (by kernel_rfl) (by simp) ?_
      refine AllReadyH.cons (o := (⟨some 38, .call { callee := .value (.func 101), args := #[.tmp 37], argTypes := #[86] }, 86, "ref.go:40", #[⟨13, .data⟩, ⟨13, .chain⟩], none⟩ : Oper)) rfl (fun K hK => ?_) AllReadyH.nil
      go_simp
      (go_at_call 101; (with_reducible refine (rratneg_any HV.out).mono ?_); rintro en u14 ⟨m1, b1, j1, d1, m2, b2, j2, d2, rfl, hx, hb⟩; replace HV := Lib.hid hx; have HZ14 := Lib.hid (bt HZ15.out hb); replace HA := Lib.hid (blk_next HA.out hb); clear hx hb)
      first | refine hK.out _ _ ?_ (fun hHeld => ?_) | (go_wp2_with fail; refine hK.out _ _ ?_ (fun hHeld => ?_))
      ·exact HLS.out _ HZ14.out
      clear hK K
      (try dsimp only at hHeld)
      (try simp only [Act.put, List.setIfInBounds_toArray, List.set_cons_zero, List.set_cons_succ])
      refine wpAnyH_ready (rs := [16]) (by kernel_rfl) (by simp) ?_
      refine AllReadyH.cons (o := (⟨none, .store 86 (.tmp 11) (.tmp 38), 0, "ref.go:40", #[⟨15, .data⟩, ⟨14, .data⟩, ⟨14, .chain⟩, ⟨0, .phase⟩, ⟨1, .phase⟩, ⟨2, .phase⟩, ⟨3, .phase⟩, ⟨4, .phase⟩, ⟨5, .phase⟩, ⟨6, .phase⟩, ⟨7, .phase⟩, ⟨8, .phase⟩, ⟨9, .phase⟩, ⟨10, .phase⟩, ⟨11, .phase⟩, ⟨12, .phase⟩, ⟨13, .phase⟩, ⟨14, .phase⟩, ⟨15, .phase⟩], none⟩ : Oper)) rfl (fun K hK => ?_) AllReadyH.nil
      (obtain ⟨⟨d0_, d1_, d2_, d3_⟩, e0_, e1_, e2_, e3_⟩ := res4_facts HA.out; go_simp)
      first | refine hK.out _ _ ?_ (fun hHeld => ?_) | (go_wp2_with fail; refine hK.out _ _ ?_ (fun hHeld => ?_))
      ·exact HLS.out _ (held_set4 HZ14.out hla)
      clear hK K
      (try dsimp only at hHeld)
      (try simp only [Act.put, List.setIfInBounds_toArray, List.set_cons_zero, List.set_cons_succ])
      refine wpAnyH_done (by kernel_rfl) ?_ _
      go_wp2_with fail
      go_meet
      exact ⟨⟨_, m1, b1, j1, d1, m2, b2, j2, d2, rfl, res4_set HA.out, HV.out.stay set4_stay (noInt_one (noInt4 HA.out)), hla⟩, held_set4 HZ14.out hla⟩
    ·go_simp
     (obtain ⟨u15, hW, hs, hb, hx⟩ := alloc1_d wr (.cells #[.bool false, .slice none 0 0, .bool false, .slice none 0 0] 86); rw [← hW]; have HZ15 := Lib.hid (hb); have HA := Lib.hid hx; have hla := HDR.out.size; clear hW hs hb hx)
     first | refine hK.out _ _ ?_ (fun hHeld => ?_) | (go_wp2_with fail; refine hK.out _ _ ?_ (fun hHeld => ?_))
     ·exact HLS.out _ HZ15.out
     clear hK K
     (try dsimp only at hHeld)
     (try simp only [Act.put, List.setIfInBounds_toArray, List.set_cons_zero, List.set_cons_succ])
     refine wpAnyH_ready (rs := [13]) (by kernel_rfl) (by simp) ?_
     refine AllReadyH.cons (o := (⟨some 37, .call { callee := .value (.func 109), args := #[.tmp 36], argTypes := #[3] }, 86, "ref.go:40", #[⟨12, .data⟩], none⟩ : Oper)) rfl (fun K hK => ?_) AllReadyH.nil
     go_simp
     (go_at_call 109; (with_reducible refine ((rshare_any (by omega) (by omega)).mono fun _ _ h => h.plain).mono ?_); rintro en u13 ⟨e1_, e2_, e3_, e4_, e5_, e6_, e7_, e8_, rfl, hx, hb⟩; have HV := Lib.hid hx; have HZ13 := Lib.hid (bt HZ15.out hb); replace HA := Lib.hid (blk_next HA.out hb); clear hx hb)
     first | refine hK.out _ _ ?_ (fun hHeld => ?_) | (go_wp2_with fail; refine hK.out _ _ ?_ (fun hHeld => ?_))
     ·exact HLS.out _ HZ13.out
     clear hK K
     (try dsimp only at hHeld)
     (try simp only [Act.put, List.setIfInBounds_toArray, List.set_cons_zero, List.set_cons_succ])
     refine wpAnyH_ready (rs := [14]) (by kernel_rfl) (by simp) ?_
     refine AllReadyH.cons (o := (⟨some 38, .call { callee := .value (.func 101), args := #[.tmp 37], argTypes := #[86] }, 86, "ref.go:40", #[⟨13, .data⟩, ⟨13, .chain⟩], none⟩ : Oper)) rfl (fun K hK => ?_) AllReadyH.nil
     go_simp
     (go_at_call 101; (with_reducible refine (rratneg_any HV.out).mono ?_); rintro en u14 ⟨m1, b1, j1, d1, m2, b2, j2, d2, rfl, hx, hb⟩; replace HV := Lib.hid hx; have HZ14 := Lib.hid (bt HZ13.out hb); replace HA := Lib.hid (blk_next HA.out hb); clear hx hb)
     first | refine hK.out _ _ ?_ (fun hHeld => ?_) | (go_wp2_with fail; refine hK.out _ _ ?_ (fun hHeld => ?_))
     ·exact HLS.out _ HZ14.out
     clear hK K
     (try dsimp only at hHeld)
     (try simp only [Act.put, List.setIfInBounds_toArray, List.set_cons_zero, List.set_cons_succ])
     refine wpAnyH_ready (rs := [16]) (by kernel_rfl) (by simp) ?_
     refine AllReadyH.cons (o := (⟨none, .store 86 (.tmp 11) (.tmp 38), 0, "ref.go:40", #[⟨15, .data⟩, ⟨14, .data⟩, ⟨14, .chain⟩, ⟨0, .phase⟩, ⟨1, .phase⟩, ⟨2, .phase⟩, ⟨3, .phase⟩, ⟨4, .phase⟩, ⟨5, .phase⟩, ⟨6, .phase⟩, ⟨7, .phase⟩, ⟨8, .phase⟩, ⟨9, .phase⟩, ⟨10, .phase⟩, ⟨11, .phase⟩, ⟨12, .phase⟩, ⟨13, .phase⟩, ⟨14, .phase⟩, ⟨15, .phase⟩], none⟩ : Oper)) rfl (fun K hK => ?_) AllReadyH.nil
     (obtain ⟨⟨d0_, d1_, d2_, d3_⟩, e0_, e1_, e2_, e3_⟩ := res4_facts HA.out; go_simp)
     first | refine hK.out _ _ ?_ (fun hHeld => ?_) | (go_wp2_with fail; refine hK.out _ _ ?_ (fun hHeld => ?_))
     ·exact HLS.out _ (held_set4 HZ14.out hla)
     clear hK K
     (try dsimp only at hHeld)
     (try simp only [Act.put, List.setIfInBounds_toArray, List.set_cons_zero, List.set_cons_succ])
     refine wpAnyH_done (by kernel_rfl) ?_ _
     go_wp2_with fail
     go_meet
     exact ⟨⟨_, m1, b1, j1, d1, m2, b2, j2, d2, rfl, res4_set HA.out, HV.out.stay set4_stay (noInt_one (noInt4 HA.out)), hla⟩, held_set4 HZ14.out hla⟩
   case rest =>
   obtain ⟨⟨g, n1, a1, k1, c1, n2, a2', k2, c2', rfl, hblk, hx, hgb⟩, hbc⟩ := hcut
   have HG := Lib.hid hblk
   have HXX := Lib.hid hx
   have HBC := Lib.hid hbc
   clear hblk hx hbc x1 x2 x3 x4
   go_upto_if 41 with (fail)
   go_cut [] (fun wx => ∃ (n1 : Bool) (a1 : Option Addr) (k1 c1 : Nat) (n2 : Bool) (a2 : Option Addr) (k2 c2 : Nat), wx.heap[g]? = some (.cells #[.bool n1, .slice a1 k1 c1, .bool n2, .slice a2 k2 c2] 86 (0, 0)) ∧ RRatR wx (.agg #[.bool n1, .slice a1 k1 c1, .bool n2, .slice a2 k2 c2]) (AA k j) ∧ Below wr.heap.size wr wx)
   case first =>
    by_cases hjk : j = k
    ·subst hjk
     have e1 : ((j : Int) == (j : Int)) = true := beq_self_eq_true _
     have HV := Lib.hid (show -(Tally.part (Z f e)) + 1 = AA j j from by rw [HAJ.out, if_pos rfl]; grind)
     obtain ⟨⟨p0, p1, p2, p3⟩, _⟩ := res4_facts HG.out
     go_wp2_with fail
     refine wp_region_held_drew (S := fun w' => True) (by kernel_rfl) ?_ (fun hHeld => ?_)
     ·exact trivial
     (try dsimp only at hHeld)
     refine wpAnyH_ready (rs := [0, 1]) (by kernel_rfl) (by simp) ?_
     refine AllReadyH.cons (o := (⟨some 42, .load 86 (.tmp 11), 86, "ref.go:42", #[], none⟩ : Oper)) rfl (fun K hK => ?_) (AllReadyH.cons (o := (⟨some 43, .call { callee := .value (.func 55), args := #[.const (.int .i64 1)], argTypes := #[3] }, 86, "ref.go:42", #[], none⟩ : Oper)) rfl (fun K hK => ?_) AllReadyH.nil)
     ·go_simp
      first | refine hK.out _ _ ?_ (fun hHeld => ?_) | (go_wp2_with fail; refine hK.out _ _ ?_ (fun hHeld => ?_))
      ·exact trivial
      clear hK K
      (try dsimp only at hHeld)
      (try simp only [Act.put, List.setIfInBounds_toArray, List.set_cons_zero, List.set_cons_succ])
      refine wpAnyH_ready (rs := [1]) (by kernel_rfl) (by simp) ?_
      refine AllReadyH.cons (o := (⟨some 43, .call { callee := .value (.func 55), args := #[.const (.int .i64 1)], argTypes := #[3] }, 86, "ref.go:42", #[], none⟩ : Oper)) rfl (fun K hK => ?_) AllReadyH.nil
      go_simp
      (go_at_call 55; (with_reducible refine ((rint_any (n := 1) (by decide) (by decide)).mono fun _ _ h => h.plain).mono ?_); rintro en u1 ⟨e1_, e2_, e3_, e4_, e5_, e6_, e7_, e8_, rfl, hx, hb⟩; have HI := Lib.hid (rnum_1 _ hx); have HX1 := Lib.hid ((HXX.out.below (Below.drew (Below.refl _ _))).below hb); have q0 := keepc hb (show wc.drew.cell? _ = _ from p0); have q1 := keepc hb (show wc.drew.cell? _ = _ from p1); have q2 := keepc hb (show wc.drew.cell? _ = _ from p2); have q3 := keepc hb (show wc.drew.cell? _ = _ from p3); have HG1 := Lib.hid (blk_next (w := wc.drew) HG.out hb); have HZ1 := Lib.hid (bt (bt HBC.out (Below.drew (Below.refl _ _))) hb); clear hx hb)
      first | refine hK.out _ _ ?_ (fun hHeld => ?_) | (go_wp2_with fail; refine hK.out _ _ ?_ (fun hHeld => ?_))
      ·exact trivial
      clear hK K
      (try dsimp only at hHeld)
      (try simp only [Act.put, List.setIfInBounds_toArray, List.set_cons_zero, List.set_cons_succ])
      refine wpAnyH_ready (rs := [2]) (by kernel_rfl) (by simp) ?_
      refine AllReadyH.cons (o := (⟨some 44, .call { callee := .value (.func 93), args := #[.tmp 42, .tmp 43], argTypes := #[86, 86] }, 86, "ref.go:42", #[⟨0, .data⟩, ⟨1, .data⟩, ⟨1, .chain⟩], none⟩ : Oper)) rfl (fun K hK => ?_) AllReadyH.nil
      go_simp
      (go_at_call 93; (with_reducible refine ((rratadd_any (N := 6) HX1.out HI.out ((Rg.of (fw_neg (rg_part hzr.1 hzr.2).fw)).mono (by decide)) (rg_unitS (by omega)) (by decide)).mono fun _ _ h => h.plain).mono ?_); rintro en u2 ⟨m1, b1, j1, d1, m2, b2, j2, d2, rfl, hx, hb⟩; have HV2 := Lib.hid (show RRatR u2 _ (AA j j) from by rw [← HV.out]; exact hx); have HG2 := Lib.hid (blk_next HG1.out hb); have HZ2 := Lib.hid (bt HZ1.out hb); obtain ⟨⟨d0_, d1_, d2_, d3_⟩, e0_, e1_, e2_, e3_⟩ := res4_facts HG2.out; clear hx hb)
      first | refine hK.out _ _ ?_ (fun hHeld => ?_) | (go_wp2_with fail; refine hK.out _ _ ?_ (fun hHeld => ?_))
      ·exact trivial
      clear hK K
      (try dsimp only at hHeld)
      (try simp only [Act.put, List.setIfInBounds_toArray, List.set_cons_zero, List.set_cons_succ])
      refine wpAnyH_ready (rs := [3]) (by kernel_rfl) (by simp) ?_
      refine AllReadyH.cons (o := (⟨none, .store 86 (.tmp 11) (.tmp 44), 0, "ref.go:42", #[⟨2, .data⟩, ⟨2, .chain⟩, ⟨0, .phase⟩, ⟨1, .phase⟩, ⟨2, .phase⟩], none⟩ : Oper)) rfl (fun K hK => ?_) AllReadyH.nil
      go_simp
      first | refine hK.out _ _ ?_ (fun hHeld => ?_) | (go_wp2_with fail; refine hK.out _ _ ?_ (fun hHeld => ?_))
      ·exact trivial
      clear hK K
      (try dsimp only at hHeld)
      (try simp only [Act.put, List.setIfInBounds_toArray, List.set_cons_zero, List.set_cons_succ])
      refine wpAnyH_done (by kernel_rfl) ?_ _
      go_wp2_with fail
      go_meet
      exact ⟨m1, b1, j1, d1, m2, b2, j2, d2, res4_set HG2.out, HV2.out.stay set4_stay (noInt_one (noInt4 HG2.out)), held_set4 HZ2.out hgb⟩
     ·go_simp
      (go_at_call 55; (with_reducible refine ((rint_any (n := 1) (by decide) (by decide)).mono fun _ _ h => h.plain).mono ?_); rintro en u1 ⟨e1_, e2_, e3_, e4_, e5_, e6_, e7_, e8_, rfl, hx, hb⟩; have HI := Lib.hid (rnum_1 _ hx); have HX1 := Lib.hid ((HXX.out.below (Below.drew (Below.refl _ _))).below hb); have q0 := keepc hb (show wc.drew.cell? _ = _ from p0); have q1 := keepc hb (show wc.drew.cell? _ = _ from p1); have q2 := keepc hb (show wc.drew.cell? _ = _ from p2); have q3 := keepc hb (show wc.drew.cell? _ = _ from p3); have HG1 := Lib.hid (blk_next (w := wc.drew) HG.out hb); have HZ1 := Lib.hid (bt (bt HBC.out (Below.drew (Below.refl _ _))) hb); clear hx hb)
      first | refine hK.out _ _ ?_ (fun hHeld => ?_) | (go_wp2_with fail; refine hK.out _ _ ?_ (fun hHeld => ?_))
      ·exact trivial
      clear hK K
      (try dsimp only at hHeld)
      (try simp only [Act.put, List.setIfInBounds_toArray, List.set_cons_zero, List.set_cons_succ])
      refine wpAnyH_ready (rs := [0]) (by kernel_rfl) (by simp) ?_
      refine AllReadyH.cons (o := (⟨some 42, .load 86 (.tmp 11), 86, "ref.go:42", #[], none⟩ : Oper)) rfl (fun K hK => ?_) AllReadyH.nil
      go_simp
      first | refine hK.out _ _ ?_ (fun hHeld => ?_) | (go_wp2_with fail; refine hK.out _ _ ?_ (fun hHeld => ?_))
      ·exact trivial
      clear hK K
      (try dsimp only at hHeld)
      (try simp only [Act.put, List.setIfInBounds_toArray, List.set_cons_zero, List.set_cons_succ])
      refine wpAnyH_ready (rs := [2]) (by kernel_rfl) (by simp) ?_
      refine AllReadyH.cons (o := (⟨some 44, .call { callee := .value (.func 93), args := #[.tmp 42, .tmp 43], argTypes := #[86, 86] }, 86, "ref.go:42", #[⟨0, .data⟩, ⟨1, .data⟩, ⟨1, .chain⟩], none⟩ : Oper)) rfl (fun K hK => ?_) AllReadyH.nil
      go_simp
      (go_at_call 93; (with_reducible refine ((rratadd_any (N := 6) HX1.out HI.out ((Rg.of (fw_neg (rg_part hzr.1 hzr.2).fw)).mono (by decide)) (rg_unitS (by omega)) (by decide)).mono fun _ _ h => h.plain).mono ?_); rintro en u2 ⟨m1, b1, j1, d1, m2, b2, j2, d2, rfl, hx, hb⟩; have HV2 := Lib.hid (show RRatR u2 _ (AA j j) from by rw [← HV.out]; exact hx); have HG2 := Lib.hid (blk_next HG1.out hb); have HZ2 := Lib.hid (bt HZ1.out hb); obtain ⟨⟨d0_, d1_, d2_, d3_⟩, e0_, e1_, e2_, e3_⟩ := res4_facts HG2.out; clear hx hb)
      first | refine hK.out _ _ ?_ (fun hHeld => ?_) | (go_wp2_with fail; refine hK.out _ _ ?_ (fun hHeld => ?_))
      ·exact trivial
      clear hK K
      (try dsimp only at hHeld)
      (try simp only [Act.put, List.setIfInBounds_toArray, List.set_cons_zero, List.set_cons_succ])
      refine wpAnyH_ready (rs := [3]) (by kernel_rfl) (by simp) ?_
      refine AllReadyH.cons (o := (⟨none, .store 86 (.tmp 11) (.tmp 44), 0, "ref.go:42", #[⟨2, .data⟩, ⟨2, .chain⟩, ⟨0, .phase⟩, ⟨1, .phase⟩, ⟨2, .phase⟩], none⟩ : Oper)) rfl (fun K hK => ?_) AllReadyH.nil
      go_simp
      first | refine hK.out _ _ ?_ (fun hHeld => ?_) | (go_wp2_with fail; refine hK.out _ _ ?_ (fun hHeld => ?_))
      ·exact trivial
      clear hK K
      (try dsimp only at hHeld)
      (try simp only [Act.put, List.setIfInBounds_toArray, List.set_cons_zero, List.set_cons_succ])
      refine wpAnyH_done (by kernel_rfl) ?_ _
      go_wp2_with fail
      go_meet
      exact ⟨m1, b1, j1, d1, m2, b2, j2, d2, res4_set HG2.out, HV2.out.stay set4_stay (noInt_one (noInt4 HG2.out)), held_set4 HZ2.out hgb⟩
    ·have e1 : ((k : Int) == (j : Int)) = false := by rw [beq_eq_false_iff_ne]; omega
     have e2 : ((j : Int) == (k : Int)) = false := by rw [beq_eq_false_iff_ne]; omega
     go_wp2_with fail
     go_meet
     exact ⟨n1, a1, k1, c1, n2, a2', k2, c2', HG.out, HXX.out.as (by rw [HAJ.out, if_neg hjk]; grind), HBC.out⟩
   case rest =>
   obtain ⟨t1, t2, t3, t4, t5, t6, t7, t8, hblk, hx, hbc⟩ := hcut
   rename World => w3
   obtain ⟨⟨p0, p1, p2, p3⟩, _⟩ := res4_facts hblk
   have hb4 := allocs_below1 w3 (.cells #[.bool t1, .slice t2 t3 t4, .bool t5, .slice t6 t7 t8] 86)
   have hal := heap_alloc_new w3 (.cells #[.bool t1, .slice t2 t3 t4, .bool t5, .slice t6 t7 t8] 86)
   have HAL := Lib.hid hal
   have HO := Lib.hid ((HQ.out.below hbc).below hb4)
   have HT3 := Lib.hid (show rRatN _ ⟨t1, t2, t3, t4, t5, t6, t7, t8⟩ (AA k j) from RRatR.below hx hb4)
   have HB4 := Lib.hid (bt (bt HW.out hbc) hb4)
   have hs3 := (bt HW.out hbc).size
   clear hx hb4 hal hblk hbc HG HXX HBC
   go_wp2_with (at_builtin; refine wpList_append_good (G := notInt) _ rfl _ _ 76 rfl wo.heap.size 86 ti2 (.agg #[.bool false, .slice none 0 0, .bool false, .slice none 0 0]) 4 64 Tryz.underlying76 hi2 hz20 hz21 hz22 rfl (by decide) q L.length (flat L) rfl HO.out.own.good ⟨w3.heap.size, 0, none⟩ 1 1 (flat [⟨t1, t2, t3, t4, t5, t6, t7, t8⟩]) rfl rfl ?_ (fun u hu => (flat_one u hu).1) (by unfold maxLen; omega) (by omega) (by simp; omega) (fun u hu => (flat_one u hu).2) zero_notInt ?_)
   ·first | exact row_cells (x := ⟨t1, t2, t3, t4, t5, t6, t7, t8⟩) HAL.out | (intro jj u hu; have := row_cells (x := ⟨t1, t2, t3, t4, t5, t6, t7, t8⟩) HAL.out jj u hu; simpa [Addr.add] using this) | exact fun _ _ hq => hq
   ·intro v4 w4 ho hg _
    have HR4 := Lib.hid (rBuildN.snoc HO.out (by rw [hql]; exact ho.noInts) hg HT3.out)
    have HB9 := Lib.hid (grown_below HB4.out HO.out.own.own hg (Nat.le_refl _) (by simp; omega))
    clear ho hg HO HB4 HAL HT3 p0 p1 p2 p3
    go_wp2
    go_roundw
    case rel => exact ⟨j + 1, _, _, rfl, by go_num, by omega, HR4.out, HB9.out⟩
    case measure => simp [RowKit.intOf]; omega
theorem swapR_comm (A : Mx) (i p : Nat) : swapR A i p = swapR A p i := by
 funext a k
 simp only [swapR, swapI]
 by_cases h1 : a = p <;> by_cases h2 : a = i <;> simp_all
set_option maxHeartbeats 8000000 in
set_option maxRecDepth 100000 in
theorem rsolved_any {w : World} {v : Value} {V : List Value} {m N B : Nat} {A : Mx} (h : BuildX B w v V m (m + 1) A) (hB : B ≤ w.heap.size) (hm : m ≤ 12) (hN : ∀ i, i < m → RowD N (m + 1) (A i)) (hNN : N ≤ 100)
  (hpv : ∀ (i : Nat) (s : St), Run upR m A i s → s.rank = i → i < m → (∀ j, i ≤ j → j < m → s.A j i = 0) → False) :
  Calls Tryz.prog 137 #[v] w fun e w' => ∃ (s : St) (a : Option Addr) (c : Nat), e = .returned (.slice a m c) ∧ Run upR m A m s ∧ rRatsR w' (.slice a m c) m (fun i => s.A i m / s.A i i) ∧ (∀ g, (Value.slice a m c).ownBlock = some g → B ≤ g) ∧ Below B w w' := by
 obtain ⟨ti2, hi2, hz20, hz21, hz22⟩ := info_parts rinfoQ
 by_cases hm0 : m = 0
 ·subst hm0
  obtain ⟨a, c, rfl⟩ : ∃ a c, v = .slice a 0 c := by
   have hl := h.len
   rcases h.own.own.2 with ⟨hv, _⟩ | ⟨G, cap, cur, hv, _⟩
   ·exact ⟨none, 0, hv⟩
   ·exact ⟨_, _, by rw [hv, hl]⟩
  clear h hN hpv
  go_enter Tryz.func137, Tryz.ntmps137
  go_wp2_with fail
  go_loopw [4] (fun i ws => i = .int .i64 0 ∧ ws = w) (fun _ _ => 0)
  case atStart => exact ⟨rfl, rfl⟩
  case round =>
   obtain ⟨rfl, hw⟩ := hrel
   subst hw
   go_wp2_with fail
   rename World => wz
   go_loopw [10, 11] (fun s i ws => s = .slice none 0 0 ∧ i = .int .i64 0 ∧ ws = wz) (fun _ _ _ => 0)
   case atStart => exact ⟨rfl, rfl, rfl⟩
   case round =>
    obtain ⟨rfl, rfl, hw⟩ := hrel
    subst hw
    go_wp2
    go_ret
    exact ⟨⟨A, 0, 1⟩, none, 0, rfl, Run.zero, rrats_nil _, fun g hg => by simp [Value.ownBlock] at hg, Below.refl _ _⟩
 obtain ⟨G, cap, g0, cp0, rfl, hcap, hcap2, hmat, hBG, hBg⟩ := h.done (by omega) (by omega)
 have HA0 := Lib.hid hmat
 have HGL := Lib.hid (show ∀ x, x < m → B ≤ g0 x ∧ g0 x < w.heap.size from fun x hx => ⟨hBg x hx, hmat.glt hx⟩)
 have hGl := hmat.Glt
 have HN := Lib.hid hN
 have HPV := Lib.hid hpv
 clear hmat hBg hN hpv h
 go_enter Tryz.func137, Tryz.ntmps137
 go_wp2_with fail
 go_loopw [4] (fun i wr => ∃ (c : Nat) (s : St) (g cp : Nat → Nat), i = .int .i64 c ∧ c ≤ m ∧ Run upR m A c s ∧ s.rank = c ∧ MatX wr G m (m + 1) g cp s.A ∧ (∀ x, x < m → B ≤ g x ∧ g x < w.heap.size) ∧ Below B w wr) (fun i _ => m - (intOf i).toNat)
 case atStart => exact ⟨0, ⟨A, 0, 1⟩, g0, cp0, rfl, Nat.zero_le _, Run.zero, rfl, HA0.out, HGL.out, Below.refl _ _⟩
 case round =>
  rename World => wo
  clear HA0 HGL
  obtain ⟨c, s, g, cp, rfl, hc, hrun, hrk, hma, hgs, hbr⟩ := hrel
  have HRun := Lib.hid hrun
  have HRK := Lib.hid hrk
  have HA := Lib.hid hma
  have HGS := Lib.hid hgs
  have HBr := Lib.hid hbr
  have hwo := hbr.size
  clear hrun hrk hma hgs hbr
  have hsm := dgs_small (N := N) (c := c) hNN (by omega)
  have HROW0 := Lib.hid (run_rows_up HRun.out (show c ≤ m + 1 by omega) HN.out)
  by_cases hcm : c < m
  case neg =>
   obtain rfl : c = m := by omega
   have HDG := Lib.hid (run_diag HRun.out HRK.out).1
   have rall := Lib.hid (fun (x y : Nat) (hx : x < c) (hy : y < c + 1) => (Rg.of ((HROW0.out x hx).fw hy)).mono (show dgs N c ≤ 14000000000 by omega))
   go_wp2_with fail
   go_loopw [10, 11] (fun so i wr => ∃ (k : Nat) (L : List Num) (sv : Value), sv = so ∧ i = .int .i64 k ∧ k ≤ c ∧ rBuildN wo.heap.size wr so L k (fun i => s.A i c / s.A i i) ∧ Below wo.heap.size wo wr) (fun _ i _ => c - (intOf i).toNat)
   case atStart => exact ⟨0, [], _, rfl, rfl, Nat.zero_le _, rBuildN.start _ _ _, Below.refl _ _⟩
   case round =>
    obtain ⟨k, L, so, rfl, rfl, hk, hbn, hbw⟩ := hrel
    have HQ := Lib.hid hbn
    have HW := Lib.hid hbw
    clear hbn hbw
    by_cases hkc : k < c
    case neg =>
     obtain rfl : k = c := by omega
     have HLT := Lib.hid HQ.out.own.own.lt
     obtain ⟨aq, cq, rfl, hr⟩ := HQ.out.rats
     have HR := Lib.hid hr
     clear hr
     go_wp2
     go_ret
     exact ⟨s, aq, cq, rfl, HRun.out, HR.out, fun g hg => Nat.le_trans hB (Nat.le_trans hwo (HLT.out g hg).1), HBr.out.trans (HW.out.mono (Nat.le_trans hB hwo))⟩
    have hki : (k : Int) < (c : Int) := by omega
    have hkc1 : (k : Int) < (c : Int) + 1 := by omega
    have hcc1 : (c : Int) < (c : Int) + 1 := by omega
    have HAk := Lib.hid (HA.out.below HW.out)
    have q1 := HAk.out.head k hkc
    obtain ⟨x, hx4, hxq⟩ := (HAk.out.row k hkc).elem (show c < c + 1 by omega)
    obtain ⟨x0, x1, x2, x3⟩ := hx4
    obtain ⟨y, hy4, hyq⟩ := (HAk.out.row k hkc).elem (show k < c + 1 by omega)
    obtain ⟨y0, y1, y2, y3⟩ := hy4
    have HX := Lib.hid (show RRatR wr (.agg #[.bool x.n1, .slice x.a1 x.k1 x.c1, .bool x.n2, .slice x.a2 x.k2 x.c2]) (s.A k c) from hxq)
    have HY := Lib.hid (show RRatR wr (.agg #[.bool y.n1, .slice y.a1 y.k1 y.c1, .bool y.n2, .slice y.a2 y.k2 y.c2]) (s.A k k) from hyq)
    have rx := rall.out k c hkc (by omega)
    have ry := rall.out k k hkc (by omega)
    have NZ := Lib.hid (HDG.out k hkc)
    have hql := HQ.out.len
    have hsw := HW.out.size
    clear hxq hyq
    go_wp2_with fail
    go_cut [12] (fun s12 wx => BlkS wr.heap.size (s.A k c / s.A k k) s12 wx ∧ Below wr.heap.size wr wx)
    case first =>
     have Yq1 := Lib.hid q1
     have Yx0 := Lib.hid x0
     have Yx1 := Lib.hid x1
     have Yx2 := Lib.hid x2
     have Yx3 := Lib.hid x3
     have Yy0 := Lib.hid y0
     have Yy1 := Lib.hid y1
     have Yy2 := Lib.hid y2
     have Yy3 := Lib.hid y3
     clear q1 x0 x1 x2 x3 y0 y1 y2 y3
     have HLS := Lib.hid (fun (w' : World) (hb : Below wr.heap.size wr w') => (⟨keepc hb Yq1.out, keepc hb Yx0.out, keepc hb Yx1.out, keepc hb Yx2.out, keepc hb Yx3.out, keepc hb Yy0.out, keepc hb Yy1.out, keepc hb Yy2.out, keepc hb Yy3.out⟩ : w'.cell? ⟨G, k, none⟩ = some (.slice (some ⟨g k, 0, none⟩) (c + 1) (cp k)) ∧ w'.cell? ⟨g k, c * 4, none⟩ = some (.bool x.n1) ∧ w'.cell? ⟨g k, c * 4 + 1, none⟩ = some (.slice x.a1 x.k1 x.c1) ∧ w'.cell? ⟨g k, c * 4 + 2, none⟩ = some (.bool x.n2) ∧ w'.cell? ⟨g k, c * 4 + 3, none⟩ = some (.slice x.a2 x.k2 x.c2) ∧ w'.cell? ⟨g k, k * 4, none⟩ = some (.bool y.n1) ∧ w'.cell? ⟨g k, k * 4 + 1, none⟩ = some (.slice y.a1 y.k1 y.c1) ∧ w'.cell? ⟨g k, k * 4 + 2, none⟩ = some (.bool y.n2) ∧ w'.cell? ⟨g k, k * 4 + 3, none⟩ = some (.slice y.a2 y.k2 y.c2)))
     have HDR := Lib.hid (Below.drew (Below.refl wr.heap.size wr))
     refine wp_region_held_drew (S := fun w' => w'.cell? ⟨G, k, none⟩ = some (.slice (some ⟨g k, 0, none⟩) (c + 1) (cp k)) ∧ w'.cell? ⟨g k, c * 4, none⟩ = some (.bool x.n1) ∧ w'.cell? ⟨g k, c * 4 + 1, none⟩ = some (.slice x.a1 x.k1 x.c1) ∧ w'.cell? ⟨g k, c * 4 + 2, none⟩ = some (.bool x.n2) ∧ w'.cell? ⟨g k, c * 4 + 3, none⟩ = some (.slice x.a2 x.k2 x.c2) ∧ w'.cell? ⟨g k, k * 4, none⟩ = some (.bool y.n1) ∧ w'.cell? ⟨g k, k * 4 + 1, none⟩ = some (.slice y.a1 y.k1 y.c1) ∧ w'.cell? ⟨g k, k * 4 + 2, none⟩ = some (.bool y.n2) ∧ w'.cell? ⟨g k, k * 4 + 3, none⟩ = some (.slice y.a2 y.k2 y.c2)) (by kernel_rfl) ?_ (fun hHeld => ?_)
     ·exact HLS.out _ HDR.out
     (try dsimp only at hHeld)
     refine wpAnyH_take (i := 0) (oi := (⟨some 129, .move (.tmp 0), 71, "ref.go:75", #[], none⟩ : Oper)) (v := ?y1_1_v) rfl (by kernel_rfl) (by kernel_rfl) (by kernel_rfl) (fun _ _ _ h => h) (Or.inl ⟨by rfl, ?y1_1_h⟩) hHeld ?y1_1_r
     case y1_1_h => (intro w hSw; (try dsimp only at hSw); go_simp; all_goals with_reducible rfl)
     (try simp only [Act.put, List.setIfInBounds_toArray, List.set_cons_zero, List.set_cons_succ])
     refine wpAnyH_take (i := 1) (oi := (⟨some 130, .move (.tmp 11), 3, "ref.go:75", #[], none⟩ : Oper)) (v := ?y1_2_v) rfl (by kernel_rfl) (by kernel_rfl) (by kernel_rfl) (fun _ _ _ h => h) (Or.inl ⟨by rfl, ?y1_2_h⟩) hHeld ?y1_2_r
     case y1_2_h => (intro w hSw; (try dsimp only at hSw); go_simp; all_goals with_reducible rfl)
     (try simp only [Act.put, List.setIfInBounds_toArray, List.set_cons_zero, List.set_cons_succ])
     refine wpAnyH_take (i := 2) (oi := (⟨some 131, .indexAddr 71 (.tmp 129) (.tmp 130), 0, "ref.go:75", #[⟨0, .data⟩, ⟨1, .data⟩], none⟩ : Oper)) (v := ?y1_3_v) rfl (by kernel_rfl) (by kernel_rfl) (by kernel_rfl) (fun _ _ _ h => h) (Or.inl ⟨by rfl, ?y1_3_h⟩) hHeld ?y1_3_r
     case y1_3_h => (intro w hSw; (try dsimp only at hSw); go_simp; all_goals with_reducible rfl)
     (try simp only [Act.put, List.setIfInBounds_toArray, List.set_cons_zero, List.set_cons_succ])
     refine wpAnyH_take (i := 3) (oi := (⟨some 132, .load 76 (.tmp 131), 76, "ref.go:75", #[⟨2, .data⟩], none⟩ : Oper)) (v := ?y1_4_v) rfl (by kernel_rfl) (by kernel_rfl) (by kernel_rfl) (fun _ _ _ h => h) (Or.inl ⟨by rfl, ?y1_4_h⟩) hHeld ?y1_4_r
     case y1_4_h => (intro w hSw; (try dsimp only at hSw); go_simp; all_goals with_reducible rfl)
     (try simp only [Act.put, List.setIfInBounds_toArray, List.set_cons_zero, List.set_cons_succ])
     refine wpAnyH_take (i := 4) (oi := (⟨some 133, .move (.tmp 3), 3, "ref.go:75", #[], none⟩ : Oper)) (v := ?y1_5_v) rfl (by kernel_rfl) (by kernel_rfl) (by kernel_rfl) (fun _ _ _ h => h) (Or.inl ⟨by rfl, ?y1_5_h⟩) hHeld ?y1_5_r
     case y1_5_h => (intro w hSw; (try dsimp only at hSw); go_simp; all_goals with_reducible rfl)
     (try simp only [Act.put, List.setIfInBounds_toArray, List.set_cons_zero, List.set_cons_succ])
     refine wpAnyH_take (i := 5) (oi := (⟨some 134, .indexAddr 76 (.tmp 132) (.tmp 133), 0, "ref.go:75", #[⟨3, .data⟩, ⟨4, .data⟩], none⟩ : Oper)) (v := ?y1_6_v) rfl (by kernel_rfl) (by kernel_rfl) (by kernel_rfl) (fun _ _ _ h => h) (Or.inl ⟨by rfl, ?y1_6_h⟩) hHeld ?y1_6_r
     case y1_6_h => (intro w hSw; (try dsimp only at hSw); go_simp; all_goals with_reducible rfl)
     (try simp only [Act.put, List.setIfInBounds_toArray, List.set_cons_zero, List.set_cons_succ])
     refine wpAnyH_take (i := 6) (oi := (⟨some 135, .load 86 (.tmp 134), 86, "ref.go:75", #[⟨5, .data⟩], none⟩ : Oper)) (v := ?y1_7_v) rfl (by kernel_rfl) (by kernel_rfl) (by kernel_rfl) (fun _ _ _ h => h) (Or.inl ⟨by rfl, ?y1_7_h⟩) hHeld ?y1_7_r
     case y1_7_h => (intro w hSw; (try dsimp only at hSw); go_simp; all_goals with_reducible rfl)
     (try simp only [Act.put, List.setIfInBounds_toArray, List.set_cons_zero, List.set_cons_succ])
     refine wpAnyH_take (i := 7) (oi := (⟨some 136, .move (.tmp 0), 71, "ref.go:75", #[], none⟩ : Oper)) (v := ?y1_8_v) rfl (by kernel_rfl) (by kernel_rfl) (by kernel_rfl) (fun _ _ _ h => h) (Or.inl ⟨by rfl, ?y1_8_h⟩) hHeld ?y1_8_r
     case y1_8_h => (intro w hSw; (try dsimp only at hSw); go_simp; all_goals with_reducible rfl)
     (try simp only [Act.put, List.setIfInBounds_toArray, List.set_cons_zero, List.set_cons_succ])
     refine wpAnyH_take (i := 8) (oi := (⟨some 137, .move (.tmp 11), 3, "ref.go:75", #[], none⟩ : Oper)) (v := ?y1_9_v) rfl (by kernel_rfl) (by kernel_rfl) (by kernel_rfl) (fun _ _ _ h => h) (Or.inl ⟨by rfl, ?y1_9_h⟩) hHeld ?y1_9_r
     case y1_9_h => (intro w hSw; (try dsimp only at hSw); go_simp; all_goals with_reducible rfl)
     (try simp only [Act.put, List.setIfInBounds_toArray, List.set_cons_zero, List.set_cons_succ])
     refine wpAnyH_take (i := 9) (oi := (⟨some 138, .indexAddr 71 (.tmp 136) (.tmp 137), 0, "ref.go:75", #[⟨7, .data⟩, ⟨8, .data⟩], none⟩ : Oper)) (v := ?y1_10_v) rfl (by kernel_rfl) (by kernel_rfl) (by kernel_rfl) (fun _ _ _ h => h) (Or.inl ⟨by rfl, ?y1_10_h⟩) hHeld ?y1_10_r
     case y1_10_h => (intro w hSw; (try dsimp only at hSw); go_simp; all_goals with_reducible rfl)
     (try simp only [Act.put, List.setIfInBounds_toArray, List.set_cons_zero, List.set_cons_succ])
     refine wpAnyH_take (i := 10) (oi := (⟨some 139, .load 76 (.tmp 138), 76, "ref.go:75", #[⟨9, .data⟩], none⟩ : Oper)) (v := ?y1_11_v) rfl (by kernel_rfl) (by kernel_rfl) (by kernel_rfl) (fun _ _ _ h => h) (Or.inl ⟨by rfl, ?y1_11_h⟩) hHeld ?y1_11_r
     case y1_11_h => (intro w hSw; (try dsimp only at hSw); go_simp; all_goals with_reducible rfl)
     (try simp only [Act.put, List.setIfInBounds_toArray, List.set_cons_zero, List.set_cons_succ])
     refine wpAnyH_take (i := 11) (oi := (⟨some 140, .move (.tmp 11), 3, "ref.go:75", #[], none⟩ : Oper)) (v := ?y1_12_v) rfl (by kernel_rfl) (by kernel_rfl) (by kernel_rfl) (fun _ _ _ h => h) (Or.inl ⟨by rfl, ?y1_12_h⟩) hHeld ?y1_12_r
     case y1_12_h => (intro w hSw; (try dsimp only at hSw); go_simp; all_goals with_reducible rfl)
     (try simp only [Act.put, List.setIfInBounds_toArray, List.set_cons_zero, List.set_cons_succ])
     refine wpAnyH_take (i := 12) (oi := (⟨some 141, .indexAddr 76 (.tmp 139) (.tmp 140), 0, "ref.go:75", #[⟨10, .data⟩, ⟨11, .data⟩], none⟩ : Oper)) (v := ?y1_13_v) rfl (by kernel_rfl) (by kernel_rfl) (by kernel_rfl) (fun _ _ _ h => h) (Or.inl ⟨by rfl, ?y1_13_h⟩) hHeld ?y1_13_r
     case y1_13_h => (intro w hSw; (try dsimp only at hSw); go_simp; all_goals with_reducible rfl)
     (try simp only [Act.put, List.setIfInBounds_toArray, List.set_cons_zero, List.set_cons_succ])
     refine wpAnyH_take (i := 13) (oi := (⟨some 142, .load 86 (.tmp 141), 86, "ref.go:75", #[⟨12, .data⟩], none⟩ : Oper)) (v := ?y1_14_v) rfl (by kernel_rfl) (by kernel_rfl) (by kernel_rfl) (fun _ _ _ h => h) (Or.inl ⟨by rfl, ?y1_14_h⟩) hHeld ?y1_14_r
     case y1_14_h => (intro w hSw; (try dsimp only at hSw); go_simp; all_goals with_reducible rfl)
     (try simp only [Act.put, List.setIfInBounds_toArray, List.set_cons_zero, List.set_cons_succ])
     refine wpAnyH_ready (rs := [14, 18]) (by kernel_rfl) (by simp) ?_
     refine AllReadyH.cons (o := (⟨some 143, .call { callee := .value (.func 131), args := #[.tmp 135, .tmp 142], argTypes := #[86, 86] }, 87, "ref.go:75", #[⟨6, .data⟩, ⟨13, .data⟩], none⟩ : Oper)) rfl (fun K hK => ?_) (AllReadyH.cons (o := (⟨some 12, .alloc 86, 0, "ref.go:75", #[], none⟩ : Oper)) rfl (fun K hK => ?_) AllReadyH.nil)
     ·go_simp
      (go_at_call 131; (with_reducible refine ((rratdiv_any (HX.out.below (by first | exact HDR.out | exact HZ18.out)) (HY.out.below (by first | exact HDR.out | exact HZ18.out)) rx ry (by decide) NZ.out).mono fun _ _ h => h.plain).mono ?_); rintro en u14 ⟨m1, b1, j1, d1, m2, b2, j2, d2, rfl, hx, hb⟩; have HV := Lib.hid hx; have HZ14 := Lib.hid (bt HDR.out hb); clear hx hb)
      first | refine hK.out _ _ ?_ (fun hHeld => ?_) | (go_wp2_with fail; refine hK.out _ _ ?_ (fun hHeld => ?_))
      ·exact HLS.out _ HZ14.out
      clear hK K
      (try dsimp only at hHeld)
      (try simp only [Act.put, List.setIfInBounds_toArray, List.set_cons_zero, List.set_cons_succ])
      refine wpAnyH_take (i := 15) (oi := (⟨some 128, .move (.tmp 143), 87, "ref.go:75", #[⟨14, .data⟩], none⟩ : Oper)) (v := ?y1_15_v) rfl (by kernel_rfl) (by kernel_rfl) (by kernel_rfl) (fun _ _ _ h => h) (Or.inl ⟨by rfl, ?y1_15_h⟩) hHeld ?y1_15_r
      case y1_15_h => (intro w hSw; (try dsimp only at hSw); go_simp; all_goals with_reducible rfl)
      (try simp only [Act.put, List.setIfInBounds_toArray, List.set_cons_zero, List.set_cons_succ])
      refine wpAnyH_take (i := 16) (oi := (⟨some 144, .extract (.tmp 128) 0, 86, "ref.go:75", #[⟨15, .data⟩], none⟩ : Oper)) (v := ?y1_16_v) rfl (by kernel_rfl) (by kernel_rfl) (by kernel_rfl) (fun _ _ _ h => h) (Or.inl ⟨by rfl, ?y1_16_h⟩) hHeld ?y1_16_r
      case y1_16_h => (intro w hSw; (try dsimp only at hSw); go_simp; all_goals with_reducible rfl)
      (try simp only [Act.put, List.setIfInBounds_toArray, List.set_cons_zero, List.set_cons_succ])
      refine wpAnyH_take (i := 17) (oi := (⟨some 145, .extract (.tmp 128) 1, 27, "ref.go:75", #[⟨15, .data⟩, ⟨19, .gcOnly .lateStores⟩], none⟩ : Oper)) (v := ?y1_17_v) rfl (by kernel_rfl) (by kernel_rfl) (by kernel_rfl) (fun _ _ _ h => h) (Or.inl ⟨by rfl, ?y1_17_h⟩) hHeld ?y1_17_r
      case y1_17_h => (intro w hSw; (try dsimp only at hSw); go_simp; all_goals with_reducible rfl)
      (try simp only [Act.put, List.setIfInBounds_toArray, List.set_cons_zero, List.set_cons_succ])
      refine wpAnyH_ready (rs := [18]) (by kernel_rfl) (by simp) ?_
      refine AllReadyH.cons (o := (⟨some 12, .alloc 86, 0, "ref.go:75", #[], none⟩ : Oper)) rfl (fun K hK => ?_) AllReadyH.nil
      go_simp
      (obtain ⟨u18, hW, hs, hb, hx⟩ := alloc1 u14 (.cells #[.bool false, .slice none 0 0, .bool false, .slice none 0 0] 86); rw [← hW]; have HZ18 := Lib.hid (bt HZ14.out hb); have HA := Lib.hid hx; have hla := HZ14.out.size; replace HV := Lib.hid (HV.out.below hb); clear hW hs hb hx)
      first | refine hK.out _ _ ?_ (fun hHeld => ?_) | (go_wp2_with fail; refine hK.out _ _ ?_ (fun hHeld => ?_))
      ·exact HLS.out _ HZ18.out
      clear hK K
      (try dsimp only at hHeld)
      (try simp only [Act.put, List.setIfInBounds_toArray, List.set_cons_zero, List.set_cons_succ])
      refine wpAnyH_ready (rs := [19]) (by kernel_rfl) (by simp) ?_
      refine AllReadyH.cons (o := (⟨none, .store 86 (.tmp 12) (.tmp 144), 0, "ref.go:75", #[⟨18, .data⟩, ⟨16, .data⟩, ⟨14, .chain⟩, ⟨0, .phase⟩, ⟨1, .phase⟩, ⟨2, .phase⟩, ⟨3, .phase⟩, ⟨4, .phase⟩, ⟨5, .phase⟩, ⟨6, .phase⟩, ⟨7, .phase⟩, ⟨8, .phase⟩, ⟨9, .phase⟩, ⟨10, .phase⟩, ⟨11, .phase⟩, ⟨12, .phase⟩, ⟨13, .phase⟩, ⟨14, .phase⟩, ⟨15, .phase⟩, ⟨16, .phase⟩, ⟨17, .textOnly .lateStores⟩, ⟨18, .phase⟩], none⟩ : Oper)) rfl (fun K hK => ?_) AllReadyH.nil
      (obtain ⟨⟨d0_, d1_, d2_, d3_⟩, e0_, e1_, e2_, e3_⟩ := res4_facts HA.out; go_simp)
      first | refine hK.out _ _ ?_ (fun hHeld => ?_) | (go_wp2_with fail; refine hK.out _ _ ?_ (fun hHeld => ?_))
      ·exact HLS.out _ (held_set4 HZ18.out hla)
      clear hK K
      (try dsimp only at hHeld)
      (try simp only [Act.put, List.setIfInBounds_toArray, List.set_cons_zero, List.set_cons_succ])
      refine wpAnyH_take (i := 20) (oi := (⟨some 13, .assign (.tmp 145), 27, "ref.go:75", #[⟨17, .data⟩, ⟨19, .chain⟩, ⟨0, .phase⟩, ⟨1, .phase⟩, ⟨2, .phase⟩, ⟨3, .phase⟩, ⟨4, .phase⟩, ⟨5, .phase⟩, ⟨6, .phase⟩, ⟨7, .phase⟩, ⟨8, .phase⟩, ⟨9, .phase⟩, ⟨10, .phase⟩, ⟨11, .phase⟩, ⟨12, .phase⟩, ⟨13, .phase⟩, ⟨14, .phase⟩, ⟨15, .phase⟩, ⟨16, .phase⟩, ⟨17, .phase⟩, ⟨18, .phase⟩, ⟨19, .phase⟩], none⟩ : Oper)) (v := ?y1_18_v) rfl (by kernel_rfl) (by kernel_rfl) (by kernel_rfl) (fun _ _ _ h => h) (Or.inl ⟨by rfl, ?y1_18_h⟩) hHeld ?y1_18_r
      case y1_18_h => (intro w hSw; (try dsimp only at hSw); go_simp; all_goals with_reducible rfl)
      (try simp only [Act.put, List.setIfInBounds_toArray, List.set_cons_zero, List.set_cons_succ])
      refine wpAnyH_done (by kernel_rfl) ?_ _
      go_wp2_with fail
      go_meet
      exact ⟨⟨_, m1, b1, j1, d1, m2, b2, j2, d2, rfl, res4_set HA.out, HV.out.stay set4_stay (noInt_one (noInt4 HA.out)), hla⟩, held_set4 HZ18.out hla⟩
     ·go_simp
      (obtain ⟨u18, hW, hs, hb, hx⟩ := alloc1_d wr (.cells #[.bool false, .slice none 0 0, .bool false, .slice none 0 0] 86); rw [← hW]; have HZ18 := Lib.hid (hb); have HA := Lib.hid hx; have hla := HDR.out.size; clear hW hs hb hx)
      first | refine hK.out _ _ ?_ (fun hHeld => ?_) | (go_wp2_with fail; refine hK.out _ _ ?_ (fun hHeld => ?_))
      ·exact HLS.out _ HZ18.out
      clear hK K
      (try dsimp only at hHeld)
      (try simp only [Act.put, List.setIfInBounds_toArray, List.set_cons_zero, List.set_cons_succ])
      refine wpAnyH_ready (rs := [14]) (by kernel_rfl) (by simp) ?_
      refine AllReadyH.cons (o := (⟨some 143, .call { callee := .value (.func 131), args := #[.tmp 135, .tmp 142], argTypes := #[86, 86] }, 87, "ref.go:75", #[⟨6, .data⟩, ⟨13, .data⟩], none⟩ : Oper)) rfl (fun K hK => ?_) AllReadyH.nil
      go_simp
      (go_at_call 131; (with_reducible refine ((rratdiv_any (HX.out.below (by first | exact HDR.out | exact HZ18.out)) (HY.out.below (by first | exact HDR.out | exact HZ18.out)) rx ry (by decide) NZ.out).mono fun _ _ h => h.plain).mono ?_); rintro en u14 ⟨m1, b1, j1, d1, m2, b2, j2, d2, rfl, hx, hb⟩; have HV := Lib.hid hx; have HZ14 := Lib.hid (bt HZ18.out hb); replace HA := Lib.hid (blk_next HA.out hb); clear hx hb)
      first | refine hK.out _ _ ?_ (fun hHeld => ?_) | (go_wp2_with fail; refine hK.out _ _ ?_ (fun hHeld => ?_))
      ·exact HLS.out _ HZ14.out
      clear hK K
      (try dsimp only at hHeld)
      (try simp only [Act.put, List.setIfInBounds_toArray, List.set_cons_zero, List.set_cons_succ])
      refine wpAnyH_take (i := 15) (oi := (⟨some 128, .move (.tmp 143), 87, "ref.go:75", #[⟨14, .data⟩], none⟩ : Oper)) (v := ?y1_19_v) rfl (by kernel_rfl) (by kernel_rfl) (by kernel_rfl) (fun _ _ _ h => h) (Or.inl ⟨by rfl, ?y1_19_h⟩) hHeld ?y1_19_r
      case y1_19_h => (intro w hSw; (try dsimp only at hSw); go_simp; all_goals with_reducible rfl)
      (try simp only [Act.put, List.setIfInBounds_toArray, List.set_cons_zero, List.set_cons_succ])
      refine wpAnyH_take (i := 16) (oi := (⟨some 144, .extract (.tmp 128) 0, 86, "ref.go:75", #[⟨15, .data⟩], none⟩ : Oper)) (v := ?y1_20_v) rfl (by kernel_rfl) (by kernel_rfl) (by kernel_rfl) (fun _ _ _ h => h) (Or.inl ⟨by rfl, ?y1_20_h⟩) hHeld ?y1_20_r
      case y1_20_h => (intro w hSw; (try dsimp only at hSw); go_simp; all_goals with_reducible rfl)
      (try simp only [Act.put, List.setIfInBounds_toArray, List.set_cons_zero, List.set_cons_succ])
      refine wpAnyH_take (i := 17) (oi := (⟨some 145, .extract (.tmp 128) 1, 27, "ref.go:75", #[⟨15, .data⟩, ⟨19, .gcOnly .lateStores⟩], none⟩ : Oper)) (v := ?y1_21_v) rfl (by kernel_rfl) (by kernel_rfl) (by kernel_rfl) (fun _ _ _ h => h) (Or.inl ⟨by rfl, ?y1_21_h⟩) hHeld ?y1_21_r
      case y1_21_h => (intro w hSw; (try dsimp only at hSw); go_simp; all_goals with_reducible rfl)
      (try simp only [Act.put, List.setIfInBounds_toArray, List.set_cons_zero, List.set_cons_succ])
      refine wpAnyH_ready (rs := [19]) (by kernel_rfl) (by simp) ?_
      refine AllReadyH.cons (o := (⟨none, .store 86 (.tmp 12) (.tmp 144), 0, "ref.go:75", #[⟨18, .data⟩, ⟨16, .data⟩, ⟨14, .chain⟩, ⟨0, .phase⟩, ⟨1, .phase⟩, ⟨2, .phase⟩, ⟨3, .phase⟩, ⟨4, .phase⟩, ⟨5, .phase⟩, ⟨6, .phase⟩, ⟨7, .phase⟩, ⟨8, .phase⟩, ⟨9, .phase⟩, ⟨10, .phase⟩, ⟨11, .phase⟩, ⟨12, .phase⟩, ⟨13, .phase⟩, ⟨14, .phase⟩, ⟨15, .phase⟩, ⟨16, .phase⟩, ⟨17, .textOnly .lateStores⟩, ⟨18, .phase⟩], none⟩ : Oper)) rfl (fun K hK => ?_) AllReadyH.nil
      (obtain ⟨⟨d0_, d1_, d2_, d3_⟩, e0_, e1_, e2_, e3_⟩ := res4_facts HA.out; go_simp)
      first | refine hK.out _ _ ?_ (fun hHeld => ?_) | (go_wp2_with fail; refine hK.out _ _ ?_ (fun hHeld => ?_))
      ·exact HLS.out _ (held_set4 HZ14.out hla)
      clear hK K
      (try dsimp only at hHeld)
      (try simp only [Act.put, List.setIfInBounds_toArray, List.set_cons_zero, List.set_cons_succ])
      refine wpAnyH_take (i := 20) (oi := (⟨some 13, .assign (.tmp 145), 27, "ref.go:75", #[⟨17, .data⟩, ⟨19, .chain⟩, ⟨0, .phase⟩, ⟨1, .phase⟩, ⟨2, .phase⟩, ⟨3, .phase⟩, ⟨4, .phase⟩, ⟨5, .phase⟩, ⟨6, .phase⟩, ⟨7, .phase⟩, ⟨8, .phase⟩, ⟨9, .phase⟩, ⟨10, .phase⟩, ⟨11, .phase⟩, ⟨12, .phase⟩, ⟨13, .phase⟩, ⟨14, .phase⟩, ⟨15, .phase⟩, ⟨16, .phase⟩, ⟨17, .phase⟩, ⟨18, .phase⟩, ⟨19, .phase⟩], none⟩ : Oper)) (v := ?y1_22_v) rfl (by kernel_rfl) (by kernel_rfl) (by kernel_rfl) (fun _ _ _ h => h) (Or.inl ⟨by rfl, ?y1_22_h⟩) hHeld ?y1_22_r
      case y1_22_h => (intro w hSw; (try dsimp only at hSw); go_simp; all_goals with_reducible rfl)
      (try simp only [Act.put, List.setIfInBounds_toArray, List.set_cons_zero, List.set_cons_succ])
      refine wpAnyH_done (by kernel_rfl) ?_ _
      go_wp2_with fail
      go_meet
      exact ⟨⟨_, m1, b1, j1, d1, m2, b2, j2, d2, rfl, res4_set HA.out, HV.out.stay set4_stay (noInt_one (noInt4 HA.out)), hla⟩, held_set4 HZ14.out hla⟩
    case rest =>
    obtain ⟨⟨gz, t1, t2, t3, t4, t5, t6, t7, t8, rfl, hblk, hx, hgb⟩, hbc⟩ := hcut
    rename World => w3
    obtain ⟨⟨p0, p1, p2, p3⟩, _⟩ := res4_facts hblk
    have hb4 := allocs_below1 w3 (.cells #[.bool t1, .slice t2 t3 t4, .bool t5, .slice t6 t7 t8] 86)
    have hal := heap_alloc_new w3 (.cells #[.bool t1, .slice t2 t3 t4, .bool t5, .slice t6 t7 t8] 86)
    have HAL := Lib.hid hal
    have HO := Lib.hid ((HQ.out.below hbc).below hb4)
    have HT3 := Lib.hid (show rRatN _ ⟨t1, t2, t3, t4, t5, t6, t7, t8⟩ (s.A k c / s.A k k) from RRatR.below hx hb4)
    have HB4 := Lib.hid (bt (bt HW.out hbc) hb4)
    have hs3 := (bt HW.out hbc).size
    clear hx hb4 hal hblk hbc q1 x0 x1 x2 x3 y0 y1 y2 y3 HX HY HAk
    go_wp2_with (at_builtin; refine wpList_append_good (G := notInt) _ rfl _ _ 76 rfl wo.heap.size 86 ti2 (.agg #[.bool false, .slice none 0 0, .bool false, .slice none 0 0]) 4 64 Tryz.underlying76 hi2 hz20 hz21 hz22 rfl (by decide) so L.length (flat L) rfl HO.out.own.good ⟨w3.heap.size, 0, none⟩ 1 1 (flat [⟨t1, t2, t3, t4, t5, t6, t7, t8⟩]) rfl rfl ?_ (fun u hu => (flat_one u hu).1) (by unfold maxLen; omega) (by omega) (by simp; omega) (fun u hu => (flat_one u hu).2) zero_notInt ?_)
    ·first | exact row_cells (x := ⟨t1, t2, t3, t4, t5, t6, t7, t8⟩) HAL.out | (intro jj u hu; have := row_cells (x := ⟨t1, t2, t3, t4, t5, t6, t7, t8⟩) HAL.out jj u hu; simpa [Addr.add] using this) | exact fun _ _ hq => hq
    ·intro v4 w4 ho hg _
     have HR4 := Lib.hid (rBuildN.snoc HO.out (by rw [hql]; exact ho.noInts) hg HT3.out)
     have HB9 := Lib.hid (grown_below HB4.out HO.out.own.own hg (Nat.le_refl _) (by simp; omega))
     clear ho hg HO HB4 HAL HT3 p0 p1 p2 p3
     go_wp2
     go_roundw
     case rel => exact ⟨k + 1, _, _, rfl, by go_num, by omega, HR4.out, HB9.out⟩
     case measure => (first | (simp [intOf]; omega) | (change c - (Int.toNat ((k + 1 : Nat) : Int)) < c - (Int.toNat (k : Int)); omega) | (change c - (Int.toNat ((k : Int) + 1)) < c - (Int.toNat (k : Int)); omega) | (trace_state; omega))
  have hci : (c : Int) < (m : Int) := by omega
  have hcm1 : (c : Int) < (m : Int) + 1 := by omega
  go_wp2_with fail
  go_loopw [5] (fun i wi => ∃ (p : Nat), i = .int .i64 p ∧ c ≤ p ∧ p < m ∧ (∀ x, c ≤ x → x < p → s.A x c = 0) ∧ Below wo.heap.size wo wi) (fun i _ => m - (intOf i).toNat)
  case atStart => exact ⟨c, rfl, Nat.le_refl _, hcm, fun x h1 h2 => by omega, Below.refl _ _⟩
  case round =>
   obtain ⟨p, rfl, hp1, hp2, hz, hbi⟩ := hrel
   have HAi := Lib.hid (HA.out.below hbi)
   have HBI := Lib.hid hbi
   have HZC := Lib.hid hz
   clear hbi hz
   have hpi : (p : Int) < (m : Int) := by omega
   have hpf : ((p : Int) == (m : Int)) = false := by rw [beq_eq_false_iff_ne]; omega
   have q1 := HAi.out.head p hp2
   obtain ⟨x, hx4, hxq⟩ := (HAi.out.row p hp2).elem (show c < m + 1 by omega)
   obtain ⟨x0, x1, x2, x3⟩ := hx4
   have HX := Lib.hid (show RRatR wr (.agg #[.bool x.n1, .slice x.a1 x.k1 x.c1, .bool x.n2, .slice x.a2 x.k2 x.c2]) (s.A p c) from hxq)
   clear hxq
   by_cases hz0 : s.A p c = 0
   ·have hlt : p + 1 < m := by
     rcases Nat.lt_or_ge (p + 1) m with q | q
     ·exact q
     ·exact (HPV.out c s HRun.out HRK.out hcm (fun j h1 h2 => by
       by_cases e : j = p
       ·rw [e]; exact hz0
       ·exact HZC.out j h1 (by omega))).elim
    have HZ2 := Lib.hid (show ∀ x, c ≤ x → x < p + 1 → s.A x c = 0 from fun x h1 h2 => by
     by_cases e : x = p
     ·rw [e]; exact hz0
     ·exact HZC.out x h1 (by omega))
    have HSG := Lib.hid (show (s.A p c).num.sign = 0 from by rw [hz0]; rfl)
    clear hz0
    go_wp2_with (go_at_call 130; (with_reducible refine (rratsign_any HX.out).mono ?_); rintro e w1 ⟨rfl, hb1⟩; rw [HSG.out]; have HB1 := Lib.hid (bt HBI.out hb1); clear hb1)
    go_roundw
    case rel => exact ⟨p + 1, by go_num, by omega, hlt, HZ2.out, HB1.out⟩
    case measure => (simp [intOf]; omega)
   have NZ := Lib.hid hz0
   obtain ⟨sg, hsg⟩ : ∃ sg, (s.A p c).num.sign = sg := ⟨_, rfl⟩
   have HSG := Lib.hid hsg
   have hks : (sg == 0) = false := by
    rw [beq_eq_false_iff_ne, ← hsg]
    intro e
    exact hz0 (Rat.num_eq_zero.1 (Int.sign_eq_zero_iff_zero.1 e))
   clear hz0 hsg
   go_wp2_with (go_at_call 130; (with_reducible refine (rratsign_any HX.out).mono ?_); rintro e w1 ⟨rfl, hb1⟩; rw [HSG.out]; have HB1 := Lib.hid hb1; clear hb1 q1 x0 x1 x2 x3)
   have HA1 := Lib.hid (HAi.out.below HB1.out)
   have q1 := HA1.out.head p hp2
   have q2 := HA1.out.head c hcm
   have q3 := HA1.out.headFree p
   have q4 := HA1.out.headFree c
   obtain ⟨cur, T, h1, _⟩ := HA1.out.outer
   have s1 := Joins.block_setCell (i := c) h1 (.slice (some ⟨g p, 0, none⟩) (m + 1) (cp p))
   have zp := cell_size h1 q1
   obtain ⟨X0, q5⟩ : ∃ X0, (w1.setCell ⟨G, c, none⟩ (.slice (some ⟨g p, 0, none⟩) (m + 1) (cp p))).cell? ⟨G, p, none⟩ = some X0 := ⟨_, by rw [Lib.cell_of_heap s1]; exact Array.getElem?_eq_getElem (by simpa using zp)⟩
   have q6 : (w1.setCell ⟨G, c, none⟩ (.slice (some ⟨g p, 0, none⟩) (m + 1) (cp p))).frozen? ⟨G, p, none⟩ = false := Lib.frozen_of_heap s1 p
   clear h1 s1 zp
   go_region
   obtain ⟨X, hX⟩ : ∃ X, X = (w1.setCell ⟨G, c, none⟩ (.slice (some ⟨g p, 0, none⟩) (m + 1) (cp p))).setCell ⟨G, p, none⟩ (.slice (some ⟨g c, 0, none⟩) (m + 1) (cp c)) := ⟨_, rfl⟩
   rw [← hX]
   have hst : Stay G (G + 1) w1 X := by rw [hX]; exact ((Stay.refl _ _ _).setCell (Nat.le_refl _) (Nat.lt_succ_self _) _ _).setCell (Nat.le_refl _) (Nat.lt_succ_self _) _ _
   obtain ⟨g2, hg2⟩ : ∃ g2, (fun a => g (swapI c p a)) = g2 := ⟨_, rfl⟩
   obtain ⟨cp2, hcp2⟩ : ∃ cp2, (fun a => cp (swapI c p a)) = cp2 := ⟨_, rfl⟩
   obtain ⟨A2, hA2⟩ : ∃ A2, swapR s.A c p = A2 := ⟨_, rfl⟩
   obtain ⟨w10, hw10⟩ : ∃ w10, X.drew = w10 := ⟨_, rfl⟩
   have HAs := Lib.hid (show MatX w10 G m (m + 1) g2 cp2 A2 from by rw [← hw10, ← hg2, ← hcp2, ← hA2, hX]; exact (HA1.out.swap hcm hp2).below (Below.drew (Below.refl _ _)))
   have HGc := Lib.hid (show ∀ x, x < m → B ≤ g2 x ∧ g2 x < w.heap.size from fun x hx => by
    rw [← hg2]
    refine HGS.out _ ?_
    unfold swapI; split <;> (try split) <;> omega)
   have HBs := Lib.hid (show Below B w w10 from by
    rw [← hw10]
    exact (HBr.out.trans ((bt HBI.out HB1.out).mono (by omega))).trans ((hst.below hBG (by have := (bt HBI.out HB1.out).size; omega)).drew))
   have hw0 : w.heap.size ≤ w10.heap.size := HBs.out.size
   have hpv : A2 c c = s.A p c := by rw [← hA2, swapR_comm, swapR_pivot]
   have NZP := Lib.hid (show A2 c c ≠ 0 from by rw [hpv]; exact NZ.out)
   have HROW := Lib.hid (show ∀ x, x < m → RowD (dgs N c) (m + 1) (A2 x) from by rw [← hA2]; exact swap_rows hcm hp2 HROW0.out)
   have rall := Lib.hid (fun (x y : Nat) (hx : x < m) (hy : y < m + 1) => (Rg.of ((HROW.out x hx).fw hy)).mono (show dgs N c ≤ 14000000000 by omega))
   have HSTEP := Lib.hid (show ∃ d, Run upR m A (c + 1) ⟨upFrom A2 c c, c + 1, d⟩ from by
    have h1 := step_from HRun.out HRK.out hp1 hp2 HZC.out NZ.out
    rw [swapR_comm, hA2] at h1
    exact ⟨_, h1⟩)
   rw [hw10]
   clear hX hst hg2 hcp2 hA2 hw10 hpv NZ HSG hks q1 q2 q3 q4 q5 q6 HA1 HB1 HAi HBI HZC HX HA HGS HRun HRK HBr
   go_wp2_with fail
   go_loopw [6] (fun i wr => ∃ (a : Nat), i = .int .i64 a ∧ a ≤ m ∧ MatX wr G m (m + 1) g2 cp2 (upFromIn A2 c c a 0) ∧ OnlyP (RowsP m g2) w10 wr) (fun i _ => m - (intOf i).toNat)
   case atStart => exact ⟨0, rfl, Nat.zero_le _, by rw [upFromIn_start]; exact HAs.out, OnlyP.refl _ _⟩
   case round =>
    obtain ⟨a, rfl, ha, hma, hon⟩ := hrel
    have HR := Lib.hid hma
    have HO := Lib.hid hon
    clear hma hon HAs
    by_cases ham0 : a = m
    ·have hai : ¬ (a : Int) < (m : Int) := by omega
     have HE := Lib.hid (HR.out.congr (B := upFrom A2 c c) (fun x hx y hy => by rw [ham0]; exact upFromIn_done hx))
     have HB11 := Lib.hid (HBs.out.trans (HO.out.below (fun b ⟨i, hi, e⟩ => by have := (HGc.out i hi).1; omega) (by have := HBs.out.size; omega)))
     obtain ⟨d, hd⟩ := HSTEP.out
     have HS := Lib.hid hd
     clear hd HR HO
     go_wp2
     go_roundw
     case rel => exact ⟨c + 1, ⟨upFrom A2 c c, c + 1, d⟩, g2, cp2, by go_num, by omega, HS.out, rfl, HE.out, HGc.out, HB11.out⟩
     case measure => (simp [intOf]; omega)
    have ham : a < m := by omega
    have hai : (a : Int) < (m : Int) := by omega
    by_cases hac : a = c
    ·have e1 : ((a : Int) == (c : Int)) = true := by rw [hac]; exact beq_self_eq_true _
     have HN1 := Lib.hid (HR.out.congr (B := upFromIn A2 c c (a + 1) 0) (fun x hx y hy => upFromIn_skip (.inl hac)))
     clear HR hac
     go_wp2
     go_roundw
     case rel => exact ⟨a + 1, by go_num, by omega, HN1.out, HO.out⟩
     case measure => (simp [intOf]; omega)
    have e1 : ((a : Int) == (c : Int)) = false := by rw [beq_eq_false_iff_ne]; omega
    have q1 := HR.out.head a ham
    obtain ⟨x, hx4, hxq⟩ := (HR.out.row a ham).elem (show c < m + 1 by omega)
    obtain ⟨x0, x1, x2, x3⟩ := hx4
    rw [upFromIn_here (Nat.zero_le _)] at hxq
    have HX := Lib.hid (show RRatR wr (.agg #[.bool x.n1, .slice x.a1 x.k1 x.c1, .bool x.n2, .slice x.a2 x.k2 x.c2]) (A2 a c) from hxq)
    clear hxq
    by_cases haz : A2 a c = 0
    ·have HN1 := Lib.hid (HR.out.congr (B := upFromIn A2 c c (a + 1) 0) (fun x hx y hy => upFromIn_skip (.inr haz)))
     have HSG := Lib.hid (show (A2 a c).num.sign = 0 from by rw [haz]; rfl)
     clear haz HR hac
     go_wp2_with (go_at_call 130; (with_reducible refine (rratsign_any HX.out).mono ?_); rintro e w1 ⟨rfl, hb1⟩; rw [HSG.out]; have HN2 := Lib.hid (HN1.out.below hb1); have HO1 := Lib.hid (HO.out.next hb1); clear hb1)
     go_roundw
     case rel => exact ⟨a + 1, by go_num, by omega, HN2.out, HO1.out⟩
     case measure => (simp [intOf]; omega)
    obtain ⟨sg, hsg⟩ : ∃ sg, (A2 a c).num.sign = sg := ⟨_, rfl⟩
    have HSG := Lib.hid hsg
    have hks : (sg == 0) = false := by
     rw [beq_eq_false_iff_ne, ← hsg]
     intro e
     exact haz (Rat.num_eq_zero.1 (Int.sign_eq_zero_iff_zero.1 e))
    have HAC := Lib.hid hac
    clear hsg haz hac
    go_wp2_with (go_at_call 130; (with_reducible refine (rratsign_any HX.out).mono ?_); rintro e w12 ⟨rfl, hb1⟩; rw [HSG.out]; have HB1 := Lib.hid hb1; clear hb1 q1 x0 x1 x2 x3)
    replace HR := Lib.hid (HR.out.below HB1.out)
    replace HO := Lib.hid (HO.out.next HB1.out)
    replace HX := Lib.hid (HX.out.below HB1.out)
    have q1 := HR.out.head a ham
    have q2 := HR.out.head c hcm
    obtain ⟨x', hx4, hxq⟩ := (HR.out.row a ham).elem (show c < m + 1 by omega)
    obtain ⟨x0, x1, x2, x3⟩ := hx4
    rw [upFromIn_here (Nat.zero_le _)] at hxq
    have HX2 := Lib.hid (show RRatR w12 (.agg #[.bool x'.n1, .slice x'.a1 x'.k1 x'.c1, .bool x'.n2, .slice x'.a2 x'.k2 x'.c2]) (A2 a c) from hxq)
    obtain ⟨y, hy4, hyq⟩ := (HR.out.row c hcm).elem (show c < m + 1 by omega)
    obtain ⟨y0, y1, y2, y3⟩ := hy4
    rw [upFromIn_row] at hyq
    have HY := Lib.hid (show RRatR w12 (.agg #[.bool y.n1, .slice y.a1 y.k1 y.c1, .bool y.n2, .slice y.a2 y.k2 y.c2]) (A2 c c) from hyq)
    have rx := rall.out a c ham (by omega)
    have ry := rall.out c c hcm (by omega)
    have hsz12 : w.heap.size ≤ w12.heap.size := Nat.le_trans hw0 HO.out.size
    clear hxq hyq HSG hks HX HB1
    go_cut [7] (fun s7 wx => BlkS w12.heap.size (A2 a c / A2 c c) s7 wx ∧ Below w12.heap.size w12 wx)
    case first =>
     have Yq1 := Lib.hid q1
     have Yq2 := Lib.hid q2
     have Yx0 := Lib.hid x0
     have Yx1 := Lib.hid x1
     have Yx2 := Lib.hid x2
     have Yx3 := Lib.hid x3
     have Yy0 := Lib.hid y0
     have Yy1 := Lib.hid y1
     have Yy2 := Lib.hid y2
     have Yy3 := Lib.hid y3
     clear q1 q2 x0 x1 x2 x3 y0 y1 y2 y3
     have HLS := Lib.hid (fun (w' : World) (hb : Below w12.heap.size w12 w') => (⟨keepc hb Yq1.out, keepc hb Yq2.out, keepc hb Yx0.out, keepc hb Yx1.out, keepc hb Yx2.out, keepc hb Yx3.out, keepc hb Yy0.out, keepc hb Yy1.out, keepc hb Yy2.out, keepc hb Yy3.out⟩ : w'.cell? ⟨G, a, none⟩ = some (.slice (some ⟨g2 a, 0, none⟩) (m + 1) (cp2 a)) ∧ w'.cell? ⟨G, c, none⟩ = some (.slice (some ⟨g2 c, 0, none⟩) (m + 1) (cp2 c)) ∧ w'.cell? ⟨g2 a, c * 4, none⟩ = some (.bool x'.n1) ∧ w'.cell? ⟨g2 a, c * 4 + 1, none⟩ = some (.slice x'.a1 x'.k1 x'.c1) ∧ w'.cell? ⟨g2 a, c * 4 + 2, none⟩ = some (.bool x'.n2) ∧ w'.cell? ⟨g2 a, c * 4 + 3, none⟩ = some (.slice x'.a2 x'.k2 x'.c2) ∧ w'.cell? ⟨g2 c, c * 4, none⟩ = some (.bool y.n1) ∧ w'.cell? ⟨g2 c, c * 4 + 1, none⟩ = some (.slice y.a1 y.k1 y.c1) ∧ w'.cell? ⟨g2 c, c * 4 + 2, none⟩ = some (.bool y.n2) ∧ w'.cell? ⟨g2 c, c * 4 + 3, none⟩ = some (.slice y.a2 y.k2 y.c2)))
     have HDR := Lib.hid (Below.drew (Below.refl w12.heap.size w12))
     refine wp_region_held_drew (S := fun w' => w'.cell? ⟨G, a, none⟩ = some (.slice (some ⟨g2 a, 0, none⟩) (m + 1) (cp2 a)) ∧ w'.cell? ⟨G, c, none⟩ = some (.slice (some ⟨g2 c, 0, none⟩) (m + 1) (cp2 c)) ∧ w'.cell? ⟨g2 a, c * 4, none⟩ = some (.bool x'.n1) ∧ w'.cell? ⟨g2 a, c * 4 + 1, none⟩ = some (.slice x'.a1 x'.k1 x'.c1) ∧ w'.cell? ⟨g2 a, c * 4 + 2, none⟩ = some (.bool x'.n2) ∧ w'.cell? ⟨g2 a, c * 4 + 3, none⟩ = some (.slice x'.a2 x'.k2 x'.c2) ∧ w'.cell? ⟨g2 c, c * 4, none⟩ = some (.bool y.n1) ∧ w'.cell? ⟨g2 c, c * 4 + 1, none⟩ = some (.slice y.a1 y.k1 y.c1) ∧ w'.cell? ⟨g2 c, c * 4 + 2, none⟩ = some (.bool y.n2) ∧ w'.cell? ⟨g2 c, c * 4 + 3, none⟩ = some (.slice y.a2 y.k2 y.c2)) (by kernel_rfl) ?_ (fun hHeld => ?_)
     ·exact HLS.out _ HDR.out
     (try dsimp only at hHeld)
     refine wpAnyH_take (i := 0) (oi := (⟨some 77, .move (.tmp 0), 71, "ref.go:67", #[], none⟩ : Oper)) (v := ?y2_1_v) rfl (by kernel_rfl) (by kernel_rfl) (by kernel_rfl) (fun _ _ _ h => h) (Or.inl ⟨by rfl, ?y2_1_h⟩) hHeld ?y2_1_r
     case y2_1_h => (intro w hSw; (try dsimp only at hSw); go_simp; all_goals with_reducible rfl)
     (try simp only [Act.put, List.setIfInBounds_toArray, List.set_cons_zero, List.set_cons_succ])
     refine wpAnyH_take (i := 1) (oi := (⟨some 78, .move (.tmp 6), 3, "ref.go:67", #[], none⟩ : Oper)) (v := ?y2_2_v) rfl (by kernel_rfl) (by kernel_rfl) (by kernel_rfl) (fun _ _ _ h => h) (Or.inl ⟨by rfl, ?y2_2_h⟩) hHeld ?y2_2_r
     case y2_2_h => (intro w hSw; (try dsimp only at hSw); go_simp; all_goals with_reducible rfl)
     (try simp only [Act.put, List.setIfInBounds_toArray, List.set_cons_zero, List.set_cons_succ])
     refine wpAnyH_take (i := 2) (oi := (⟨some 79, .indexAddr 71 (.tmp 77) (.tmp 78), 0, "ref.go:67", #[⟨0, .data⟩, ⟨1, .data⟩], none⟩ : Oper)) (v := ?y2_3_v) rfl (by kernel_rfl) (by kernel_rfl) (by kernel_rfl) (fun _ _ _ h => h) (Or.inl ⟨by rfl, ?y2_3_h⟩) hHeld ?y2_3_r
     case y2_3_h => (intro w hSw; (try dsimp only at hSw); go_simp; all_goals with_reducible rfl)
     (try simp only [Act.put, List.setIfInBounds_toArray, List.set_cons_zero, List.set_cons_succ])
     refine wpAnyH_take (i := 3) (oi := (⟨some 80, .load 76 (.tmp 79), 76, "ref.go:67", #[⟨2, .data⟩], none⟩ : Oper)) (v := ?y2_4_v) rfl (by kernel_rfl) (by kernel_rfl) (by kernel_rfl) (fun _ _ _ h => h) (Or.inl ⟨by rfl, ?y2_4_h⟩) hHeld ?y2_4_r
     case y2_4_h => (intro w hSw; (try dsimp only at hSw); go_simp; all_goals with_reducible rfl)
     (try simp only [Act.put, List.setIfInBounds_toArray, List.set_cons_zero, List.set_cons_succ])
     refine wpAnyH_take (i := 4) (oi := (⟨some 81, .move (.tmp 4), 3, "ref.go:67", #[], none⟩ : Oper)) (v := ?y2_5_v) rfl (by kernel_rfl) (by kernel_rfl) (by kernel_rfl) (fun _ _ _ h => h) (Or.inl ⟨by rfl, ?y2_5_h⟩) hHeld ?y2_5_r
     case y2_5_h => (intro w hSw; (try dsimp only at hSw); go_simp; all_goals with_reducible rfl)
     (try simp only [Act.put, List.setIfInBounds_toArray, List.set_cons_zero, List.set_cons_succ])
     refine wpAnyH_take (i := 5) (oi := (⟨some 82, .indexAddr 76 (.tmp 80) (.tmp 81), 0, "ref.go:67", #[⟨3, .data⟩, ⟨4, .data⟩], none⟩ : Oper)) (v := ?y2_6_v) rfl (by kernel_rfl) (by kernel_rfl) (by kernel_rfl) (fun _ _ _ h => h) (Or.inl ⟨by rfl, ?y2_6_h⟩) hHeld ?y2_6_r
     case y2_6_h => (intro w hSw; (try dsimp only at hSw); go_simp; all_goals with_reducible rfl)
     (try simp only [Act.put, List.setIfInBounds_toArray, List.set_cons_zero, List.set_cons_succ])
     refine wpAnyH_take (i := 6) (oi := (⟨some 83, .load 86 (.tmp 82), 86, "ref.go:67", #[⟨5, .data⟩], none⟩ : Oper)) (v := ?y2_7_v) rfl (by kernel_rfl) (by kernel_rfl) (by kernel_rfl) (fun _ _ _ h => h) (Or.inl ⟨by rfl, ?y2_7_h⟩) hHeld ?y2_7_r
     case y2_7_h => (intro w hSw; (try dsimp only at hSw); go_simp; all_goals with_reducible rfl)
     (try simp only [Act.put, List.setIfInBounds_toArray, List.set_cons_zero, List.set_cons_succ])
     refine wpAnyH_take (i := 7) (oi := (⟨some 84, .move (.tmp 0), 71, "ref.go:67", #[], none⟩ : Oper)) (v := ?y2_8_v) rfl (by kernel_rfl) (by kernel_rfl) (by kernel_rfl) (fun _ _ _ h => h) (Or.inl ⟨by rfl, ?y2_8_h⟩) hHeld ?y2_8_r
     case y2_8_h => (intro w hSw; (try dsimp only at hSw); go_simp; all_goals with_reducible rfl)
     (try simp only [Act.put, List.setIfInBounds_toArray, List.set_cons_zero, List.set_cons_succ])
     refine wpAnyH_take (i := 8) (oi := (⟨some 85, .move (.tmp 4), 3, "ref.go:67", #[], none⟩ : Oper)) (v := ?y2_9_v) rfl (by kernel_rfl) (by kernel_rfl) (by kernel_rfl) (fun _ _ _ h => h) (Or.inl ⟨by rfl, ?y2_9_h⟩) hHeld ?y2_9_r
     case y2_9_h => (intro w hSw; (try dsimp only at hSw); go_simp; all_goals with_reducible rfl)
     (try simp only [Act.put, List.setIfInBounds_toArray, List.set_cons_zero, List.set_cons_succ])
     refine wpAnyH_take (i := 9) (oi := (⟨some 86, .indexAddr 71 (.tmp 84) (.tmp 85), 0, "ref.go:67", #[⟨7, .data⟩, ⟨8, .data⟩], none⟩ : Oper)) (v := ?y2_10_v) rfl (by kernel_rfl) (by kernel_rfl) (by kernel_rfl) (fun _ _ _ h => h) (Or.inl ⟨by rfl, ?y2_10_h⟩) hHeld ?y2_10_r
     case y2_10_h => (intro w hSw; (try dsimp only at hSw); go_simp; all_goals with_reducible rfl)
     (try simp only [Act.put, List.setIfInBounds_toArray, List.set_cons_zero, List.set_cons_succ])
     refine wpAnyH_take (i := 10) (oi := (⟨some 87, .load 76 (.tmp 86), 76, "ref.go:67", #[⟨9, .data⟩], none⟩ : Oper)) (v := ?y2_11_v) rfl (by kernel_rfl) (by kernel_rfl) (by kernel_rfl) (fun _ _ _ h => h) (Or.inl ⟨by rfl, ?y2_11_h⟩) hHeld ?y2_11_r
     case y2_11_h => (intro w hSw; (try dsimp only at hSw); go_simp; all_goals with_reducible rfl)
     (try simp only [Act.put, List.setIfInBounds_toArray, List.set_cons_zero, List.set_cons_succ])
     refine wpAnyH_take (i := 11) (oi := (⟨some 88, .move (.tmp 4), 3, "ref.go:67", #[], none⟩ : Oper)) (v := ?y2_12_v) rfl (by kernel_rfl) (by kernel_rfl) (by kernel_rfl) (fun _ _ _ h => h) (Or.inl ⟨by rfl, ?y2_12_h⟩) hHeld ?y2_12_r
     case y2_12_h => (intro w hSw; (try dsimp only at hSw); go_simp; all_goals with_reducible rfl)
     (try simp only [Act.put, List.setIfInBounds_toArray, List.set_cons_zero, List.set_cons_succ])
     refine wpAnyH_take (i := 12) (oi := (⟨some 89, .indexAddr 76 (.tmp 87) (.tmp 88), 0, "ref.go:67", #[⟨10, .data⟩, ⟨11, .data⟩], none⟩ : Oper)) (v := ?y2_13_v) rfl (by kernel_rfl) (by kernel_rfl) (by kernel_rfl) (fun _ _ _ h => h) (Or.inl ⟨by rfl, ?y2_13_h⟩) hHeld ?y2_13_r
     case y2_13_h => (intro w hSw; (try dsimp only at hSw); go_simp; all_goals with_reducible rfl)
     (try simp only [Act.put, List.setIfInBounds_toArray, List.set_cons_zero, List.set_cons_succ])
     refine wpAnyH_take (i := 13) (oi := (⟨some 90, .load 86 (.tmp 89), 86, "ref.go:67", #[⟨12, .data⟩], none⟩ : Oper)) (v := ?y2_14_v) rfl (by kernel_rfl) (by kernel_rfl) (by kernel_rfl) (fun _ _ _ h => h) (Or.inl ⟨by rfl, ?y2_14_h⟩) hHeld ?y2_14_r
     case y2_14_h => (intro w hSw; (try dsimp only at hSw); go_simp; all_goals with_reducible rfl)
     (try simp only [Act.put, List.setIfInBounds_toArray, List.set_cons_zero, List.set_cons_succ])
     refine wpAnyH_ready (rs := [14, 18]) (by kernel_rfl) (by simp) ?_
     refine AllReadyH.cons (o := (⟨some 91, .call { callee := .value (.func 131), args := #[.tmp 83, .tmp 90], argTypes := #[86, 86] }, 87, "ref.go:67", #[⟨6, .data⟩, ⟨13, .data⟩], none⟩ : Oper)) rfl (fun K hK => ?_) (AllReadyH.cons (o := (⟨some 7, .alloc 86, 0, "ref.go:67", #[], none⟩ : Oper)) rfl (fun K hK => ?_) AllReadyH.nil)
     ·go_simp
      (go_at_call 131; (with_reducible refine ((rratdiv_any (HX2.out.below (by first | exact HDR.out | exact HZ18.out)) (HY.out.below (by first | exact HDR.out | exact HZ18.out)) rx ry (by decide) NZP.out).mono fun _ _ h => h.plain).mono ?_); rintro en u14 ⟨m1, b1, j1, d1, m2, b2, j2, d2, rfl, hx, hb⟩; have HV := Lib.hid hx; have HZ14 := Lib.hid (bt HDR.out hb); clear hx hb)
      first | refine hK.out _ _ ?_ (fun hHeld => ?_) | (go_wp2_with fail; refine hK.out _ _ ?_ (fun hHeld => ?_))
      ·exact HLS.out _ HZ14.out
      clear hK K
      (try dsimp only at hHeld)
      (try simp only [Act.put, List.setIfInBounds_toArray, List.set_cons_zero, List.set_cons_succ])
      refine wpAnyH_take (i := 15) (oi := (⟨some 76, .move (.tmp 91), 87, "ref.go:67", #[⟨14, .data⟩], none⟩ : Oper)) (v := ?y2_15_v) rfl (by kernel_rfl) (by kernel_rfl) (by kernel_rfl) (fun _ _ _ h => h) (Or.inl ⟨by rfl, ?y2_15_h⟩) hHeld ?y2_15_r
      case y2_15_h => (intro w hSw; (try dsimp only at hSw); go_simp; all_goals with_reducible rfl)
      (try simp only [Act.put, List.setIfInBounds_toArray, List.set_cons_zero, List.set_cons_succ])
      refine wpAnyH_take (i := 16) (oi := (⟨some 92, .extract (.tmp 76) 0, 86, "ref.go:67", #[⟨15, .data⟩], none⟩ : Oper)) (v := ?y2_16_v) rfl (by kernel_rfl) (by kernel_rfl) (by kernel_rfl) (fun _ _ _ h => h) (Or.inl ⟨by rfl, ?y2_16_h⟩) hHeld ?y2_16_r
      case y2_16_h => (intro w hSw; (try dsimp only at hSw); go_simp; all_goals with_reducible rfl)
      (try simp only [Act.put, List.setIfInBounds_toArray, List.set_cons_zero, List.set_cons_succ])
      refine wpAnyH_take (i := 17) (oi := (⟨some 93, .extract (.tmp 76) 1, 27, "ref.go:67", #[⟨15, .data⟩, ⟨19, .gcOnly .lateStores⟩], none⟩ : Oper)) (v := ?y2_17_v) rfl (by kernel_rfl) (by kernel_rfl) (by kernel_rfl) (fun _ _ _ h => h) (Or.inl ⟨by rfl, ?y2_17_h⟩) hHeld ?y2_17_r
      case y2_17_h => (intro w hSw; (try dsimp only at hSw); go_simp; all_goals with_reducible rfl)
      (try simp only [Act.put, List.setIfInBounds_toArray, List.set_cons_zero, List.set_cons_succ])
      refine wpAnyH_ready (rs := [18]) (by kernel_rfl) (by simp) ?_
      refine AllReadyH.cons (o := (⟨some 7, .alloc 86, 0, "ref.go:67", #[], none⟩ : Oper)) rfl (fun K hK => ?_) AllReadyH.nil
      go_simp
      (obtain ⟨u18, hW, hs, hb, hx⟩ := alloc1 u14 (.cells #[.bool false, .slice none 0 0, .bool false, .slice none 0 0] 86); rw [← hW]; have HZ18 := Lib.hid (bt HZ14.out hb); have HA := Lib.hid hx; have hla := HZ14.out.size; replace HV := Lib.hid (HV.out.below hb); clear hW hs hb hx)
      first | refine hK.out _ _ ?_ (fun hHeld => ?_) | (go_wp2_with fail; refine hK.out _ _ ?_ (fun hHeld => ?_))
      ·exact HLS.out _ HZ18.out
      clear hK K
      (try dsimp only at hHeld)
      (try simp only [Act.put, List.setIfInBounds_toArray, List.set_cons_zero, List.set_cons_succ])
      refine wpAnyH_ready (rs := [19]) (by kernel_rfl) (by simp) ?_
      refine AllReadyH.cons (o := (⟨none, .store 86 (.tmp 7) (.tmp 92), 0, "ref.go:67", #[⟨18, .data⟩, ⟨16, .data⟩, ⟨14, .chain⟩, ⟨0, .phase⟩, ⟨1, .phase⟩, ⟨2, .phase⟩, ⟨3, .phase⟩, ⟨4, .phase⟩, ⟨5, .phase⟩, ⟨6, .phase⟩, ⟨7, .phase⟩, ⟨8, .phase⟩, ⟨9, .phase⟩, ⟨10, .phase⟩, ⟨11, .phase⟩, ⟨12, .phase⟩, ⟨13, .phase⟩, ⟨14, .phase⟩, ⟨15, .phase⟩, ⟨16, .phase⟩, ⟨17, .textOnly .lateStores⟩, ⟨18, .phase⟩], none⟩ : Oper)) rfl (fun K hK => ?_) AllReadyH.nil
      (obtain ⟨⟨d0_, d1_, d2_, d3_⟩, e0_, e1_, e2_, e3_⟩ := res4_facts HA.out; go_simp)
      first | refine hK.out _ _ ?_ (fun hHeld => ?_) | (go_wp2_with fail; refine hK.out _ _ ?_ (fun hHeld => ?_))
      ·exact HLS.out _ (held_set4 HZ18.out hla)
      clear hK K
      (try dsimp only at hHeld)
      (try simp only [Act.put, List.setIfInBounds_toArray, List.set_cons_zero, List.set_cons_succ])
      refine wpAnyH_take (i := 20) (oi := (⟨some 8, .assign (.tmp 93), 27, "ref.go:67", #[⟨17, .data⟩, ⟨19, .chain⟩, ⟨0, .phase⟩, ⟨1, .phase⟩, ⟨2, .phase⟩, ⟨3, .phase⟩, ⟨4, .phase⟩, ⟨5, .phase⟩, ⟨6, .phase⟩, ⟨7, .phase⟩, ⟨8, .phase⟩, ⟨9, .phase⟩, ⟨10, .phase⟩, ⟨11, .phase⟩, ⟨12, .phase⟩, ⟨13, .phase⟩, ⟨14, .phase⟩, ⟨15, .phase⟩, ⟨16, .phase⟩, ⟨17, .phase⟩, ⟨18, .phase⟩, ⟨19, .phase⟩], none⟩ : Oper)) (v := ?y2_18_v) rfl (by kernel_rfl) (by kernel_rfl) (by kernel_rfl) (fun _ _ _ h => h) (Or.inl ⟨by rfl, ?y2_18_h⟩) hHeld ?y2_18_r
      case y2_18_h => (intro w hSw; (try dsimp only at hSw); go_simp; all_goals with_reducible rfl)
      (try simp only [Act.put, List.setIfInBounds_toArray, List.set_cons_zero, List.set_cons_succ])
      refine wpAnyH_done (by kernel_rfl) ?_ _
      go_wp2_with fail
      go_meet
      exact ⟨⟨_, m1, b1, j1, d1, m2, b2, j2, d2, rfl, res4_set HA.out, HV.out.stay set4_stay (noInt_one (noInt4 HA.out)), hla⟩, held_set4 HZ18.out hla⟩
     ·go_simp
      (obtain ⟨u18, hW, hs, hb, hx⟩ := alloc1_d w12 (.cells #[.bool false, .slice none 0 0, .bool false, .slice none 0 0] 86); rw [← hW]; have HZ18 := Lib.hid (hb); have HA := Lib.hid hx; have hla := HDR.out.size; clear hW hs hb hx)
      first | refine hK.out _ _ ?_ (fun hHeld => ?_) | (go_wp2_with fail; refine hK.out _ _ ?_ (fun hHeld => ?_))
      ·exact HLS.out _ HZ18.out
      clear hK K
      (try dsimp only at hHeld)
      (try simp only [Act.put, List.setIfInBounds_toArray, List.set_cons_zero, List.set_cons_succ])
      refine wpAnyH_ready (rs := [14]) (by kernel_rfl) (by simp) ?_
      refine AllReadyH.cons (o := (⟨some 91, .call { callee := .value (.func 131), args := #[.tmp 83, .tmp 90], argTypes := #[86, 86] }, 87, "ref.go:67", #[⟨6, .data⟩, ⟨13, .data⟩], none⟩ : Oper)) rfl (fun K hK => ?_) AllReadyH.nil
      go_simp
      (go_at_call 131; (with_reducible refine ((rratdiv_any (HX2.out.below (by first | exact HDR.out | exact HZ18.out)) (HY.out.below (by first | exact HDR.out | exact HZ18.out)) rx ry (by decide) NZP.out).mono fun _ _ h => h.plain).mono ?_); rintro en u14 ⟨m1, b1, j1, d1, m2, b2, j2, d2, rfl, hx, hb⟩; have HV := Lib.hid hx; have HZ14 := Lib.hid (bt HZ18.out hb); replace HA := Lib.hid (blk_next HA.out hb); clear hx hb)
      first | refine hK.out _ _ ?_ (fun hHeld => ?_) | (go_wp2_with fail; refine hK.out _ _ ?_ (fun hHeld => ?_))
      ·exact HLS.out _ HZ14.out
      clear hK K
      (try dsimp only at hHeld)
      (try simp only [Act.put, List.setIfInBounds_toArray, List.set_cons_zero, List.set_cons_succ])
      refine wpAnyH_take (i := 15) (oi := (⟨some 76, .move (.tmp 91), 87, "ref.go:67", #[⟨14, .data⟩], none⟩ : Oper)) (v := ?y2_19_v) rfl (by kernel_rfl) (by kernel_rfl) (by kernel_rfl) (fun _ _ _ h => h) (Or.inl ⟨by rfl, ?y2_19_h⟩) hHeld ?y2_19_r
      case y2_19_h => (intro w hSw; (try dsimp only at hSw); go_simp; all_goals with_reducible rfl)
      (try simp only [Act.put, List.setIfInBounds_toArray, List.set_cons_zero, List.set_cons_succ])
      refine wpAnyH_take (i := 16) (oi := (⟨some 92, .extract (.tmp 76) 0, 86, "ref.go:67", #[⟨15, .data⟩], none⟩ : Oper)) (v := ?y2_20_v) rfl (by kernel_rfl) (by kernel_rfl) (by kernel_rfl) (fun _ _ _ h => h) (Or.inl ⟨by rfl, ?y2_20_h⟩) hHeld ?y2_20_r
      case y2_20_h => (intro w hSw; (try dsimp only at hSw); go_simp; all_goals with_reducible rfl)
      (try simp only [Act.put, List.setIfInBounds_toArray, List.set_cons_zero, List.set_cons_succ])
      refine wpAnyH_take (i := 17) (oi := (⟨some 93, .extract (.tmp 76) 1, 27, "ref.go:67", #[⟨15, .data⟩, ⟨19, .gcOnly .lateStores⟩], none⟩ : Oper)) (v := ?y2_21_v) rfl (by kernel_rfl) (by kernel_rfl) (by kernel_rfl) (fun _ _ _ h => h) (Or.inl ⟨by rfl, ?y2_21_h⟩) hHeld ?y2_21_r
      case y2_21_h => (intro w hSw; (try dsimp only at hSw); go_simp; all_goals with_reducible rfl)
      (try simp only [Act.put, List.setIfInBounds_toArray, List.set_cons_zero, List.set_cons_succ])
      refine wpAnyH_ready (rs := [19]) (by kernel_rfl) (by simp) ?_
      refine AllReadyH.cons (o := (⟨none, .store 86 (.tmp 7) (.tmp 92), 0, "ref.go:67", #[⟨18, .data⟩, ⟨16, .data⟩, ⟨14, .chain⟩, ⟨0, .phase⟩, ⟨1, .phase⟩, ⟨2, .phase⟩, ⟨3, .phase⟩, ⟨4, .phase⟩, ⟨5, .phase⟩, ⟨6, .phase⟩, ⟨7, .phase⟩, ⟨8, .phase⟩, ⟨9, .phase⟩, ⟨10, .phase⟩, ⟨11, .phase⟩, ⟨12, .phase⟩, ⟨13, .phase⟩, ⟨14, .phase⟩, ⟨15, .phase⟩, ⟨16, .phase⟩, ⟨17, .textOnly .lateStores⟩, ⟨18, .phase⟩], none⟩ : Oper)) rfl (fun K hK => ?_) AllReadyH.nil
      (obtain ⟨⟨d0_, d1_, d2_, d3_⟩, e0_, e1_, e2_, e3_⟩ := res4_facts HA.out; go_simp)
      first | refine hK.out _ _ ?_ (fun hHeld => ?_) | (go_wp2_with fail; refine hK.out _ _ ?_ (fun hHeld => ?_))
      ·exact HLS.out _ (held_set4 HZ14.out hla)
      clear hK K
      (try dsimp only at hHeld)
      (try simp only [Act.put, List.setIfInBounds_toArray, List.set_cons_zero, List.set_cons_succ])
      refine wpAnyH_take (i := 20) (oi := (⟨some 8, .assign (.tmp 93), 27, "ref.go:67", #[⟨17, .data⟩, ⟨19, .chain⟩, ⟨0, .phase⟩, ⟨1, .phase⟩, ⟨2, .phase⟩, ⟨3, .phase⟩, ⟨4, .phase⟩, ⟨5, .phase⟩, ⟨6, .phase⟩, ⟨7, .phase⟩, ⟨8, .phase⟩, ⟨9, .phase⟩, ⟨10, .phase⟩, ⟨11, .phase⟩, ⟨12, .phase⟩, ⟨13, .phase⟩, ⟨14, .phase⟩, ⟨15, .phase⟩, ⟨16, .phase⟩, ⟨17, .phase⟩, ⟨18, .phase⟩, ⟨19, .phase⟩], none⟩ : Oper)) (v := ?y2_22_v) rfl (by kernel_rfl) (by kernel_rfl) (by kernel_rfl) (fun _ _ _ h => h) (Or.inl ⟨by rfl, ?y2_22_h⟩) hHeld ?y2_22_r
      case y2_22_h => (intro w hSw; (try dsimp only at hSw); go_simp; all_goals with_reducible rfl)
      (try simp only [Act.put, List.setIfInBounds_toArray, List.set_cons_zero, List.set_cons_succ])
      refine wpAnyH_done (by kernel_rfl) ?_ _
      go_wp2_with fail
      go_meet
      exact ⟨⟨_, m1, b1, j1, d1, m2, b2, j2, d2, rfl, res4_set HA.out, HV.out.stay set4_stay (noInt_one (noInt4 HA.out)), hla⟩, held_set4 HZ14.out hla⟩
    case rest =>
    obtain ⟨⟨g7, f1, f2, f3, f4, f5, f6, f7, f8, rfl, hblk, hx, hgb⟩, hbc⟩ := hcut
    rename World => w11
    have HFB := Lib.hid hblk
    have HF11 := Lib.hid hx
    have HR11 := Lib.hid (HR.out.below hbc)
    have HO11 := Lib.hid (HO.out.next hbc)
    have rf := Rg.div rx ry
    clear hblk hx hbc q1 q2 x0 x1 x2 x3 y0 y1 y2 y3 HX2 HY HR HO
    go_wp2_with fail
    go_loopw [9] (fun i wr => ∃ (k : Nat), i = .int .i64 k ∧ c ≤ k ∧ k ≤ m + 1 ∧ MatX wr G m (m + 1) g2 cp2 (upFromIn A2 c c a k) ∧ OnlyP (RowsP m g2) w11 wr) (fun i _ => m + 1 - (intOf i).toNat)
    case atStart => exact ⟨c, rfl, Nat.le_refl _, by omega, by rw [← upFromIn_from]; exact HR11.out, OnlyP.refl _ _⟩
    case round =>
     obtain ⟨k, rfl, hk1, hk2, hma, hon⟩ := hrel
     have HR := Lib.hid hma
     have HO := Lib.hid hon
     clear hma hon
     by_cases hkn : k = m + 1
     ·have hki : ¬ (k : Int) ≤ (m : Int) := by omega
      have HN1 := Lib.hid (HR.out.congr (B := upFromIn A2 c c (a + 1) 0) (fun x hx y hy => by rw [hkn]; exact upFromIn_next hy))
      have HO1 := Lib.hid (HO11.out.trans HO.out)
      clear HR HO hkn
      go_wp2
      go_roundw
      case rel => exact ⟨a + 1, by go_num, by omega, HN1.out, HO1.out⟩
      case measure => (simp [intOf]; omega)
     have hkl : k < m + 1 := by omega
     have hki : (k : Int) ≤ (m : Int) := by omega
     have hki2 : (k : Int) < (m : Int) + 1 := by omega
     have hnv : ¬ RowsP m g2 g7 := fun ⟨i, hi, e⟩ => by have := (HGc.out i hi).2; omega
     have HFk := Lib.hid (HO.out.heap hnv HFB.out)
     have HF := Lib.hid (HF11.out.onlyP HO.out HR11.out.noInt)
     obtain ⟨⟨v0, v1, v2, v3⟩, _, _, _, _⟩ := res4_facts HFk.out
     have q1 := HR.out.head a ham
     have q2 := HR.out.head c hcm
     obtain ⟨x, hx4, hxq⟩ := (HR.out.row a ham).elem hkl
     obtain ⟨x0, x1, x2, x3⟩ := hx4
     rw [upFromIn_here (Nat.le_refl _)] at hxq
     obtain ⟨p, hp4, hpq⟩ := (HR.out.row c hcm).elem hkl
     obtain ⟨p0, p1, p2, p3⟩ := hp4
     rw [upFromIn_row] at hpq
     have HX := Lib.hid (show RRatR wr (.agg #[.bool x.n1, .slice x.a1 x.k1 x.c1, .bool x.n2, .slice x.a2 x.k2 x.c2]) (A2 a k) from hxq)
     have HP := Lib.hid (show RRatR wr (.agg #[.bool p.n1, .slice p.a1 p.k1 p.c1, .bool p.n2, .slice p.a2 p.k2 p.c2]) (A2 c k) from hpq)
     have rp : Rg (2 * 14000000000 + 1) (A2 c k) := (rall.out c k hcm hkl).mono (by decide)
     have rm := Rg.mul rf rp
     have rx2 : Rg (2 * (2 * 14000000000 + 1) + 1) (A2 a k) := (rall.out a k ham hkl).mono (by decide)
     clear hxq hpq hnv
     go_wp2_with fail
     have hg1 := HR.out.apart a ham
     have hg2 := (HGc.out a ham).2
     have hg3 : g2 c ≠ g2 a := fun q => HAC.out (HR.out.inj c a hcm ham q).symm
     have HL := Lib.hid (fun (w' : World) (hs : Stay (g2 a) ((g2 a) + 1) wr w') => (⟨hs.cell (by omega) q1, hs.cell (by omega) q2, hs.cell (.inr (by omega)) v0, hs.cell (.inr (by omega)) v1, hs.cell (.inr (by omega)) v2, hs.cell (.inr (by omega)) v3, hs.cell (by omega) p0, hs.cell (by omega) p1, hs.cell (by omega) p2, hs.cell (by omega) p3⟩ : w'.cell? ⟨G, a, none⟩ = some (.slice (some ⟨g2 a, 0, none⟩) (m + 1) (cp2 a)) ∧ w'.cell? ⟨G, c, none⟩ = some (.slice (some ⟨g2 c, 0, none⟩) (m + 1) (cp2 c)) ∧ w'.cell? ⟨g7, 0, none⟩ = some (.bool f1) ∧ w'.cell? ⟨g7, 1, none⟩ = some (.slice f2 f3 f4) ∧ w'.cell? ⟨g7, 2, none⟩ = some (.bool f5) ∧ w'.cell? ⟨g7, 3, none⟩ = some (.slice f6 f7 f8) ∧ w'.cell? ⟨g2 c, k * 4, none⟩ = some (.bool p.n1) ∧ w'.cell? ⟨g2 c, k * 4 + 1, none⟩ = some (.slice p.a1 p.k1 p.c1) ∧ w'.cell? ⟨g2 c, k * 4 + 2, none⟩ = some (.bool p.n2) ∧ w'.cell? ⟨g2 c, k * 4 + 3, none⟩ = some (.slice p.a2 p.k2 p.c2)))
     have HS0 := Lib.hid (Stay.refl (g2 a) ((g2 a) + 1) wr)
     refine wp_region_held_drew (S := fun w' => w'.cell? ⟨G, a, none⟩ = some (.slice (some ⟨g2 a, 0, none⟩) (m + 1) (cp2 a)) ∧ w'.cell? ⟨G, c, none⟩ = some (.slice (some ⟨g2 c, 0, none⟩) (m + 1) (cp2 c)) ∧ w'.cell? ⟨g7, 0, none⟩ = some (.bool f1) ∧ w'.cell? ⟨g7, 1, none⟩ = some (.slice f2 f3 f4) ∧ w'.cell? ⟨g7, 2, none⟩ = some (.bool f5) ∧ w'.cell? ⟨g7, 3, none⟩ = some (.slice f6 f7 f8) ∧ w'.cell? ⟨g2 c, k * 4, none⟩ = some (.bool p.n1) ∧ w'.cell? ⟨g2 c, k * 4 + 1, none⟩ = some (.slice p.a1 p.k1 p.c1) ∧ w'.cell? ⟨g2 c, k * 4 + 2, none⟩ = some (.bool p.n2) ∧ w'.cell? ⟨g2 c, k * 4 + 3, none⟩ = some (.slice p.a2 p.k2 p.c2)) (by kernel_rfl) ?_ (fun hHeld => ?_)
     ·exact HL.out _ (Stay.drew HS0.out)
     (try dsimp only at hHeld)
     refine wpAnyH_take (i := 0) (oi := (⟨some 100, .move (.tmp 0), 71, "ref.go:69", #[], none⟩ : Oper)) (v := ?y3_1_v) rfl (by kernel_rfl) (by kernel_rfl) (by kernel_rfl) (fun _ _ _ h => h) (Or.inl ⟨by rfl, ?y3_1_h⟩) hHeld ?y3_1_r
     case y3_1_h => (intro w hSw; (try dsimp only at hSw); go_simp; all_goals with_reducible rfl)
     (try simp only [Act.put, List.setIfInBounds_toArray, List.set_cons_zero, List.set_cons_succ])
     refine wpAnyH_take (i := 1) (oi := (⟨some 101, .move (.tmp 6), 3, "ref.go:69", #[], none⟩ : Oper)) (v := ?y3_2_v) rfl (by kernel_rfl) (by kernel_rfl) (by kernel_rfl) (fun _ _ _ h => h) (Or.inl ⟨by rfl, ?y3_2_h⟩) hHeld ?y3_2_r
     case y3_2_h => (intro w hSw; (try dsimp only at hSw); go_simp; all_goals with_reducible rfl)
     (try simp only [Act.put, List.setIfInBounds_toArray, List.set_cons_zero, List.set_cons_succ])
     refine wpAnyH_take (i := 2) (oi := (⟨some 102, .indexAddr 71 (.tmp 100) (.tmp 101), 0, "ref.go:69", #[⟨0, .data⟩, ⟨1, .data⟩], none⟩ : Oper)) (v := ?y3_3_v) rfl (by kernel_rfl) (by kernel_rfl) (by kernel_rfl) (fun _ _ _ h => h) (Or.inl ⟨by rfl, ?y3_3_h⟩) hHeld ?y3_3_r
     case y3_3_h => (intro w hSw; (try dsimp only at hSw); go_simp; all_goals with_reducible rfl)
     (try simp only [Act.put, List.setIfInBounds_toArray, List.set_cons_zero, List.set_cons_succ])
     refine wpAnyH_take (i := 3) (oi := (⟨some 103, .load 76 (.tmp 102), 76, "ref.go:69", #[⟨2, .data⟩], none⟩ : Oper)) (v := ?y3_4_v) rfl (by kernel_rfl) (by kernel_rfl) (by kernel_rfl) (fun _ _ _ h => h) (Or.inl ⟨by rfl, ?y3_4_h⟩) hHeld ?y3_4_r
     case y3_4_h => (intro w hSw; (try dsimp only at hSw); go_simp; all_goals with_reducible rfl)
     (try simp only [Act.put, List.setIfInBounds_toArray, List.set_cons_zero, List.set_cons_succ])
     refine wpAnyH_take (i := 4) (oi := (⟨some 104, .move (.tmp 9), 3, "ref.go:69", #[], none⟩ : Oper)) (v := ?y3_5_v) rfl (by kernel_rfl) (by kernel_rfl) (by kernel_rfl) (fun _ _ _ h => h) (Or.inl ⟨by rfl, ?y3_5_h⟩) hHeld ?y3_5_r
     case y3_5_h => (intro w hSw; (try dsimp only at hSw); go_simp; all_goals with_reducible rfl)
     (try simp only [Act.put, List.setIfInBounds_toArray, List.set_cons_zero, List.set_cons_succ])
     refine wpAnyH_take (i := 5) (oi := (⟨some 105, .move (.tmp 0), 71, "ref.go:69", #[], none⟩ : Oper)) (v := ?y3_6_v) rfl (by kernel_rfl) (by kernel_rfl) (by kernel_rfl) (fun _ _ _ h => h) (Or.inl ⟨by rfl, ?y3_6_h⟩) hHeld ?y3_6_r
     case y3_6_h => (intro w hSw; (try dsimp only at hSw); go_simp; all_goals with_reducible rfl)
     (try simp only [Act.put, List.setIfInBounds_toArray, List.set_cons_zero, List.set_cons_succ])
     refine wpAnyH_take (i := 6) (oi := (⟨some 106, .move (.tmp 6), 3, "ref.go:69", #[], none⟩ : Oper)) (v := ?y3_7_v) rfl (by kernel_rfl) (by kernel_rfl) (by kernel_rfl) (fun _ _ _ h => h) (Or.inl ⟨by rfl, ?y3_7_h⟩) hHeld ?y3_7_r
     case y3_7_h => (intro w hSw; (try dsimp only at hSw); go_simp; all_goals with_reducible rfl)
     (try simp only [Act.put, List.setIfInBounds_toArray, List.set_cons_zero, List.set_cons_succ])
     refine wpAnyH_take (i := 7) (oi := (⟨some 107, .indexAddr 71 (.tmp 105) (.tmp 106), 0, "ref.go:69", #[⟨5, .data⟩, ⟨6, .data⟩], none⟩ : Oper)) (v := ?y3_8_v) rfl (by kernel_rfl) (by kernel_rfl) (by kernel_rfl) (fun _ _ _ h => h) (Or.inl ⟨by rfl, ?y3_8_h⟩) hHeld ?y3_8_r
     case y3_8_h => (intro w hSw; (try dsimp only at hSw); go_simp; all_goals with_reducible rfl)
     (try simp only [Act.put, List.setIfInBounds_toArray, List.set_cons_zero, List.set_cons_succ])
     refine wpAnyH_take (i := 8) (oi := (⟨some 108, .load 76 (.tmp 107), 76, "ref.go:69", #[⟨7, .data⟩], none⟩ : Oper)) (v := ?y3_9_v) rfl (by kernel_rfl) (by kernel_rfl) (by kernel_rfl) (fun _ _ _ h => h) (Or.inl ⟨by rfl, ?y3_9_h⟩) hHeld ?y3_9_r
     case y3_9_h => (intro w hSw; (try dsimp only at hSw); go_simp; all_goals with_reducible rfl)
     (try simp only [Act.put, List.setIfInBounds_toArray, List.set_cons_zero, List.set_cons_succ])
     refine wpAnyH_take (i := 9) (oi := (⟨some 109, .move (.tmp 9), 3, "ref.go:69", #[], none⟩ : Oper)) (v := ?y3_10_v) rfl (by kernel_rfl) (by kernel_rfl) (by kernel_rfl) (fun _ _ _ h => h) (Or.inl ⟨by rfl, ?y3_10_h⟩) hHeld ?y3_10_r
     case y3_10_h => (intro w hSw; (try dsimp only at hSw); go_simp; all_goals with_reducible rfl)
     (try simp only [Act.put, List.setIfInBounds_toArray, List.set_cons_zero, List.set_cons_succ])
     refine wpAnyH_take (i := 10) (oi := (⟨some 110, .indexAddr 76 (.tmp 108) (.tmp 109), 0, "ref.go:69", #[⟨8, .data⟩, ⟨9, .data⟩], none⟩ : Oper)) (v := ?y3_11_v) rfl (by kernel_rfl) (by kernel_rfl) (by kernel_rfl) (fun _ _ _ h => h) (Or.inl ⟨by rfl, ?y3_11_h⟩) hHeld ?y3_11_r
     case y3_11_h => (intro w hSw; (try dsimp only at hSw); go_simp; all_goals with_reducible rfl)
     (try simp only [Act.put, List.setIfInBounds_toArray, List.set_cons_zero, List.set_cons_succ])
     refine wpAnyH_take (i := 12) (oi := (⟨some 112, .load 86 (.tmp 7), 86, "ref.go:69", #[], none⟩ : Oper)) (v := ?y3_12_v) rfl (by kernel_rfl) (by kernel_rfl) (by kernel_rfl) (fun _ _ _ h => h) (Or.inl ⟨by rfl, ?y3_12_h⟩) hHeld ?y3_12_r
     case y3_12_h => (intro w hSw; (try dsimp only at hSw); go_simp; all_goals with_reducible rfl)
     (try simp only [Act.put, List.setIfInBounds_toArray, List.set_cons_zero, List.set_cons_succ])
     refine wpAnyH_take (i := 13) (oi := (⟨some 113, .move (.tmp 0), 71, "ref.go:69", #[], none⟩ : Oper)) (v := ?y3_13_v) rfl (by kernel_rfl) (by kernel_rfl) (by kernel_rfl) (fun _ _ _ h => h) (Or.inl ⟨by rfl, ?y3_13_h⟩) hHeld ?y3_13_r
     case y3_13_h => (intro w hSw; (try dsimp only at hSw); go_simp; all_goals with_reducible rfl)
     (try simp only [Act.put, List.setIfInBounds_toArray, List.set_cons_zero, List.set_cons_succ])
     refine wpAnyH_take (i := 14) (oi := (⟨some 114, .move (.tmp 4), 3, "ref.go:69", #[], none⟩ : Oper)) (v := ?y3_14_v) rfl (by kernel_rfl) (by kernel_rfl) (by kernel_rfl) (fun _ _ _ h => h) (Or.inl ⟨by rfl, ?y3_14_h⟩) hHeld ?y3_14_r
     case y3_14_h => (intro w hSw; (try dsimp only at hSw); go_simp; all_goals with_reducible rfl)
     (try simp only [Act.put, List.setIfInBounds_toArray, List.set_cons_zero, List.set_cons_succ])
     refine wpAnyH_take (i := 15) (oi := (⟨some 115, .indexAddr 71 (.tmp 113) (.tmp 114), 0, "ref.go:69", #[⟨13, .data⟩, ⟨14, .data⟩], none⟩ : Oper)) (v := ?y3_15_v) rfl (by kernel_rfl) (by kernel_rfl) (by kernel_rfl) (fun _ _ _ h => h) (Or.inl ⟨by rfl, ?y3_15_h⟩) hHeld ?y3_15_r
     case y3_15_h => (intro w hSw; (try dsimp only at hSw); go_simp; all_goals with_reducible rfl)
     (try simp only [Act.put, List.setIfInBounds_toArray, List.set_cons_zero, List.set_cons_succ])
     refine wpAnyH_take (i := 16) (oi := (⟨some 116, .load 76 (.tmp 115), 76, "ref.go:69", #[⟨15, .data⟩], none⟩ : Oper)) (v := ?y3_16_v) rfl (by kernel_rfl) (by kernel_rfl) (by kernel_rfl) (fun _ _ _ h => h) (Or.inl ⟨by rfl, ?y3_16_h⟩) hHeld ?y3_16_r
     case y3_16_h => (intro w hSw; (try dsimp only at hSw); go_simp; all_goals with_reducible rfl)
     (try simp only [Act.put, List.setIfInBounds_toArray, List.set_cons_zero, List.set_cons_succ])
     refine wpAnyH_take (i := 17) (oi := (⟨some 117, .move (.tmp 9), 3, "ref.go:69", #[], none⟩ : Oper)) (v := ?y3_17_v) rfl (by kernel_rfl) (by kernel_rfl) (by kernel_rfl) (fun _ _ _ h => h) (Or.inl ⟨by rfl, ?y3_17_h⟩) hHeld ?y3_17_r
     case y3_17_h => (intro w hSw; (try dsimp only at hSw); go_simp; all_goals with_reducible rfl)
     (try simp only [Act.put, List.setIfInBounds_toArray, List.set_cons_zero, List.set_cons_succ])
     refine wpAnyH_take (i := 18) (oi := (⟨some 118, .indexAddr 76 (.tmp 116) (.tmp 117), 0, "ref.go:69", #[⟨16, .data⟩, ⟨17, .data⟩], none⟩ : Oper)) (v := ?y3_18_v) rfl (by kernel_rfl) (by kernel_rfl) (by kernel_rfl) (fun _ _ _ h => h) (Or.inl ⟨by rfl, ?y3_18_h⟩) hHeld ?y3_18_r
     case y3_18_h => (intro w hSw; (try dsimp only at hSw); go_simp; all_goals with_reducible rfl)
     (try simp only [Act.put, List.setIfInBounds_toArray, List.set_cons_zero, List.set_cons_succ])
     refine wpAnyH_take (i := 19) (oi := (⟨some 119, .load 86 (.tmp 118), 86, "ref.go:69", #[⟨18, .data⟩], none⟩ : Oper)) (v := ?y3_19_v) rfl (by kernel_rfl) (by kernel_rfl) (by kernel_rfl) (fun _ _ _ h => h) (Or.inl ⟨by rfl, ?y3_19_h⟩) hHeld ?y3_19_r
     case y3_19_h => (intro w hSw; (try dsimp only at hSw); go_simp; all_goals with_reducible rfl)
     (try simp only [Act.put, List.setIfInBounds_toArray, List.set_cons_zero, List.set_cons_succ])
     refine wpAnyH_ready (rs := [11, 20]) (by kernel_rfl) (by simp) ?_
     refine AllReadyH.cons (o := (⟨some 111, .load 86 (.tmp 110), 86, "ref.go:69", #[⟨10, .data⟩], none⟩ : Oper)) rfl (fun K hK => ?_) (AllReadyH.cons (o := (⟨some 120, .call { callee := .value (.func 94), args := #[.tmp 112, .tmp 119], argTypes := #[86, 86] }, 86, "ref.go:69", #[⟨12, .data⟩, ⟨19, .data⟩], none⟩ : Oper)) rfl (fun K hK => ?_) AllReadyH.nil)
     ·go_simp
      first | refine hK.out _ _ ?_ (fun hHeld => ?_) | (go_wp2_with fail; refine hK.out _ _ ?_ (fun hHeld => ?_))
      ·exact HL.out _ (Stay.drew HS0.out)
      clear hK K
      (try dsimp only at hHeld)
      (try simp only [Act.put, List.setIfInBounds_toArray, List.set_cons_zero, List.set_cons_succ])
      refine wpAnyH_ready (rs := [20]) (by kernel_rfl) (by simp) ?_
      refine AllReadyH.cons (o := (⟨some 120, .call { callee := .value (.func 94), args := #[.tmp 112, .tmp 119], argTypes := #[86, 86] }, 86, "ref.go:69", #[⟨12, .data⟩, ⟨19, .data⟩], none⟩ : Oper)) rfl (fun K hK => ?_) AllReadyH.nil
      go_simp
      (go_at_call 94; (with_reducible refine ((rratmul_any (HF.out.below (Below.drew (Below.refl _ _))) (HP.out.below (Below.drew (Below.refl _ _))) rf rp (by decide)).mono fun _ _ h => h.plain).mono ?_); rintro e w9 ⟨o1, o2, o3, o4, o5, o6, o7, o8, rfl, hu, hb1⟩; have HT1 := Lib.hid (Stay.next (Stay.drew HS0.out) hb1); have HQ1 := Lib.hid hu; have HR8 := Lib.hid ((HR.out.below (Below.drew (Below.refl _ _))).below hb1); have HX9 := Lib.hid ((HX.out.below (Below.drew (Below.refl _ _))).below hb1); have u0 := keepc hb1 (show wr.drew.cell? _ = _ from x0); have u1 := keepc hb1 (show wr.drew.cell? _ = _ from x1); have u2 := keepc hb1 (show wr.drew.cell? _ = _ from x2); have u3 := keepc hb1 (show wr.drew.cell? _ = _ from x3); have HO8 := Lib.hid ((HO.out.next (Below.drew (Below.refl _ _))).next hb1); clear hu)
      first | refine hK.out _ _ ?_ (fun hHeld => ?_) | (go_wp2_with fail; refine hK.out _ _ ?_ (fun hHeld => ?_))
      ·exact HL.out _ HT1.out
      clear hK K
      (try dsimp only at hHeld)
      (try simp only [Act.put, List.setIfInBounds_toArray, List.set_cons_zero, List.set_cons_succ])
      refine wpAnyH_ready (rs := [21]) (by kernel_rfl) (by simp) ?_
      refine AllReadyH.cons (o := (⟨some 121, .call { callee := .value (.func 54), args := #[.tmp 111, .tmp 120], argTypes := #[86, 86] }, 86, "ref.go:69", #[⟨11, .data⟩, ⟨20, .data⟩, ⟨20, .chain⟩], none⟩ : Oper)) rfl (fun K hK => ?_) AllReadyH.nil
      go_simp
      (go_at_call 54; (with_reducible refine ((rratsub_any HX9.out HQ1.out rx2 rm (by decide)).mono fun _ _ h => h.plain).mono ?_); rintro e w10b ⟨r1, r2, r3, r4, r5, r6, r7, r8, rfl, hu, hb2⟩; have HT2 := Lib.hid (Stay.next HT1.out hb2); have HQ := Lib.hid (show rRatN w10b ⟨r1, r2, r3, r4, r5, r6, r7, r8⟩ _ from hu); have HR9 := Lib.hid (HR8.out.below hb2); replace u0 := keepc hb2 u0; replace u1 := keepc hb2 u1; replace u2 := keepc hb2 u2; replace u3 := keepc hb2 u3; have z0 := (HR9.out.row a ham).unfrozen (k * 4); have z1 := (HR9.out.row a ham).unfrozen (k * 4 + 1); have z2 := (HR9.out.row a ham).unfrozen (k * 4 + 2); have z3 := (HR9.out.row a ham).unfrozen (k * 4 + 3); have HO9 := Lib.hid (HO8.out.next hb2); clear hu hb1 hb2)
      first | refine hK.out _ _ ?_ (fun hHeld => ?_) | (go_wp2_with fail; refine hK.out _ _ ?_ (fun hHeld => ?_))
      ·exact HL.out _ HT2.out
      clear hK K
      (try dsimp only at hHeld)
      (try simp only [Act.put, List.setIfInBounds_toArray, List.set_cons_zero, List.set_cons_succ])
      refine wpAnyH_take (i := 22) (oi := (⟨some 122, .indexAddr 76 (.tmp 103) (.tmp 104), 0, "ref.go:69", #[⟨3, .data⟩, ⟨4, .data⟩, ⟨0, .phase⟩, ⟨1, .phase⟩, ⟨2, .phase⟩, ⟨3, .phase⟩, ⟨4, .phase⟩, ⟨5, .phase⟩, ⟨6, .phase⟩, ⟨7, .phase⟩, ⟨8, .phase⟩, ⟨9, .phase⟩, ⟨10, .phase⟩, ⟨11, .phase⟩, ⟨12, .phase⟩, ⟨13, .phase⟩, ⟨14, .phase⟩, ⟨15, .phase⟩, ⟨16, .phase⟩, ⟨17, .phase⟩, ⟨18, .phase⟩, ⟨19, .phase⟩, ⟨20, .phase⟩, ⟨21, .phase⟩], none⟩ : Oper)) (v := ?y3_20_v) rfl (by kernel_rfl) (by kernel_rfl) (by kernel_rfl) (fun _ _ _ h => h) (Or.inl ⟨by rfl, ?y3_20_h⟩) hHeld ?y3_20_r
      case y3_20_h => (intro w hSw; (try dsimp only at hSw); go_simp; all_goals with_reducible rfl)
      (try simp only [Act.put, List.setIfInBounds_toArray, List.set_cons_zero, List.set_cons_succ])
      refine wpAnyH_ready (rs := [23]) (by kernel_rfl) (by simp) ?_
      refine AllReadyH.cons (o := (⟨none, .store 86 (.tmp 122) (.tmp 121), 0, "ref.go:69", #[⟨22, .data⟩, ⟨21, .data⟩, ⟨21, .chain⟩, ⟨0, .phase⟩, ⟨1, .phase⟩, ⟨2, .phase⟩, ⟨3, .phase⟩, ⟨4, .phase⟩, ⟨5, .phase⟩, ⟨6, .phase⟩, ⟨7, .phase⟩, ⟨8, .phase⟩, ⟨9, .phase⟩, ⟨10, .phase⟩, ⟨11, .phase⟩, ⟨12, .phase⟩, ⟨13, .phase⟩, ⟨14, .phase⟩, ⟨15, .phase⟩, ⟨16, .phase⟩, ⟨17, .phase⟩, ⟨18, .phase⟩, ⟨19, .phase⟩, ⟨20, .phase⟩, ⟨21, .phase⟩], none⟩ : Oper)) rfl (fun K hK => ?_) AllReadyH.nil
      go_simp
      first | refine hK.out _ _ ?_ (fun hHeld => ?_) | (go_wp2_with fail; refine hK.out _ _ ?_ (fun hHeld => ?_))
      ·exact HL.out _ (stay_four HT2.out)
      clear hK K
      (try dsimp only at hHeld)
      (try simp only [Act.put, List.setIfInBounds_toArray, List.set_cons_zero, List.set_cons_succ])
      refine wpAnyH_done (by kernel_rfl) ?_ _
      have HM2 := Lib.hid (by have := HR9.out.put (x := ⟨r1, r2, r3, r4, r5, r6, r7, r8⟩) ham hkl HQ.out; rw [upFromIn_put HAC.out hk1] at this; exact this : MatX (putN w10b (g2 a) (k * 4) ⟨r1, r2, r3, r4, r5, r6, r7, r8⟩) G m (m + 1) g2 cp2 (upFromIn A2 c c a (k + 1)))
      have HO2 := Lib.hid (HO9.out.trans (OnlyP.of_stay (putN_stay (w := w10b) (b := g2 a) (o := k * 4) (x := ⟨r1, r2, r3, r4, r5, r6, r7, r8⟩)) ⟨a, ham, rfl⟩))
      clear HL q1 q2 v0 v1 v2 v3 x0 x1 x2 x3 u0 u1 u2 u3 z0 z1 z2 z3 p0 p1 p2 p3
      go_wp2
      go_roundw
      case rel => exact ⟨k + 1, by go_num, by omega, by omega, HM2.out, HO2.out⟩
      case measure => (simp [intOf]; omega)
     ·go_simp
      (go_at_call 94; (with_reducible refine ((rratmul_any (HF.out.below (Below.drew (Below.refl _ _))) (HP.out.below (Below.drew (Below.refl _ _))) rf rp (by decide)).mono fun _ _ h => h.plain).mono ?_); rintro e w9 ⟨o1, o2, o3, o4, o5, o6, o7, o8, rfl, hu, hb1⟩; have HT1 := Lib.hid (Stay.next (Stay.drew HS0.out) hb1); have HQ1 := Lib.hid hu; have HR8 := Lib.hid ((HR.out.below (Below.drew (Below.refl _ _))).below hb1); have HX9 := Lib.hid ((HX.out.below (Below.drew (Below.refl _ _))).below hb1); have u0 := keepc hb1 (show wr.drew.cell? _ = _ from x0); have u1 := keepc hb1 (show wr.drew.cell? _ = _ from x1); have u2 := keepc hb1 (show wr.drew.cell? _ = _ from x2); have u3 := keepc hb1 (show wr.drew.cell? _ = _ from x3); have HO8 := Lib.hid ((HO.out.next (Below.drew (Below.refl _ _))).next hb1); clear hu)
      first | refine hK.out _ _ ?_ (fun hHeld => ?_) | (go_wp2_with fail; refine hK.out _ _ ?_ (fun hHeld => ?_))
      ·exact HL.out _ HT1.out
      clear hK K
      (try dsimp only at hHeld)
      (try simp only [Act.put, List.setIfInBounds_toArray, List.set_cons_zero, List.set_cons_succ])
      refine wpAnyH_ready (rs := [11]) (by kernel_rfl) (by simp) ?_
      refine AllReadyH.cons (o := (⟨some 111, .load 86 (.tmp 110), 86, "ref.go:69", #[⟨10, .data⟩], none⟩ : Oper)) rfl (fun K hK => ?_) AllReadyH.nil
      go_simp
      first | refine hK.out _ _ ?_ (fun hHeld => ?_) | (go_wp2_with fail; refine hK.out _ _ ?_ (fun hHeld => ?_))
      ·exact HL.out _ HT1.out
      clear hK K
      (try dsimp only at hHeld)
      (try simp only [Act.put, List.setIfInBounds_toArray, List.set_cons_zero, List.set_cons_succ])
      refine wpAnyH_ready (rs := [21]) (by kernel_rfl) (by simp) ?_
      refine AllReadyH.cons (o := (⟨some 121, .call { callee := .value (.func 54), args := #[.tmp 111, .tmp 120], argTypes := #[86, 86] }, 86, "ref.go:69", #[⟨11, .data⟩, ⟨20, .data⟩, ⟨20, .chain⟩], none⟩ : Oper)) rfl (fun K hK => ?_) AllReadyH.nil
      go_simp
      (go_at_call 54; (with_reducible refine ((rratsub_any HX9.out HQ1.out rx2 rm (by decide)).mono fun _ _ h => h.plain).mono ?_); rintro e w10b ⟨r1, r2, r3, r4, r5, r6, r7, r8, rfl, hu, hb2⟩; have HT2 := Lib.hid (Stay.next HT1.out hb2); have HQ := Lib.hid (show rRatN w10b ⟨r1, r2, r3, r4, r5, r6, r7, r8⟩ _ from hu); have HR9 := Lib.hid (HR8.out.below hb2); replace u0 := keepc hb2 u0; replace u1 := keepc hb2 u1; replace u2 := keepc hb2 u2; replace u3 := keepc hb2 u3; have z0 := (HR9.out.row a ham).unfrozen (k * 4); have z1 := (HR9.out.row a ham).unfrozen (k * 4 + 1); have z2 := (HR9.out.row a ham).unfrozen (k * 4 + 2); have z3 := (HR9.out.row a ham).unfrozen (k * 4 + 3); have HO9 := Lib.hid (HO8.out.next hb2); clear hu hb1 hb2)
      first | refine hK.out _ _ ?_ (fun hHeld => ?_) | (go_wp2_with fail; refine hK.out _ _ ?_ (fun hHeld => ?_))
      ·exact HL.out _ HT2.out
      clear hK K
      (try dsimp only at hHeld)
      (try simp only [Act.put, List.setIfInBounds_toArray, List.set_cons_zero, List.set_cons_succ])
      refine wpAnyH_take (i := 22) (oi := (⟨some 122, .indexAddr 76 (.tmp 103) (.tmp 104), 0, "ref.go:69", #[⟨3, .data⟩, ⟨4, .data⟩, ⟨0, .phase⟩, ⟨1, .phase⟩, ⟨2, .phase⟩, ⟨3, .phase⟩, ⟨4, .phase⟩, ⟨5, .phase⟩, ⟨6, .phase⟩, ⟨7, .phase⟩, ⟨8, .phase⟩, ⟨9, .phase⟩, ⟨10, .phase⟩, ⟨11, .phase⟩, ⟨12, .phase⟩, ⟨13, .phase⟩, ⟨14, .phase⟩, ⟨15, .phase⟩, ⟨16, .phase⟩, ⟨17, .phase⟩, ⟨18, .phase⟩, ⟨19, .phase⟩, ⟨20, .phase⟩, ⟨21, .phase⟩], none⟩ : Oper)) (v := ?y3_21_v) rfl (by kernel_rfl) (by kernel_rfl) (by kernel_rfl) (fun _ _ _ h => h) (Or.inl ⟨by rfl, ?y3_21_h⟩) hHeld ?y3_21_r
      case y3_21_h => (intro w hSw; (try dsimp only at hSw); go_simp; all_goals with_reducible rfl)
      (try simp only [Act.put, List.setIfInBounds_toArray, List.set_cons_zero, List.set_cons_succ])
      refine wpAnyH_ready (rs := [23]) (by kernel_rfl) (by simp) ?_
      refine AllReadyH.cons (o := (⟨none, .store 86 (.tmp 122) (.tmp 121), 0, "ref.go:69", #[⟨22, .data⟩, ⟨21, .data⟩, ⟨21, .chain⟩, ⟨0, .phase⟩, ⟨1, .phase⟩, ⟨2, .phase⟩, ⟨3, .phase⟩, ⟨4, .phase⟩, ⟨5, .phase⟩, ⟨6, .phase⟩, ⟨7, .phase⟩, ⟨8, .phase⟩, ⟨9, .phase⟩, ⟨10, .phase⟩, ⟨11, .phase⟩, ⟨12, .phase⟩, ⟨13, .phase⟩, ⟨14, .phase⟩, ⟨15, .phase⟩, ⟨16, .phase⟩, ⟨17, .phase⟩, ⟨18, .phase⟩, ⟨19, .phase⟩, ⟨20, .phase⟩, ⟨21, .phase⟩], none⟩ : Oper)) rfl (fun K hK => ?_) AllReadyH.nil
      go_simp
      first | refine hK.out _ _ ?_ (fun hHeld => ?_) | (go_wp2_with fail; refine hK.out _ _ ?_ (fun hHeld => ?_))
      ·exact HL.out _ (stay_four HT2.out)
      clear hK K
      (try dsimp only at hHeld)
      (try simp only [Act.put, List.setIfInBounds_toArray, List.set_cons_zero, List.set_cons_succ])
      refine wpAnyH_done (by kernel_rfl) ?_ _
      have HM2 := Lib.hid (by have := HR9.out.put (x := ⟨r1, r2, r3, r4, r5, r6, r7, r8⟩) ham hkl HQ.out; rw [upFromIn_put HAC.out hk1] at this; exact this : MatX (putN w10b (g2 a) (k * 4) ⟨r1, r2, r3, r4, r5, r6, r7, r8⟩) G m (m + 1) g2 cp2 (upFromIn A2 c c a (k + 1)))
      have HO2 := Lib.hid (HO9.out.trans (OnlyP.of_stay (putN_stay (w := w10b) (b := g2 a) (o := k * 4) (x := ⟨r1, r2, r3, r4, r5, r6, r7, r8⟩)) ⟨a, ham, rfl⟩))
      clear HL q1 q2 v0 v1 v2 v3 x0 x1 x2 x3 u0 u1 u2 u3 z0 z1 z2 z3 p0 p1 p2 p3
      go_wp2
      go_roundw
      case rel => exact ⟨k + 1, by go_num, by omega, by omega, HM2.out, HO2.out⟩
      case measure => (simp [intOf]; omega)
end Go.Proofs.YteionhenpehogaaGreatDoor
