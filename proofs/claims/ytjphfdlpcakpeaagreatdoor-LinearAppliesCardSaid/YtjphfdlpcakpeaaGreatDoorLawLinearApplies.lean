/- LinearApplies, walked. -/
import Derived.Test.YtjphfdlpcakpeaaGreatDoorLawZ
namespace Go.Proofs.YtjphfdlpcakpeaaGreatDoor
open Go.RowKit Tally

set_option maxHeartbeats 8000000 in
set_option maxRecDepth 100000 in
theorem lawApplies_any {w : World} {v u1 u2 : Value} {m n n2 d : Nat} {L : Nat → Nat} {Z : Nat → Nat → Int} {x y : Nat → Int} (h : MatI w v m L Z) (hz : ∀ i, i < m → Small (L i) (Z i)) (hd : d ≤ 255)
    (hx : RowR w u1 n fun k => .int .i16 (x k)) (hxs : Small n x) (hy : RowR w u2 n2 fun k => .int .i16 (y k)) (hys : Small n2 y) (ht : Tab w) :
    Calls Tryz.prog 5 #[.agg #[v, .int .u8 d], u1, u2] w fun e w' => e = .returned (.bool true) ∧ Below w.heap.size w w' := by
  have HM := Lib.hid h
  have HZ := Lib.hid hz
  have HX := Lib.hid hx
  have HXS := Lib.hid hxs
  have HY := Lib.hid hy
  have HYS := Lib.hid hys
  have HT := Lib.hid ht
  obtain ⟨a, b, o, c, rfl, -⟩ := h
  obtain ⟨a1, b1, o1, c1, rfl, -⟩ := hx
  obtain ⟨a2, b2, o2, c2, rfl, -⟩ := hy
  clear hz hxs hys ht
  go_enter Tryz.func5, Tryz.ntmps5
  go_wp2_with fail
  obtain ⟨W1, hW, hs, hb, hc⟩ := alloc1 w (.cells #[.slice a m c, .int .u8 d] 24)
  rw [← hW]
  have HB := Lib.hid hb
  have HC := Lib.hid hc
  clear hW hs hb hc
  refine (awake22_any (HT.out.below HB.out)).mono ?_
  rintro e w1 ⟨rfl, hb⟩
  replace HC := Lib.hid (blk_next HC.out hb)
  replace HB := Lib.hid (bt HB.out hb)
  clear hb
  obtain ⟨e0, e1, e2, e3⟩ := res_facts HC.out
  go_wp2_with fail
  obtain ⟨W2, hW, hs, hb, hc⟩ := alloc1 w1 (.cells #[.slice a1 n c1, .slice a2 n2 c2] 25)
  rw [← hW]
  replace HB := Lib.hid (bt HB.out hb)
  replace HC := Lib.hid (blk_next HC.out hb)
  have HH := Lib.hid (heads_pair hc)
  clear hW hs hb hc e0 e1 e2 e3
  by_cases hf : (∀ i, i < m → L i ≤ 26) ∧ (∀ i, i < 2 → (if i = 0 then n else n2) ≤ 26) ∧ m ≤ 26
  case neg =>
    have HF := Lib.hid hf
    clear hf
    refine (few_any (t := 26) (HM.out.heads.below HB.out) HH.out (by decide) false (iff_of_false (by decide) HF.out)).mono ?_
    rintro e w2 ⟨rfl, hb⟩
    replace HB := Lib.hid (bt HB.out hb)
    clear hb HH HC
    go_wp2
    go_ret
    exact ⟨rfl, HB.out⟩
  have HF := Lib.hid hf
  have hm26 := hf.2.2
  have hn26 : n ≤ 26 := hf.2.1 0 (by decide)
  have hn226 : n2 ≤ 26 := hf.2.1 1 (by decide)
  clear hf
  refine (few_any (t := 26) (HM.out.heads.below HB.out) HH.out (by decide) true (iff_of_true rfl HF.out)).mono ?_
  rintro e w2 ⟨rfl, hb⟩
  replace HB := Lib.hid (bt HB.out hb)
  replace HC := Lib.hid (blk_next HC.out hb)
  clear hb HH
  obtain ⟨e0, e1, e2, e3⟩ := res_facts HC.out
  go_wp2_with fail
  refine (rows_any (HM.out.below HB.out) HZ.out (fun i hi => by have := HF.out.1 i hi; omega) (by omega) hd).mono ?_
  rintro e w3 ⟨a3, b3, c3, d3, rfl, hm3, hr3, hb⟩
  have HA := Lib.hid hm3
  have HRA := Lib.hid hr3
  replace HB := Lib.hid (bt HB.out hb)
  replace HC := Lib.hid (blk_next HC.out hb)
  clear hm3 hr3 hb HM e0 e1 e2 e3
  go_wp2_with fail
  refine (numbers_any (d := 1) (HX.out.below HB.out) HXS.out (by decide) (by omega)).mono ?_
  rintro e w4 ⟨a4, c4, rfl, hv, hb⟩
  have HV := Lib.hid (show RatsR w4 (.slice a4 n c4) n (ratV 1 x) from hv)
  replace HA := Lib.hid (HA.out.below hb)
  replace HRA := Lib.hid (HRA.out.below hb)
  replace HC := Lib.hid (blk_next HC.out hb)
  replace HB := Lib.hid (bt HB.out hb)
  clear hv hb
  obtain ⟨K, hK⟩ : ∃ K, appLen m n L = K := ⟨_, rfl⟩
  obtain ⟨F, hF⟩ : ∃ F, appSum n (ratM d Z) (ratV 1 x) = F := ⟨_, rfl⟩
  obtain ⟨cd, hcd⟩ : ∃ cd, appCode m n L = cd := ⟨_, rfl⟩
  have HK := Lib.hid hK
  have HFF := Lib.hid hF
  have HCD := Lib.hid hcd
  have HRF := Lib.hid (show ∀ k, k < K → Rg 11 (F k) from fun k hk => by
    rw [← hF]
    obtain ⟨q1, q2⟩ := appLen_le (hK ▸ hk)
    exact (app_sizes (e0 := 1) q1 HZ.out HXS.out hd (by decide)).2.2 k q2 n (Nat.le_refl _))
  clear hK hF hcd
  go_wp2_with fail
  refine (apply_some HA.out HZ.out hd HV.out HXS.out (by decide)).mono ?_
  rw [HK.out, HFF.out, HCD.out]
  rintro e w5 ⟨a5, c5, rfl, hv, hb⟩
  have HS1 := Lib.hid hv
  replace HA := Lib.hid (HA.out.below hb)
  replace HRA := Lib.hid (HRA.out.below hb)
  replace HC := Lib.hid (blk_next HC.out hb)
  replace HB := Lib.hid (bt HB.out hb)
  clear hv hb HV
  go_wp2_with fail
  refine (rnumbers_any (d := 1) (HX.out.below HB.out) HXS.out (by decide) (by omega)).mono ?_
  rintro e w6 ⟨a6, c6, rfl, hv, hb⟩
  have HV := Lib.hid (show rRatsR w6 (.slice a6 n c6) n (ratV 1 x) from hv)
  replace HS1 := Lib.hid (HS1.out.below hb)
  replace HA := Lib.hid (HA.out.below hb)
  replace HRA := Lib.hid (HRA.out.below hb)
  replace HC := Lib.hid (blk_next HC.out hb)
  replace HB := Lib.hid (bt HB.out hb)
  clear hv hb
  go_wp2_with fail
  refine (rapply_some HRA.out HZ.out hd HV.out HXS.out (by decide)).mono ?_
  rw [HK.out, HFF.out, HCD.out]
  rintro e w7 ⟨a7, c7, rfl, hv, hb⟩
  have HS2 := Lib.hid hv
  replace HS1 := Lib.hid (HS1.out.below hb)
  replace HA := Lib.hid (HA.out.below hb)
  replace HRA := Lib.hid (HRA.out.below hb)
  replace HC := Lib.hid (blk_next HC.out hb)
  replace HB := Lib.hid (bt HB.out hb)
  clear hv hb HV
  obtain ⟨e0, e1, e2, e3⟩ := res_facts HC.out
  have hcc : (cd == cd) = true := beq_self_eq_true _
  obtain ⟨X, hX⟩ : ∃ X : Bool, X = true ↔ AppOk m n L ∧ m = n2 ∧ ∀ k, k < m → sumTo n (fun j => ratM d Z k j * ratV 1 x j) = ratV d y k := by
    classical exact ⟨decide _, decide_eq_true_iff⟩
  obtain ⟨V, hV⟩ : ∃ V : Bool, V = true ↔ IsMat m L := by
    classical exact ⟨decide _, decide_eq_true_iff⟩
  have HXX := Lib.hid hX
  have HVV := Lib.hid hV
  have hxx : (X == X) = true := beq_self_eq_true _
  have hvv : (V == V) = true := beq_self_eq_true _
  clear hX hV
  go_wp2_with fail
  have HLS := Lib.hid (fun (w' : World) (hb : Below w7.heap.size w7 w') => (⟨keepc hb e0, keepc hb e1⟩ : w'.cell? ⟨w.heap.size, 0, none⟩ = some (.slice a m c) ∧ w'.cell? ⟨w.heap.size, 1, none⟩ = some (.int .u8 d)))
  clear e0 e1 e2 e3
  refine wp_region_held_drew (S := fun w' => w'.cell? ⟨w.heap.size, 0, none⟩ = some (.slice a m c) ∧ w'.cell? ⟨w.heap.size, 1, none⟩ = some (.int .u8 d)) (by kernel_rfl) ?_ (fun hHeld => ?_)
  · exact HLS.out _ (Below.drew (Below.refl _ _))
  (try dsimp only at hHeld)
  refine wpAnyH_take (i := 0) (oi := ({ dst := some 40, op := Op.move (Operand.tmp 10), type := 33, pos := "law.go:113", after := #[], guard := none } : Oper)) (v := ?y1_1_v) rfl (by kernel_rfl) (by kernel_rfl) (by kernel_rfl) (fun _ _ _ h => h) (Or.inl ⟨by rfl, ?y1_1_h⟩) hHeld ?y1_1_r
  case y1_1_h => (intro w hSw; (try dsimp only at hSw); go_simp; all_goals with_reducible rfl)
  (try simp only [Act.put, List.setIfInBounds_toArray, List.set_cons_zero, List.set_cons_succ])
  refine wpAnyH_take (i := 1) (oi := ({ dst := some 41, op := Op.move (Operand.tmp 12), type := 33, pos := "law.go:113", after := #[], guard := none } : Oper)) (v := ?y1_2_v) rfl (by kernel_rfl) (by kernel_rfl) (by kernel_rfl) (fun _ _ _ h => h) (Or.inl ⟨by rfl, ?y1_2_h⟩) hHeld ?y1_2_r
  case y1_2_h => (intro w hSw; (try dsimp only at hSw); go_simp; all_goals with_reducible rfl)
  (try simp only [Act.put, List.setIfInBounds_toArray, List.set_cons_zero, List.set_cons_succ])
  refine wpAnyH_take (i := 2) (oi := ({ dst := some 42, op := Op.binOp BinOp.eql 33 (Operand.tmp 40) (Operand.tmp 41) 33, type := 4, pos := "law.go:113", after := #[{ on := 0, ground := Ground.data }, { on := 1, ground := Ground.data }], guard := none } : Oper)) (v := ?y1_3_v) rfl (by kernel_rfl) (by kernel_rfl) (by kernel_rfl) (fun _ _ _ h => h) (Or.inl ⟨by rfl, ?y1_3_h⟩) hHeld ?y1_3_r
  case y1_3_h => (intro w hSw; (try dsimp only at hSw); go_simp; all_goals with_reducible rfl)
  (try simp only [Act.put, List.setIfInBounds_toArray, List.set_cons_zero, List.set_cons_succ])
  refine wpAnyH_take (i := 3) (oi := ({ dst := some 43, op := Op.move (Operand.tmp 42), type := 4, pos := "law.go:113", after := #[{ on := 2, ground := Ground.data }], guard := none } : Oper)) (v := ?y1_4_v) rfl (by kernel_rfl) (by kernel_rfl) (by kernel_rfl) (fun _ _ _ h => h) (Or.inl ⟨by rfl, ?y1_4_h⟩) hHeld ?y1_4_r
  case y1_4_h => (intro w hSw; (try dsimp only at hSw); go_simp; all_goals with_reducible rfl)
  (try simp only [Act.put, List.setIfInBounds_toArray, List.set_cons_zero, List.set_cons_succ])
  refine wpAnyH_take (i := 4) (oi := ({ dst := some 44, op := Op.move (Operand.tmp 9), type := 32, pos := "law.go:113", after := #[{ on := 3, ground := Ground.guard }], guard := some (3, true) } : Oper)) (v := ?y1_5_v) rfl (by kernel_rfl) (by kernel_rfl) (by kernel_rfl) (fun _ _ _ h => h) (Or.inl ⟨by rfl, ?y1_5_h⟩) hHeld ?y1_5_r
  case y1_5_h => (intro w hSw; (try dsimp only at hSw); go_simp; all_goals with_reducible rfl)
  (try simp only [Act.put, List.setIfInBounds_toArray, List.set_cons_zero, List.set_cons_succ])
  refine wpAnyH_take (i := 5) (oi := ({ dst := some 45, op := Op.move (Operand.tmp 11), type := 37, pos := "law.go:113", after := #[{ on := 3, ground := Ground.guard }], guard := some (3, true) } : Oper)) (v := ?y1_6_v) rfl (by kernel_rfl) (by kernel_rfl) (by kernel_rfl) (fun _ _ _ h => h) (Or.inl ⟨by rfl, ?y1_6_h⟩) hHeld ?y1_6_r
  case y1_6_h => (intro w hSw; (try dsimp only at hSw); go_simp; all_goals with_reducible rfl)
  (try simp only [Act.put, List.setIfInBounds_toArray, List.set_cons_zero, List.set_cons_succ])
  refine wpAnyH_ready (rs := [6]) (by kernel_rfl) (by simp) ?_
  refine AllReadyH.cons (o := ({ dst := some 46, op := Op.call { callee := Callee.value (Operand.func 13), args := #[Operand.tmp 44, Operand.tmp 45], argTypes := #[32, 37] }, type := 4, pos := "law.go:113", after := #[{ on := 4, ground := Ground.data }, { on := 5, ground := Ground.data }, { on := 3, ground := Ground.chain }, { on := 3, ground := Ground.guard }], guard := some (3, true) } : Oper)) rfl (fun K hK => ?_) AllReadyH.nil
  go_simp
  (go_at_call 13; (refine (lsame_yes (HS1.out.below (Below.drew (Below.refl w7.heap.size w7))) (HS2.out.below (Below.drew (Below.refl w7.heap.size w7))) HRF.out (by decide) ((HT.out.below HB.out).below (Below.drew (Below.refl w7.heap.size w7)))).mono ?_); rintro e x6 ⟨rfl, hbb⟩; have HZ6 := Lib.hid (bt (Below.drew (Below.refl w7.heap.size w7)) hbb); clear hbb)
  first | refine hK.out _ _ ?_ (fun hHeld => ?_) | (go_wp2_with fail; refine hK.out _ _ ?_ (fun hHeld => ?_))
  · exact HLS.out _ HZ6.out
  clear hK K
  (try dsimp only at hHeld)
  (try simp only [Act.put, List.setIfInBounds_toArray, List.set_cons_zero, List.set_cons_succ])
  refine wpAnyH_take (i := 7) (oi := ({ dst := some 47, op := Op.pick (Operand.tmp 43) (Operand.tmp 46) (Operand.const (Value.bool false)), type := 4, pos := "law.go:113", after := #[{ on := 3, ground := Ground.data }, { on := 6, ground := Ground.data }], guard := none } : Oper)) (v := ?y1_7_v) rfl (by kernel_rfl) (by kernel_rfl) (by kernel_rfl) (fun _ _ _ h => h) (Or.inl ⟨by rfl, ?y1_7_h⟩) hHeld ?y1_7_r
  case y1_7_h => (intro w hSw; (try dsimp only at hSw); go_simp; all_goals with_reducible rfl)
  (try simp only [Act.put, List.setIfInBounds_toArray, List.set_cons_zero, List.set_cons_succ])
  refine wpAnyH_take (i := 8) (oi := ({ dst := some 48, op := Op.move (Operand.tmp 47), type := 4, pos := "law.go:113", after := #[{ on := 7, ground := Ground.data }, { on := 6, ground := Ground.chain }], guard := none } : Oper)) (v := ?y1_8_v) rfl (by kernel_rfl) (by kernel_rfl) (by kernel_rfl) (fun _ _ _ h => h) (Or.inl ⟨by rfl, ?y1_8_h⟩) hHeld ?y1_8_r
  case y1_8_h => (intro w hSw; (try dsimp only at hSw); go_simp; all_goals with_reducible rfl)
  (try simp only [Act.put, List.setIfInBounds_toArray, List.set_cons_zero, List.set_cons_succ])
  refine wpAnyH_take (i := 9) (oi := ({ dst := some 49, op := Op.move (Operand.tmp 7), type := 28, pos := "law.go:113", after := #[{ on := 8, ground := Ground.guard }], guard := some (8, true) } : Oper)) (v := ?y1_9_v) rfl (by kernel_rfl) (by kernel_rfl) (by kernel_rfl) (fun _ _ _ h => h) (Or.inl ⟨by rfl, ?y1_9_h⟩) hHeld ?y1_9_r
  case y1_9_h => (intro w hSw; (try dsimp only at hSw); go_simp; all_goals with_reducible rfl)
  (try simp only [Act.put, List.setIfInBounds_toArray, List.set_cons_zero, List.set_cons_succ])
  refine wpAnyH_take (i := 11) (oi := ({ dst := some 51, op := Op.move (Operand.tmp 8), type := 29, pos := "law.go:113", after := #[{ on := 8, ground := Ground.guard }], guard := some (8, true) } : Oper)) (v := ?y1_10_v) rfl (by kernel_rfl) (by kernel_rfl) (by kernel_rfl) (fun _ _ _ h => h) (Or.inl ⟨by rfl, ?y1_10_h⟩) hHeld ?y1_10_r
  case y1_10_h => (intro w hSw; (try dsimp only at hSw); go_simp; all_goals with_reducible rfl)
  (try simp only [Act.put, List.setIfInBounds_toArray, List.set_cons_zero, List.set_cons_succ])
  refine wpAnyH_ready (rs := [10]) (by kernel_rfl) (by simp) ?_
  refine AllReadyH.cons (o := ({ dst := some 50, op := Op.call { callee := Callee.value (Operand.func 20), args := #[Operand.tmp 49], argTypes := #[28] }, type := 4, pos := "law.go:113", after := #[{ on := 9, ground := Ground.data }, { on := 8, ground := Ground.chain }, { on := 8, ground := Ground.guard }], guard := some (8, true) } : Oper)) rfl (fun K hK => ?_) AllReadyH.nil
  go_simp
  (go_at_call 20; (refine (valid_any (HA.out.below HZ6.out) V HVV.out).mono ?_); rintro e x10 ⟨rfl, hww⟩; have HZ10 := Lib.hid (hww ▸ HZ6.out : Below w7.heap.size w7 x10); clear hww)
  first | refine hK.out _ _ ?_ (fun hHeld => ?_) | (go_wp2_with fail; refine hK.out _ _ ?_ (fun hHeld => ?_))
  · exact HLS.out _ HZ10.out
  clear hK K
  (try dsimp only at hHeld)
  (try simp only [Act.put, List.setIfInBounds_toArray, List.set_cons_zero, List.set_cons_succ])
  refine wpAnyH_ready (rs := [12]) (by kernel_rfl) (by simp) ?_
  refine AllReadyH.cons (o := ({ dst := some 52, op := Op.call { callee := Callee.value (Operand.func 21), args := #[Operand.tmp 51], argTypes := #[29] }, type := 4, pos := "law.go:113", after := #[{ on := 11, ground := Ground.data }, { on := 10, ground := Ground.chain }, { on := 8, ground := Ground.guard }], guard := some (8, true) } : Oper)) rfl (fun K hK => ?_) AllReadyH.nil
  go_simp
  (go_at_call 21; (refine (rvalid_any (HRA.out.below HZ10.out) V HVV.out).mono ?_); rintro e x12 ⟨rfl, hbb⟩; have HZ12 := Lib.hid (bt HZ10.out hbb); clear hbb)
  first | refine hK.out _ _ ?_ (fun hHeld => ?_) | (go_wp2_with fail; refine hK.out _ _ ?_ (fun hHeld => ?_))
  · exact HLS.out _ HZ12.out
  clear hK K
  (try dsimp only at hHeld)
  (try simp only [Act.put, List.setIfInBounds_toArray, List.set_cons_zero, List.set_cons_succ])
  refine wpAnyH_take (i := 13) (oi := ({ dst := some 53, op := Op.binOp BinOp.eql 4 (Operand.tmp 50) (Operand.tmp 52) 4, type := 4, pos := "law.go:113", after := #[{ on := 10, ground := Ground.data }, { on := 12, ground := Ground.data }, { on := 8, ground := Ground.guard }], guard := some (8, true) } : Oper)) (v := ?y1_11_v) rfl (by kernel_rfl) (by kernel_rfl) (by kernel_rfl) (fun _ _ _ h => h) (Or.inl ⟨by rfl, ?y1_11_h⟩) hHeld ?y1_11_r
  case y1_11_h => (intro w hSw; (try dsimp only at hSw); go_simp; all_goals with_reducible rfl)
  (try simp only [Act.put, List.setIfInBounds_toArray, List.set_cons_zero, List.set_cons_succ])
  refine wpAnyH_take (i := 14) (oi := ({ dst := some 54, op := Op.pick (Operand.tmp 48) (Operand.tmp 53) (Operand.const (Value.bool false)), type := 4, pos := "law.go:113", after := #[{ on := 8, ground := Ground.data }, { on := 13, ground := Ground.data }], guard := none } : Oper)) (v := ?y1_12_v) rfl (by kernel_rfl) (by kernel_rfl) (by kernel_rfl) (fun _ _ _ h => h) (Or.inl ⟨by rfl, ?y1_12_h⟩) hHeld ?y1_12_r
  case y1_12_h => (intro w hSw; (try dsimp only at hSw); go_simp; all_goals with_reducible rfl)
  (try simp only [Act.put, List.setIfInBounds_toArray, List.set_cons_zero, List.set_cons_succ])
  refine wpAnyH_take (i := 15) (oi := ({ dst := some 55, op := Op.move (Operand.tmp 54), type := 4, pos := "law.go:113", after := #[{ on := 14, ground := Ground.data }, { on := 12, ground := Ground.chain }], guard := none } : Oper)) (v := ?y1_13_v) rfl (by kernel_rfl) (by kernel_rfl) (by kernel_rfl) (fun _ _ _ h => h) (Or.inl ⟨by rfl, ?y1_13_h⟩) hHeld ?y1_13_r
  case y1_13_h => (intro w hSw; (try dsimp only at hSw); go_simp; all_goals with_reducible rfl)
  (try simp only [Act.put, List.setIfInBounds_toArray, List.set_cons_zero, List.set_cons_succ])
  refine wpAnyH_take (i := 16) (oi := ({ dst := some 56, op := Op.move (Operand.tmp 7), type := 28, pos := "law.go:113", after := #[{ on := 15, ground := Ground.guard }], guard := some (15, true) } : Oper)) (v := ?y1_14_v) rfl (by kernel_rfl) (by kernel_rfl) (by kernel_rfl) (fun _ _ _ h => h) (Or.inl ⟨by rfl, ?y1_14_h⟩) hHeld ?y1_14_r
  case y1_14_h => (intro w hSw; (try dsimp only at hSw); go_simp; all_goals with_reducible rfl)
  (try simp only [Act.put, List.setIfInBounds_toArray, List.set_cons_zero, List.set_cons_succ])
  refine wpAnyH_take (i := 17) (oi := ({ dst := some 57, op := Op.move (Operand.tmp 1), type := 25, pos := "law.go:113", after := #[{ on := 15, ground := Ground.guard }], guard := some (15, true) } : Oper)) (v := ?y1_15_v) rfl (by kernel_rfl) (by kernel_rfl) (by kernel_rfl) (fun _ _ _ h => h) (Or.inl ⟨by rfl, ?y1_15_h⟩) hHeld ?y1_15_r
  case y1_15_h => (intro w hSw; (try dsimp only at hSw); go_simp; all_goals with_reducible rfl)
  (try simp only [Act.put, List.setIfInBounds_toArray, List.set_cons_zero, List.set_cons_succ])
  refine wpAnyH_take (i := 19) (oi := ({ dst := some 59, op := Op.move (Operand.tmp 2), type := 25, pos := "law.go:113", after := #[{ on := 15, ground := Ground.guard }], guard := some (15, true) } : Oper)) (v := ?y1_16_v) rfl (by kernel_rfl) (by kernel_rfl) (by kernel_rfl) (fun _ _ _ h => h) (Or.inl ⟨by rfl, ?y1_16_h⟩) hHeld ?y1_16_r
  case y1_16_h => (intro w hSw; (try dsimp only at hSw); go_simp; all_goals with_reducible rfl)
  (try simp only [Act.put, List.setIfInBounds_toArray, List.set_cons_zero, List.set_cons_succ])
  refine wpAnyH_take (i := 20) (oi := ({ dst := some 60, op := Op.fieldAddr 24 (Operand.tmp 3) 1, type := 0, pos := "law.go:113", after := #[{ on := 15, ground := Ground.guard }], guard := some (15, true) } : Oper)) (v := ?y1_17_v) rfl (by kernel_rfl) (by kernel_rfl) (by kernel_rfl) (fun _ _ _ h => h) (Or.inl ⟨by rfl, ?y1_17_h⟩) hHeld ?y1_17_r
  case y1_17_h => (intro w hSw; (try dsimp only at hSw); go_simp; all_goals with_reducible rfl)
  (try simp only [Act.put, List.setIfInBounds_toArray, List.set_cons_zero, List.set_cons_succ])
  refine wpAnyH_take (i := 21) (oi := ({ dst := some 61, op := Op.load 5 (Operand.tmp 60), type := 5, pos := "law.go:113", after := #[{ on := 20, ground := Ground.data }, { on := 15, ground := Ground.guard }], guard := some (15, true) } : Oper)) (v := ?y1_18_v) rfl (by kernel_rfl) (by kernel_rfl) (by kernel_rfl) (fun _ _ _ h => h) (Or.inl ⟨by rfl, ?y1_18_h⟩) hHeld ?y1_18_r
  case y1_18_h => (intro w hSw; (try dsimp only at hSw); go_simp; all_goals with_reducible rfl)
  (try simp only [Act.put, List.setIfInBounds_toArray, List.set_cons_zero, List.set_cons_succ])
  refine wpAnyH_take (i := 24) (oi := ({ dst := some 64, op := Op.move (Operand.tmp 8), type := 29, pos := "law.go:113", after := #[{ on := 15, ground := Ground.guard }], guard := some (15, true) } : Oper)) (v := ?y1_19_v) rfl (by kernel_rfl) (by kernel_rfl) (by kernel_rfl) (fun _ _ _ h => h) (Or.inl ⟨by rfl, ?y1_19_h⟩) hHeld ?y1_19_r
  case y1_19_h => (intro w hSw; (try dsimp only at hSw); go_simp; all_goals with_reducible rfl)
  (try simp only [Act.put, List.setIfInBounds_toArray, List.set_cons_zero, List.set_cons_succ])
  refine wpAnyH_take (i := 25) (oi := ({ dst := some 65, op := Op.move (Operand.tmp 1), type := 25, pos := "law.go:113", after := #[{ on := 15, ground := Ground.guard }], guard := some (15, true) } : Oper)) (v := ?y1_20_v) rfl (by kernel_rfl) (by kernel_rfl) (by kernel_rfl) (fun _ _ _ h => h) (Or.inl ⟨by rfl, ?y1_20_h⟩) hHeld ?y1_20_r
  case y1_20_h => (intro w hSw; (try dsimp only at hSw); go_simp; all_goals with_reducible rfl)
  (try simp only [Act.put, List.setIfInBounds_toArray, List.set_cons_zero, List.set_cons_succ])
  refine wpAnyH_take (i := 27) (oi := ({ dst := some 67, op := Op.move (Operand.tmp 2), type := 25, pos := "law.go:113", after := #[{ on := 15, ground := Ground.guard }], guard := some (15, true) } : Oper)) (v := ?y1_21_v) rfl (by kernel_rfl) (by kernel_rfl) (by kernel_rfl) (fun _ _ _ h => h) (Or.inl ⟨by rfl, ?y1_21_h⟩) hHeld ?y1_21_r
  case y1_21_h => (intro w hSw; (try dsimp only at hSw); go_simp; all_goals with_reducible rfl)
  (try simp only [Act.put, List.setIfInBounds_toArray, List.set_cons_zero, List.set_cons_succ])
  refine wpAnyH_take (i := 28) (oi := ({ dst := some 68, op := Op.fieldAddr 24 (Operand.tmp 3) 1, type := 0, pos := "law.go:113", after := #[{ on := 15, ground := Ground.guard }], guard := some (15, true) } : Oper)) (v := ?y1_22_v) rfl (by kernel_rfl) (by kernel_rfl) (by kernel_rfl) (fun _ _ _ h => h) (Or.inl ⟨by rfl, ?y1_22_h⟩) hHeld ?y1_22_r
  case y1_22_h => (intro w hSw; (try dsimp only at hSw); go_simp; all_goals with_reducible rfl)
  (try simp only [Act.put, List.setIfInBounds_toArray, List.set_cons_zero, List.set_cons_succ])
  refine wpAnyH_take (i := 29) (oi := ({ dst := some 69, op := Op.load 5 (Operand.tmp 68), type := 5, pos := "law.go:113", after := #[{ on := 28, ground := Ground.data }, { on := 15, ground := Ground.guard }], guard := some (15, true) } : Oper)) (v := ?y1_23_v) rfl (by kernel_rfl) (by kernel_rfl) (by kernel_rfl) (fun _ _ _ h => h) (Or.inl ⟨by rfl, ?y1_23_h⟩) hHeld ?y1_23_r
  case y1_23_h => (intro w hSw; (try dsimp only at hSw); go_simp; all_goals with_reducible rfl)
  (try simp only [Act.put, List.setIfInBounds_toArray, List.set_cons_zero, List.set_cons_succ])
  refine wpAnyH_ready (rs := [18]) (by kernel_rfl) (by simp) ?_
  refine AllReadyH.cons (o := ({ dst := some 58, op := Op.call { callee := Callee.value (Operand.func 10), args := #[Operand.tmp 57, Operand.const (Value.int IntKind.u8 1)], argTypes := #[25, 5] }, type := 32, pos := "law.go:113", after := #[{ on := 17, ground := Ground.data }, { on := 15, ground := Ground.chain }, { on := 15, ground := Ground.guard }], guard := some (15, true) } : Oper)) rfl (fun K hK => ?_) AllReadyH.nil
  go_simp
  (go_at_call 10; (refine (numbers_any (d := 1) (HX.out.below (bt HB.out HZ12.out)) HXS.out (by decide) (by omega)).mono ?_); rintro e x18 ⟨a18, c18, rfl, hv, hbb⟩; have HN18 := Lib.hid (show RatsR x18 (.slice a18 n c18) n (ratV 1 x) from hv); have HZ18 := Lib.hid (bt HZ12.out hbb); clear hv hbb)
  first | refine hK.out _ _ ?_ (fun hHeld => ?_) | (go_wp2_with fail; refine hK.out _ _ ?_ (fun hHeld => ?_))
  · exact HLS.out _ HZ18.out
  clear hK K
  (try dsimp only at hHeld)
  (try simp only [Act.put, List.setIfInBounds_toArray, List.set_cons_zero, List.set_cons_succ])
  refine wpAnyH_ready (rs := [22]) (by kernel_rfl) (by simp) ?_
  refine AllReadyH.cons (o := ({ dst := some 62, op := Op.call { callee := Callee.value (Operand.func 10), args := #[Operand.tmp 59, Operand.tmp 61], argTypes := #[25, 5] }, type := 32, pos := "law.go:113", after := #[{ on := 19, ground := Ground.data }, { on := 21, ground := Ground.data }, { on := 18, ground := Ground.chain }, { on := 15, ground := Ground.guard }], guard := some (15, true) } : Oper)) rfl (fun K hK => ?_) AllReadyH.nil
  go_simp
  (go_at_call 10; (refine (numbers_any (d := d) (HY.out.below (bt HB.out HZ18.out)) HYS.out hd (by omega)).mono ?_); rintro e x22 ⟨a22, c22, rfl, hv, hbb⟩; have HN22 := Lib.hid (show RatsR x22 (.slice a22 n2 c22) n2 (ratV d y) from hv); have HZ22 := Lib.hid (bt HZ18.out hbb); replace HN18 := Lib.hid (HN18.out.below hbb); clear hv hbb)
  first | refine hK.out _ _ ?_ (fun hHeld => ?_) | (go_wp2_with fail; refine hK.out _ _ ?_ (fun hHeld => ?_))
  · exact HLS.out _ HZ22.out
  clear hK K
  (try dsimp only at hHeld)
  (try simp only [Act.put, List.setIfInBounds_toArray, List.set_cons_zero, List.set_cons_succ])
  refine wpAnyH_ready (rs := [23]) (by kernel_rfl) (by simp) ?_
  refine AllReadyH.cons (o := ({ dst := some 63, op := Op.call { callee := Callee.value (Operand.func 22), args := #[Operand.tmp 56, Operand.tmp 58, Operand.tmp 62], argTypes := #[28, 32, 32] }, type := 4, pos := "law.go:113", after := #[{ on := 16, ground := Ground.data }, { on := 18, ground := Ground.data }, { on := 22, ground := Ground.data }, { on := 22, ground := Ground.chain }, { on := 15, ground := Ground.guard }], guard := some (15, true) } : Oper)) rfl (fun K hK => ?_) AllReadyH.nil
  go_simp
  (go_at_call 22; (refine (check_some (HA.out.below HZ22.out) HZ.out hd HN18.out HXS.out (by decide) HN22.out HYS.out hd X HXX.out).mono ?_); rintro e x23 ⟨rfl, hbb⟩; have HZ23 := Lib.hid (bt HZ22.out hbb); clear hbb)
  first | refine hK.out _ _ ?_ (fun hHeld => ?_) | (go_wp2_with fail; refine hK.out _ _ ?_ (fun hHeld => ?_))
  · exact HLS.out _ HZ23.out
  clear hK K
  (try dsimp only at hHeld)
  (try simp only [Act.put, List.setIfInBounds_toArray, List.set_cons_zero, List.set_cons_succ])
  refine wpAnyH_ready (rs := [26]) (by kernel_rfl) (by simp) ?_
  refine AllReadyH.cons (o := ({ dst := some 66, op := Op.call { callee := Callee.value (Operand.func 12), args := #[Operand.tmp 65, Operand.const (Value.int IntKind.u8 1)], argTypes := #[25, 5] }, type := 37, pos := "law.go:113", after := #[{ on := 25, ground := Ground.data }, { on := 23, ground := Ground.chain }, { on := 15, ground := Ground.guard }], guard := some (15, true) } : Oper)) rfl (fun K hK => ?_) AllReadyH.nil
  go_simp
  (go_at_call 12; (refine (rnumbers_any (d := 1) (HX.out.below (bt HB.out HZ23.out)) HXS.out (by decide) (by omega)).mono ?_); rintro e x26 ⟨a26, c26, rfl, hv, hbb⟩; have HN26 := Lib.hid (show rRatsR x26 (.slice a26 n c26) n (ratV 1 x) from hv); have HZ26 := Lib.hid (bt HZ23.out hbb); clear hv hbb)
  first | refine hK.out _ _ ?_ (fun hHeld => ?_) | (go_wp2_with fail; refine hK.out _ _ ?_ (fun hHeld => ?_))
  · exact HLS.out _ HZ26.out
  clear hK K
  (try dsimp only at hHeld)
  (try simp only [Act.put, List.setIfInBounds_toArray, List.set_cons_zero, List.set_cons_succ])
  refine wpAnyH_ready (rs := [30]) (by kernel_rfl) (by simp) ?_
  refine AllReadyH.cons (o := ({ dst := some 70, op := Op.call { callee := Callee.value (Operand.func 12), args := #[Operand.tmp 67, Operand.tmp 69], argTypes := #[25, 5] }, type := 37, pos := "law.go:113", after := #[{ on := 27, ground := Ground.data }, { on := 29, ground := Ground.data }, { on := 26, ground := Ground.chain }, { on := 15, ground := Ground.guard }], guard := some (15, true) } : Oper)) rfl (fun K hK => ?_) AllReadyH.nil
  go_simp
  (go_at_call 12; (refine (rnumbers_any (d := d) (HY.out.below (bt HB.out HZ26.out)) HYS.out hd (by omega)).mono ?_); rintro e x30 ⟨a30, c30, rfl, hv, hbb⟩; have HN30 := Lib.hid (show rRatsR x30 (.slice a30 n2 c30) n2 (ratV d y) from hv); have HZ30 := Lib.hid (bt HZ26.out hbb); replace HN26 := Lib.hid (HN26.out.below hbb); clear hv hbb)
  first | refine hK.out _ _ ?_ (fun hHeld => ?_) | (go_wp2_with fail; refine hK.out _ _ ?_ (fun hHeld => ?_))
  · exact HLS.out _ HZ30.out
  clear hK K
  (try dsimp only at hHeld)
  (try simp only [Act.put, List.setIfInBounds_toArray, List.set_cons_zero, List.set_cons_succ])
  refine wpAnyH_ready (rs := [31]) (by kernel_rfl) (by simp) ?_
  refine AllReadyH.cons (o := ({ dst := some 71, op := Op.call { callee := Callee.value (Operand.func 23), args := #[Operand.tmp 64, Operand.tmp 66, Operand.tmp 70], argTypes := #[29, 37, 37] }, type := 4, pos := "law.go:113", after := #[{ on := 24, ground := Ground.data }, { on := 26, ground := Ground.data }, { on := 30, ground := Ground.data }, { on := 30, ground := Ground.chain }, { on := 15, ground := Ground.guard }], guard := some (15, true) } : Oper)) rfl (fun K hK => ?_) AllReadyH.nil
  go_simp
  (go_at_call 23; (refine (rcheck_some (HRA.out.below HZ30.out) HZ.out hd HN26.out HXS.out (by decide) HN30.out HYS.out hd X HXX.out).mono ?_); rintro e x31 ⟨rfl, hbb⟩; have HZ31 := Lib.hid (bt HZ30.out hbb); clear hbb)
  first | refine hK.out _ _ ?_ (fun hHeld => ?_) | (go_wp2_with fail; refine hK.out _ _ ?_ (fun hHeld => ?_))
  · exact HLS.out _ HZ31.out
  clear hK K
  (try dsimp only at hHeld)
  (try simp only [Act.put, List.setIfInBounds_toArray, List.set_cons_zero, List.set_cons_succ])
  refine wpAnyH_take (i := 32) (oi := ({ dst := some 72, op := Op.binOp BinOp.eql 4 (Operand.tmp 63) (Operand.tmp 71) 4, type := 4, pos := "law.go:113", after := #[{ on := 23, ground := Ground.data }, { on := 31, ground := Ground.data }, { on := 15, ground := Ground.guard }], guard := some (15, true) } : Oper)) (v := ?y1_24_v) rfl (by kernel_rfl) (by kernel_rfl) (by kernel_rfl) (fun _ _ _ h => h) (Or.inl ⟨by rfl, ?y1_24_h⟩) hHeld ?y1_24_r
  case y1_24_h => (intro w hSw; (try dsimp only at hSw); go_simp; all_goals with_reducible rfl)
  (try simp only [Act.put, List.setIfInBounds_toArray, List.set_cons_zero, List.set_cons_succ])
  refine wpAnyH_take (i := 33) (oi := ({ dst := some 73, op := Op.pick (Operand.tmp 55) (Operand.tmp 72) (Operand.const (Value.bool false)), type := 4, pos := "law.go:113", after := #[{ on := 15, ground := Ground.data }, { on := 32, ground := Ground.data }], guard := none } : Oper)) (v := ?y1_25_v) rfl (by kernel_rfl) (by kernel_rfl) (by kernel_rfl) (fun _ _ _ h => h) (Or.inl ⟨by rfl, ?y1_25_h⟩) hHeld ?y1_25_r
  case y1_25_h => (intro w hSw; (try dsimp only at hSw); go_simp; all_goals with_reducible rfl)
  (try simp only [Act.put, List.setIfInBounds_toArray, List.set_cons_zero, List.set_cons_succ])
  refine wpAnyH_take (i := 34) (oi := ({ dst := some 6, op := Op.assign (Operand.tmp 73), type := 4, pos := "law.go:113", after := #[{ on := 33, ground := Ground.data }, { on := 31, ground := Ground.chain }, { on := 0, ground := Ground.phase }, { on := 1, ground := Ground.phase }, { on := 2, ground := Ground.phase }, { on := 3, ground := Ground.phase }, { on := 4, ground := Ground.phase }, { on := 5, ground := Ground.phase }, { on := 6, ground := Ground.phase }, { on := 7, ground := Ground.phase }, { on := 8, ground := Ground.phase }, { on := 9, ground := Ground.phase }, { on := 10, ground := Ground.phase }, { on := 11, ground := Ground.phase }, { on := 12, ground := Ground.phase }, { on := 13, ground := Ground.phase }, { on := 14, ground := Ground.phase }, { on := 15, ground := Ground.phase }, { on := 16, ground := Ground.phase }, { on := 17, ground := Ground.phase }, { on := 18, ground := Ground.phase }, { on := 19, ground := Ground.phase }, { on := 20, ground := Ground.phase }, { on := 21, ground := Ground.phase }, { on := 22, ground := Ground.phase }, { on := 23, ground := Ground.phase }, { on := 24, ground := Ground.phase }, { on := 25, ground := Ground.phase }, { on := 26, ground := Ground.phase }, { on := 27, ground := Ground.phase }, { on := 28, ground := Ground.phase }, { on := 29, ground := Ground.phase }, { on := 30, ground := Ground.phase }, { on := 31, ground := Ground.phase }, { on := 32, ground := Ground.phase }, { on := 33, ground := Ground.phase }], guard := none } : Oper)) (v := ?y1_26_v) rfl (by kernel_rfl) (by kernel_rfl) (by kernel_rfl) (fun _ _ _ h => h) (Or.inl ⟨by rfl, ?y1_26_h⟩) hHeld ?y1_26_r
  case y1_26_h => (intro w hSw; (try dsimp only at hSw); go_simp; all_goals with_reducible rfl)
  (try simp only [Act.put, List.setIfInBounds_toArray, List.set_cons_zero, List.set_cons_succ])
  refine wpAnyH_done (by kernel_rfl) ?_ _
  replace HB := Lib.hid (bt HB.out HZ31.out)
  clear HLS HN18 HN22 HN26 HN30 HA HRA HS1 HS2
  go_wp2
  go_ret
  exact ⟨rfl, HB.out⟩
end Go.Proofs.YtjphfdlpcakpeaaGreatDoor
