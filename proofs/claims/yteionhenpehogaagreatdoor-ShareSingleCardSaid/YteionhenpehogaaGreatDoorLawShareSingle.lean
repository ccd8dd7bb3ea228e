/- ShareSingle walked. -/
import Derived.Test.YteionhenpehogaaGreatDoorAwakeZ
import Derived.Test.YteionhenpehogaaGreatDoorPlainSi
import Derived.BigRegion
import Derived.Deep.RegionWith
namespace Go.Proofs.YteionhenpehogaaGreatDoor
open Go.RowKit Tally

set_option maxHeartbeats 8000000 in
set_option maxRecDepth 100000 in
theorem lawSingle_any {w : World} {v : Value} {k : Nat} {n day : Int} {H : Hds} (h : HoldIn w v k H) (ht : Tab w) :
    Calls Tryz.prog 9 #[.int .i64 n, v, .int .i64 day] w fun e w' => e = .returned (.bool true) ∧ Below w.heap.size w w' := by
  obtain ⟨⟨a, c, rfl, hkc⟩, hh, hw⟩ := h
  have HH := Lib.hid hh
  have HW := Lib.hid hw
  have HT := Lib.hid ht
  clear hh hw ht
  go_enter Tryz.func9, Tryz.ntmps9
  go_wp2_with fail
  refine (sawake_any HT.out).mono ?_
  rintro en w1 ⟨rfl, hb⟩
  have HB1 := Lib.hid hb
  clear hb
  go_wp2_with fail
  refine sfew_any.mono ?_
  rintro en w1' ⟨rfl, rfl⟩
  by_cases hf : n ≤ 8 ∧ k ≤ 30
  case neg =>
    rw [decide_eq_false hf]
    go_wp2
    go_ret
    exact ⟨rfl, HB1.out⟩
  rw [decide_eq_true hf]
  have HHR := Lib.hid ((HH.out hf.2).below HB1.out)
  clear HH
  by_cases hv : H.valid n k
  case neg =>
    have HV := Lib.hid hv
    clear hv
    go_wp2_with fail
    refine (eff_no1 HHR.out HW.out HV.out).mono ?_
    rintro en w2 ⟨rfl, hb2⟩
    have HB2 := Lib.hid (bt HB1.out hb2)
    have HH2 := Lib.hid (HHR.out.below hb2)
    clear hb2
    go_wp2_with fail
    refine (matrix_no1 HH2.out HW.out HV.out).mono ?_
    rintro en w3 ⟨rfl, hb3⟩
    have HB3 := Lib.hid (bt HB2.out hb3)
    clear hb3
    go_wp2
    go_ret
    exact ⟨rfl, HB3.out⟩
  by_cases hd : goodDate day
  case neg =>
    have HV := Lib.hid hv
    have HD := Lib.hid hd
    clear hv hd
    go_wp2_with fail
    refine (eff_no2 HHR.out HW.out HV.out HD.out).mono ?_
    rintro en w2 ⟨rfl, hb2⟩
    have HB2 := Lib.hid (bt HB1.out hb2)
    have HH2 := Lib.hid (HHR.out.below hb2)
    clear hb2
    go_wp2_with fail
    refine (matrix_no2 HH2.out HW.out HV.out HD.out).mono ?_
    rintro en w3 ⟨rfl, hb3⟩
    have HB3 := Lib.hid (bt HB2.out hb3)
    clear hb3
    go_wp2
    go_ret
    exact ⟨rfl, HB3.out⟩
  obtain ⟨N, rfl⟩ : ∃ N : Nat, n = N := ⟨n.toNat, by have := hv.1; omega⟩
  have hN1 : 1 ≤ N := by have := hv.1; omega
  have hN2 : N ≤ 12 := by have := hv.2.1; omega
  have HV := Lib.hid hv
  have HD := Lib.hid hd
  clear hv hd
  go_wp2_with fail
  refine (eff_yes HHR.out HW.out HV.out HD.out).mono ?_
  rintro en w2 ⟨ax, cx, o, x, rfl, ho, hx, hg, hr, hb2⟩
  have HB2 := Lib.hid (bt HB1.out hb2)
  have HH2 := Lib.hid (HHR.out.below hb2)
  have HO := Lib.hid ho
  have HX := Lib.hid hx
  have HG := Lib.hid hg
  have HR := Lib.hid hr
  clear ho hx hg hr hb2 HB1 HHR
  go_wp2_with fail
  refine (matrix_yes HH2.out HW.out HV.out HD.out).mono ?_
  rintro en w3 ⟨am, cm, rfl, hm, hb3⟩
  have HM := Lib.hid hm
  have HB3 := Lib.hid (bt HB2.out hb3)
  have HR3 := Lib.hid (HR.out.below hb3)
  have HSS := Lib.hid (at_shares (day := day) HV.out)
  clear hm hb3 HB2 HR HH2
  obtain ⟨Z, hZ⟩ : ∃ Z : Nat → Nat → Int, Z = fun h e => H.at (h : Nat) (e : Nat) day k := ⟨_, rfl⟩
  rw [← hZ] at HM HSS HO HX
  clear hZ
  obtain ⟨bm, om, rfl, hml⟩ := HM.out.look (by omega)
  have HML := Lib.hid hml
  obtain ⟨_, _, bx, ox, h3, h4⟩ := HR3.out.parts
  obtain rfl := h3 (by omega)
  have HRL := Lib.hid h4
  clear h3 h4 hml HM
  go_wp2_with fail
  go_loopw [11] (fun i wr => ∃ e : Nat, 1 ≤ e ∧ e ≤ N ∧ i = .int .i64 e ∧ Below w3.heap.size w3 wr) (fun i _ => N - (RowKit.intOf i).toNat)
  case atStart => exact ⟨1, Nat.le_refl _, hN1, rfl, Below.refl _ _⟩
  case round =>
    obtain ⟨e, he1, he, rfl, hb⟩ := hrel
    by_cases hel : e < N
    case neg =>
      obtain rfl : e = N := by omega
      have HB4 := Lib.hid (bt HB3.out hb)
      clear hb
      go_wp2
      go_ret
      exact ⟨rfl, HB4.out⟩
    have hei : (e : Int) < (N : Int) := by omega
    have HBE := Lib.hid hb
    clear hb
    go_wp2_with fail
    go_loopw [12, 13, 14] (fun p l i wi => ∃ cn ll h : Nat, h ≤ N ∧ p = .int .i64 cn ∧ l = .int .i64 ll ∧ i = .int .i64 h ∧ Hol Z e h cn ll ∧ wi = wr) (fun _ _ i _ => N - (RowKit.intOf i).toNat)
    case atStart => exact ⟨0, 0, 0, Nat.zero_le _, rfl, rfl, rfl, Hol.start, rfl⟩
    case round =>
      obtain ⟨cn, ll, h, hh, rfl, rfl, rfl, hol, rfl⟩ := hrel
      have HL := Lib.hid hol
      have hcl := hol.le
      clear hol
      by_cases hhl : h < N
      · have hhi : (h : Int) < (N : Int) := by omega
        obtain ⟨b4, o4, c4, x1, x2⟩ := HML.out h e hhl hel
        replace x1 := keepc HBE.out x1
        replace x2 := keepc HBE.out x2
        by_cases hz : 0 < Z h e
        · go_wp2
          go_roundw
          case rel => exact ⟨cn + 1, h, h + 1, by omega, by simp, rfl, by simp, HL.out.yes hz, trivial⟩
          case measure => simp [RowKit.intOf]; omega
        · go_wp2
          go_roundw
          case rel => exact ⟨cn, ll, h + 1, by omega, rfl, rfl, by simp, HL.out.no (by omega), trivial⟩
          case measure => simp [RowKit.intOf]; omega
      · obtain rfl : N = h := by omega
        have hll : ll < N := by omega
        have hli : (ll : Int) < (N : Int) := by omega
        obtain ⟨b4, o4, c4, x1, x2⟩ := HML.out ll e hll hel
        replace x1 := keepc HBE.out x1
        replace x2 := keepc HBE.out x2
        have hzr := HSS.out.range ll e hll hel
        go_wp2_with fail
        refine (of_r (by omega) (by omega) (by decide) (by decide) (by decide)).mono ?_
        rintro en w5 ⟨n1, a1, k1, c1, n2, a2, k2, c2, rfl, hq, hb5⟩
        have HQ := Lib.hid (show RatN w5 ⟨n1, a1, k1, c1, n2, a2, k2, c2⟩ (Tally.part (Z ll e)) from hq)
        have HB5 := Lib.hid (bt HBE.out hb5)
        clear hq hb5 x1 x2
        go_wp2_with fail
        obtain ⟨w6, hW, hs, hb, b0⟩ := alloc1 w5 (.cells #[.bool n1, .slice a1 k1 c1, .bool n2, .slice a2 k2 c2] 37)
        rw [← hW]
        have HQ6 := Lib.hid (show RatR w6 (.agg #[.bool n1, .slice a1 k1 c1, .bool n2, .slice a2 k2 c2]) (Tally.part (Z ll e)) from RatR.below HQ.out hb)
        have HB6 := Lib.hid (bt HB5.out hb)
        obtain ⟨⟨q0, q1, q2, q3⟩, _⟩ := res4_facts b0
        clear hW hs hb b0 HQ HB5
        obtain ⟨xe, hxe4, hxe⟩ := HRL.out e hel
        obtain ⟨y0, y1, y2, y3⟩ := hxe4.at HB6.out
        have HXE := Lib.hid (RatR.below hxe HB6.out)
        clear hxe4 hxe
        rcases HL.out with ⟨hc, hl0, hall⟩ | ⟨hc, hl1, hlp, hall⟩ | ⟨hc, hc2, hl2⟩
        · obtain rfl := hc
          obtain rfl := hl0
          have hx0 := sol_none (dirE_shares HSS.out) HO.out HX.out he1 hel hall
          have HX0 := Lib.hid (show RatR w6 (.agg #[.bool xe.n1, .slice xe.a1 xe.k1 xe.c1, .bool xe.n2, .slice xe.a2 xe.k2 xe.c2]) 0 from by have := HXE.out; rw [if_neg (by omega), hx0] at this; exact this)
          clear hx0 hall HXE
          have HL := Lib.hid (fun (w' : World) (hb : Below w6.heap.size w6 w') => (⟨keepc hb y0, keepc hb y1, keepc hb y2, keepc hb y3⟩ : w'.cell? ⟨bx, ox + e * 4, none⟩ = some (.bool xe.n1) ∧ w'.cell? ⟨bx, ox + e * 4 + 1, none⟩ = some (.slice xe.a1 xe.k1 xe.c1) ∧ w'.cell? ⟨bx, ox + e * 4 + 2, none⟩ = some (.bool xe.n2) ∧ w'.cell? ⟨bx, ox + e * 4 + 3, none⟩ = some (.slice xe.a2 xe.k2 xe.c2)))
          clear y0 y1 y2 y3 q0 q1 q2 q3
          refine wp_region_held_drew (S := fun w' => w'.cell? ⟨bx, ox + e * 4, none⟩ = some (.bool xe.n1) ∧ w'.cell? ⟨bx, ox + e * 4 + 1, none⟩ = some (.slice xe.a1 xe.k1 xe.c1) ∧ w'.cell? ⟨bx, ox + e * 4 + 2, none⟩ = some (.bool xe.n2) ∧ w'.cell? ⟨bx, ox + e * 4 + 3, none⟩ = some (.slice xe.a2 xe.k2 xe.c2)) (by kernel_rfl) ?_ (fun hHeld => ?_)
          · exact HL.out _ (Below.drew (Below.refl w6.heap.size w6))
          (try dsimp only at hHeld)
          refine wpAnyH_take (i := 0) (oi := ({ dst := some 88, op := Op.move (Operand.tmp 12), type := 3, pos := "law.go:214", after := #[], guard := none } : Oper)) (v := ?y1_1_v) rfl (by kernel_rfl) (by kernel_rfl) (by kernel_rfl) (fun _ _ _ h => h) (Or.inl ⟨by rfl, ?y1_1_h⟩) hHeld ?y1_1_r
          case y1_1_h => (intro w hSw; (try dsimp only at hSw); go_simp; all_goals with_reducible rfl)
          (try simp only [Act.put, List.setIfInBounds_toArray, List.set_cons_zero, List.set_cons_succ])
          refine wpAnyH_take (i := 1) (oi := ({ dst := some 89, op := Op.binOp BinOp.eql 3 (Operand.tmp 88) (Operand.const (Value.int IntKind.i64 0)) 3, type := 4, pos := "law.go:214", after := #[{ on := 0, ground := Ground.data }], guard := none } : Oper)) (v := ?y1_2_v) rfl (by kernel_rfl) (by kernel_rfl) (by kernel_rfl) (fun _ _ _ h => h) (Or.inl ⟨by rfl, ?y1_2_h⟩) hHeld ?y1_2_r
          case y1_2_h => (intro w hSw; (try dsimp only at hSw); go_simp; all_goals with_reducible rfl)
          (try simp only [Act.put, List.setIfInBounds_toArray, List.set_cons_zero, List.set_cons_succ])
          refine wpAnyH_take (i := 2) (oi := ({ dst := some 90, op := Op.move (Operand.tmp 89), type := 4, pos := "law.go:214", after := #[{ on := 1, ground := Ground.data }], guard := none } : Oper)) (v := ?y1_3_v) rfl (by kernel_rfl) (by kernel_rfl) (by kernel_rfl) (fun _ _ _ h => h) (Or.inl ⟨by rfl, ?y1_3_h⟩) hHeld ?y1_3_r
          case y1_3_h => (intro w hSw; (try dsimp only at hSw); go_simp; all_goals with_reducible rfl)
          (try simp only [Act.put, List.setIfInBounds_toArray, List.set_cons_zero, List.set_cons_succ])
          refine wpAnyH_take (i := 3) (oi := ({ dst := some 91, op := Op.move (Operand.tmp 7), type := 26, pos := "law.go:214", after := #[{ on := 2, ground := Ground.guard }], guard := some (2, true) } : Oper)) (v := ?y1_4_v) rfl (by kernel_rfl) (by kernel_rfl) (by kernel_rfl) (fun _ _ _ h => h) (Or.inl ⟨by rfl, ?y1_4_h⟩) hHeld ?y1_4_r
          case y1_4_h => (intro w hSw; (try dsimp only at hSw); go_simp; all_goals with_reducible rfl)
          (try simp only [Act.put, List.setIfInBounds_toArray, List.set_cons_zero, List.set_cons_succ])
          refine wpAnyH_take (i := 4) (oi := ({ dst := some 92, op := Op.move (Operand.tmp 11), type := 3, pos := "law.go:214", after := #[{ on := 2, ground := Ground.guard }], guard := some (2, true) } : Oper)) (v := ?y1_5_v) rfl (by kernel_rfl) (by kernel_rfl) (by kernel_rfl) (fun _ _ _ h => h) (Or.inl ⟨by rfl, ?y1_5_h⟩) hHeld ?y1_5_r
          case y1_5_h => (intro w hSw; (try dsimp only at hSw); go_simp; all_goals with_reducible rfl)
          (try simp only [Act.put, List.setIfInBounds_toArray, List.set_cons_zero, List.set_cons_succ])
          refine wpAnyH_take (i := 5) (oi := ({ dst := some 93, op := Op.indexAddr 26 (Operand.tmp 91) (Operand.tmp 92), type := 0, pos := "law.go:214", after := #[{ on := 3, ground := Ground.data }, { on := 4, ground := Ground.data }, { on := 2, ground := Ground.guard }], guard := some (2, true) } : Oper)) (v := ?y1_6_v) rfl (by kernel_rfl) (by kernel_rfl) (by kernel_rfl) (fun _ _ _ h => h) (Or.inl ⟨by rfl, ?y1_6_h⟩) hHeld ?y1_6_r
          case y1_6_h => (intro w hSw; (try dsimp only at hSw); go_simp; all_goals with_reducible rfl)
          (try simp only [Act.put, List.setIfInBounds_toArray, List.set_cons_zero, List.set_cons_succ])
          refine wpAnyH_take (i := 6) (oi := ({ dst := some 94, op := Op.load 37 (Operand.tmp 93), type := 37, pos := "law.go:214", after := #[{ on := 5, ground := Ground.data }, { on := 2, ground := Ground.guard }], guard := some (2, true) } : Oper)) (v := ?y1_7_v) rfl (by kernel_rfl) (by kernel_rfl) (by kernel_rfl) (fun _ _ _ h => h) (Or.inl ⟨by rfl, ?y1_7_h⟩) hHeld ?y1_7_r
          case y1_7_h => (intro w hSw; (try dsimp only at hSw); go_simp; all_goals with_reducible rfl)
          (try simp only [Act.put, List.setIfInBounds_toArray, List.set_cons_zero, List.set_cons_succ])
          refine wpAnyH_ready (rs := [7]) (by kernel_rfl) (by simp) ?_
          refine AllReadyH.cons (o := ({ dst := some 95, op := Op.call { callee := Callee.value (Operand.func 18), args := #[Operand.tmp 94], argTypes := #[37] }, type := 3, pos := "law.go:214", after := #[{ on := 6, ground := Ground.data }, { on := 2, ground := Ground.chain }, { on := 2, ground := Ground.guard }], guard := some (2, true) } : Oper)) rfl (fun K hK => ?_) AllReadyH.nil
          go_simp
          (go_at_call 18; (with_reducible refine (ratsign_any (RatR.below HX0.out (Below.drew (Below.refl w6.heap.size w6)))).mono ?_); rintro en w7 ⟨rfl, hb7⟩; rw [show (0 : Rat).num.sign = 0 from rfl]; have HZ7 := Lib.hid (bt (Below.drew (Below.refl w6.heap.size w6)) hb7); clear hb7)
          first | refine hK.out _ _ ?_ (fun hHeld => ?_) | (go_wp2_with fail; refine hK.out _ _ ?_ (fun hHeld => ?_))
          · exact HL.out _ HZ7.out
          clear hK K
          (try dsimp only at hHeld)
          (try simp only [Act.put, List.setIfInBounds_toArray, List.set_cons_zero, List.set_cons_succ])
          refine wpAnyH_take (i := 8) (oi := ({ dst := some 96, op := Op.binOp BinOp.neq 3 (Operand.tmp 95) (Operand.const (Value.int IntKind.i64 0)) 3, type := 4, pos := "law.go:214", after := #[{ on := 7, ground := Ground.data }, { on := 2, ground := Ground.guard }], guard := some (2, true) } : Oper)) (v := ?y1_8_v) rfl (by kernel_rfl) (by kernel_rfl) (by kernel_rfl) (fun _ _ _ h => h) (Or.inl ⟨by rfl, ?y1_8_h⟩) hHeld ?y1_8_r
          case y1_8_h => (intro w hSw; (try dsimp only at hSw); go_simp; all_goals with_reducible rfl)
          (try simp only [Act.put, List.setIfInBounds_toArray, List.set_cons_zero, List.set_cons_succ])
          refine wpAnyH_take (i := 9) (oi := ({ dst := some 97, op := Op.pick (Operand.tmp 90) (Operand.tmp 96) (Operand.const (Value.bool false)), type := 4, pos := "law.go:214", after := #[{ on := 2, ground := Ground.data }, { on := 8, ground := Ground.data }], guard := none } : Oper)) (v := ?y1_9_v) rfl (by kernel_rfl) (by kernel_rfl) (by kernel_rfl) (fun _ _ _ h => h) (Or.inl ⟨by rfl, ?y1_9_h⟩) hHeld ?y1_9_r
          case y1_9_h => (intro w hSw; (try dsimp only at hSw); go_simp; all_goals with_reducible rfl)
          (try simp only [Act.put, List.setIfInBounds_toArray, List.set_cons_zero, List.set_cons_succ])
          refine wpAnyH_take (i := 10) (oi := ({ dst := some 98, op := Op.move (Operand.tmp 97), type := 4, pos := "law.go:214", after := #[{ on := 9, ground := Ground.data }, { on := 7, ground := Ground.chain }], guard := none } : Oper)) (v := ?y1_10_v) rfl (by kernel_rfl) (by kernel_rfl) (by kernel_rfl) (fun _ _ _ h => h) (Or.inl ⟨by rfl, ?y1_10_h⟩) hHeld ?y1_10_r
          case y1_10_h => (intro w hSw; (try dsimp only at hSw); go_simp; all_goals with_reducible rfl)
          (try simp only [Act.put, List.setIfInBounds_toArray, List.set_cons_zero, List.set_cons_succ])
          refine wpAnyH_take (i := 11) (oi := ({ dst := some 99, op := Op.move (Operand.tmp 12), type := 3, pos := "law.go:214", after := #[{ on := 10, ground := Ground.guard }], guard := some (10, false) } : Oper)) (v := ?y1_11_v) rfl (by kernel_rfl) (by kernel_rfl) (by kernel_rfl) (fun _ _ _ h => h) (Or.inl ⟨by rfl, ?y1_11_h⟩) hHeld ?y1_11_r
          case y1_11_h => (intro w hSw; (try dsimp only at hSw); go_simp; all_goals with_reducible rfl)
          (try simp only [Act.put, List.setIfInBounds_toArray, List.set_cons_zero, List.set_cons_succ])
          refine wpAnyH_take (i := 12) (oi := ({ dst := some 100, op := Op.binOp BinOp.eql 3 (Operand.tmp 99) (Operand.const (Value.int IntKind.i64 1)) 3, type := 4, pos := "law.go:214", after := #[{ on := 11, ground := Ground.data }, { on := 10, ground := Ground.guard }], guard := some (10, false) } : Oper)) (v := ?y1_12_v) rfl (by kernel_rfl) (by kernel_rfl) (by kernel_rfl) (fun _ _ _ h => h) (Or.inl ⟨by rfl, ?y1_12_h⟩) hHeld ?y1_12_r
          case y1_12_h => (intro w hSw; (try dsimp only at hSw); go_simp; all_goals with_reducible rfl)
          (try simp only [Act.put, List.setIfInBounds_toArray, List.set_cons_zero, List.set_cons_succ])
          refine wpAnyH_take (i := 13) (oi := ({ dst := some 101, op := Op.move (Operand.tmp 100), type := 4, pos := "law.go:214", after := #[{ on := 12, ground := Ground.data }, { on := 10, ground := Ground.chain }, { on := 10, ground := Ground.guard }], guard := some (10, false) } : Oper)) (v := ?y1_13_v) rfl (by kernel_rfl) (by kernel_rfl) (by kernel_rfl) (fun _ _ _ h => h) (Or.inl ⟨by rfl, ?y1_13_h⟩) hHeld ?y1_13_r
          case y1_13_h => (intro w hSw; (try dsimp only at hSw); go_simp; all_goals with_reducible rfl)
          (try simp only [Act.put, List.setIfInBounds_toArray, List.set_cons_zero, List.set_cons_succ])
          refine wpAnyH_take (i := 14) (oi := ({ dst := some 102, op := Op.move (Operand.tmp 7), type := 26, pos := "law.go:214", after := #[{ on := 13, ground := Ground.guard }], guard := some (13, true) } : Oper)) (v := undef) rfl (by kernel_rfl) (by kernel_rfl) (by kernel_rfl) (fun _ _ _ h => h) (Or.inr ⟨by rfl, rfl⟩) hHeld ?_
          (try simp only [Act.put, List.setIfInBounds_toArray, List.set_cons_zero, List.set_cons_succ])
          refine wpAnyH_take (i := 15) (oi := ({ dst := some 103, op := Op.move (Operand.tmp 11), type := 3, pos := "law.go:214", after := #[{ on := 13, ground := Ground.guard }], guard := some (13, true) } : Oper)) (v := undef) rfl (by kernel_rfl) (by kernel_rfl) (by kernel_rfl) (fun _ _ _ h => h) (Or.inr ⟨by rfl, rfl⟩) hHeld ?_
          (try simp only [Act.put, List.setIfInBounds_toArray, List.set_cons_zero, List.set_cons_succ])
          refine wpAnyH_take (i := 16) (oi := ({ dst := some 104, op := Op.indexAddr 26 (Operand.tmp 102) (Operand.tmp 103), type := 0, pos := "law.go:214", after := #[{ on := 14, ground := Ground.data }, { on := 15, ground := Ground.data }, { on := 13, ground := Ground.guard }], guard := some (13, true) } : Oper)) (v := undef) rfl (by kernel_rfl) (by kernel_rfl) (by kernel_rfl) (fun _ _ _ h => h) (Or.inr ⟨by rfl, rfl⟩) hHeld ?_
          (try simp only [Act.put, List.setIfInBounds_toArray, List.set_cons_zero, List.set_cons_succ])
          refine wpAnyH_take (i := 17) (oi := ({ dst := some 105, op := Op.load 37 (Operand.tmp 104), type := 37, pos := "law.go:214", after := #[{ on := 16, ground := Ground.data }, { on := 13, ground := Ground.guard }], guard := some (13, true) } : Oper)) (v := undef) rfl (by kernel_rfl) (by kernel_rfl) (by kernel_rfl) (fun _ _ _ h => h) (Or.inr ⟨by rfl, rfl⟩) hHeld ?_
          (try simp only [Act.put, List.setIfInBounds_toArray, List.set_cons_zero, List.set_cons_succ])
          refine wpAnyH_take (i := 18) (oi := ({ dst := some 106, op := Op.move (Operand.tmp 7), type := 26, pos := "law.go:214", after := #[{ on := 13, ground := Ground.guard }], guard := some (13, true) } : Oper)) (v := undef) rfl (by kernel_rfl) (by kernel_rfl) (by kernel_rfl) (fun _ _ _ h => h) (Or.inr ⟨by rfl, rfl⟩) hHeld ?_
          (try simp only [Act.put, List.setIfInBounds_toArray, List.set_cons_zero, List.set_cons_succ])
          refine wpAnyH_take (i := 19) (oi := ({ dst := some 107, op := Op.move (Operand.tmp 13), type := 3, pos := "law.go:214", after := #[{ on := 13, ground := Ground.guard }], guard := some (13, true) } : Oper)) (v := undef) rfl (by kernel_rfl) (by kernel_rfl) (by kernel_rfl) (fun _ _ _ h => h) (Or.inr ⟨by rfl, rfl⟩) hHeld ?_
          (try simp only [Act.put, List.setIfInBounds_toArray, List.set_cons_zero, List.set_cons_succ])
          refine wpAnyH_take (i := 20) (oi := ({ dst := some 108, op := Op.indexAddr 26 (Operand.tmp 106) (Operand.tmp 107), type := 0, pos := "law.go:214", after := #[{ on := 18, ground := Ground.data }, { on := 19, ground := Ground.data }, { on := 13, ground := Ground.guard }], guard := some (13, true) } : Oper)) (v := undef) rfl (by kernel_rfl) (by kernel_rfl) (by kernel_rfl) (fun _ _ _ h => h) (Or.inr ⟨by rfl, rfl⟩) hHeld ?_
          (try simp only [Act.put, List.setIfInBounds_toArray, List.set_cons_zero, List.set_cons_succ])
          refine wpAnyH_take (i := 21) (oi := ({ dst := some 109, op := Op.load 37 (Operand.tmp 108), type := 37, pos := "law.go:214", after := #[{ on := 20, ground := Ground.data }, { on := 13, ground := Ground.guard }], guard := some (13, true) } : Oper)) (v := undef) rfl (by kernel_rfl) (by kernel_rfl) (by kernel_rfl) (fun _ _ _ h => h) (Or.inr ⟨by rfl, rfl⟩) hHeld ?_
          (try simp only [Act.put, List.setIfInBounds_toArray, List.set_cons_zero, List.set_cons_succ])
          refine wpAnyH_take (i := 22) (oi := ({ dst := some 110, op := Op.load 37 (Operand.tmp 15), type := 37, pos := "law.go:214", after := #[{ on := 13, ground := Ground.guard }], guard := some (13, true) } : Oper)) (v := undef) rfl (by kernel_rfl) (by kernel_rfl) (by kernel_rfl) (fun _ _ _ h => h) (Or.inr ⟨by rfl, rfl⟩) hHeld ?_
          (try simp only [Act.put, List.setIfInBounds_toArray, List.set_cons_zero, List.set_cons_succ])
          refine wpAnyH_take (i := 23) (oi := ({ dst := some 111, op := Op.call { callee := Callee.value (Operand.func 52), args := #[Operand.tmp 109, Operand.tmp 110], argTypes := #[37, 37] }, type := 37, pos := "law.go:214", after := #[{ on := 21, ground := Ground.data }, { on := 22, ground := Ground.data }, { on := 13, ground := Ground.chain }, { on := 13, ground := Ground.guard }], guard := some (13, true) } : Oper)) (v := undef) rfl (by kernel_rfl) (by kernel_rfl) (by kernel_rfl) (fun _ _ _ h => h) (Or.inr ⟨by rfl, rfl⟩) hHeld ?_
          (try simp only [Act.put, List.setIfInBounds_toArray, List.set_cons_zero, List.set_cons_succ])
          refine wpAnyH_take (i := 24) (oi := ({ dst := some 112, op := Op.call { callee := Callee.value (Operand.func 20), args := #[Operand.tmp 105, Operand.tmp 111], argTypes := #[37, 37] }, type := 3, pos := "law.go:214", after := #[{ on := 17, ground := Ground.data }, { on := 23, ground := Ground.data }, { on := 23, ground := Ground.chain }, { on := 13, ground := Ground.guard }], guard := some (13, true) } : Oper)) (v := undef) rfl (by kernel_rfl) (by kernel_rfl) (by kernel_rfl) (fun _ _ _ h => h) (Or.inr ⟨by rfl, rfl⟩) hHeld ?_
          (try simp only [Act.put, List.setIfInBounds_toArray, List.set_cons_zero, List.set_cons_succ])
          refine wpAnyH_take (i := 25) (oi := ({ dst := some 113, op := Op.binOp BinOp.neq 3 (Operand.tmp 112) (Operand.const (Value.int IntKind.i64 0)) 3, type := 4, pos := "law.go:214", after := #[{ on := 24, ground := Ground.data }, { on := 13, ground := Ground.guard }], guard := some (13, true) } : Oper)) (v := undef) rfl (by kernel_rfl) (by kernel_rfl) (by kernel_rfl) (fun _ _ _ h => h) (Or.inr ⟨by rfl, rfl⟩) hHeld ?_
          (try simp only [Act.put, List.setIfInBounds_toArray, List.set_cons_zero, List.set_cons_succ])
          refine wpAnyH_take (i := 26) (oi := ({ dst := some 114, op := Op.pick (Operand.tmp 101) (Operand.tmp 113) (Operand.const (Value.bool false)), type := 4, pos := "law.go:214", after := #[{ on := 13, ground := Ground.data }, { on := 25, ground := Ground.data }, { on := 10, ground := Ground.guard }], guard := some (10, false) } : Oper)) (v := ?y1_26_v) rfl (by kernel_rfl) (by kernel_rfl) (by kernel_rfl) (fun _ _ _ h => h) (Or.inl ⟨by rfl, ?y1_26_h⟩) hHeld ?y1_26_r
          case y1_26_h => (intro w hSw; (try dsimp only at hSw); go_simp; all_goals with_reducible rfl)
          (try simp only [Act.put, List.setIfInBounds_toArray, List.set_cons_zero, List.set_cons_succ])
          refine wpAnyH_take (i := 27) (oi := ({ dst := some 115, op := Op.pick (Operand.tmp 98) (Operand.const (Value.bool true)) (Operand.tmp 114), type := 4, pos := "law.go:214", after := #[{ on := 10, ground := Ground.data }, { on := 26, ground := Ground.data }], guard := none } : Oper)) (v := ?y1_27_v) rfl (by kernel_rfl) (by kernel_rfl) (by kernel_rfl) (fun _ _ _ h => h) (Or.inl ⟨by rfl, ?y1_27_h⟩) hHeld ?y1_27_r
          case y1_27_h => (intro w hSw; (try dsimp only at hSw); go_simp; all_goals with_reducible rfl)
          (try simp only [Act.put, List.setIfInBounds_toArray, List.set_cons_zero, List.set_cons_succ])
          refine wpAnyH_done (by kernel_rfl) ?_ _
          go_wp2
          go_roundw
          case rel => exact ⟨e + 1, by omega, by omega, by simp, bt HB6.out HZ7.out⟩
          case measure => (simp [RowKit.intOf]; omega)
        · obtain rfl := hc
          have hx0 := sol_one (dirE_shares HSS.out) HO.out HX.out he1 hel hll hall
          have HXE0 := Lib.hid (show RatR w6 (.agg #[.bool xe.n1, .slice xe.a1 xe.k1 xe.c1, .bool xe.n2, .slice xe.a2 xe.k2 xe.c2]) (x e) from by have := HXE.out; rw [if_neg (by omega)] at this; exact this)
          obtain ⟨xl, hxl4, hxl⟩ := HRL.out ll hll
          obtain ⟨z0, z1, z2, z3⟩ := hxl4.at HB6.out
          have HXL := Lib.hid (show RatR w6 (.agg #[.bool xl.n1, .slice xl.a1 xl.k1 xl.c1, .bool xl.n2, .slice xl.a2 xl.k2 xl.c2]) (if ll = 0 then 1 else x ll) from RatR.below hxl HB6.out)
          have HX1 := Lib.hid hx0
          clear hx0 hall HXE hxl4 hxl
          have HL := Lib.hid (fun (w' : World) (hb : Below w6.heap.size w6 w') => (⟨keepc hb y0, keepc hb y1, keepc hb y2, keepc hb y3, keepc hb z0, keepc hb z1, keepc hb z2, keepc hb z3, keepc hb q0, keepc hb q1, keepc hb q2, keepc hb q3⟩ : w'.cell? ⟨bx, ox + e * 4, none⟩ = some (.bool xe.n1) ∧ w'.cell? ⟨bx, ox + e * 4 + 1, none⟩ = some (.slice xe.a1 xe.k1 xe.c1) ∧ w'.cell? ⟨bx, ox + e * 4 + 2, none⟩ = some (.bool xe.n2) ∧ w'.cell? ⟨bx, ox + e * 4 + 3, none⟩ = some (.slice xe.a2 xe.k2 xe.c2) ∧ w'.cell? ⟨bx, ox + ll * 4, none⟩ = some (.bool xl.n1) ∧ w'.cell? ⟨bx, ox + ll * 4 + 1, none⟩ = some (.slice xl.a1 xl.k1 xl.c1) ∧ w'.cell? ⟨bx, ox + ll * 4 + 2, none⟩ = some (.bool xl.n2) ∧ w'.cell? ⟨bx, ox + ll * 4 + 3, none⟩ = some (.slice xl.a2 xl.k2 xl.c2) ∧ w'.cell? ⟨w5.heap.size, 0, none⟩ = some (.bool n1) ∧ w'.cell? ⟨w5.heap.size, 1, none⟩ = some (.slice a1 k1 c1) ∧ w'.cell? ⟨w5.heap.size, 2, none⟩ = some (.bool n2) ∧ w'.cell? ⟨w5.heap.size, 3, none⟩ = some (.slice a2 k2 c2)))
          clear y0 y1 y2 y3 z0 z1 z2 z3 q0 q1 q2 q3
          have rl : Rg 50000 (if ll = 0 then 1 else x ll) := by
            by_cases q : ll = 0
            · rw [if_pos q]; exact Rg.of (fw_mono (show Fw 1 1 by constructor <;> decide) (by omega))
            · rw [if_neg q]; exact HG.out ll hll
          have rq : Rg 50000 (Tally.part (Z ll e)) := (rg_part hzr.1 hzr.2).mono (by omega)
          have rx : Rg 100001 (x e) := (HG.out e hel).mono (by omega)
          have HC := Lib.hid (show cmpQ (x e) ((if ll = 0 then 1 else x ll) * Tally.part (Z ll e)) = 0 from by rw [HX1.out, cmpQ_self])
          refine wp_region_held_drew (S := fun w' => w'.cell? ⟨bx, ox + e * 4, none⟩ = some (.bool xe.n1) ∧ w'.cell? ⟨bx, ox + e * 4 + 1, none⟩ = some (.slice xe.a1 xe.k1 xe.c1) ∧ w'.cell? ⟨bx, ox + e * 4 + 2, none⟩ = some (.bool xe.n2) ∧ w'.cell? ⟨bx, ox + e * 4 + 3, none⟩ = some (.slice xe.a2 xe.k2 xe.c2) ∧ w'.cell? ⟨bx, ox + ll * 4, none⟩ = some (.bool xl.n1) ∧ w'.cell? ⟨bx, ox + ll * 4 + 1, none⟩ = some (.slice xl.a1 xl.k1 xl.c1) ∧ w'.cell? ⟨bx, ox + ll * 4 + 2, none⟩ = some (.bool xl.n2) ∧ w'.cell? ⟨bx, ox + ll * 4 + 3, none⟩ = some (.slice xl.a2 xl.k2 xl.c2) ∧ w'.cell? ⟨w5.heap.size, 0, none⟩ = some (.bool n1) ∧ w'.cell? ⟨w5.heap.size, 1, none⟩ = some (.slice a1 k1 c1) ∧ w'.cell? ⟨w5.heap.size, 2, none⟩ = some (.bool n2) ∧ w'.cell? ⟨w5.heap.size, 3, none⟩ = some (.slice a2 k2 c2)) (by kernel_rfl) ?_ (fun hHeld => ?_)
          · exact HL.out _ (Below.drew (Below.refl w6.heap.size w6))
          (try dsimp only at hHeld)
          refine wpAnyH_take (i := 0) (oi := ({ dst := some 88, op := Op.move (Operand.tmp 12), type := 3, pos := "law.go:214", after := #[], guard := none } : Oper)) (v := ?y2_1_v) rfl (by kernel_rfl) (by kernel_rfl) (by kernel_rfl) (fun _ _ _ h => h) (Or.inl ⟨by rfl, ?y2_1_h⟩) hHeld ?y2_1_r
          case y2_1_h => (intro w hSw; (try dsimp only at hSw); go_simp; all_goals with_reducible rfl)
          (try simp only [Act.put, List.setIfInBounds_toArray, List.set_cons_zero, List.set_cons_succ])
          refine wpAnyH_take (i := 1) (oi := ({ dst := some 89, op := Op.binOp BinOp.eql 3 (Operand.tmp 88) (Operand.const (Value.int IntKind.i64 0)) 3, type := 4, pos := "law.go:214", after := #[{ on := 0, ground := Ground.data }], guard := none } : Oper)) (v := ?y2_2_v) rfl (by kernel_rfl) (by kernel_rfl) (by kernel_rfl) (fun _ _ _ h => h) (Or.inl ⟨by rfl, ?y2_2_h⟩) hHeld ?y2_2_r
          case y2_2_h => (intro w hSw; (try dsimp only at hSw); go_simp; all_goals with_reducible rfl)
          (try simp only [Act.put, List.setIfInBounds_toArray, List.set_cons_zero, List.set_cons_succ])
          refine wpAnyH_take (i := 2) (oi := ({ dst := some 90, op := Op.move (Operand.tmp 89), type := 4, pos := "law.go:214", after := #[{ on := 1, ground := Ground.data }], guard := none } : Oper)) (v := ?y2_3_v) rfl (by kernel_rfl) (by kernel_rfl) (by kernel_rfl) (fun _ _ _ h => h) (Or.inl ⟨by rfl, ?y2_3_h⟩) hHeld ?y2_3_r
          case y2_3_h => (intro w hSw; (try dsimp only at hSw); go_simp; all_goals with_reducible rfl)
          (try simp only [Act.put, List.setIfInBounds_toArray, List.set_cons_zero, List.set_cons_succ])
          refine wpAnyH_take (i := 3) (oi := ({ dst := some 91, op := Op.move (Operand.tmp 7), type := 26, pos := "law.go:214", after := #[{ on := 2, ground := Ground.guard }], guard := some (2, true) } : Oper)) (v := undef) rfl (by kernel_rfl) (by kernel_rfl) (by kernel_rfl) (fun _ _ _ h => h) (Or.inr ⟨by rfl, rfl⟩) hHeld ?_
          (try simp only [Act.put, List.setIfInBounds_toArray, List.set_cons_zero, List.set_cons_succ])
          refine wpAnyH_take (i := 4) (oi := ({ dst := some 92, op := Op.move (Operand.tmp 11), type := 3, pos := "law.go:214", after := #[{ on := 2, ground := Ground.guard }], guard := some (2, true) } : Oper)) (v := undef) rfl (by kernel_rfl) (by kernel_rfl) (by kernel_rfl) (fun _ _ _ h => h) (Or.inr ⟨by rfl, rfl⟩) hHeld ?_
          (try simp only [Act.put, List.setIfInBounds_toArray, List.set_cons_zero, List.set_cons_succ])
          refine wpAnyH_take (i := 5) (oi := ({ dst := some 93, op := Op.indexAddr 26 (Operand.tmp 91) (Operand.tmp 92), type := 0, pos := "law.go:214", after := #[{ on := 3, ground := Ground.data }, { on := 4, ground := Ground.data }, { on := 2, ground := Ground.guard }], guard := some (2, true) } : Oper)) (v := undef) rfl (by kernel_rfl) (by kernel_rfl) (by kernel_rfl) (fun _ _ _ h => h) (Or.inr ⟨by rfl, rfl⟩) hHeld ?_
          (try simp only [Act.put, List.setIfInBounds_toArray, List.set_cons_zero, List.set_cons_succ])
          refine wpAnyH_take (i := 6) (oi := ({ dst := some 94, op := Op.load 37 (Operand.tmp 93), type := 37, pos := "law.go:214", after := #[{ on := 5, ground := Ground.data }, { on := 2, ground := Ground.guard }], guard := some (2, true) } : Oper)) (v := undef) rfl (by kernel_rfl) (by kernel_rfl) (by kernel_rfl) (fun _ _ _ h => h) (Or.inr ⟨by rfl, rfl⟩) hHeld ?_
          (try simp only [Act.put, List.setIfInBounds_toArray, List.set_cons_zero, List.set_cons_succ])
          refine wpAnyH_take (i := 7) (oi := ({ dst := some 95, op := Op.call { callee := Callee.value (Operand.func 18), args := #[Operand.tmp 94], argTypes := #[37] }, type := 3, pos := "law.go:214", after := #[{ on := 6, ground := Ground.data }, { on := 2, ground := Ground.chain }, { on := 2, ground := Ground.guard }], guard := some (2, true) } : Oper)) (v := undef) rfl (by kernel_rfl) (by kernel_rfl) (by kernel_rfl) (fun _ _ _ h => h) (Or.inr ⟨by rfl, rfl⟩) hHeld ?_
          (try simp only [Act.put, List.setIfInBounds_toArray, List.set_cons_zero, List.set_cons_succ])
          refine wpAnyH_take (i := 8) (oi := ({ dst := some 96, op := Op.binOp BinOp.neq 3 (Operand.tmp 95) (Operand.const (Value.int IntKind.i64 0)) 3, type := 4, pos := "law.go:214", after := #[{ on := 7, ground := Ground.data }, { on := 2, ground := Ground.guard }], guard := some (2, true) } : Oper)) (v := undef) rfl (by kernel_rfl) (by kernel_rfl) (by kernel_rfl) (fun _ _ _ h => h) (Or.inr ⟨by rfl, rfl⟩) hHeld ?_
          (try simp only [Act.put, List.setIfInBounds_toArray, List.set_cons_zero, List.set_cons_succ])
          refine wpAnyH_take (i := 9) (oi := ({ dst := some 97, op := Op.pick (Operand.tmp 90) (Operand.tmp 96) (Operand.const (Value.bool false)), type := 4, pos := "law.go:214", after := #[{ on := 2, ground := Ground.data }, { on := 8, ground := Ground.data }], guard := none } : Oper)) (v := ?y2_10_v) rfl (by kernel_rfl) (by kernel_rfl) (by kernel_rfl) (fun _ _ _ h => h) (Or.inl ⟨by rfl, ?y2_10_h⟩) hHeld ?y2_10_r
          case y2_10_h => (intro w hSw; (try dsimp only at hSw); go_simp; all_goals with_reducible rfl)
          (try simp only [Act.put, List.setIfInBounds_toArray, List.set_cons_zero, List.set_cons_succ])
          refine wpAnyH_take (i := 10) (oi := ({ dst := some 98, op := Op.move (Operand.tmp 97), type := 4, pos := "law.go:214", after := #[{ on := 9, ground := Ground.data }, { on := 7, ground := Ground.chain }], guard := none } : Oper)) (v := ?y2_11_v) rfl (by kernel_rfl) (by kernel_rfl) (by kernel_rfl) (fun _ _ _ h => h) (Or.inl ⟨by rfl, ?y2_11_h⟩) hHeld ?y2_11_r
          case y2_11_h => (intro w hSw; (try dsimp only at hSw); go_simp; all_goals with_reducible rfl)
          (try simp only [Act.put, List.setIfInBounds_toArray, List.set_cons_zero, List.set_cons_succ])
          refine wpAnyH_take (i := 11) (oi := ({ dst := some 99, op := Op.move (Operand.tmp 12), type := 3, pos := "law.go:214", after := #[{ on := 10, ground := Ground.guard }], guard := some (10, false) } : Oper)) (v := ?y2_12_v) rfl (by kernel_rfl) (by kernel_rfl) (by kernel_rfl) (fun _ _ _ h => h) (Or.inl ⟨by rfl, ?y2_12_h⟩) hHeld ?y2_12_r
          case y2_12_h => (intro w hSw; (try dsimp only at hSw); go_simp; all_goals with_reducible rfl)
          (try simp only [Act.put, List.setIfInBounds_toArray, List.set_cons_zero, List.set_cons_succ])
          refine wpAnyH_take (i := 12) (oi := ({ dst := some 100, op := Op.binOp BinOp.eql 3 (Operand.tmp 99) (Operand.const (Value.int IntKind.i64 1)) 3, type := 4, pos := "law.go:214", after := #[{ on := 11, ground := Ground.data }, { on := 10, ground := Ground.guard }], guard := some (10, false) } : Oper)) (v := ?y2_13_v) rfl (by kernel_rfl) (by kernel_rfl) (by kernel_rfl) (fun _ _ _ h => h) (Or.inl ⟨by rfl, ?y2_13_h⟩) hHeld ?y2_13_r
          case y2_13_h => (intro w hSw; (try dsimp only at hSw); go_simp; all_goals with_reducible rfl)
          (try simp only [Act.put, List.setIfInBounds_toArray, List.set_cons_zero, List.set_cons_succ])
          refine wpAnyH_take (i := 13) (oi := ({ dst := some 101, op := Op.move (Operand.tmp 100), type := 4, pos := "law.go:214", after := #[{ on := 12, ground := Ground.data }, { on := 10, ground := Ground.chain }, { on := 10, ground := Ground.guard }], guard := some (10, false) } : Oper)) (v := ?y2_14_v) rfl (by kernel_rfl) (by kernel_rfl) (by kernel_rfl) (fun _ _ _ h => h) (Or.inl ⟨by rfl, ?y2_14_h⟩) hHeld ?y2_14_r
          case y2_14_h => (intro w hSw; (try dsimp only at hSw); go_simp; all_goals with_reducible rfl)
          (try simp only [Act.put, List.setIfInBounds_toArray, List.set_cons_zero, List.set_cons_succ])
          refine wpAnyH_take (i := 14) (oi := ({ dst := some 102, op := Op.move (Operand.tmp 7), type := 26, pos := "law.go:214", after := #[{ on := 13, ground := Ground.guard }], guard := some (13, true) } : Oper)) (v := ?y2_15_v) rfl (by kernel_rfl) (by kernel_rfl) (by kernel_rfl) (fun _ _ _ h => h) (Or.inl ⟨by rfl, ?y2_15_h⟩) hHeld ?y2_15_r
          case y2_15_h => (intro w hSw; (try dsimp only at hSw); go_simp; all_goals with_reducible rfl)
          (try simp only [Act.put, List.setIfInBounds_toArray, List.set_cons_zero, List.set_cons_succ])
          refine wpAnyH_take (i := 15) (oi := ({ dst := some 103, op := Op.move (Operand.tmp 11), type := 3, pos := "law.go:214", after := #[{ on := 13, ground := Ground.guard }], guard := some (13, true) } : Oper)) (v := ?y2_16_v) rfl (by kernel_rfl) (by kernel_rfl) (by kernel_rfl) (fun _ _ _ h => h) (Or.inl ⟨by rfl, ?y2_16_h⟩) hHeld ?y2_16_r
          case y2_16_h => (intro w hSw; (try dsimp only at hSw); go_simp; all_goals with_reducible rfl)
          (try simp only [Act.put, List.setIfInBounds_toArray, List.set_cons_zero, List.set_cons_succ])
          refine wpAnyH_take (i := 16) (oi := ({ dst := some 104, op := Op.indexAddr 26 (Operand.tmp 102) (Operand.tmp 103), type := 0, pos := "law.go:214", after := #[{ on := 14, ground := Ground.data }, { on := 15, ground := Ground.data }, { on := 13, ground := Ground.guard }], guard := some (13, true) } : Oper)) (v := ?y2_17_v) rfl (by kernel_rfl) (by kernel_rfl) (by kernel_rfl) (fun _ _ _ h => h) (Or.inl ⟨by rfl, ?y2_17_h⟩) hHeld ?y2_17_r
          case y2_17_h => (intro w hSw; (try dsimp only at hSw); go_simp; all_goals with_reducible rfl)
          (try simp only [Act.put, List.setIfInBounds_toArray, List.set_cons_zero, List.set_cons_succ])
          refine wpAnyH_take (i := 17) (oi := ({ dst := some 105, op := Op.load 37 (Operand.tmp 104), type := 37, pos := "law.go:214", after := #[{ on := 16, ground := Ground.data }, { on := 13, ground := Ground.guard }], guard := some (13, true) } : Oper)) (v := ?y2_18_v) rfl (by kernel_rfl) (by kernel_rfl) (by kernel_rfl) (fun _ _ _ h => h) (Or.inl ⟨by rfl, ?y2_18_h⟩) hHeld ?y2_18_r
          case y2_18_h => (intro w hSw; (try dsimp only at hSw); go_simp; all_goals with_reducible rfl)
          (try simp only [Act.put, List.setIfInBounds_toArray, List.set_cons_zero, List.set_cons_succ])
          refine wpAnyH_take (i := 18) (oi := ({ dst := some 106, op := Op.move (Operand.tmp 7), type := 26, pos := "law.go:214", after := #[{ on := 13, ground := Ground.guard }], guard := some (13, true) } : Oper)) (v := ?y2_19_v) rfl (by kernel_rfl) (by kernel_rfl) (by kernel_rfl) (fun _ _ _ h => h) (Or.inl ⟨by rfl, ?y2_19_h⟩) hHeld ?y2_19_r
          case y2_19_h => (intro w hSw; (try dsimp only at hSw); go_simp; all_goals with_reducible rfl)
          (try simp only [Act.put, List.setIfInBounds_toArray, List.set_cons_zero, List.set_cons_succ])
          refine wpAnyH_take (i := 19) (oi := ({ dst := some 107, op := Op.move (Operand.tmp 13), type := 3, pos := "law.go:214", after := #[{ on := 13, ground := Ground.guard }], guard := some (13, true) } : Oper)) (v := ?y2_20_v) rfl (by kernel_rfl) (by kernel_rfl) (by kernel_rfl) (fun _ _ _ h => h) (Or.inl ⟨by rfl, ?y2_20_h⟩) hHeld ?y2_20_r
          case y2_20_h => (intro w hSw; (try dsimp only at hSw); go_simp; all_goals with_reducible rfl)
          (try simp only [Act.put, List.setIfInBounds_toArray, List.set_cons_zero, List.set_cons_succ])
          refine wpAnyH_take (i := 20) (oi := ({ dst := some 108, op := Op.indexAddr 26 (Operand.tmp 106) (Operand.tmp 107), type := 0, pos := "law.go:214", after := #[{ on := 18, ground := Ground.data }, { on := 19, ground := Ground.data }, { on := 13, ground := Ground.guard }], guard := some (13, true) } : Oper)) (v := ?y2_21_v) rfl (by kernel_rfl) (by kernel_rfl) (by kernel_rfl) (fun _ _ _ h => h) (Or.inl ⟨by rfl, ?y2_21_h⟩) hHeld ?y2_21_r
          case y2_21_h => (intro w hSw; (try dsimp only at hSw); go_simp; all_goals with_reducible rfl)
          (try simp only [Act.put, List.setIfInBounds_toArray, List.set_cons_zero, List.set_cons_succ])
          refine wpAnyH_take (i := 21) (oi := ({ dst := some 109, op := Op.load 37 (Operand.tmp 108), type := 37, pos := "law.go:214", after := #[{ on := 20, ground := Ground.data }, { on := 13, ground := Ground.guard }], guard := some (13, true) } : Oper)) (v := ?y2_22_v) rfl (by kernel_rfl) (by kernel_rfl) (by kernel_rfl) (fun _ _ _ h => h) (Or.inl ⟨by rfl, ?y2_22_h⟩) hHeld ?y2_22_r
          case y2_22_h => (intro w hSw; (try dsimp only at hSw); go_simp; all_goals with_reducible rfl)
          (try simp only [Act.put, List.setIfInBounds_toArray, List.set_cons_zero, List.set_cons_succ])
          refine wpAnyH_take (i := 22) (oi := ({ dst := some 110, op := Op.load 37 (Operand.tmp 15), type := 37, pos := "law.go:214", after := #[{ on := 13, ground := Ground.guard }], guard := some (13, true) } : Oper)) (v := ?y2_23_v) rfl (by kernel_rfl) (by kernel_rfl) (by kernel_rfl) (fun _ _ _ h => h) (Or.inl ⟨by rfl, ?y2_23_h⟩) hHeld ?y2_23_r
          case y2_23_h => (intro w hSw; (try dsimp only at hSw); go_simp; all_goals with_reducible rfl)
          (try simp only [Act.put, List.setIfInBounds_toArray, List.set_cons_zero, List.set_cons_succ])
          refine wpAnyH_ready (rs := [23]) (by kernel_rfl) (by simp) ?_
          refine AllReadyH.cons (o := ({ dst := some 111, op := Op.call { callee := Callee.value (Operand.func 52), args := #[Operand.tmp 109, Operand.tmp 110], argTypes := #[37, 37] }, type := 37, pos := "law.go:214", after := #[{ on := 21, ground := Ground.data }, { on := 22, ground := Ground.data }, { on := 13, ground := Ground.chain }, { on := 13, ground := Ground.guard }], guard := some (13, true) } : Oper)) rfl (fun K hK => ?_) AllReadyH.nil
          go_simp
          (go_at_call 52; (with_reducible refine (mul_r (N := 50000) (RatR.below HXL.out (Below.drew (Below.refl w6.heap.size w6))) (RatR.below HQ6.out (Below.drew (Below.refl w6.heap.size w6))) rl rq (by omega)).mono ?_); rintro en w7 ⟨m1, b1, j1, d1, m2, b2, j2, d2, rfl, hm, hb7⟩; have HP7 := Lib.hid hm; have HZ23 := Lib.hid (bt (Below.drew (Below.refl w6.heap.size w6)) hb7); clear hb7 hm)
          first | refine hK.out _ _ ?_ (fun hHeld => ?_) | (go_wp2_with fail; refine hK.out _ _ ?_ (fun hHeld => ?_))
          · exact HL.out _ HZ23.out
          clear hK K
          (try dsimp only at hHeld)
          (try simp only [Act.put, List.setIfInBounds_toArray, List.set_cons_zero, List.set_cons_succ])
          refine wpAnyH_ready (rs := [24]) (by kernel_rfl) (by simp) ?_
          refine AllReadyH.cons (o := ({ dst := some 112, op := Op.call { callee := Callee.value (Operand.func 20), args := #[Operand.tmp 105, Operand.tmp 111], argTypes := #[37, 37] }, type := 3, pos := "law.go:214", after := #[{ on := 17, ground := Ground.data }, { on := 23, ground := Ground.data }, { on := 23, ground := Ground.chain }, { on := 13, ground := Ground.guard }], guard := some (13, true) } : Oper)) rfl (fun K hK => ?_) AllReadyH.nil
          go_simp
          (go_at_call 20; (with_reducible refine (cmp_r (N := 100001) (RatR.below HXE0.out HZ23.out) HP7.out rx (Rg.mul rl rq) (by omega)).mono ?_); rintro en w8 ⟨rfl, hb8⟩; rw [HC.out]; have HZ24 := Lib.hid (bt HZ23.out hb8); clear hb8)
          first | refine hK.out _ _ ?_ (fun hHeld => ?_) | (go_wp2_with fail; refine hK.out _ _ ?_ (fun hHeld => ?_))
          · exact HL.out _ HZ24.out
          clear hK K
          (try dsimp only at hHeld)
          (try simp only [Act.put, List.setIfInBounds_toArray, List.set_cons_zero, List.set_cons_succ])
          refine wpAnyH_take (i := 25) (oi := ({ dst := some 113, op := Op.binOp BinOp.neq 3 (Operand.tmp 112) (Operand.const (Value.int IntKind.i64 0)) 3, type := 4, pos := "law.go:214", after := #[{ on := 24, ground := Ground.data }, { on := 13, ground := Ground.guard }], guard := some (13, true) } : Oper)) (v := ?y2_24_v) rfl (by kernel_rfl) (by kernel_rfl) (by kernel_rfl) (fun _ _ _ h => h) (Or.inl ⟨by rfl, ?y2_24_h⟩) hHeld ?y2_24_r
          case y2_24_h => (intro w hSw; (try dsimp only at hSw); go_simp; all_goals with_reducible rfl)
          (try simp only [Act.put, List.setIfInBounds_toArray, List.set_cons_zero, List.set_cons_succ])
          refine wpAnyH_take (i := 26) (oi := ({ dst := some 114, op := Op.pick (Operand.tmp 101) (Operand.tmp 113) (Operand.const (Value.bool false)), type := 4, pos := "law.go:214", after := #[{ on := 13, ground := Ground.data }, { on := 25, ground := Ground.data }, { on := 10, ground := Ground.guard }], guard := some (10, false) } : Oper)) (v := ?y2_25_v) rfl (by kernel_rfl) (by kernel_rfl) (by kernel_rfl) (fun _ _ _ h => h) (Or.inl ⟨by rfl, ?y2_25_h⟩) hHeld ?y2_25_r
          case y2_25_h => (intro w hSw; (try dsimp only at hSw); go_simp; all_goals with_reducible rfl)
          (try simp only [Act.put, List.setIfInBounds_toArray, List.set_cons_zero, List.set_cons_succ])
          refine wpAnyH_take (i := 27) (oi := ({ dst := some 115, op := Op.pick (Operand.tmp 98) (Operand.const (Value.bool true)) (Operand.tmp 114), type := 4, pos := "law.go:214", after := #[{ on := 10, ground := Ground.data }, { on := 26, ground := Ground.data }], guard := none } : Oper)) (v := ?y2_26_v) rfl (by kernel_rfl) (by kernel_rfl) (by kernel_rfl) (fun _ _ _ h => h) (Or.inl ⟨by rfl, ?y2_26_h⟩) hHeld ?y2_26_r
          case y2_26_h => (intro w hSw; (try dsimp only at hSw); go_simp; all_goals with_reducible rfl)
          (try simp only [Act.put, List.setIfInBounds_toArray, List.set_cons_zero, List.set_cons_succ])
          refine wpAnyH_done (by kernel_rfl) ?_ _
          go_wp2
          go_roundw
          case rel => exact ⟨e + 1, by omega, by omega, by simp, bt HB6.out HZ24.out⟩
          case measure => (simp [RowKit.intOf]; omega)
        · have hc0 : ¬ (cn : Int) = 0 := by omega
          have hc1 : ¬ (cn : Int) = 1 := by omega
          have hd0 : ¬ cn = 0 := by omega
          have hd1 : ¬ cn = 1 := by omega
          have he0 : ((cn : Int) == 0) = false := by rw [beq_eq_false_iff_ne]; exact hc0
          have he1' : ((cn : Int) == 1) = false := by rw [beq_eq_false_iff_ne]; exact hc1
          have HL := Lib.hid (fun (w' : World) (hb : Below w6.heap.size w6 w') => (⟨keepc hb y0, keepc hb y1, keepc hb y2, keepc hb y3⟩ : w'.cell? ⟨bx, ox + e * 4, none⟩ = some (.bool xe.n1) ∧ w'.cell? ⟨bx, ox + e * 4 + 1, none⟩ = some (.slice xe.a1 xe.k1 xe.c1) ∧ w'.cell? ⟨bx, ox + e * 4 + 2, none⟩ = some (.bool xe.n2) ∧ w'.cell? ⟨bx, ox + e * 4 + 3, none⟩ = some (.slice xe.a2 xe.k2 xe.c2)))
          clear y0 y1 y2 y3 q0 q1 q2 q3
          refine wp_region_held_drew (S := fun w' => w'.cell? ⟨bx, ox + e * 4, none⟩ = some (.bool xe.n1) ∧ w'.cell? ⟨bx, ox + e * 4 + 1, none⟩ = some (.slice xe.a1 xe.k1 xe.c1) ∧ w'.cell? ⟨bx, ox + e * 4 + 2, none⟩ = some (.bool xe.n2) ∧ w'.cell? ⟨bx, ox + e * 4 + 3, none⟩ = some (.slice xe.a2 xe.k2 xe.c2)) (by kernel_rfl) ?_ (fun hHeld => ?_)
          · exact HL.out _ (Below.drew (Below.refl w6.heap.size w6))
          (try dsimp only at hHeld)
          refine wpAnyH_take (i := 0) (oi := ({ dst := some 88, op := Op.move (Operand.tmp 12), type := 3, pos := "law.go:214", after := #[], guard := none } : Oper)) (v := ?y3_1_v) rfl (by kernel_rfl) (by kernel_rfl) (by kernel_rfl) (fun _ _ _ h => h) (Or.inl ⟨by rfl, ?y3_1_h⟩) hHeld ?y3_1_r
          case y3_1_h => (intro w hSw; (try dsimp only at hSw); go_simp; all_goals with_reducible rfl)
          (try simp only [Act.put, List.setIfInBounds_toArray, List.set_cons_zero, List.set_cons_succ])
          refine wpAnyH_take (i := 1) (oi := ({ dst := some 89, op := Op.binOp BinOp.eql 3 (Operand.tmp 88) (Operand.const (Value.int IntKind.i64 0)) 3, type := 4, pos := "law.go:214", after := #[{ on := 0, ground := Ground.data }], guard := none } : Oper)) (v := ?y3_2_v) rfl (by kernel_rfl) (by kernel_rfl) (by kernel_rfl) (fun _ _ _ h => h) (Or.inl ⟨by rfl, ?y3_2_h⟩) hHeld ?y3_2_r
          case y3_2_h => (intro w hSw; (try dsimp only at hSw); go_simp; all_goals with_reducible rfl)
          (try simp only [Act.put, List.setIfInBounds_toArray, List.set_cons_zero, List.set_cons_succ])
          refine wpAnyH_take (i := 2) (oi := ({ dst := some 90, op := Op.move (Operand.tmp 89), type := 4, pos := "law.go:214", after := #[{ on := 1, ground := Ground.data }], guard := none } : Oper)) (v := ?y3_3_v) rfl (by kernel_rfl) (by kernel_rfl) (by kernel_rfl) (fun _ _ _ h => h) (Or.inl ⟨by rfl, ?y3_3_h⟩) hHeld ?y3_3_r
          case y3_3_h => (intro w hSw; (try dsimp only at hSw); go_simp; all_goals with_reducible rfl)
          (try simp only [Act.put, List.setIfInBounds_toArray, List.set_cons_zero, List.set_cons_succ])
          refine wpAnyH_take (i := 3) (oi := ({ dst := some 91, op := Op.move (Operand.tmp 7), type := 26, pos := "law.go:214", after := #[{ on := 2, ground := Ground.guard }], guard := some (2, true) } : Oper)) (v := undef) rfl (by kernel_rfl) (by kernel_rfl) (by kernel_rfl) (fun _ _ _ h => h) (Or.inr ⟨by rfl, rfl⟩) hHeld ?_
          (try simp only [Act.put, List.setIfInBounds_toArray, List.set_cons_zero, List.set_cons_succ])
          refine wpAnyH_take (i := 4) (oi := ({ dst := some 92, op := Op.move (Operand.tmp 11), type := 3, pos := "law.go:214", after := #[{ on := 2, ground := Ground.guard }], guard := some (2, true) } : Oper)) (v := undef) rfl (by kernel_rfl) (by kernel_rfl) (by kernel_rfl) (fun _ _ _ h => h) (Or.inr ⟨by rfl, rfl⟩) hHeld ?_
          (try simp only [Act.put, List.setIfInBounds_toArray, List.set_cons_zero, List.set_cons_succ])
          refine wpAnyH_take (i := 5) (oi := ({ dst := some 93, op := Op.indexAddr 26 (Operand.tmp 91) (Operand.tmp 92), type := 0, pos := "law.go:214", after := #[{ on := 3, ground := Ground.data }, { on := 4, ground := Ground.data }, { on := 2, ground := Ground.guard }], guard := some (2, true) } : Oper)) (v := undef) rfl (by kernel_rfl) (by kernel_rfl) (by kernel_rfl) (fun _ _ _ h => h) (Or.inr ⟨by rfl, rfl⟩) hHeld ?_
          (try simp only [Act.put, List.setIfInBounds_toArray, List.set_cons_zero, List.set_cons_succ])
          refine wpAnyH_take (i := 6) (oi := ({ dst := some 94, op := Op.load 37 (Operand.tmp 93), type := 37, pos := "law.go:214", after := #[{ on := 5, ground := Ground.data }, { on := 2, ground := Ground.guard }], guard := some (2, true) } : Oper)) (v := undef) rfl (by kernel_rfl) (by kernel_rfl) (by kernel_rfl) (fun _ _ _ h => h) (Or.inr ⟨by rfl, rfl⟩) hHeld ?_
          (try simp only [Act.put, List.setIfInBounds_toArray, List.set_cons_zero, List.set_cons_succ])
          refine wpAnyH_take (i := 7) (oi := ({ dst := some 95, op := Op.call { callee := Callee.value (Operand.func 18), args := #[Operand.tmp 94], argTypes := #[37] }, type := 3, pos := "law.go:214", after := #[{ on := 6, ground := Ground.data }, { on := 2, ground := Ground.chain }, { on := 2, ground := Ground.guard }], guard := some (2, true) } : Oper)) (v := undef) rfl (by kernel_rfl) (by kernel_rfl) (by kernel_rfl) (fun _ _ _ h => h) (Or.inr ⟨by rfl, rfl⟩) hHeld ?_
          (try simp only [Act.put, List.setIfInBounds_toArray, List.set_cons_zero, List.set_cons_succ])
          refine wpAnyH_take (i := 8) (oi := ({ dst := some 96, op := Op.binOp BinOp.neq 3 (Operand.tmp 95) (Operand.const (Value.int IntKind.i64 0)) 3, type := 4, pos := "law.go:214", after := #[{ on := 7, ground := Ground.data }, { on := 2, ground := Ground.guard }], guard := some (2, true) } : Oper)) (v := undef) rfl (by kernel_rfl) (by kernel_rfl) (by kernel_rfl) (fun _ _ _ h => h) (Or.inr ⟨by rfl, rfl⟩) hHeld ?_
          (try simp only [Act.put, List.setIfInBounds_toArray, List.set_cons_zero, List.set_cons_succ])
          refine wpAnyH_take (i := 9) (oi := ({ dst := some 97, op := Op.pick (Operand.tmp 90) (Operand.tmp 96) (Operand.const (Value.bool false)), type := 4, pos := "law.go:214", after := #[{ on := 2, ground := Ground.data }, { on := 8, ground := Ground.data }], guard := none } : Oper)) (v := ?y3_10_v) rfl (by kernel_rfl) (by kernel_rfl) (by kernel_rfl) (fun _ _ _ h => h) (Or.inl ⟨by rfl, ?y3_10_h⟩) hHeld ?y3_10_r
          case y3_10_h => (intro w hSw; (try dsimp only at hSw); go_simp; all_goals with_reducible rfl)
          (try simp only [Act.put, List.setIfInBounds_toArray, List.set_cons_zero, List.set_cons_succ])
          refine wpAnyH_take (i := 10) (oi := ({ dst := some 98, op := Op.move (Operand.tmp 97), type := 4, pos := "law.go:214", after := #[{ on := 9, ground := Ground.data }, { on := 7, ground := Ground.chain }], guard := none } : Oper)) (v := ?y3_11_v) rfl (by kernel_rfl) (by kernel_rfl) (by kernel_rfl) (fun _ _ _ h => h) (Or.inl ⟨by rfl, ?y3_11_h⟩) hHeld ?y3_11_r
          case y3_11_h => (intro w hSw; (try dsimp only at hSw); go_simp; all_goals with_reducible rfl)
          (try simp only [Act.put, List.setIfInBounds_toArray, List.set_cons_zero, List.set_cons_succ])
          refine wpAnyH_take (i := 11) (oi := ({ dst := some 99, op := Op.move (Operand.tmp 12), type := 3, pos := "law.go:214", after := #[{ on := 10, ground := Ground.guard }], guard := some (10, false) } : Oper)) (v := ?y3_12_v) rfl (by kernel_rfl) (by kernel_rfl) (by kernel_rfl) (fun _ _ _ h => h) (Or.inl ⟨by rfl, ?y3_12_h⟩) hHeld ?y3_12_r
          case y3_12_h => (intro w hSw; (try dsimp only at hSw); go_simp; all_goals with_reducible rfl)
          (try simp only [Act.put, List.setIfInBounds_toArray, List.set_cons_zero, List.set_cons_succ])
          refine wpAnyH_take (i := 12) (oi := ({ dst := some 100, op := Op.binOp BinOp.eql 3 (Operand.tmp 99) (Operand.const (Value.int IntKind.i64 1)) 3, type := 4, pos := "law.go:214", after := #[{ on := 11, ground := Ground.data }, { on := 10, ground := Ground.guard }], guard := some (10, false) } : Oper)) (v := ?y3_13_v) rfl (by kernel_rfl) (by kernel_rfl) (by kernel_rfl) (fun _ _ _ h => h) (Or.inl ⟨by rfl, ?y3_13_h⟩) hHeld ?y3_13_r
          case y3_13_h => (intro w hSw; (try dsimp only at hSw); go_simp; all_goals with_reducible rfl)
          (try simp only [Act.put, List.setIfInBounds_toArray, List.set_cons_zero, List.set_cons_succ])
          refine wpAnyH_take (i := 13) (oi := ({ dst := some 101, op := Op.move (Operand.tmp 100), type := 4, pos := "law.go:214", after := #[{ on := 12, ground := Ground.data }, { on := 10, ground := Ground.chain }, { on := 10, ground := Ground.guard }], guard := some (10, false) } : Oper)) (v := ?y3_14_v) rfl (by kernel_rfl) (by kernel_rfl) (by kernel_rfl) (fun _ _ _ h => h) (Or.inl ⟨by rfl, ?y3_14_h⟩) hHeld ?y3_14_r
          case y3_14_h => (intro w hSw; (try dsimp only at hSw); go_simp; all_goals with_reducible rfl)
          (try simp only [Act.put, List.setIfInBounds_toArray, List.set_cons_zero, List.set_cons_succ])
          refine wpAnyH_take (i := 14) (oi := ({ dst := some 102, op := Op.move (Operand.tmp 7), type := 26, pos := "law.go:214", after := #[{ on := 13, ground := Ground.guard }], guard := some (13, true) } : Oper)) (v := undef) rfl (by kernel_rfl) (by kernel_rfl) (by kernel_rfl) (fun _ _ _ h => h) (Or.inr ⟨by rfl, rfl⟩) hHeld ?_
          (try simp only [Act.put, List.setIfInBounds_toArray, List.set_cons_zero, List.set_cons_succ])
          refine wpAnyH_take (i := 15) (oi := ({ dst := some 103, op := Op.move (Operand.tmp 11), type := 3, pos := "law.go:214", after := #[{ on := 13, ground := Ground.guard }], guard := some (13, true) } : Oper)) (v := undef) rfl (by kernel_rfl) (by kernel_rfl) (by kernel_rfl) (fun _ _ _ h => h) (Or.inr ⟨by rfl, rfl⟩) hHeld ?_
          (try simp only [Act.put, List.setIfInBounds_toArray, List.set_cons_zero, List.set_cons_succ])
          refine wpAnyH_take (i := 16) (oi := ({ dst := some 104, op := Op.indexAddr 26 (Operand.tmp 102) (Operand.tmp 103), type := 0, pos := "law.go:214", after := #[{ on := 14, ground := Ground.data }, { on := 15, ground := Ground.data }, { on := 13, ground := Ground.guard }], guard := some (13, true) } : Oper)) (v := undef) rfl (by kernel_rfl) (by kernel_rfl) (by kernel_rfl) (fun _ _ _ h => h) (Or.inr ⟨by rfl, rfl⟩) hHeld ?_
          (try simp only [Act.put, List.setIfInBounds_toArray, List.set_cons_zero, List.set_cons_succ])
          refine wpAnyH_take (i := 17) (oi := ({ dst := some 105, op := Op.load 37 (Operand.tmp 104), type := 37, pos := "law.go:214", after := #[{ on := 16, ground := Ground.data }, { on := 13, ground := Ground.guard }], guard := some (13, true) } : Oper)) (v := undef) rfl (by kernel_rfl) (by kernel_rfl) (by kernel_rfl) (fun _ _ _ h => h) (Or.inr ⟨by rfl, rfl⟩) hHeld ?_
          (try simp only [Act.put, List.setIfInBounds_toArray, List.set_cons_zero, List.set_cons_succ])
          refine wpAnyH_take (i := 18) (oi := ({ dst := some 106, op := Op.move (Operand.tmp 7), type := 26, pos := "law.go:214", after := #[{ on := 13, ground := Ground.guard }], guard := some (13, true) } : Oper)) (v := undef) rfl (by kernel_rfl) (by kernel_rfl) (by kernel_rfl) (fun _ _ _ h => h) (Or.inr ⟨by rfl, rfl⟩) hHeld ?_
          (try simp only [Act.put, List.setIfInBounds_toArray, List.set_cons_zero, List.set_cons_succ])
          refine wpAnyH_take (i := 19) (oi := ({ dst := some 107, op := Op.move (Operand.tmp 13), type := 3, pos := "law.go:214", after := #[{ on := 13, ground := Ground.guard }], guard := some (13, true) } : Oper)) (v := undef) rfl (by kernel_rfl) (by kernel_rfl) (by kernel_rfl) (fun _ _ _ h => h) (Or.inr ⟨by rfl, rfl⟩) hHeld ?_
          (try simp only [Act.put, List.setIfInBounds_toArray, List.set_cons_zero, List.set_cons_succ])
          refine wpAnyH_take (i := 20) (oi := ({ dst := some 108, op := Op.indexAddr 26 (Operand.tmp 106) (Operand.tmp 107), type := 0, pos := "law.go:214", after := #[{ on := 18, ground := Ground.data }, { on := 19, ground := Ground.data }, { on := 13, ground := Ground.guard }], guard := some (13, true) } : Oper)) (v := undef) rfl (by kernel_rfl) (by kernel_rfl) (by kernel_rfl) (fun _ _ _ h => h) (Or.inr ⟨by rfl, rfl⟩) hHeld ?_
          (try simp only [Act.put, List.setIfInBounds_toArray, List.set_cons_zero, List.set_cons_succ])
          refine wpAnyH_take (i := 21) (oi := ({ dst := some 109, op := Op.load 37 (Operand.tmp 108), type := 37, pos := "law.go:214", after := #[{ on := 20, ground := Ground.data }, { on := 13, ground := Ground.guard }], guard := some (13, true) } : Oper)) (v := undef) rfl (by kernel_rfl) (by kernel_rfl) (by kernel_rfl) (fun _ _ _ h => h) (Or.inr ⟨by rfl, rfl⟩) hHeld ?_
          (try simp only [Act.put, List.setIfInBounds_toArray, List.set_cons_zero, List.set_cons_succ])
          refine wpAnyH_take (i := 22) (oi := ({ dst := some 110, op := Op.load 37 (Operand.tmp 15), type := 37, pos := "law.go:214", after := #[{ on := 13, ground := Ground.guard }], guard := some (13, true) } : Oper)) (v := undef) rfl (by kernel_rfl) (by kernel_rfl) (by kernel_rfl) (fun _ _ _ h => h) (Or.inr ⟨by rfl, rfl⟩) hHeld ?_
          (try simp only [Act.put, List.setIfInBounds_toArray, List.set_cons_zero, List.set_cons_succ])
          refine wpAnyH_take (i := 23) (oi := ({ dst := some 111, op := Op.call { callee := Callee.value (Operand.func 52), args := #[Operand.tmp 109, Operand.tmp 110], argTypes := #[37, 37] }, type := 37, pos := "law.go:214", after := #[{ on := 21, ground := Ground.data }, { on := 22, ground := Ground.data }, { on := 13, ground := Ground.chain }, { on := 13, ground := Ground.guard }], guard := some (13, true) } : Oper)) (v := undef) rfl (by kernel_rfl) (by kernel_rfl) (by kernel_rfl) (fun _ _ _ h => h) (Or.inr ⟨by rfl, rfl⟩) hHeld ?_
          (try simp only [Act.put, List.setIfInBounds_toArray, List.set_cons_zero, List.set_cons_succ])
          refine wpAnyH_take (i := 24) (oi := ({ dst := some 112, op := Op.call { callee := Callee.value (Operand.func 20), args := #[Operand.tmp 105, Operand.tmp 111], argTypes := #[37, 37] }, type := 3, pos := "law.go:214", after := #[{ on := 17, ground := Ground.data }, { on := 23, ground := Ground.data }, { on := 23, ground := Ground.chain }, { on := 13, ground := Ground.guard }], guard := some (13, true) } : Oper)) (v := undef) rfl (by kernel_rfl) (by kernel_rfl) (by kernel_rfl) (fun _ _ _ h => h) (Or.inr ⟨by rfl, rfl⟩) hHeld ?_
          (try simp only [Act.put, List.setIfInBounds_toArray, List.set_cons_zero, List.set_cons_succ])
          refine wpAnyH_take (i := 25) (oi := ({ dst := some 113, op := Op.binOp BinOp.neq 3 (Operand.tmp 112) (Operand.const (Value.int IntKind.i64 0)) 3, type := 4, pos := "law.go:214", after := #[{ on := 24, ground := Ground.data }, { on := 13, ground := Ground.guard }], guard := some (13, true) } : Oper)) (v := undef) rfl (by kernel_rfl) (by kernel_rfl) (by kernel_rfl) (fun _ _ _ h => h) (Or.inr ⟨by rfl, rfl⟩) hHeld ?_
          (try simp only [Act.put, List.setIfInBounds_toArray, List.set_cons_zero, List.set_cons_succ])
          refine wpAnyH_take (i := 26) (oi := ({ dst := some 114, op := Op.pick (Operand.tmp 101) (Operand.tmp 113) (Operand.const (Value.bool false)), type := 4, pos := "law.go:214", after := #[{ on := 13, ground := Ground.data }, { on := 25, ground := Ground.data }, { on := 10, ground := Ground.guard }], guard := some (10, false) } : Oper)) (v := ?y3_27_v) rfl (by kernel_rfl) (by kernel_rfl) (by kernel_rfl) (fun _ _ _ h => h) (Or.inl ⟨by rfl, ?y3_27_h⟩) hHeld ?y3_27_r
          case y3_27_h => (intro w hSw; (try dsimp only at hSw); go_simp; all_goals with_reducible rfl)
          (try simp only [Act.put, List.setIfInBounds_toArray, List.set_cons_zero, List.set_cons_succ])
          refine wpAnyH_take (i := 27) (oi := ({ dst := some 115, op := Op.pick (Operand.tmp 98) (Operand.const (Value.bool true)) (Operand.tmp 114), type := 4, pos := "law.go:214", after := #[{ on := 10, ground := Ground.data }, { on := 26, ground := Ground.data }], guard := none } : Oper)) (v := ?y3_28_v) rfl (by kernel_rfl) (by kernel_rfl) (by kernel_rfl) (fun _ _ _ h => h) (Or.inl ⟨by rfl, ?y3_28_h⟩) hHeld ?y3_28_r
          case y3_28_h => (intro w hSw; (try dsimp only at hSw); go_simp; all_goals with_reducible rfl)
          (try simp only [Act.put, List.setIfInBounds_toArray, List.set_cons_zero, List.set_cons_succ])
          refine wpAnyH_done (by kernel_rfl) ?_ _
          go_wp2
          go_roundw
          case rel => exact ⟨e + 1, by omega, by omega, by simp, bt HB6.out (Below.drew (Below.refl w6.heap.size w6))⟩
          case measure => (simp [RowKit.intOf]; omega)
end Go.Proofs.YteionhenpehogaaGreatDoor
