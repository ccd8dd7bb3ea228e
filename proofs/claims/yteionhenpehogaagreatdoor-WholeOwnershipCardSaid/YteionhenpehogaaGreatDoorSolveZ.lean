import Derived.Test.YteionhenpehogaaGreatDoorReachZ
import Derived.Test.YteionhenpehogaaGreatDoorLinR
import Derived.Test.YteionhenpehogaaGreatDoorLinT
import Derived.Test.YteionhenpehogaaGreatDoorPlainSS
import Derived.Deep.DeepCutAuto
namespace Go.Proofs.YteionhenpehogaaGreatDoor
open Go.RowKit Tally
def PlR (w : World) (v : Value) (l : List Nat) : Prop := RowR w v l.length fun i => .int .i64 (l.getD i 0 : Nat)
theorem rg_part {z : Int} (h1 : 0 ≤ z) (h2 : z ≤ 10000) : Rg 5 (Tally.part z) := by
 have e : (10 : Nat) ^ 5 = 100000 := by decide
 exact (fw_divInt (n := z) (d := 10000) (N := 5) (by decide) (by omega) (by decide) : Fw 5 _)
def Away (r : Value) (V : List Value) : Prop := ∀ g, r.ownBlock = some g → ∀ (i : Nat) (x : Value), V[i]? = some x → x.ownBlock ≠ some g
theorem Four.apart {w w' : World} {row : Option Nat} {b o : Nat} {x : Num} (h : Four w b o x) (hg : w.grownBy w' row) (hb : some b ≠ row) : Four w' b o x :=
 ⟨hg.cell h.1 hb, hg.cell h.2.1 hb, hg.cell h.2.2.1 hb, hg.cell h.2.2.2 hb⟩
theorem RatsR.apart {w w' : World} {row : Option Nat} {u : Value} {n : Nat} {f : Nat → Rat} (h : RatsR w u n f) (hg : w.grownBy w' row) (hni : ∀ g, row = some g → NoInt w g) (hne : ∀ g, row = some g → u.ownBlock ≠ some g) (hn : 0 < n) : RatsR w' u n f := by
 obtain ⟨L, h1, ⟨a, b, o, c, e, r1, r2, r3, r4⟩, h3⟩ := h
 refine ⟨L, h1, ⟨a, b, o, c, e, r1, r2, r3, fun k x hx => (r4 k x hx).apart hg (fun q => ?_)⟩, h3.grown hg hni⟩
 obtain rfl := r3 (by omega)
 exact hne b q.symm (by rw [e]; rfl)
theorem RatsR.block {w : World} {u : Value} {n : Nat} {f : Nat → Rat} (h : RatsR w u n f) (hn : 0 < n) : ∀ g, u.ownBlock = some g → g < w.heap.size := by
 obtain ⟨L, h1, ⟨a, b, o, c, e, r1, r2, r3, r4⟩, h3⟩ := h
 obtain rfl := r3 (by omega)
 intro g hg
 rw [e] at hg
 simp only [Value.ownBlock, Option.some.injEq] at hg
 subst hg
 have hl : 0 < L.length := by omega
 exact World.block_lt_of_cell? _ _ (r4 0 L[0] (List.getElem?_eq_getElem hl)).1
theorem BuildM.away {B : Nat} {w w' : World} {v : Value} {V : List Value} {k n : Nat} {A : Nat → Nat → Rat} {row : Option Nat} (h : BuildM B w v V k (fun _ => n) A) (hn0 : 0 < n) (hg : w.grownBy w' row) (ho : ∀ g, v.ownBlock = some g → row ≠ some g) (hni : ∀ g, row = some g → NoInt w g) (haw : ∀ g, row = some g → ∀ (i : Nat) (x : Value), V[i]? = some x → x.ownBlock ≠ some g) : BuildM B w' v V k (fun _ => n) A :=
 ⟨h.len, h.own.side hg ho, fun i u hu => (h.row i u hu).apart hg hni (fun g hr => haw g hr i u hu) hn0⟩
theorem Away.snoc {r x : Value} {V : List Value} (h : Away r V) (hx : ∀ g, r.ownBlock = some g → x.ownBlock ≠ some g) : Away r (V ++ [x]) := by
 intro g hg i y hy
 by_cases e : i < V.length
 ·rw [List.getElem?_append_left e] at hy
  exact h g hg i y hy
 ·rw [List.getElem?_append_right (by omega)] at hy
  have : i - V.length < 1 := by have := (List.getElem?_eq_some_iff.1 hy).1; simpa using this
  have e2 : i - V.length = 0 := by omega
  rw [e2] at hy
  obtain rfl : x = y := by simpa using hy
  exact hx g hg
theorem Away.grow {w : World} {r r' : Value} {V : List Value} (h : Away r V) (hr : r'.ownBlock = r.ownBlock ∨ r'.ownBlock = some w.heap.size) (hV : ∀ (i : Nat) (x : Value), V[i]? = some x → ∀ g, x.ownBlock = some g → g < w.heap.size) : Away r' V := by
 intro g hg i x hx hxo
 rcases hr with e | e
 ·rw [e] at hg; exact h g hg i x hx hxo
 ·rw [e] at hg
  injection hg with hg
  have := hV i x hx g hxo
  omega
set_option maxRecDepth 100000 in
set_option maxHeartbeats 4000000 in
theorem eqs_any {w : World} {v u t : Value} {G : Nat} {Z : Nat → Nat → Int} {D : Nat → Int} {l : List Nat} (h : MatZ w v G G Z) (hd : RowR w u G fun e => .int .i64 (D e)) (hl : PlR w t l) (hlt : ∀ x, x ∈ l → x < G) (hG2 : G ≤ 12) (hll : l.length ≤ 12) (hinj : ∀ i k, i < l.length → k < l.length → l.getD i 0 = l.getD k 0 → i = k)
  (hz : ∀ i k, i < G → k < G → 0 ≤ Z i k ∧ Z i k ≤ 10000) (hdz : ∀ i, i < G → 0 ≤ D i ∧ D i ≤ 10000) :
  Calls Tryz.prog 112 #[v, u, t] w fun e w' => ∃ (a b : Option Addr) (c d : Nat), e = .returned (.tuple #[.slice a l.length c, .slice b l.length d]) ∧
   MatsR w' (.slice a l.length c) l.length (fun _ => l.length) (eqM fun i k => Tally.part (Z (l.getD k 0) (l.getD i 0))) ∧ RatsR w' (.slice b l.length d) l.length (fun i => Tally.part (D (l.getD i 0))) ∧ Below w.heap.size w w' := by
 obtain ⟨a, b, o, c, rfl, l1, m1, s1, r1⟩ := h
 obtain ⟨a2, b2, o2, c2, rfl, l2, m2, s2, r2⟩ := hd
 obtain ⟨a3, b3, o3, c3, rfl, l3, m3, s3, r3⟩ := hl
 obtain ⟨ti1, hi1, hz10, hz11, hz12⟩ := info_parts infoS
 obtain ⟨ti2, hi2, hz20, hz21, hz22⟩ := info_parts infoQ4
 have R1 := Lib.hid r1
 have R2 := Lib.hid r2
 have R3 := Lib.hid r3
 clear r1 r2 r3
 go_enter Tryz.func112, Tryz.ntmps112
 have HL := Lib.hid (show ∀ i, i < l.length → l.getD i 0 < G from fun i hi => hlt _ (by
  rw [List.getD_eq_getElem?_getD, List.getElem?_eq_getElem hi]; exact List.getElem_mem hi))
 have HZ := Lib.hid hz
 have HDZ := Lib.hid hdz
 have HIN := Lib.hid hinj
 clear hlt hz hdz hinj
 go_wp2_with fail
 go_loopw [8, 9, 18] (fun s r i wr => ∃ (k : Nat) (V : List Value) (L : List Num) (sv rv : Value), sv = s ∧ rv = r ∧ i = .int .i64 k ∧ k ≤ l.length ∧ BuildM w.heap.size wr s V k (fun _ => l.length) (eqM fun i k => Tally.part (Z (l.getD k 0) (l.getD i 0))) ∧ BuildN w.heap.size wr r L k (fun i => Tally.part (D (l.getD i 0))) ∧ Below w.heap.size w wr ∧ Away r V) (fun _ _ i _ => l.length - (RowKit.intOf i).toNat)
 case atStart => exact ⟨0, [], [], _, _, rfl, rfl, rfl, Nat.zero_le _, BuildM.start _ _ _ _, BuildN.start _ _ _, Below.refl _ _, fun g h => by simp [Value.ownBlock] at h⟩
 case round =>
  obtain ⟨k, V, L, s, r, rfl, rfl, rfl, hk, hbm, hbn, hb, hap⟩ := hrel
  have HM := Lib.hid hbm
  have HN := Lib.hid hbn
  have HB := Lib.hid hb
  have HAP := Lib.hid hap
  clear hbm hbn hb hap
  by_cases hkl : k < l.length
  ·have hki : (k : Int) < (l.length : Int) := by omega
   obtain rfl := s3 (by omega)
   obtain ⟨e, he⟩ : ∃ e, l.getD k 0 = e := ⟨_, rfl⟩
   have heG := HL.out k hkl
   have x1 := keepc HB.out (R3.out k hkl)
   rw [he] at heG x1
   have hei : (e : Int) < (G : Int) := by omega
   have HE := Lib.hid he
   clear he
   obtain ⟨wo, hwo⟩ : ∃ wo, wo = wr := ⟨_, rfl⟩
   subst hwo
   go_wp2_with fail
   clear x1
   go_loopw [12, 24] (fun q i wr => ∃ (j : Nat) (K : List Num) (qv : Value), qv = q ∧ i = .int .i64 j ∧ j ≤ l.length ∧ BuildN wo.heap.size wr q K j (eqM (fun i k => Tally.part (Z (l.getD k 0) (l.getD i 0))) k) ∧ Below wo.heap.size wo wr) (fun _ i _ => l.length - (RowKit.intOf i).toNat)
   case atStart => exact ⟨0, [], _, rfl, rfl, Nat.zero_le _, BuildN.start _ _ _, Below.refl _ _⟩
   case round =>
    obtain ⟨j, K, q, rfl, rfl, hj, hbq, hbw⟩ := hrel
    have HQ := Lib.hid hbq
    have HW := Lib.hid hbw
    clear hbq hbw
    by_cases hjl : j < l.length
    ·have hji : (j : Int) < (l.length : Int) := by omega
     obtain ⟨f, hf⟩ : ∃ f, l.getD j 0 = f := ⟨_, rfl⟩
     have hfG := HL.out j hjl
     have x2 := keepc (bt HB.out HW.out) (R3.out j hjl)
     rw [hf] at hfG x2
     have hfi : (f : Int) < (G : Int) := by omega
     obtain rfl := s1 (by omega)
     obtain ⟨a4, c4, t1, t2⟩ := R1.out f hfG
     obtain ⟨_, b4, o4, _, te, t3, t4, t5, t6⟩ := t2
     injection te with te1 _ te2
     subst te1
     subst te2
     obtain rfl := t5 (by omega)
     have x3 := keepc (bt HB.out HW.out) t1
     have x4 := keepc (bt HB.out HW.out) (t6 e heG)
     have HFE := Lib.hid hf
     have zb := HZ.out f e hfG heG
     clear hf t1 t5 t6
     go_wp2_with fail
     refine (part_any (by omega) (by omega)).mono ?_
     rintro en w2 ⟨n1, a1, k1, c1, n2, a5, k2, c5, rfl, hx, hb2⟩
     have HX := Lib.hid hx
     have HB2 := Lib.hid (bt HW.out hb2)
     have HB2W := Lib.hid hb2
     clear hx hb2 x2 x3 x4
     go_wp2_with fail
     refine (ratneg_any HX.out).mono ?_
     rintro en w3 ⟨n1, a1, k1, c1, n2, a5, k2, c5, rfl, hx, hb3⟩
     have HY := Lib.hid hx
     have HB3 := Lib.hid (bt HB2.out hb3)
     have HB3W := Lib.hid (bt HB2W.out hb3)
     clear hx hb3 HX HB2
     go_upto_if 39 with (fail)
     obtain ⟨W4, hW, hs4, hb4, b0⟩ := alloc1 w3 (.cells #[.bool n1, .slice a1 k1 c1, .bool n2, .slice a5 k2 c5] 37)
     rw [← hW]
     have HB4 := Lib.hid (bt HB3.out hb4)
     have HY4 := Lib.hid (HY.out.below hb4)
     have HX4 := Lib.hid b0
     have HLW := Lib.hid hs4
     have HB34 := Lib.hid hb4
     clear hW hb4 b0 hs4 HY
     go_cut [] (fun wx => ∃ (m1 : Bool) (e1 : Option Addr) (i1 j1 : Nat) (m2 : Bool) (e2 : Option Addr) (i2 j2 : Nat), wx.heap[w3.heap.size]? = some (.cells #[.bool m1, .slice e1 i1 j1, .bool m2, .slice e2 i2 j2] 37 (0, 0)) ∧ RatR wx (.agg #[.bool m1, .slice e1 i1 j1, .bool m2, .slice e2 i2 j2]) (eqM (fun i k => Tally.part (Z (l.getD k 0) (l.getD i 0))) k j) ∧ Below w3.heap.size w3 wx)
     case first =>
      by_cases hkj : j = k
      ·subst hkj
       have hfe : f = e := by rw [← HFE.out, ← HE.out]
       subst hfe
       have heq : ((f : Int) == (f : Int)) = true := beq_self_eq_true _
       obtain ⟨⟨d0, d1, d2, d3⟩, f0, f1, f2, f3⟩ := res4_facts HX4.out
       have HDR := Lib.hid (Below.drew (Below.refl W4.heap.size W4))
       have HVAL := Lib.hid (show -Tally.part (Z f f) + Tally.part 10000 = eqM (fun i k => Tally.part (Z (l.getD k 0) (l.getD i 0))) j j by
        show _ = (if j = j then (1 : Rat) else 0) - Tally.part (Z (l.getD j 0) (l.getD j 0)); rw [if_pos rfl, part_one, HFE.out]; grind)
       go_wp2_with fail
       go_region_with ((first
        | (go_at_call 64; (with_reducible refine (part_any (n := 10000) (by decide) (by decide)).mono ?_); rintro en v1 ⟨p1, p2, p3, p4, p5, p6, p7, p8, rfl, hp, hbv⟩; have HP := Lib.hid hp; have HBV := Lib.hid (bt HDR.out hbv); have HYV := Lib.hid (HY4.out.below HBV.out); have HXV := Lib.hid (blk_next (blk_next HX4.out HDR.out) hbv); obtain ⟨⟨g0, g1, g2, g3⟩, h0, h1, h2, h3⟩ := res4_facts HXV.out; clear hp hbv)
        | (go_at_call 28; (with_reducible refine (ratadd_any HYV.out HP.out (Rg.of (fw_neg (rg_part zb.1 zb.2).fw)) (rg_part (by decide) (by decide)) (by decide)).mono ?_); rintro en v2 ⟨p1, p2, p3, p4, p5, p6, p7, p8, rfl, hs1, hs2, hbv⟩; have HS := Lib.hid (RatR.mk hs1 hs2 (.inl rfl)); have HBV2 := Lib.hid (bt HBV.out hbv); have HXV2 := Lib.hid (blk_next HXV.out hbv); obtain ⟨⟨g0, g1, g2, g3⟩, h0, h1, h2, h3⟩ := res4_facts HXV2.out; clear hs1 hs2 hbv)))
       all_goals
        go_wp2_with fail
        go_meet
        exact ⟨p1, p2, p3, p4, p5, p6, p7, p8, res4_set HXV2.out, HVAL.out ▸ HS.out.stay set4_stay (noInt_one (noInt4 HXV2.out)), fin4 (bt HB34.out HBV2.out) (Nat.le_refl _)⟩
      ·have hne : ((f : Int) == (e : Int)) = false := by
        rw [beq_eq_false_iff_ne]
        intro q
        refine hkj (HIN.out j k hjl hkl ?_)
        rw [HFE.out, HE.out]
        omega
       have HVAL := Lib.hid (show -Tally.part (Z f e) = eqM (fun i k => Tally.part (Z (l.getD k 0) (l.getD i 0))) k j by
        show _ = (if j = k then (1 : Rat) else 0) - Tally.part (Z (l.getD j 0) (l.getD k 0)); rw [if_neg hkj, HFE.out, HE.out]; grind)
       go_wp2_with fail
       go_meet
       exact ⟨_, _, _, _, _, _, _, _, HX4.out, HVAL.out ▸ HY4.out, HB34.out⟩
     case rest =>
      obtain ⟨m1, e1, i1, j1, m2, e2, i2, j2, hxc, hrc, hbc⟩ := hcut
      have HXC := Lib.hid hxc
      have HRC := Lib.hid (show RatN wc ⟨m1, e1, i1, j1, m2, e2, i2, j2⟩ (eqM (fun i k => Tally.part (Z (l.getD k 0) (l.getD i 0))) k j) from hrc)
      have HBC := Lib.hid (bt HB3.out hbc)
      have HQ2 := Lib.hid (HQ.out.below (bt HB3W.out hbc))
      obtain ⟨⟨d0, d1, d2, d3⟩, f0, f1, f2, f3⟩ := res4_facts HXC.out
      have hlen := HQ2.out.len
      have hbs := HBC.out.size
      have hlx : w3.heap.size < wc.heap.size := (Array.getElem?_eq_some_iff.1 HXC.out).1
      clear hxc hrc hbc HX4 HY4 HLW HB4 HB34 zb
      go_wp2_with (at_builtin; refine wpList_append_free _ rfl _ _ 26 rfl wo.heap.size 37 ti2 (.agg #[.bool false, .slice none 0 0, .bool false, .slice none 0 0]) 4 64 Tryz.underlying26 hi2 hz20 hz21 hz22 rfl (by decide) _ _ _ rfl (HQ2.out.own.below (allocs_below1 _ _)) ⟨wc.heap.size, 0, none⟩ 1 1 (flat [⟨m1, e1, i1, j1, m2, e2, i2, j2⟩]) rfl rfl (row_cells (x := ⟨m1, e1, i1, j1, m2, e2, i2, j2⟩) (heap_alloc_new _ _)) (fun u hu => (flat_one u hu).1) (by unfold maxLen; omega) (by omega) (by simp; omega) (fun u hu => (flat_one u hu).2) zero_notInt ?_; intro v5 w5 ho hg _)
      have hb5 := allocs_below1 wc (.cells #[.bool m1, .slice e1 i1 j1, .bool m2, .slice e2 i2 j2] 37)
      have HN5 := Lib.hid (BuildN.snoc (HQ2.out.below hb5) ho hg (RatR.below HRC.out hb5))
      have HB5 := Lib.hid (grown_below (bt HBC.out hb5) (HQ2.out.own.below hb5).own hg (Nat.le_refl _) (bt HBC.out hb5).size)
      clear ho hg hb5
      go_wp2
      go_roundw
      case rel => exact ⟨j + 1, _, _, rfl, by go_num, by omega, HN5.out, HB5.out⟩
      case measure => simp [RowKit.intOf]; omega
    ·obtain rfl : j = l.length := by omega
     have HQL := Lib.hid (fun g (h : q.ownBlock = some g) => (HQ.out.own.own.lt g h).1)
     obtain ⟨aq, cq, rfl, hrow⟩ := HQ.out.rats
     have HROW := Lib.hid hrow
     have HBA := Lib.hid (bt HB.out HW.out)
     have HMA := Lib.hid (HM.out.below HW.out)
     have HNA := Lib.hid (HN.out.below HW.out)
     have HRB := Lib.hid HN.out.lt
     have hVl := HMA.out.len
     have hLl := HNA.out.len
     have xd := R2.out e heG
     obtain rfl := s2 (by omega)
     have hdz := HDZ.out e heG
     have HLS := Lib.hid (fun (w' : World) (hb : Below w.heap.size w w') => (keepc hb xd : w'.cell? ⟨b2, o2 + e, none⟩ = some (.int .i64 (D e))))
     clear hrow xd
     go_wp2_with fail
     refine wp_region_held_drew (S := fun w' => w'.cell? ⟨b2, o2 + e, none⟩ = some (.int .i64 (D e))) (by kernel_rfl) ?_ (fun hHeld => ?_)
     ·exact HLS.out _ (Below.drew HBA.out)
     (try dsimp only at hHeld)
     refine wpAnyH_take (i := 0) (oi := (⟨some 48, .move (.tmp 8), 70, "share.go:56", #[], none⟩ : Oper)) (v := ?y1_1_v) rfl (by kernel_rfl) (by kernel_rfl) (by kernel_rfl) (fun _ _ _ h => h) (Or.inl ⟨by rfl, ?y1_1_h⟩) hHeld ?y1_1_r
     case y1_1_h => (intro w hSw; (try dsimp only at hSw); go_simp; all_goals with_reducible rfl)
     (try simp only [Act.put, List.setIfInBounds_toArray, List.set_cons_zero, List.set_cons_succ])
     refine wpAnyH_take (i := 1) (oi := (⟨some 49, .move (.tmp 12), 26, "share.go:56", #[], none⟩ : Oper)) (v := ?y1_2_v) rfl (by kernel_rfl) (by kernel_rfl) (by kernel_rfl) (fun _ _ _ h => h) (Or.inl ⟨by rfl, ?y1_2_h⟩) hHeld ?y1_2_r
     case y1_2_h => (intro w hSw; (try dsimp only at hSw); go_simp; all_goals with_reducible rfl)
     (try simp only [Act.put, List.setIfInBounds_toArray, List.set_cons_zero, List.set_cons_succ])
     refine wpAnyH_take (i := 4) (oi := (⟨some 52, .move (.tmp 9), 26, "share.go:56", #[], none⟩ : Oper)) (v := ?y1_3_v) rfl (by kernel_rfl) (by kernel_rfl) (by kernel_rfl) (fun _ _ _ h => h) (Or.inl ⟨by rfl, ?y1_3_h⟩) hHeld ?y1_3_r
     case y1_3_h => (intro w hSw; (try dsimp only at hSw); go_simp; all_goals with_reducible rfl)
     (try simp only [Act.put, List.setIfInBounds_toArray, List.set_cons_zero, List.set_cons_succ])
     refine wpAnyH_take (i := 5) (oi := (⟨some 53, .move (.tmp 1), 53, "share.go:56", #[], none⟩ : Oper)) (v := ?y1_4_v) rfl (by kernel_rfl) (by kernel_rfl) (by kernel_rfl) (fun _ _ _ h => h) (Or.inl ⟨by rfl, ?y1_4_h⟩) hHeld ?y1_4_r
     case y1_4_h => (intro w hSw; (try dsimp only at hSw); go_simp; all_goals with_reducible rfl)
     (try simp only [Act.put, List.setIfInBounds_toArray, List.set_cons_zero, List.set_cons_succ])
     refine wpAnyH_take (i := 6) (oi := (⟨some 54, .move (.tmp 11), 3, "share.go:56", #[], none⟩ : Oper)) (v := ?y1_5_v) rfl (by kernel_rfl) (by kernel_rfl) (by kernel_rfl) (fun _ _ _ h => h) (Or.inl ⟨by rfl, ?y1_5_h⟩) hHeld ?y1_5_r
     case y1_5_h => (intro w hSw; (try dsimp only at hSw); go_simp; all_goals with_reducible rfl)
     (try simp only [Act.put, List.setIfInBounds_toArray, List.set_cons_zero, List.set_cons_succ])
     refine wpAnyH_take (i := 7) (oi := (⟨some 55, .indexAddr 53 (.tmp 53) (.tmp 54), 0, "share.go:56", #[⟨5, .data⟩, ⟨6, .data⟩], none⟩ : Oper)) (v := ?y1_6_v) rfl (by kernel_rfl) (by kernel_rfl) (by kernel_rfl) (fun _ _ _ h => h) (Or.inl ⟨by rfl, ?y1_6_h⟩) hHeld ?y1_6_r
     case y1_6_h => (intro w hSw; (try dsimp only at hSw); go_simp; all_goals with_reducible rfl)
     (try simp only [Act.put, List.setIfInBounds_toArray, List.set_cons_zero, List.set_cons_succ])
     refine wpAnyH_take (i := 8) (oi := (⟨some 56, .load 3 (.tmp 55), 3, "share.go:56", #[⟨7, .data⟩], none⟩ : Oper)) (v := ?y1_7_v) rfl (by kernel_rfl) (by kernel_rfl) (by kernel_rfl) (fun _ _ _ h => h) (Or.inl ⟨by rfl, ?y1_7_h⟩) hHeld ?y1_7_r
     case y1_7_h => (intro w hSw; (try dsimp only at hSw); go_simp; all_goals with_reducible rfl)
     (try simp only [Act.put, List.setIfInBounds_toArray, List.set_cons_zero, List.set_cons_succ])
     refine wpAnyH_ready (rs := [2]) (by kernel_rfl) (by simp) ?_
     refine AllReadyH.cons (o := (⟨some 50, .buildSlice 70 1 #[(0, .tmp 49)], 70, "share.go:56", #[⟨1, .data⟩], none⟩ : Oper)) rfl (fun K hK => ?_) AllReadyH.nil
     go_simp
     (obtain ⟨u2, hW, hs, hb, hx⟩ := alloc1_d wr (.cells #[.slice aq l.length cq] 26); rw [← hW]; have HZ2 := Lib.hid hb; have HRO2 := Lib.hid (HROW.out.below HZ2.out); have HK2 := Lib.hid hx; have HMB := Lib.hid (HMA.out.below HZ2.out); have HNB := Lib.hid (HNA.out.below HZ2.out); have hz2 := (bt HBA.out HZ2.out).size; clear hW hs hb hx)
     first | refine hK.out _ _ ?_ (fun hHeld => ?_) | (go_wp2_with fail; refine hK.out _ _ ?_ (fun hHeld => ?_))
     ·exact HLS.out _ (bt HBA.out HZ2.out)
     clear hK K
     (try dsimp only at hHeld)
     (try simp only [Act.put, List.setIfInBounds_toArray, List.set_cons_zero, List.set_cons_succ])
     refine wpAnyH_ready (rs := [3]) (by kernel_rfl) (by simp) ?_
     refine AllReadyH.cons (o := (⟨some 51, .call { callee := .builtin .append, args := #[.tmp 48, .tmp 50], argTypes := #[70, 70] }, 70, "share.go:56", #[⟨0, .data⟩, ⟨2, .data⟩], none⟩ : Oper)) rfl (fun K hK => ?_) AllReadyH.nil
     (refine step_append_good (G := OnlySl) _ rfl (.tmp 48) (.tmp 50) 70 rfl w.heap.size 26 ti1 (.slice none 0 0) 1 24 Tryz.underlying70 hi1 hz10 hz11 hz12 rfl (by decide) s V.length V rfl HMB.out.own ⟨wr.heap.size, 0, none⟩ 1 1 [.slice aq l.length cq] rfl rfl (row_one HK2.out) (one_cell HRO2.out) (by unfold maxLen; omega) (by omega) hz2 (only_sl HRO2.out) only_sl0 ?_; intro v3 u3 ho hg _; have HM3 := Lib.hid (HMB.out.snoc ho hg HRO2.out); have HN3 := Lib.hid (HNB.out.side hg (own_apart HNB.out.own.own HMB.out.own.own (by decide)) (fun g e => noInt_of_sl (HMB.out.own.free g e))); have HB3 := Lib.hid (grown_below (bt HBA.out HZ2.out) HMB.out.own.own hg (Nat.le_refl _) hz2); clear ho hg)
     first | refine hK.out _ _ ?_ (fun hHeld => ?_) | (go_wp2_with fail; refine hK.out _ _ ?_ (fun hHeld => ?_))
     ·exact HLS.out _ HB3.out
     clear hK K
     (try dsimp only at hHeld)
     (try simp only [Act.put, List.setIfInBounds_toArray, List.set_cons_zero, List.set_cons_succ])
     refine wpAnyH_ready (rs := [9]) (by kernel_rfl) (by simp) ?_
     refine AllReadyH.cons (o := (⟨some 57, .call { callee := .value (.func 64), args := #[.tmp 56], argTypes := #[3] }, 37, "share.go:56", #[⟨8, .data⟩, ⟨3, .chain⟩], none⟩ : Oper)) rfl (fun K hK => ?_) AllReadyH.nil
     go_simp
     (go_at_call 64; (with_reducible refine (part_any (n := D e) (by omega) (by omega)).mono ?_); rintro en u4 ⟨n1, a6, k1, c1, n2, a7, k2, c7, rfl, hx, hb⟩; have HX4 := Lib.hid (show RatN u4 ⟨n1, a6, k1, c1, n2, a7, k2, c7⟩ (Tally.part (D e)) from hx); have HB4 := Lib.hid (bt HB3.out hb); have HM4 := Lib.hid (HM3.out.below hb); have HN4 := Lib.hid (HN3.out.below hb); clear hx hb)
     first | refine hK.out _ _ ?_ (fun hHeld => ?_) | (go_wp2_with fail; refine hK.out _ _ ?_ (fun hHeld => ?_))
     ·exact HLS.out _ HB4.out
     clear hK K
     (try dsimp only at hHeld)
     (try simp only [Act.put, List.setIfInBounds_toArray, List.set_cons_zero, List.set_cons_succ])
     refine wpAnyH_ready (rs := [10]) (by kernel_rfl) (by simp) ?_
     refine AllReadyH.cons (o := (⟨some 58, .buildSlice 26 1 #[(0, .tmp 57)], 26, "share.go:56", #[⟨9, .data⟩], none⟩ : Oper)) rfl (fun K hK => ?_) AllReadyH.nil
     go_simp
     (obtain ⟨u5, hW, hs, hb, hx⟩ := alloc1 u4 (.cells #[.bool n1, .slice a6 k1 c1, .bool n2, .slice a7 k2 c7] 37); rw [← hW]; have HB5 := Lib.hid (bt HB4.out hb); have HM5 := Lib.hid (HM4.out.below hb); have HN5 := Lib.hid (HN4.out.below hb); have HX5 := Lib.hid (show RatN u5 ⟨n1, a6, k1, c1, n2, a7, k2, c7⟩ (Tally.part (D (l.getD k 0))) from by rw [HE.out]; exact RatR.below HX4.out hb); have HK5 := Lib.hid hx; have hz5 := HB5.out.size; clear hW hs hb hx)
     first | refine hK.out _ _ ?_ (fun hHeld => ?_) | (go_wp2_with fail; refine hK.out _ _ ?_ (fun hHeld => ?_))
     ·exact HLS.out _ HB5.out
     clear hK K
     (try dsimp only at hHeld)
     (try simp only [Act.put, List.setIfInBounds_toArray, List.set_cons_zero, List.set_cons_succ])
     refine wpAnyH_ready (rs := [11]) (by kernel_rfl) (by simp) ?_
     refine AllReadyH.cons (o := (⟨some 59, .call { callee := .builtin .append, args := #[.tmp 52, .tmp 58], argTypes := #[26, 26] }, 26, "share.go:56", #[⟨4, .data⟩, ⟨10, .data⟩, ⟨9, .chain⟩], none⟩ : Oper)) rfl (fun K hK => ?_) AllReadyH.nil
     (refine step_append_at (G := notInt) _ rfl (.tmp 52) (.tmp 58) 26 rfl w.heap.size 37 ti2 (.agg #[.bool false, .slice none 0 0, .bool false, .slice none 0 0]) 4 64 Tryz.underlying26 hi2 hz20 hz21 hz22 rfl (by decide) r L.length (flat L) rfl HN5.out.own.good ⟨u4.heap.size, 0, none⟩ 1 1 (flat [⟨n1, a6, k1, c1, n2, a7, k2, c7⟩]) rfl rfl (row_cells (x := ⟨n1, a6, k1, c1, n2, a7, k2, c7⟩) HK5.out) (fun u hu => (flat_one u hu).1) (by unfold maxLen; omega) (by omega) hz5 (fun u hu => (flat_one u hu).2) zero_notInt ?_; intro v6 u6 ho hg hat; have HN6 := Lib.hid (BuildN.snoc HN5.out ho.noInts hg HX5.out); have HA5 := Lib.hid (HAP.out.snoc (x := .slice aq l.length cq) (fun g h1 h2 => Nat.lt_irrefl _ (Nat.lt_of_lt_of_le (HRB.out g h1) (HQL.out g h2)))); have HM6 := Lib.hid (HM5.out.away (by omega) hg (own_apart HM5.out.own.own HN5.out.own.own (by decide)) HN5.out.own.free HA5.out); have HA6 := Lib.hid (HA5.out.grow hat (fun i x hx => (HM5.out.row i x hx).block (by omega))); have HB6 := Lib.hid (grown_below HB5.out HN5.out.own.own hg (Nat.le_refl _) hz5); clear ho hg hat)
     first | refine hK.out _ _ ?_ (fun hHeld => ?_) | (go_wp2_with fail; refine hK.out _ _ ?_ (fun hHeld => ?_))
     ·exact HLS.out _ HB6.out
     clear hK K
     (try dsimp only at hHeld)
     (try simp only [Act.put, List.setIfInBounds_toArray, List.set_cons_zero, List.set_cons_succ])
     refine wpAnyH_take (i := 12) (oi := (⟨some 8, .assign (.tmp 51), 70, "share.go:56", #[⟨3, .data⟩, ⟨11, .chain⟩, ⟨0, .phase⟩, ⟨1, .phase⟩, ⟨2, .phase⟩, ⟨3, .phase⟩, ⟨4, .textOnly .lateStores⟩, ⟨5, .textOnly .lateStores⟩, ⟨6, .textOnly .lateStores⟩, ⟨7, .textOnly .lateStores⟩, ⟨8, .textOnly .lateStores⟩, ⟨9, .textOnly .lateStoresUnsure⟩, ⟨10, .textOnly .lateStores⟩, ⟨11, .textOnly .lateStoresUnsure⟩], none⟩ : Oper)) (v := ?y1_8_v) rfl (by kernel_rfl) (by kernel_rfl) (by kernel_rfl) (fun _ _ _ h => h) (Or.inl ⟨by rfl, ?y1_8_h⟩) hHeld ?y1_8_r
     case y1_8_h => (intro w hSw; (try dsimp only at hSw); go_simp; all_goals with_reducible rfl)
     (try simp only [Act.put, List.setIfInBounds_toArray, List.set_cons_zero, List.set_cons_succ])
     refine wpAnyH_take (i := 13) (oi := (⟨some 9, .assign (.tmp 59), 26, "share.go:56", #[⟨11, .data⟩, ⟨12, .chain⟩, ⟨0, .phase⟩, ⟨1, .phase⟩, ⟨2, .phase⟩, ⟨3, .phase⟩, ⟨4, .phase⟩, ⟨5, .phase⟩, ⟨6, .phase⟩, ⟨7, .phase⟩, ⟨8, .phase⟩, ⟨9, .phase⟩, ⟨10, .phase⟩, ⟨11, .phase⟩, ⟨12, .phase⟩], none⟩ : Oper)) (v := ?y1_9_v) rfl (by kernel_rfl) (by kernel_rfl) (by kernel_rfl) (fun _ _ _ h => h) (Or.inl ⟨by rfl, ?y1_9_h⟩) hHeld ?y1_9_r
     case y1_9_h => (intro w hSw; (try dsimp only at hSw); go_simp; all_goals with_reducible rfl)
     (try simp only [Act.put, List.setIfInBounds_toArray, List.set_cons_zero, List.set_cons_succ])
     refine wpAnyH_done (by kernel_rfl) ?_ _
     go_wp2
     go_roundw
     case rel => exact ⟨k + 1, _, _, _, _, rfl, rfl, by go_num, by omega, HM6.out, HN6.out, HB6.out, HA6.out⟩
     case measure => (simp [RowKit.intOf]; omega)
  ·obtain rfl : k = l.length := by omega
   obtain ⟨a', c', rfl, hm⟩ := HM.out.mats
   obtain ⟨a5, c5, rfl, hn⟩ := HN.out.rats
   have HMX := Lib.hid hm
   have HNX := Lib.hid hn
   clear hm hn HM HN
   go_wp2
   go_ret2
   exact ⟨a', a5, c', c5, rfl, HMX.out, HNX.out, HB.out⟩
end Go.Proofs.YteionhenpehogaaGreatDoor
namespace Go.Proofs.YteionhenpehogaaGreatDoor
open Go.RowKit Tally
def zeroNum : Num := ⟨false, none, 0, 0, false, none, 0, 0⟩
theorem flat_zeros (n : Nat) : flat (List.replicate n zeroNum) = (madeCells #[.bool false, .slice none 0 0, .bool false, .slice none 0 0] (n * 4)).toList := by
 induction n with
 | zero => simp [madeCells, flat]
 | succ n ih =>
  rw [List.replicate_succ', flat_append, ih]
  have e : (n + 1) * 4 = n * 4 + 1 + 1 + 1 + 1 := by omega
  rw [e]
  have m0 : n * 4 % 4 = 0 := by omega
  have m1 : (n * 4 + 1) % 4 = 1 := by omega
  have m2 : (n * 4 + 1 + 1) % 4 = 2 := by omega
  have m3 : (n * 4 + 1 + 1 + 1) % 4 = 3 := by omega
  simp only [madeCells, Array.toList_map, Array.toList_range, List.range_succ, List.map_append, List.map_cons, List.map_nil, List.append_assoc, List.size_toArray, List.length_cons, List.length_nil, Nat.reduceAdd, m0, m1, m2, m3]
  rfl
theorem zero_ratN (w : World) : RatN w zeroNum 0 := ratR_zero w
theorem RowO.made {w : World} {b n : Nat} (h : w.heap[b]? = some (.cells (madeCells #[.bool false, .slice none 0 0, .bool false, .slice none 0 0] (n * 4)) 37 (0, 0))) : RowO w b n (fun _ => 0) :=
 ⟨List.replicate n zeroNum, by simp, by rw [flat_zeros]; exact h, fun k x hx => by
  rw [List.getElem?_replicate] at hx
  split at hx
  ·obtain rfl : zeroNum = x := by simpa using hx
   exact zero_ratN w
  ·cases hx⟩
theorem effd_any {w : World} {v : Value} {G e : Nat} {Z : Nat → Nat → Int} (h : MatZ w v G G Z) (hG : 0 < G) (he : e < G) :
  Calls Tryz.prog 65 #[v, .int .i64 (e : Int)] w fun en w' => en = .returned (.int .i64 (Z 0 e)) ∧ Below w.heap.size w w' := by
 obtain ⟨a, b, o, c, rfl, l1, m1, s1, r1⟩ := h
 obtain rfl := s1 hG
 obtain ⟨a4, c4, t1, t2⟩ := r1 0 hG
 obtain ⟨_, b4, o4, _, te, t3, t4, t5, t6⟩ := t2
 injection te with te1 _ te2
 subst te1
 subst te2
 obtain rfl := t5 hG
 have x1 := t6 e he
 have hez : (e : Int) < (G : Int) := by omega
 have hGz : (0 : Int) < (G : Int) := by omega
 rw [Nat.add_zero] at t1
 clear r1 t5 t6 s1
 go_enter Tryz.func65, Tryz.ntmps65
 go_wp2
 go_ret
 exact ⟨rfl, Below.refl _ _⟩
set_option maxHeartbeats 1000000 in
theorem outd_any {w : World} {v : Value} {G e : Nat} {Z : Nat → Nat → Int} (h : MatZ w v G G Z) (hG2 : G ≤ 12) (he : e < G) (hz : ∀ i k, i < G → k < G → 0 ≤ Z i k ∧ Z i k ≤ 10000) :
  Calls Tryz.prog 75 #[v, .int .i64 (e : Int)] w fun en w' => en = .returned (.int .i64 (10000 - isum G (fun h => Z h e))) ∧ Below w.heap.size w w' := by
 obtain ⟨a, b, o, c, rfl, l1, m1, s1, r1⟩ := h
 have hez : (e : Int) < (G : Int) := by omega
 have R1 := Lib.hid r1
 have HZ := Lib.hid hz
 clear r1 hz
 go_enter Tryz.func75, Tryz.ntmps75
 go_wp2
 go_loopw [5, 10] (fun s i wr => ∃ k : Nat, k ≤ G ∧ i = .int .i64 k ∧ s = .int .i64 (10000 - isum k (fun h => Z h e)) ∧ wr = w) (fun _ i _ => G - (RowKit.intOf i).toNat)
 case atStart => exact ⟨0, Nat.zero_le _, rfl, rfl, rfl⟩
 case round =>
  obtain ⟨k, hk, rfl, rfl, rfl⟩ := hrel
  by_cases hkl : k < G
  ·have hki : (k : Int) < (G : Int) := by omega
   obtain rfl := s1 (by omega)
   obtain ⟨a4, c4, t1, t2⟩ := R1.out k hkl
   obtain ⟨_, b4, o4, _, te, t3, t4, t5, t6⟩ := t2
   injection te with te1 _ te2
   subst te1
   subst te2
   obtain rfl := t5 (by omega)
   have x1 := t6 e he
   have hb1 := isum_range (n := k) (c := 10000) (f := fun h => Z h e) (fun i hi => HZ.out i e (by omega) he)
   have hb2 := HZ.out k e hkl he
   obtain ⟨sm, hsm⟩ : ∃ sm, isum k (fun h => Z h e) = sm := ⟨_, rfl⟩
   rw [hsm] at hb1 ⊢
   have HSM := Lib.hid (show isum (k + 1) (fun h => Z h e) = sm + Z k e by show isum k _ + Z k e = _; rw [hsm])
   clear t5 t6 hsm
   go_wp2
   go_roundw
   case rel => exact ⟨k + 1, by omega, by simp, by rw [HSM.out]; congr 1; omega, trivial⟩
   case measure => simp [RowKit.intOf]; omega
  ·obtain rfl : k = G := by omega
   go_wp2
   go_ret
   exact ⟨rfl, Below.refl _ _⟩
end Go.Proofs.YteionhenpehogaaGreatDoor
namespace Go.Proofs.YteionhenpehogaaGreatDoor
open Go.RowKit Tally Graph.Plain
def dirE (_N : Nat) (Z : Nat → Nat → Int) : Nat → Int := fun e => if e = 0 then 0 else Z 0 e
def dirO (N : Nat) (Z : Nat → Nat → Int) : Nat → Int := fun e => if e = 0 then 0 else 10000 - isum N (fun h => Z h e)
theorem dirE_pos {N e : Nat} {Z : Nat → Nat → Int} (h : 1 ≤ e) : dirE N Z e = Z 0 e := if_neg (by omega)
theorem dirO_pos {N e : Nat} {Z : Nat → Nat → Int} (h : 1 ≤ e) : dirO N Z e = 10000 - isum N (fun h => Z h e) := if_neg (by omega)
structure Sh (N : Nat) (Z : Nat → Nat → Int) : Prop where
 one : 1 ≤ N
 range : ∀ i k, i < N → k < N → 0 ≤ Z i k ∧ Z i k ≤ 10000
 sum : ∀ e, e < N → isum N (fun h => Z h e) ≤ 10000
theorem at_shares {N k : Nat} {H : Hds} {day : Int} (hv : H.valid N k) : Sh N (fun h e => H.at (h : Nat) (e : Nat) day k) :=
 ⟨by have := hv.1; omega, fun _ _ _ _ => at_range hv.2.2.2.1.sh, fun e _ => by have := hv.2.2.2.2 (e : Nat) day; rw [Int.toNat_natCast] at this; exact this⟩
theorem at_zrange {N k : Nat} {H : Hds} {day : Int} (hv : H.valid N k) : ∀ i j, i < N → j < N → 0 ≤ H.at (i : Nat) (j : Nat) day k ∧ H.at (i : Nat) (j : Nat) day k ≤ 10000 := (at_shares hv).range
theorem isum_split {N : Nat} {f : Nat → Int} (hN : 1 ≤ N) : isum N (fun h => if h = 0 then 0 else f h) + f 0 = isum N f := by
 rw [← isum_set (f := fun h => if h = 0 then 0 else f h) (d := f 0) (show 0 < N by omega)]
 refine isum_congr fun h _ => ?_
 by_cases e : h = 0
 ·subst e; simp
 ·rw [if_neg e, if_neg e]
theorem dirE_shares {N : Nat} {Z : Nat → Nat → Int} (h : Sh N Z) : Shares N Z (dirE N Z) :=
 ⟨fun i k hi hk => (h.range i k hi hk).1, fun e h1 he => by rw [dirE_pos h1]; exact (h.range 0 e (by omega) he).1, fun e h1 he => by
  rw [dirE_pos h1, isum_split (f := fun i => Z i e) h.one]; exact h.sum e he⟩
theorem dirO_shares {N : Nat} {Z : Nat → Nat → Int} (h : Sh N Z) : Shares N Z (dirO N Z) :=
 ⟨fun i k hi hk => (h.range i k hi hk).1, fun e h1 he => by rw [dirO_pos h1]; have := h.sum e he; omega, fun e h1 he => by
  rw [dirO_pos h1]
  have h2 := isum_split (f := fun i => Z i e) h.one
  have h3 := (h.range 0 e (by omega) he).1
  omega⟩
theorem dirE_range {N : Nat} {Z : Nat → Nat → Int} (h : Sh N Z) (_ : ∀ i k, i < N → k < N → 0 ≤ Z i k ∧ Z i k ≤ 10000) : ∀ e, e < N → 0 ≤ dirE N Z e ∧ dirE N Z e ≤ 10000 := fun e he => by
 unfold dirE
 by_cases q : e = 0
 ·rw [if_pos q]; decide
 ·rw [if_neg q]; exact h.range 0 e (by omega) he
theorem dirO_range {N : Nat} {Z : Nat → Nat → Int} (h : Sh N Z) (hz : ∀ i k, i < N → k < N → 0 ≤ Z i k ∧ Z i k ≤ 10000) : ∀ e, e < N → 0 ≤ dirO N Z e ∧ dirO N Z e ≤ 10000 := fun e he => by
 unfold dirO
 by_cases q : e = 0
 ·rw [if_pos q]; decide
 ·rw [if_neg q]
  have h1 := h.sum e he
  have h2 := isum_range (n := N) (c := 10000) (f := fun i => Z i e) (fun i hi => hz i e hi he)
  omega
theorem plc_len {o : Nat → Bool} {n : Nat} : (plc o n).length ≤ n := by
 induction n with
 | zero => exact Nat.le_refl _
 | succ n ih =>
  rw [plc_succ, List.length_append]
  by_cases h : o n = true
  ·rw [if_pos h]; simp; omega
  ·rw [if_neg h]; simp; omega
theorem natInts_getD {l : List Nat} {i : Nat} (h : i < l.length) : (natInts l).getD i undef = .int .i64 ((l.getD i 0 : Nat) : Int) := by
 unfold natInts
 simp [h]
theorem below_putN {n b o : Nat} {w w' : World} {x : Num} (h : Below n w w') (hb : n ≤ b) : Below n w (putN w' b o x) := by
 unfold putN
 exact (((h.setCell (p := ⟨b, o, none⟩) hb _).setCell (p := ⟨b, o + 1, none⟩) hb _).setCell (p := ⟨b, o + 2, none⟩) hb _).setCell (p := ⟨b, o + 3, none⟩) hb _
theorem size_putN {b o : Nat} {w : World} {x : Num} : (putN w b o x).heap.size = w.heap.size := by
 unfold putN; simp
theorem RowO.congr {w : World} {b n : Nat} {f g : Nat → Rat} (h : RowO w b n f) (e : ∀ k, k < n → f k = g k) : RowO w b n g := by
 obtain ⟨L, h1, h2, h3⟩ := h
 exact ⟨L, h1, h2, h3.congr (fun k hk => e k (by omega))⟩
theorem RatsR.stay {w w' : World} {n D : Nat} {a : Option Addr} {c : Nat} {f : Nat → Rat} (h : RatsR w (.slice a n c) n f) (hs : Stay D (D + 1) w w') (hb : ∀ g, (Value.slice a n c).ownBlock = some g → g ≠ D) (hn : NoInt w D) : RatsR w' (.slice a n c) n f := by
 obtain ⟨L, rfl, ⟨a', b', o, c', e, r1, r2, r3, r4⟩, h3⟩ := h
 injection e with e1 _ e3
 subst e1 e3
 refine ⟨L, rfl, ⟨a, b', o, c, rfl, r1, r2, r3, fun k x hx => ?_⟩, h3.stay hs (noInt_one hn)⟩
 have hk := (List.getElem?_eq_some_iff.1 hx).1
 obtain rfl := r3 (by omega)
 have hne : b' ≠ D := hb b' rfl
 obtain ⟨q0, q1, q2, q3⟩ := r4 k x hx
 exact ⟨hs.cell (by omega) q0, hs.cell (by omega) q1, hs.cell (by omega) q2, hs.cell (by omega) q3⟩
theorem sol_rows {N : Nat} {Z : Nat → Nat → Int} {D : Nat → Int} {o : Nat → Bool} (hz : ∀ i k, i < N → k < N → 0 ≤ Z i k ∧ Z i k ≤ 10000) (hd : ∀ e, e < N → 0 ≤ D e ∧ D e ≤ 10000) :
  ∀ i, i < (plc o N).length → RowD (5 + 5) ((plc o N).length + 1) (wideM (plc o N).length (eqM (plB o N Z)) (plD o N D) i) :=
 wide_rows (fun _ hi => eq_row (Z := fun i k => Z (plAt o N k) (plAt o N i)) fun _ hk => hz _ _ (plAt_mem hk).1 (plAt_mem hi).1) (fun _ hi => few_part (hd _ (plAt_mem hi).1).1 (hd _ (plAt_mem hi).1).2)
theorem fill_put {N : Nat} {o : Nat → Bool} {v : Nat → Rat} {q : Rat} {j : Nat} (h0 : 1 ≤ plAt o N j) (e : Nat) :
  (if e = plAt o N j then v j else if e = 0 then q else fillP o N v j e) = if e = 0 then q else fillP o N v (j + 1) e := by
 show _ = if e = 0 then q else if e = plAt o N j then v j else fillP o N v j e
 by_cases h : e = 0
 ·rw [if_neg (by omega), if_pos h, if_pos h]
 ·rw [if_neg h, if_neg h]
theorem RowR.blk {w : World} {v : Value} {n : Nat} {f : Nat → Value} (h : RowR w v n f) (hn : 0 < n) : ∀ g, v.ownBlock = some g → g < w.heap.size := by
 obtain ⟨a, b, o, c, rfl, _, _, r3, r4⟩ := h
 obtain rfl := r3 hn
 intro g hg
 simp only [Value.ownBlock, Option.some.injEq] at hg
 subst hg
 exact World.block_lt_of_cell? _ _ (r4 0 hn)
theorem Stay.trans {lo hi : Nat} {a w w' : World} (h : Stay lo hi a w) (k : Stay lo hi w w') : Stay lo hi a w' :=
 ⟨k.os.trans h.os, k.tape.trans h.tape, k.output.trans h.output, Nat.le_trans h.size k.size, fun b hb hn => (k.block b (Nat.lt_of_lt_of_le hb h.size) hn).trans (h.block b hb hn)⟩
theorem sol_good {N : Nat} {Z : Nat → Nat → Int} {D : Nat → Int} {o : Nat → Bool} (hs : Shares N Z D) (ho : IsReach N (inner Z) (direct N D) o) (hz : ∀ i k, i < N → k < N → 0 ≤ Z i k ∧ Z i k ≤ 10000) (hd : ∀ e, e < N → 0 ≤ D e ∧ D e ≤ 10000) (hN : N ≤ 12) {s : St}
  (h : Run upR (plc o N).length (wideM (plc o N).length (eqM (plB o N Z)) (plD o N D)) (plc o N).length s) :
  Sol N Z D o (fillP o N (fun i => s.A i (plc o N).length / s.A i i) (plc o N).length) ∧ ∀ e, e < N → Rg 50000 (fillP o N (fun i => s.A i (plc o N).length / s.A i i) (plc o N).length e) := by
 refine ⟨sol_of_run hs ho h, fun e he => ?_⟩
 have hl : (plc o N).length ≤ 12 := Nat.le_trans plc_len hN
 by_cases q : o e = true
 ·obtain ⟨i, hi, rfl⟩ := plAt_of he q
  rw [fillP_at hi (Nat.le_refl _)]
  have h1 := sol_fw (N := 5 + 5) h (pl_rank hs ho h) (sol_rows hz hd) i hi
  refine Rg.mono h1 ?_
  have h2 : dgs (5 + 5) (plc o N).length ≤ dgs (5 + 5) 12 := by
   have h3 := dgs_eq (5 + 5) (plc o N).length
   have h4 := dgs_eq (5 + 5) 12
   have h5 : 2 ^ (plc o N).length * (5 + 5 + 1) ≤ 2 ^ 12 * (5 + 5 + 1) := Nat.mul_le_mul_right _ (Nat.pow_le_pow_right (by omega) hl)
   omega
  exact Nat.le_trans h2 (by decide)
 ·rw [fillP_no (Nat.le_refl _) (by simpa using q)]
  exact Rg.of (fw_zero 49999)
def GivesSol (w : World) (N : Nat) (Z : Nat → Nat → Int) (D : Nat → Int) (q : Rat) (e : Ending) (w' : World) : Prop :=
 ∃ (a : Option Addr) (c : Nat) (o : Nat → Bool) (x : Nat → Rat), e = .returned (.tuple #[.slice a N c, .int .i64 0]) ∧ IsReach N (inner Z) (direct N D) o ∧ Sol N Z D o x ∧ (∀ e, e < N → Rg 50000 (x e)) ∧
  RatsR w' (.slice a N c) N (fun e => if e = 0 then q else x e) ∧ Below w.heap.size w w'
end Go.Proofs.YteionhenpehogaaGreatDoor
namespace Go.Proofs.YteionhenpehogaaGreatDoor
open Go.RowKit Tally Graph.Plain
def GivesNo (w : World) (c : Int) (e : Ending) (w' : World) : Prop := e = .returned (.tuple #[.slice none 0 0, .int .i64 c]) ∧ Below w.heap.size w w'
set_option maxHeartbeats 2000000 in
theorem solve_no1 {w : World} {v par f : Value} {k : Nat} {n : Int} {H : Hds} {day : Int} {q : Rat} (hH : HoldR w v k H) (hw : Hwf H k) (hv : ¬ H.valid n k) (hp : RatR w par q) :
  Calls Tryz.prog 63 #[.int .i64 n, v, .int .i64 day, par, f] w (GivesNo w 1) := by
 obtain ⟨a, c, rfl⟩ : ∃ a c, v = .slice a k c := by obtain ⟨a, b, o, c, h1, _⟩ := hH; exact ⟨a, c, h1⟩
 obtain ⟨n1, a1, k1, c1, n2, a2, k2, c2, rfl⟩ := hp.shape
 have HH := Lib.hid hH
 have HW := Lib.hid hw
 have HV := Lib.hid hv
 clear hH hw hv hp
 go_enter Tryz.func63, Tryz.ntmps63
 go_wp2_with fail
 obtain ⟨W1, hW, hs, hb, b0⟩ := alloc1 w (.cells #[.bool n1, .slice a1 k1 c1, .bool n2, .slice a2 k2 c2] 37)
 rw [← hW]
 have HB := Lib.hid hb
 clear hW hs hb b0
 refine (matrix_no1 (HH.out.below HB.out) HW.out HV.out).mono ?_
 rintro en w1 ⟨rfl, hb⟩
 have HB1 := Lib.hid (bt HB.out hb)
 clear hb
 go_wp2
 go_ret2
 exact ⟨rfl, HB1.out⟩
set_option maxHeartbeats 2000000 in
theorem solve_no2 {w : World} {v par f : Value} {k : Nat} {n : Int} {H : Hds} {day : Int} {q : Rat} (hH : HoldR w v k H) (hw : Hwf H k) (hv : H.valid n k) (hd : ¬ goodDate day) (hp : RatR w par q) :
  Calls Tryz.prog 63 #[.int .i64 n, v, .int .i64 day, par, f] w (GivesNo w 2) := by
 obtain ⟨a, c, rfl⟩ : ∃ a c, v = .slice a k c := by obtain ⟨a, b, o, c, h1, _⟩ := hH; exact ⟨a, c, h1⟩
 obtain ⟨n1, a1, k1, c1, n2, a2, k2, c2, rfl⟩ := hp.shape
 have HH := Lib.hid hH
 have HW := Lib.hid hw
 have HV := Lib.hid hv
 have HD := Lib.hid hd
 clear hH hw hv hp hd
 go_enter Tryz.func63, Tryz.ntmps63
 go_wp2_with fail
 obtain ⟨W1, hW, hs, hb, b0⟩ := alloc1 w (.cells #[.bool n1, .slice a1 k1 c1, .bool n2, .slice a2 k2 c2] 37)
 rw [← hW]
 have HB := Lib.hid hb
 clear hW hs hb b0
 refine (matrix_no2 (HH.out.below HB.out) HW.out HV.out HD.out).mono ?_
 rintro en w1 ⟨rfl, hb⟩
 have HB1 := Lib.hid (bt HB.out hb)
 clear hb
 go_wp2
 go_ret2
 exact ⟨rfl, HB1.out⟩
end Go.Proofs.YteionhenpehogaaGreatDoor
namespace Go.Proofs.YteionhenpehogaaGreatDoor
open Go.RowKit Tally Graph.Plain
set_option maxRecDepth 100000 in
set_option maxHeartbeats 8000000 in
theorem solveE_any {w : World} {v par : Value} {k N : Nat} {H : Hds} {day : Int} {q : Rat} (hH : HoldR w v k H) (hw : Hwf H k) (hv : H.valid N k) (hd : goodDate day) (hp : RatR w par q) :
  Calls Tryz.prog 63 #[.int .i64 N, v, .int .i64 day, par, .func (.func 65) #[] #[]] w (GivesSol w N (fun h e => H.at h e day k) (dirE N fun h e => H.at h e day k) q) := by
 obtain ⟨ti1, hi1, hz10, hz11, hz12⟩ := info_parts infoN
 obtain ⟨ti2, hi2, hz20, hz21, hz22⟩ := info_parts infoQ4
 obtain ⟨a, c, rfl⟩ : ∃ a c, v = .slice a k c := by obtain ⟨a, b, o, c, h1, _⟩ := hH; exact ⟨a, c, h1⟩
 obtain ⟨n1, a1, k1, c1, n2, a2, k2, c2, rfl⟩ := hp.shape
 have hN1 : 1 ≤ N := by have := hv.1; omega
 have hN2 : N ≤ 12 := by have := hv.2.1; omega
 obtain ⟨Z, hZ⟩ : ∃ Z : Nat → Nat → Int, Z = fun h e => H.at (h : Nat) (e : Nat) day k := ⟨_, rfl⟩
 rw [← hZ]
 have HSS := Lib.hid (show Sh N Z from by rw [hZ]; exact at_shares hv)
 have HZR := Lib.hid HSS.out.range
 have HSH := Lib.hid (dirE_shares HSS.out)
 have HDR := Lib.hid (dirE_range HSS.out HSS.out.range)
 have HZE := Lib.hid hZ
 have HH := Lib.hid hH
 have HW := Lib.hid hw
 have HV := Lib.hid hv
 have HD := Lib.hid hd
 have HP := Lib.hid hp
 clear hH hw hv hd hp hZ
 have hmk := run_make_row' (P := Tryz.prog) 53 3 (.int .i64 0) 8 Tryz.underlying53 infoN rfl .i64 .i64 N (by omega) (by omega)
 have hmk2 := fun W : World => run_make (P := Tryz.prog) (w := W) 26 37 ti2 (.agg #[.bool false, .slice none 0 0, .bool false, .slice none 0 0]) Tryz.underlying26 hi2 hz20 .i64 .i64 (N : Int) (N : Int) (by omega) (by omega) (by rw [hz22]; omega) (by omega)
 have e2 : ((N : Int)).toNat = N := by omega
 simp only [hz21, e2, show (Value.agg #[.bool false, .slice none 0 0, .bool false, .slice none 0 0]).cells = #[.bool false, .slice none 0 0, .bool false, .slice none 0 0] from rfl] at hmk2
 clear e2
 go_enter Tryz.func63, Tryz.ntmps63
 go_wp2_with fail
 obtain ⟨W1, hW, hs, hb, b0⟩ := alloc1 w (.cells #[.bool n1, .slice a1 k1 c1, .bool n2, .slice a2 k2 c2] 37)
 rw [← hW]
 have HB := Lib.hid hb
 have HPX := Lib.hid b0
 clear hW hs hb b0
 refine (matrix_yes (HH.out.below HB.out) HW.out HV.out HD.out).mono ?_
 rintro en w1 ⟨am, cm, rfl, hm, hb⟩
 have HM := Lib.hid (show MatZ w1 (.slice am N cm) N N Z from by rw [HZE.out]; exact hm)
 replace HB := Lib.hid (bt HB.out hb)
 replace HPX := Lib.hid (blk_next HPX.out hb)
 clear hm hb
 go_wp2_with fail
 clear hmk
 obtain ⟨w2, hW, hs2, hb2, b2⟩ := alloc1 w1 (.cells (madeCells #[.int .i64 0] N) 3)
 have hrow := World.rowIs_made w1 (.int .i64 0) N 3
 rw [← hW] at hrow ⊢
 obtain ⟨PB, hPB⟩ : ∃ PB, w1.heap.size = PB := ⟨_, rfl⟩
 rw [hPB] at hrow ⊢
 have HPE := Lib.hid hPB
 have HPL := Lib.hid (show PB < w2.heap.size from by omega)
 have HROW := Lib.hid hrow
 have HB2 := Lib.hid (hPB ▸ hb2 : Below PB w1 w2)
 clear hW hs2 hb2 b2 hrow hPB
 obtain ⟨D, hD⟩ : ∃ D : Nat → Int, D = dirE N Z := ⟨_, rfl⟩
 rw [← hD] at HSH HDR ⊢
 have HDE := Lib.hid hD
 clear hD
 go_loopw [15] (fun i wr => ∃ e : Nat, 1 ≤ e ∧ e ≤ N ∧ i = .int .i64 e ∧ wr.rowIs PB 3 N (fun j => .int .i64 (if 1 ≤ j ∧ j < e then D j else 0)) ∧ Below PB w1 wr ∧ PB < wr.heap.size) (fun i _ => N - (RowKit.intOf i).toNat)
 case atStart => exact ⟨1, Nat.le_refl _, hN1, rfl, HROW.out.congr (fun j _ => by rw [if_neg (by omega)]), HB2.out, HPL.out⟩
 case round =>
  obtain ⟨e, he1, he, rfl, hrow, hb, hpl⟩ := hrel
  have HROWe := Lib.hid hrow
  have HBe := Lib.hid hb
  clear hrow hb HROW HB2 HPL
  have HMe := Lib.hid (HM.out.below (HPE.out ▸ HBe.out : Below w1.heap.size w1 wr))
  by_cases hel : e < N
  ·have hei : (e : Int) < (N : Int) := by omega
   go_wp2_with (go_at_call 65; (with_reducible refine (effd_any HMe.out (by omega) hel).mono ?_); rintro en w3 ⟨rfl, hb3⟩; have HRO3 := Lib.hid (HROWe.out.of_block (hb3.block _ hpl)); have HB3 := Lib.hid (HBe.out.trans (hb3.mono (by omega))); have y1 := HRO3.out.cell hel; have y2 := HRO3.out.frozen e; have hs3 := hb3.size; clear hb3)
   go_roundw
   case rel => exact ⟨e + 1, by omega, by omega, by simp, (HRO3.out.set e _).congr (fun j _ => by
    by_cases z : j = e
    ·subst z
     rw [if_pos rfl, if_pos ⟨he1, by omega⟩, HDE.out, dirE_pos he1]
    ·rw [if_neg z]
     by_cases y : 1 ≤ j ∧ j < e
     ·rw [if_pos y, if_pos (by omega)]
     ·rw [if_neg y, if_neg (by omega)]), HB3.out.setCell (p := ⟨PB, e, none⟩) (Nat.le_refl _) _, by simp; omega⟩
   case measure => simp [RowKit.intOf]; omega
  ·obtain rfl : N = e := by omega
   have HPR := Lib.hid (show RowR wr (.slice (some ⟨PB, 0, none⟩) N N) N fun j => .int .i64 (D j) from ⟨_, PB, 0, N, rfl, Nat.le_refl _, by omega, fun _ => rfl, fun j hj => by
    have h1 := HROWe.out.cell hj
    rw [Nat.zero_add, h1]
    by_cases z : j = 0
    ·subst z
     rw [if_neg (by omega), HDE.out]
     rfl
    ·rw [if_pos (by omega)]⟩)
   have HB0 := Lib.hid (HB.out.trans (HBe.out.mono (by have := HB.out.size; have := HPE.out; omega)))
   have HPX0 := Lib.hid (blk_next HPX.out (HPE.out ▸ HBe.out : Below w1.heap.size w1 wr))
   clear HROWe HBe HB HPX HM hpl HPE
   go_wp2_with fail
   refine (reached_any HMe.out HPR.out hN1 hN2).mono ?_
   rintro en w3 ⟨o, rfl, hrow, ho, hb3⟩
   have HRO := Lib.hid hrow
   have HO := Lib.hid ho
   have HM3 := Lib.hid (HMe.out.below hb3)
   have HPR3 := Lib.hid (HPR.out.below hb3)
   have HB3 := Lib.hid (bt HB0.out hb3)
   have HPX3 := Lib.hid (blk_next HPX0.out hb3)
   obtain ⟨RB, hRB⟩ : ∃ RB, wr.heap.size = RB := ⟨_, rfl⟩
   rw [hRB] at HRO ⊢
   clear hrow ho hb3 HMe HPR HB0 HPX0 hRB
   go_wp2_with fail
   go_loopw [16, 54] (fun s i wl => ∃ j : Nat, j ≤ N ∧ i = .int .i64 j ∧ wl.ownsRow w3.heap.size 3 1 s (plc o j).length (natInts (plc o j)) ∧ Below w3.heap.size w3 wl) (fun _ i _ => N - (RowKit.intOf i).toNat)
   case atStart => exact ⟨0, Nat.zero_le _, rfl, World.ownsRow_nil _ _ _ _, Below.refl _ _⟩
   case round =>
    obtain ⟨j, hj, rfl, hown, hbl⟩ := hrel
    have hlen : (plc o j).length ≤ j := plc_len
    by_cases hjl : j < N
    ·have hji : (j : Int) < (N : Int) := by omega
     have x1 := keepc hbl (HRO.out.cell hjl)
     have HBL := Lib.hid hbl
     clear hbl
     cases hoj : o j
     ·rw [hoj] at x1
      go_wp2
      go_roundw
      case rel => exact ⟨j + 1, by omega, by simp, by rw [plc_no (by simp [hoj])]; exact hown, HBL.out⟩
      case measure => simp [RowKit.intOf]; omega
     ·rw [hoj] at x1
      have hsz := HBL.out.size
      go_wp2_with (at_builtin; refine wpList_append_own _ rfl _ _ 53 rfl w3.heap.size 3 ti1 (.int .i64 0) 1 8 Tryz.underlying53 hi1 hz10 hz11 hz12 rfl (by decide) _ _ _ rfl (hown.alloc _) ⟨wr.heap.size, 0, none⟩ 1 1 [.int .i64 (j : Int)] rfl rfl (cell_one_new _ _ _) (ints_oneCell .i64 [(j : Int)]) (by unfold maxLen; omega) (by omega) (by simp; omega) ?_; intro v' w4 hown' hgrow _)
      have HBL4 := Lib.hid (((HBL.out.alloc (by omega) _).grown hgrow (by simp; omega) (fun j hj => (hown.lt j hj).1) : Below w3.heap.size w3 w4))
      have HOW4 := Lib.hid hown'
      clear hown' hgrow hown
      go_roundw
      case rel => exact ⟨j + 1, by omega, by simp, by rw [plc_yes hoj, natInts_snoc, List.length_append]; exact HOW4.out, HBL4.out⟩
      case measure => simp [RowKit.intOf]; omega
    ·obtain rfl : N = j := by omega
     have HPL5 := Lib.hid (show PlR wr _ (plc o N) from (rowR_of_owns hown).congr (fun i hi => natInts_getD hi))
     have HM5 := Lib.hid (HM3.out.below hbl)
     have HPR5 := Lib.hid (HPR3.out.below hbl)
     have HB5 := Lib.hid (bt HB3.out hbl)
     have HPX5 := Lib.hid (blk_next HPX3.out hbl)
     clear hown hbl HM3 HPR3 HB3 HPX3 HRO
     go_wp2_with fail
     obtain ⟨w6, hW, hs6, hb6, b6⟩ := alloc1 wr (.cells (madeCells #[.bool false, .slice none 0 0, .bool false, .slice none 0 0] (N * 4)) 37)
     rw [← hW]
     have HR6 := Lib.hid (RowO.made b6)
     obtain ⟨OB, hOB⟩ : ∃ OB, wr.heap.size = OB := ⟨_, rfl⟩
     have HOB := Lib.hid hOB
     have HB6 := Lib.hid (show Below OB wr w6 from hOB ▸ hb6)
     rw [hOB] at HR6 hs6 ⊢
     have HBO := Lib.hid (show w.heap.size < OB by have := HB5.out.size; have := (Array.getElem?_eq_some_iff.1 HPX5.out).1; omega)
     have HPLB := Lib.hid (hOB ▸ RowR.blk HPL5.out)
     clear hW hb6 b6 hOB
     have H56 := Lib.hid (show ∀ wl, Below OB wr wl → MatZ wl (.slice am N cm) N N Z ∧ RowR wl (.slice (some ⟨PB, 0, none⟩) N N) N (fun j => .int .i64 (D j)) ∧ PlR wl _ (plc o N) ∧ Below w.heap.size w wl ∧ wl.heap[w.heap.size]? = some (Obj.cells #[Value.bool n1, Value.slice a1 k1 c1, Value.bool n2, Value.slice a2 k2 c2] 37) from fun wl h => by
      have h' : Below wr.heap.size wr wl := HOB.out ▸ h
      exact ⟨HM5.out.below h', HPR5.out.below h', RowR.below HPL5.out h', bt HB5.out h', blk_next HPX5.out h'⟩)
     clear HM5 HPR5 HPL5 HB5 HPX5 HOB
     generalize hv5 : wr = v5 at H56 HB6
     clear hv5
     go_loopw [69] (fun i wl => ∃ e : Nat, e ≤ N ∧ i = .int .i64 e ∧ RowO wl OB N (fun _ => 0) ∧ Below OB v5 wl ∧ OB < wl.heap.size) (fun i _ => N - (RowKit.intOf i).toNat)
     case atStart => exact ⟨0, Nat.zero_le _, rfl, HR6.out, HB6.out, by omega⟩
     case round =>
      obtain ⟨e, he, rfl, hro, hbo, hol⟩ := hrel
      have HRO := Lib.hid hro
      have HBE := Lib.hid hbo
      clear hro hbo
      by_cases hel : e < N
      ·have hei : (e : Int) < (N : Int) := by omega
       go_wp2_with fail
       refine (part_any (n := 0) (by omega) (by omega)).mono ?_
       rintro en w7 ⟨m1, b1, j1, d1, m2, b2, j2, d2, rfl, hx, hb⟩
       have HX := Lib.hid (show RatN w7 ⟨m1, b1, j1, d1, m2, b2, j2, d2⟩ 0 from by have := hx; rw [part_zero] at this; exact this)
       have HRO7 := Lib.hid (HRO.out.below hb)
       have HBE7 := Lib.hid (HBE.out.trans (hb.mono (by omega)))
       have hs7 := hb.size
       obtain ⟨x0, ⟨y0, y1, y2, y3⟩, _⟩ := HRO7.out.elem hel
       have g0 := HRO7.out.unfrozen (e * 4)
       have g1 := HRO7.out.unfrozen (e * 4 + 1)
       have g2 := HRO7.out.unfrozen (e * 4 + 2)
       have g3 := HRO7.out.unfrozen (e * 4 + 3)
       have HRO8 := Lib.hid ((HRO7.out.put hel HX.out).congr (fun k _ => show (if k = e then (0 : Rat) else 0) = 0 by split <;> rfl))
       have HBE8 := Lib.hid (below_putN (o := e * 4) (x := ⟨m1, b1, j1, d1, m2, b2, j2, d2⟩) HBE7.out (Nat.le_refl OB))
       clear hx hb HRO HRO7 HBE HBE7
       go_wp2
       go_roundw
       case rel => exact ⟨e + 1, by omega, by simp, HRO8.out, HBE8.out, by simp; omega⟩
       case measure => simp [RowKit.intOf]; omega
      ·obtain rfl : N = e := by omega
       obtain ⟨_, _, hPL, hB, hPX⟩ := H56.out _ HBE.out
       obtain ⟨ap, cp, rfl⟩ : ∃ ap cp, u16 = .slice ap (plc o N).length cp := by obtain ⟨a, b, o, c, h1, _⟩ := hPL; exact ⟨a, c, h1⟩
       obtain ⟨⟨p0, p1, p2, p3⟩, _⟩ := res4_facts hPX
       obtain ⟨x0, ⟨y0, y1, y2, y3⟩, _⟩ := HRO.out.elem (show 0 < N by omega)
       have g0 := HRO.out.unfrozen 0
       have g1 := HRO.out.unfrozen 1
       have g2 := HRO.out.unfrozen 2
       have g3 := HRO.out.unfrozen 3
       simp only [Nat.zero_mul, Nat.zero_add] at y0 y1 y2 y3
       obtain ⟨w9, hW9⟩ : ∃ w9, putN wr OB 0 ⟨n1, a1, k1, c1, n2, a2, k2, c2⟩ = w9 := ⟨_, rfl⟩
       have HR9 := Lib.hid (show RowO w9 OB N (fun j => if j = 0 then q else 0) from hW9 ▸ (by have := HRO.out.put (k := 0) (show 0 < N by omega) (show RatN wr ⟨n1, a1, k1, c1, n2, a2, k2, c2⟩ q from HP.out.below hB); rw [Nat.zero_mul] at this; exact this))
       have HBE9 := Lib.hid (show Below OB v5 w9 from hW9 ▸ below_putN HBE.out (Nat.le_refl _))
       have hs9 : w9.heap.size = wr.heap.size := hW9 ▸ size_putN
       have HW9 := Lib.hid (show ((((wr.setCell ⟨OB, 0, none⟩ (.bool n1)).setCell ⟨OB, 1, none⟩ (.slice a1 k1 c1)).setCell ⟨OB, 2, none⟩ (.bool n2)).setCell ⟨OB, 3, none⟩ (.slice a2 k2 c2)) = w9 from hW9)
       obtain ⟨hM, hPR, hPL9, hB9, _⟩ := H56.out _ HBE9.out
       have HM9 := Lib.hid hM
       have HPR9 := Lib.hid hPR
       have HPL9 := Lib.hid hPL9
       have HB9 := Lib.hid hB9
       clear hM hPR hPL9 hB9 hB hPL hPX H56 HBE HRO hW9
       by_cases hz : (plc o N).length = 0
       ·have hzi : ((plc o N).length : Int) = 0 := by omega
        go_wp2
        go_ret2
        rw [HW9.out]
        obtain ⟨s, hs⟩ := run_exists upR (plc o N).length (wideM (plc o N).length (eqM (plB o N Z)) (plD o N D)) (plc o N).length
        obtain ⟨h1, h2⟩ := sol_good HSH.out HO.out HZR.out HDR.out hN2 hs
        rw [← HDE.out]
        refine ⟨_, _, o, _, rfl, HO.out, h1, h2, (HR9.out.congr fun j _ => ?_).rats (by omega), HB9.out⟩
        rw [hz]
        rfl
       ·have hzi : ¬ ((plc o N).length : Int) = 0 := by omega
        have hln : (plc o N).length ≤ 12 := Nat.le_trans plc_len hN2
        go_wp2_with fail
        rw [HW9.out]
        refine (eqs_any HM9.out HPR9.out HPL9.out (fun x hx => (plc_mem.1 hx).1) hN2 hln (fun i k hi hk e => plAt_inj hi hk e) HZR.out HDR.out).mono ?_
        rintro en w10 ⟨aa, ab, ca, cb, rfl, hma, hrb, hb10⟩
        have HMA := Lib.hid (show MatsR w10 (.slice aa (plc o N).length ca) (plc o N).length (fun _ => (plc o N).length) (eqM (plB o N Z)) from hma)
        have HRV := Lib.hid (show RatsR w10 (.slice ab (plc o N).length cb) (plc o N).length (plD o N D) from hrb)
        have HR10 := Lib.hid (HR9.out.below hb10)
        have HPL10 := Lib.hid (RowR.below HPL9.out hb10)
        have HB10 := Lib.hid (bt HB9.out hb10)
        have hs10 := hb10.size
        clear hma hrb hb10 HM9 HPR9 HPL9 HR9 HB9 HBE9 HW9
        go_wp2_with fail
        refine (solve_new (N := 5 + 5) HMA.out ⟨fun i _ => (if_neg hz).symm, by omega, by unfold colsN; rw [if_neg hz]; exact Nat.le_trans hln (by omega)⟩ (if_neg hz).symm HRV.out (sol_rows HZR.out HDR.out) (by omega)).mono ?_
        rintro en w11 ⟨s, hrun, hb11, h3⟩
        have hrk := pl_rank HSH.out HO.out hrun
        obtain ⟨_, az, cz, rfl, hz11, hown⟩ := h3.resolve_left fun h => by omega
        have HRUN := Lib.hid hrun
        have HZ11 := Lib.hid hz11
        have HNE := Lib.hid (show ∀ g, (Value.slice az (plc o N).length cz).ownBlock = some g → g ≠ OB from fun g hg => by have := hown g hg; omega)
        have HR11 := Lib.hid (HR10.out.below hb11)
        have HPL11 := Lib.hid (RowR.below HPL10.out hb11)
        have HB11 := Lib.hid (bt HB10.out hb11)
        have hs11 := hb11.size
        clear hrun hz11 hown hb11 h3 HMA HRV HR10 HPL10 HB10
        go_wp2_with fail
        obtain ⟨_, bp, op, _, te, _, _, t5, t6⟩ := HPL11.out
        injection te with te1 _ te2
        subst te1
        subst te2
        obtain rfl := t5 (by omega)
        have hbp : bp < OB := HPLB.out (by omega) bp rfl
        have T6 := Lib.hid t6
        clear t5 t6 HPL11
        have HOB := Lib.hid HR11.out.lt
        go_loopw [102] (fun i wl => ∃ j : Nat, j ≤ (plc o N).length ∧ i = .int .i64 j ∧ RowO wl OB N (fun e => if e = 0 then q else fillP o N (fun i => s.A i (plc o N).length / s.A i i) j e) ∧ Stay OB (OB + 1) w11 wl) (fun i _ => (plc o N).length - (RowKit.intOf i).toNat)
        case atStart => exact ⟨0, Nat.zero_le _, rfl, HR11.out, Stay.refl _ _ _⟩
        case round =>
         obtain ⟨j, hj, rfl, hro, hst⟩ := hrel
         have HRJ := Lib.hid hro
         have HST := Lib.hid hst
         clear hro hst
         by_cases hjl : j < (plc o N).length
         ·have hji : (j : Int) < ((plc o N).length : Int) := by omega
          have t1 := HST.out.cell (by omega) (T6.out j hjl)
          obtain ⟨hpN, hpo⟩ := plAt_mem hjl
          have hp1 := reach_pos HO.out hpN hpo
          obtain ⟨_, _, bz, oz, p3, p4⟩ := (RatsR.stay HZ11.out HST.out HNE.out HR11.out.noInt).parts
          obtain rfl := p3 (by omega)
          obtain ⟨z, ⟨z0, z1, z2, z3⟩, hzq⟩ := p4 j hjl
          have HZQ := Lib.hid hzq
          obtain ⟨P, hP⟩ : ∃ P, (plc o N).getD j 0 = P := ⟨_, rfl⟩
          have HPA := Lib.hid (show plAt o N j = P from hP)
          rw [show plAt o N j = P from hP] at hpN hp1
          simp only [hP] at t1
          have hPi : (P : Int) < (N : Int) := by omega
          obtain ⟨x0, ⟨y0, y1, y2, y3⟩, _⟩ := HRJ.out.elem hpN
          have g0 := HRJ.out.unfrozen (P * 4)
          have g1 := HRJ.out.unfrozen (P * 4 + 1)
          have g2 := HRJ.out.unfrozen (P * 4 + 2)
          have g3 := HRJ.out.unfrozen (P * 4 + 3)
          have HRJ2 := Lib.hid ((HRJ.out.put hpN HZQ.out).congr (fun e _ => HPA.out ▸ fill_put (v := fun i => s.A i (plc o N).length / s.A i i) (q := q) (j := j) (o := o) (N := N) (HPA.out ▸ hp1) e))
          have HST2 := Lib.hid (HST.out.trans (putN_stay (b := OB) (o := P * 4) (x := z)))
          clear p3 p4 hzq hP hpo HRJ
          go_wp2_with fail
          refine ⟨⟨j + 1, by omega, by simp, HRJ2.out, HST2.out⟩, ?_⟩
          simp [RowKit.intOf]
          omega
         ·obtain rfl : j = (plc o N).length := by omega
          go_wp2
          go_ret2
          rw [← HDE.out]
          obtain ⟨h1, h2⟩ := sol_good HSH.out HO.out HZR.out HDR.out hN2 HRUN.out
          exact ⟨_, _, o, _, rfl, HO.out, h1, h2, HRJ.out.rats (by omega), HB11.out.trans (HST.out.below (Nat.le_of_lt HBO.out) HB11.out.size)⟩
end Go.Proofs.YteionhenpehogaaGreatDoor
namespace Go.Proofs.YteionhenpehogaaGreatDoor
open Go.RowKit Tally Graph.Plain
set_option maxRecDepth 100000 in
set_option maxHeartbeats 8000000 in
theorem solveO_any {w : World} {v par : Value} {k N : Nat} {H : Hds} {day : Int} {q : Rat} (hH : HoldR w v k H) (hw : Hwf H k) (hv : H.valid N k) (hd : goodDate day) (hp : RatR w par q) :
  Calls Tryz.prog 63 #[.int .i64 N, v, .int .i64 day, par, .func (.func 75) #[] #[]] w (GivesSol w N (fun h e => H.at h e day k) (dirO N fun h e => H.at h e day k) q) := by
 obtain ⟨ti1, hi1, hz10, hz11, hz12⟩ := info_parts infoN
 obtain ⟨ti2, hi2, hz20, hz21, hz22⟩ := info_parts infoQ4
 obtain ⟨a, c, rfl⟩ : ∃ a c, v = .slice a k c := by obtain ⟨a, b, o, c, h1, _⟩ := hH; exact ⟨a, c, h1⟩
 obtain ⟨n1, a1, k1, c1, n2, a2, k2, c2, rfl⟩ := hp.shape
 have hN1 : 1 ≤ N := by have := hv.1; omega
 have hN2 : N ≤ 12 := by have := hv.2.1; omega
 obtain ⟨Z, hZ⟩ : ∃ Z : Nat → Nat → Int, Z = fun h e => H.at (h : Nat) (e : Nat) day k := ⟨_, rfl⟩
 rw [← hZ]
 have HSS := Lib.hid (show Sh N Z from by rw [hZ]; exact at_shares hv)
 have HZR := Lib.hid HSS.out.range
 have HSH := Lib.hid (dirO_shares HSS.out)
 have HDR := Lib.hid (dirO_range HSS.out HSS.out.range)
 have HZE := Lib.hid hZ
 have HH := Lib.hid hH
 have HW := Lib.hid hw
 have HV := Lib.hid hv
 have HD := Lib.hid hd
 have HP := Lib.hid hp
 clear hH hw hv hd hp hZ
 have hmk := run_make_row' (P := Tryz.prog) 53 3 (.int .i64 0) 8 Tryz.underlying53 infoN rfl .i64 .i64 N (by omega) (by omega)
 have hmk2 := fun W : World => run_make (P := Tryz.prog) (w := W) 26 37 ti2 (.agg #[.bool false, .slice none 0 0, .bool false, .slice none 0 0]) Tryz.underlying26 hi2 hz20 .i64 .i64 (N : Int) (N : Int) (by omega) (by omega) (by rw [hz22]; omega) (by omega)
 have e2 : ((N : Int)).toNat = N := by omega
 simp only [hz21, e2, show (Value.agg #[.bool false, .slice none 0 0, .bool false, .slice none 0 0]).cells = #[.bool false, .slice none 0 0, .bool false, .slice none 0 0] from rfl] at hmk2
 clear e2
 go_enter Tryz.func63, Tryz.ntmps63
 go_wp2_with fail
 obtain ⟨W1, hW, hs, hb, b0⟩ := alloc1 w (.cells #[.bool n1, .slice a1 k1 c1, .bool n2, .slice a2 k2 c2] 37)
 rw [← hW]
 have HB := Lib.hid hb
 have HPX := Lib.hid b0
 clear hW hs hb b0
 refine (matrix_yes (HH.out.below HB.out) HW.out HV.out HD.out).mono ?_
 rintro en w1 ⟨am, cm, rfl, hm, hb⟩
 have HM := Lib.hid (show MatZ w1 (.slice am N cm) N N Z from by rw [HZE.out]; exact hm)
 replace HB := Lib.hid (bt HB.out hb)
 replace HPX := Lib.hid (blk_next HPX.out hb)
 clear hm hb
 go_wp2_with fail
 clear hmk
 obtain ⟨w2, hW, hs2, hb2, b2⟩ := alloc1 w1 (.cells (madeCells #[.int .i64 0] N) 3)
 have hrow := World.rowIs_made w1 (.int .i64 0) N 3
 rw [← hW] at hrow ⊢
 obtain ⟨PB, hPB⟩ : ∃ PB, w1.heap.size = PB := ⟨_, rfl⟩
 rw [hPB] at hrow ⊢
 have HPE := Lib.hid hPB
 have HPL := Lib.hid (show PB < w2.heap.size from by omega)
 have HROW := Lib.hid hrow
 have HB2 := Lib.hid (hPB ▸ hb2 : Below PB w1 w2)
 clear hW hs2 hb2 b2 hrow hPB
 obtain ⟨D, hD⟩ : ∃ D : Nat → Int, D = dirO N Z := ⟨_, rfl⟩
 rw [← hD] at HSH HDR ⊢
 have HDE := Lib.hid hD
 clear hD
 go_loopw [15] (fun i wr => ∃ e : Nat, 1 ≤ e ∧ e ≤ N ∧ i = .int .i64 e ∧ wr.rowIs PB 3 N (fun j => .int .i64 (if 1 ≤ j ∧ j < e then D j else 0)) ∧ Below PB w1 wr ∧ PB < wr.heap.size) (fun i _ => N - (RowKit.intOf i).toNat)
 case atStart => exact ⟨1, Nat.le_refl _, hN1, rfl, HROW.out.congr (fun j _ => by rw [if_neg (by omega)]), HB2.out, HPL.out⟩
 case round =>
  obtain ⟨e, he1, he, rfl, hrow, hb, hpl⟩ := hrel
  have HROWe := Lib.hid hrow
  have HBe := Lib.hid hb
  clear hrow hb HROW HB2 HPL
  have HMe := Lib.hid (HM.out.below (HPE.out ▸ HBe.out : Below w1.heap.size w1 wr))
  by_cases hel : e < N
  ·have hei : (e : Int) < (N : Int) := by omega
   go_wp2_with (go_at_call 75; (with_reducible refine (outd_any HMe.out hN2 hel HZR.out).mono ?_); rintro en w3 ⟨rfl, hb3⟩; have HRO3 := Lib.hid (HROWe.out.of_block (hb3.block _ hpl)); have HB3 := Lib.hid (HBe.out.trans (hb3.mono (by omega))); have y1 := HRO3.out.cell hel; have y2 := HRO3.out.frozen e; have hs3 := hb3.size; clear hb3)
   go_roundw
   case rel => exact ⟨e + 1, by omega, by omega, by simp, (HRO3.out.set e _).congr (fun j _ => by
    by_cases z : j = e
    ·subst z
     rw [if_pos rfl, if_pos ⟨he1, by omega⟩, HDE.out, dirO_pos he1]
    ·rw [if_neg z]
     by_cases y : 1 ≤ j ∧ j < e
     ·rw [if_pos y, if_pos (by omega)]
     ·rw [if_neg y, if_neg (by omega)]), HB3.out.setCell (p := ⟨PB, e, none⟩) (Nat.le_refl _) _, by simp; omega⟩
   case measure => simp [RowKit.intOf]; omega
  ·obtain rfl : N = e := by omega
   have HPR := Lib.hid (show RowR wr (.slice (some ⟨PB, 0, none⟩) N N) N fun j => .int .i64 (D j) from ⟨_, PB, 0, N, rfl, Nat.le_refl _, by omega, fun _ => rfl, fun j hj => by
    have h1 := HROWe.out.cell hj
    rw [Nat.zero_add, h1]
    by_cases z : j = 0
    ·subst z
     rw [if_neg (by omega), HDE.out]
     rfl
    ·rw [if_pos (by omega)]⟩)
   have HB0 := Lib.hid (HB.out.trans (HBe.out.mono (by have := HB.out.size; have := HPE.out; omega)))
   have HPX0 := Lib.hid (blk_next HPX.out (HPE.out ▸ HBe.out : Below w1.heap.size w1 wr))
   clear HROWe HBe HB HPX HM hpl HPE
   go_wp2_with fail
   refine (reached_any HMe.out HPR.out hN1 hN2).mono ?_
   rintro en w3 ⟨o, rfl, hrow, ho, hb3⟩
   have HRO := Lib.hid hrow
   have HO := Lib.hid ho
   have HM3 := Lib.hid (HMe.out.below hb3)
   have HPR3 := Lib.hid (HPR.out.below hb3)
   have HB3 := Lib.hid (bt HB0.out hb3)
   have HPX3 := Lib.hid (blk_next HPX0.out hb3)
   obtain ⟨RB, hRB⟩ : ∃ RB, wr.heap.size = RB := ⟨_, rfl⟩
   rw [hRB] at HRO ⊢
   clear hrow ho hb3 HMe HPR HB0 HPX0 hRB
   go_wp2_with fail
   go_loopw [16, 54] (fun s i wl => ∃ j : Nat, j ≤ N ∧ i = .int .i64 j ∧ wl.ownsRow w3.heap.size 3 1 s (plc o j).length (natInts (plc o j)) ∧ Below w3.heap.size w3 wl) (fun _ i _ => N - (RowKit.intOf i).toNat)
   case atStart => exact ⟨0, Nat.zero_le _, rfl, World.ownsRow_nil _ _ _ _, Below.refl _ _⟩
   case round =>
    obtain ⟨j, hj, rfl, hown, hbl⟩ := hrel
    have hlen : (plc o j).length ≤ j := plc_len
    by_cases hjl : j < N
    ·have hji : (j : Int) < (N : Int) := by omega
     have x1 := keepc hbl (HRO.out.cell hjl)
     have HBL := Lib.hid hbl
     clear hbl
     cases hoj : o j
     ·rw [hoj] at x1
      go_wp2
      go_roundw
      case rel => exact ⟨j + 1, by omega, by simp, by rw [plc_no (by simp [hoj])]; exact hown, HBL.out⟩
      case measure => simp [RowKit.intOf]; omega
     ·rw [hoj] at x1
      have hsz := HBL.out.size
      go_wp2_with (at_builtin; refine wpList_append_own _ rfl _ _ 53 rfl w3.heap.size 3 ti1 (.int .i64 0) 1 8 Tryz.underlying53 hi1 hz10 hz11 hz12 rfl (by decide) _ _ _ rfl (hown.alloc _) ⟨wr.heap.size, 0, none⟩ 1 1 [.int .i64 (j : Int)] rfl rfl (cell_one_new _ _ _) (ints_oneCell .i64 [(j : Int)]) (by unfold maxLen; omega) (by omega) (by simp; omega) ?_; intro v' w4 hown' hgrow _)
      have HBL4 := Lib.hid (((HBL.out.alloc (by omega) _).grown hgrow (by simp; omega) (fun j hj => (hown.lt j hj).1) : Below w3.heap.size w3 w4))
      have HOW4 := Lib.hid hown'
      clear hown' hgrow hown
      go_roundw
      case rel => exact ⟨j + 1, by omega, by simp, by rw [plc_yes hoj, natInts_snoc, List.length_append]; exact HOW4.out, HBL4.out⟩
      case measure => simp [RowKit.intOf]; omega
    ·obtain rfl : N = j := by omega
     have HPL5 := Lib.hid (show PlR wr _ (plc o N) from (rowR_of_owns hown).congr (fun i hi => natInts_getD hi))
     have HM5 := Lib.hid (HM3.out.below hbl)
     have HPR5 := Lib.hid (HPR3.out.below hbl)
     have HB5 := Lib.hid (bt HB3.out hbl)
     have HPX5 := Lib.hid (blk_next HPX3.out hbl)
     clear hown hbl HM3 HPR3 HB3 HPX3 HRO
     go_wp2_with fail
     obtain ⟨w6, hW, hs6, hb6, b6⟩ := alloc1 wr (.cells (madeCells #[.bool false, .slice none 0 0, .bool false, .slice none 0 0] (N * 4)) 37)
     rw [← hW]
     have HR6 := Lib.hid (RowO.made b6)
     obtain ⟨OB, hOB⟩ : ∃ OB, wr.heap.size = OB := ⟨_, rfl⟩
     have HOB := Lib.hid hOB
     have HB6 := Lib.hid (show Below OB wr w6 from hOB ▸ hb6)
     rw [hOB] at HR6 hs6 ⊢
     have HBO := Lib.hid (show w.heap.size < OB by have := HB5.out.size; have := (Array.getElem?_eq_some_iff.1 HPX5.out).1; omega)
     have HPLB := Lib.hid (hOB ▸ RowR.blk HPL5.out)
     clear hW hb6 b6 hOB
     have H56 := Lib.hid (show ∀ wl, Below OB wr wl → MatZ wl (.slice am N cm) N N Z ∧ RowR wl (.slice (some ⟨PB, 0, none⟩) N N) N (fun j => .int .i64 (D j)) ∧ PlR wl _ (plc o N) ∧ Below w.heap.size w wl ∧ wl.heap[w.heap.size]? = some (Obj.cells #[Value.bool n1, Value.slice a1 k1 c1, Value.bool n2, Value.slice a2 k2 c2] 37) from fun wl h => by
      have h' : Below wr.heap.size wr wl := HOB.out ▸ h
      exact ⟨HM5.out.below h', HPR5.out.below h', RowR.below HPL5.out h', bt HB5.out h', blk_next HPX5.out h'⟩)
     clear HM5 HPR5 HPL5 HB5 HPX5 HOB
     generalize hv5 : wr = v5 at H56 HB6
     clear hv5
     go_loopw [69] (fun i wl => ∃ e : Nat, e ≤ N ∧ i = .int .i64 e ∧ RowO wl OB N (fun _ => 0) ∧ Below OB v5 wl ∧ OB < wl.heap.size) (fun i _ => N - (RowKit.intOf i).toNat)
     case atStart => exact ⟨0, Nat.zero_le _, rfl, HR6.out, HB6.out, by omega⟩
     case round =>
      obtain ⟨e, he, rfl, hro, hbo, hol⟩ := hrel
      have HRO := Lib.hid hro
      have HBE := Lib.hid hbo
      clear hro hbo
      by_cases hel : e < N
      ·have hei : (e : Int) < (N : Int) := by omega
       go_wp2_with fail
       refine (part_any (n := 0) (by omega) (by omega)).mono ?_
       rintro en w7 ⟨m1, b1, j1, d1, m2, b2, j2, d2, rfl, hx, hb⟩
       have HX := Lib.hid (show RatN w7 ⟨m1, b1, j1, d1, m2, b2, j2, d2⟩ 0 from by have := hx; rw [part_zero] at this; exact this)
       have HRO7 := Lib.hid (HRO.out.below hb)
       have HBE7 := Lib.hid (HBE.out.trans (hb.mono (by omega)))
       have hs7 := hb.size
       obtain ⟨x0, ⟨y0, y1, y2, y3⟩, _⟩ := HRO7.out.elem hel
       have g0 := HRO7.out.unfrozen (e * 4)
       have g1 := HRO7.out.unfrozen (e * 4 + 1)
       have g2 := HRO7.out.unfrozen (e * 4 + 2)
       have g3 := HRO7.out.unfrozen (e * 4 + 3)
       have HRO8 := Lib.hid ((HRO7.out.put hel HX.out).congr (fun k _ => show (if k = e then (0 : Rat) else 0) = 0 by split <;> rfl))
       have HBE8 := Lib.hid (below_putN (o := e * 4) (x := ⟨m1, b1, j1, d1, m2, b2, j2, d2⟩) HBE7.out (Nat.le_refl OB))
       clear hx hb HRO HRO7 HBE HBE7
       go_wp2
       go_roundw
       case rel => exact ⟨e + 1, by omega, by simp, HRO8.out, HBE8.out, by simp; omega⟩
       case measure => simp [RowKit.intOf]; omega
      ·obtain rfl : N = e := by omega
       obtain ⟨_, _, hPL, hB, hPX⟩ := H56.out _ HBE.out
       obtain ⟨ap, cp, rfl⟩ : ∃ ap cp, u16 = .slice ap (plc o N).length cp := by obtain ⟨a, b, o, c, h1, _⟩ := hPL; exact ⟨a, c, h1⟩
       obtain ⟨⟨p0, p1, p2, p3⟩, _⟩ := res4_facts hPX
       obtain ⟨x0, ⟨y0, y1, y2, y3⟩, _⟩ := HRO.out.elem (show 0 < N by omega)
       have g0 := HRO.out.unfrozen 0
       have g1 := HRO.out.unfrozen 1
       have g2 := HRO.out.unfrozen 2
       have g3 := HRO.out.unfrozen 3
       simp only [Nat.zero_mul, Nat.zero_add] at y0 y1 y2 y3
       obtain ⟨w9, hW9⟩ : ∃ w9, putN wr OB 0 ⟨n1, a1, k1, c1, n2, a2, k2, c2⟩ = w9 := ⟨_, rfl⟩
       have HR9 := Lib.hid (show RowO w9 OB N (fun j => if j = 0 then q else 0) from hW9 ▸ (by have := HRO.out.put (k := 0) (show 0 < N by omega) (show RatN wr ⟨n1, a1, k1, c1, n2, a2, k2, c2⟩ q from HP.out.below hB); rw [Nat.zero_mul] at this; exact this))
       have HBE9 := Lib.hid (show Below OB v5 w9 from hW9 ▸ below_putN HBE.out (Nat.le_refl _))
       have hs9 : w9.heap.size = wr.heap.size := hW9 ▸ size_putN
       have HW9 := Lib.hid (show ((((wr.setCell ⟨OB, 0, none⟩ (.bool n1)).setCell ⟨OB, 1, none⟩ (.slice a1 k1 c1)).setCell ⟨OB, 2, none⟩ (.bool n2)).setCell ⟨OB, 3, none⟩ (.slice a2 k2 c2)) = w9 from hW9)
       obtain ⟨hM, hPR, hPL9, hB9, _⟩ := H56.out _ HBE9.out
       have HM9 := Lib.hid hM
       have HPR9 := Lib.hid hPR
       have HPL9 := Lib.hid hPL9
       have HB9 := Lib.hid hB9
       clear hM hPR hPL9 hB9 hB hPL hPX H56 HBE HRO hW9
       by_cases hz : (plc o N).length = 0
       ·have hzi : ((plc o N).length : Int) = 0 := by omega
        go_wp2
        go_ret2
        rw [HW9.out]
        obtain ⟨s, hs⟩ := run_exists upR (plc o N).length (wideM (plc o N).length (eqM (plB o N Z)) (plD o N D)) (plc o N).length
        obtain ⟨h1, h2⟩ := sol_good HSH.out HO.out HZR.out HDR.out hN2 hs
        rw [← HDE.out]
        refine ⟨_, _, o, _, rfl, HO.out, h1, h2, (HR9.out.congr fun j _ => ?_).rats (by omega), HB9.out⟩
        rw [hz]
        rfl
       ·have hzi : ¬ ((plc o N).length : Int) = 0 := by omega
        have hln : (plc o N).length ≤ 12 := Nat.le_trans plc_len hN2
        go_wp2_with fail
        rw [HW9.out]
        refine (eqs_any HM9.out HPR9.out HPL9.out (fun x hx => (plc_mem.1 hx).1) hN2 hln (fun i k hi hk e => plAt_inj hi hk e) HZR.out HDR.out).mono ?_
        rintro en w10 ⟨aa, ab, ca, cb, rfl, hma, hrb, hb10⟩
        have HMA := Lib.hid (show MatsR w10 (.slice aa (plc o N).length ca) (plc o N).length (fun _ => (plc o N).length) (eqM (plB o N Z)) from hma)
        have HRV := Lib.hid (show RatsR w10 (.slice ab (plc o N).length cb) (plc o N).length (plD o N D) from hrb)
        have HR10 := Lib.hid (HR9.out.below hb10)
        have HPL10 := Lib.hid (RowR.below HPL9.out hb10)
        have HB10 := Lib.hid (bt HB9.out hb10)
        have hs10 := hb10.size
        clear hma hrb hb10 HM9 HPR9 HPL9 HR9 HB9 HBE9 HW9
        go_wp2_with fail
        refine (solve_new (N := 5 + 5) HMA.out ⟨fun i _ => (if_neg hz).symm, by omega, by unfold colsN; rw [if_neg hz]; exact Nat.le_trans hln (by omega)⟩ (if_neg hz).symm HRV.out (sol_rows HZR.out HDR.out) (by omega)).mono ?_
        rintro en w11 ⟨s, hrun, hb11, h3⟩
        have hrk := pl_rank HSH.out HO.out hrun
        obtain ⟨_, az, cz, rfl, hz11, hown⟩ := h3.resolve_left fun h => by omega
        have HRUN := Lib.hid hrun
        have HZ11 := Lib.hid hz11
        have HNE := Lib.hid (show ∀ g, (Value.slice az (plc o N).length cz).ownBlock = some g → g ≠ OB from fun g hg => by have := hown g hg; omega)
        have HR11 := Lib.hid (HR10.out.below hb11)
        have HPL11 := Lib.hid (RowR.below HPL10.out hb11)
        have HB11 := Lib.hid (bt HB10.out hb11)
        have hs11 := hb11.size
        clear hrun hz11 hown hb11 h3 HMA HRV HR10 HPL10 HB10
        go_wp2_with fail
        obtain ⟨_, bp, op, _, te, _, _, t5, t6⟩ := HPL11.out
        injection te with te1 _ te2
        subst te1
        subst te2
        obtain rfl := t5 (by omega)
        have hbp : bp < OB := HPLB.out (by omega) bp rfl
        have T6 := Lib.hid t6
        clear t5 t6 HPL11
        have HOB := Lib.hid HR11.out.lt
        go_loopw [102] (fun i wl => ∃ j : Nat, j ≤ (plc o N).length ∧ i = .int .i64 j ∧ RowO wl OB N (fun e => if e = 0 then q else fillP o N (fun i => s.A i (plc o N).length / s.A i i) j e) ∧ Stay OB (OB + 1) w11 wl) (fun i _ => (plc o N).length - (RowKit.intOf i).toNat)
        case atStart => exact ⟨0, Nat.zero_le _, rfl, HR11.out, Stay.refl _ _ _⟩
        case round =>
         obtain ⟨j, hj, rfl, hro, hst⟩ := hrel
         have HRJ := Lib.hid hro
         have HST := Lib.hid hst
         clear hro hst
         by_cases hjl : j < (plc o N).length
         ·have hji : (j : Int) < ((plc o N).length : Int) := by omega
          have t1 := HST.out.cell (by omega) (T6.out j hjl)
          obtain ⟨hpN, hpo⟩ := plAt_mem hjl
          have hp1 := reach_pos HO.out hpN hpo
          obtain ⟨_, _, bz, oz, p3, p4⟩ := (RatsR.stay HZ11.out HST.out HNE.out HR11.out.noInt).parts
          obtain rfl := p3 (by omega)
          obtain ⟨z, ⟨z0, z1, z2, z3⟩, hzq⟩ := p4 j hjl
          have HZQ := Lib.hid hzq
          obtain ⟨P, hP⟩ : ∃ P, (plc o N).getD j 0 = P := ⟨_, rfl⟩
          have HPA := Lib.hid (show plAt o N j = P from hP)
          rw [show plAt o N j = P from hP] at hpN hp1
          simp only [hP] at t1
          have hPi : (P : Int) < (N : Int) := by omega
          obtain ⟨x0, ⟨y0, y1, y2, y3⟩, _⟩ := HRJ.out.elem hpN
          have g0 := HRJ.out.unfrozen (P * 4)
          have g1 := HRJ.out.unfrozen (P * 4 + 1)
          have g2 := HRJ.out.unfrozen (P * 4 + 2)
          have g3 := HRJ.out.unfrozen (P * 4 + 3)
          have HRJ2 := Lib.hid ((HRJ.out.put hpN HZQ.out).congr (fun e _ => HPA.out ▸ fill_put (v := fun i => s.A i (plc o N).length / s.A i i) (q := q) (j := j) (o := o) (N := N) (HPA.out ▸ hp1) e))
          have HST2 := Lib.hid (HST.out.trans (putN_stay (b := OB) (o := P * 4) (x := z)))
          clear p3 p4 hzq hP hpo HRJ
          go_wp2_with fail
          refine ⟨⟨j + 1, by omega, by simp, HRJ2.out, HST2.out⟩, ?_⟩
          simp [RowKit.intOf]
          omega
         ·obtain rfl : j = (plc o N).length := by omega
          go_wp2
          go_ret2
          rw [← HDE.out]
          obtain ⟨h1, h2⟩ := sol_good HSH.out HO.out HZR.out HDR.out hN2 HRUN.out
          exact ⟨_, _, o, _, rfl, HO.out, h1, h2, HRJ.out.rats (by omega), HB11.out.trans (HST.out.below (Nat.le_of_lt HBO.out) HB11.out.size)⟩
end Go.Proofs.YteionhenpehogaaGreatDoor
namespace Go.Proofs.YteionhenpehogaaGreatDoor
open Go.RowKit Tally Graph.Plain
theorem part_full : Tally.part 10000 = 1 := by decide +kernel
set_option maxHeartbeats 2000000 in
theorem eff_yes {w : World} {v : Value} {k N : Nat} {H : Hds} {day : Int} (hH : HoldR w v k H) (hw : Hwf H k) (hv : H.valid N k) (hd : goodDate day) :
  Calls Tryz.prog 16 #[.int .i64 N, v, .int .i64 day] w (GivesSol w N (fun h e => H.at h e day k) (dirE N fun h e => H.at h e day k) 1) := by
 obtain ⟨a, c, rfl⟩ : ∃ a c, v = .slice a k c := by obtain ⟨a, b, o, c, h1, _⟩ := hH; exact ⟨a, c, h1⟩
 have HH := Lib.hid hH
 have HW := Lib.hid hw
 have HV := Lib.hid hv
 have HD := Lib.hid hd
 clear hH hw hv hd
 go_enter Tryz.func16, Tryz.ntmps16
 go_wp2_with fail
 refine (part_any (n := 10000) (by omega) (by omega)).mono ?_
 rintro en w1 ⟨n1, a1, k1, c1, n2, a2, k2, c2, rfl, hx, hb⟩
 have HX := Lib.hid (show RatR w1 (.agg #[.bool n1, .slice a1 k1 c1, .bool n2, .slice a2 k2 c2]) 1 from by have := hx; rw [part_full] at this; exact this)
 have HB := Lib.hid hb
 clear hx hb
 go_wp2_with fail
 refine (solveE_any (HH.out.below HB.out) HW.out HV.out HD.out HX.out).mono ?_
 rintro en w2 ⟨ar, cr, o, x, rfl, h2, h3, h4, h5, hb⟩
 have H2 := Lib.hid h2
 have H3 := Lib.hid h3
 have H4 := Lib.hid h4
 have H5 := Lib.hid h5
 have HB2 := Lib.hid (bt HB.out hb)
 clear h2 h3 h4 h5 hb
 go_wp2
 go_ret2
 exact ⟨ar, cr, o, x, rfl, H2.out, H3.out, H4.out, H5.out, HB2.out⟩
set_option maxHeartbeats 2000000 in
theorem eff_no1 {w : World} {v : Value} {k : Nat} {n : Int} {H : Hds} {day : Int} (hH : HoldR w v k H) (hw : Hwf H k) (hv : ¬ H.valid n k) :
  Calls Tryz.prog 16 #[.int .i64 n, v, .int .i64 day] w (GivesNo w 1) := by
 obtain ⟨a, c, rfl⟩ : ∃ a c, v = .slice a k c := by obtain ⟨a, b, o, c, h1, _⟩ := hH; exact ⟨a, c, h1⟩
 have HH := Lib.hid hH
 have HW := Lib.hid hw
 have HV := Lib.hid hv
 clear hH hw hv
 go_enter Tryz.func16, Tryz.ntmps16
 go_wp2_with fail
 refine (part_any (n := 10000) (by omega) (by omega)).mono ?_
 rintro en w1 ⟨n1, a1, k1, c1, n2, a2, k2, c2, rfl, hx, hb⟩
 have HX := Lib.hid (show RatR w1 (.agg #[.bool n1, .slice a1 k1 c1, .bool n2, .slice a2 k2 c2]) 1 from by have := hx; rw [part_full] at this; exact this)
 have HB := Lib.hid hb
 clear hx hb
 go_wp2_with fail
 refine (solve_no1 (HH.out.below HB.out) HW.out HV.out HX.out).mono ?_
 rintro en w2 ⟨rfl, hb⟩
 have HB2 := Lib.hid (bt HB.out hb)
 clear hb
 go_wp2
 go_ret2
 exact ⟨rfl, HB2.out⟩
set_option maxHeartbeats 2000000 in
theorem eff_no2 {w : World} {v : Value} {k : Nat} {n : Int} {H : Hds} {day : Int} (hH : HoldR w v k H) (hw : Hwf H k) (hv : H.valid n k) (hd : ¬ goodDate day) :
  Calls Tryz.prog 16 #[.int .i64 n, v, .int .i64 day] w (GivesNo w 2) := by
 obtain ⟨a, c, rfl⟩ : ∃ a c, v = .slice a k c := by obtain ⟨a, b, o, c, h1, _⟩ := hH; exact ⟨a, c, h1⟩
 have HH := Lib.hid hH
 have HW := Lib.hid hw
 have HV := Lib.hid hv
 have HD := Lib.hid hd
 clear hH hw hv hd
 go_enter Tryz.func16, Tryz.ntmps16
 go_wp2_with fail
 refine (part_any (n := 10000) (by omega) (by omega)).mono ?_
 rintro en w1 ⟨n1, a1, k1, c1, n2, a2, k2, c2, rfl, hx, hb⟩
 have HX := Lib.hid (show RatR w1 (.agg #[.bool n1, .slice a1 k1 c1, .bool n2, .slice a2 k2 c2]) 1 from by have := hx; rw [part_full] at this; exact this)
 have HB := Lib.hid hb
 clear hx hb
 go_wp2_with fail
 refine (solve_no2 (HH.out.below HB.out) HW.out HV.out HD.out HX.out).mono ?_
 rintro en w2 ⟨rfl, hb⟩
 have HB2 := Lib.hid (bt HB.out hb)
 clear hb
 go_wp2
 go_ret2
 exact ⟨rfl, HB2.out⟩
set_option maxHeartbeats 2000000 in
theorem out_yes {w : World} {v : Value} {k N : Nat} {H : Hds} {day : Int} (hH : HoldR w v k H) (hw : Hwf H k) (hv : H.valid N k) (hd : goodDate day) :
  Calls Tryz.prog 22 #[.int .i64 N, v, .int .i64 day] w (GivesSol w N (fun h e => H.at h e day k) (dirO N fun h e => H.at h e day k) 0) := by
 obtain ⟨a, c, rfl⟩ : ∃ a c, v = .slice a k c := by obtain ⟨a, b, o, c, h1, _⟩ := hH; exact ⟨a, c, h1⟩
 have HH := Lib.hid hH
 have HW := Lib.hid hw
 have HV := Lib.hid hv
 have HD := Lib.hid hd
 clear hH hw hv hd
 go_enter Tryz.func22, Tryz.ntmps22
 go_wp2_with fail
 refine (part_any (n := 0) (by omega) (by omega)).mono ?_
 rintro en w1 ⟨n1, a1, k1, c1, n2, a2, k2, c2, rfl, hx, hb⟩
 have HX := Lib.hid (show RatR w1 (.agg #[.bool n1, .slice a1 k1 c1, .bool n2, .slice a2 k2 c2]) 0 from by have := hx; rw [part_zero] at this; exact this)
 have HB := Lib.hid hb
 clear hx hb
 go_wp2_with fail
 refine (solveO_any (HH.out.below HB.out) HW.out HV.out HD.out HX.out).mono ?_
 rintro en w2 ⟨ar, cr, o, x, rfl, h2, h3, h4, h5, hb⟩
 have H2 := Lib.hid h2
 have H3 := Lib.hid h3
 have H4 := Lib.hid h4
 have H5 := Lib.hid h5
 have HB2 := Lib.hid (bt HB.out hb)
 clear h2 h3 h4 h5 hb
 go_wp2
 go_ret2
 exact ⟨ar, cr, o, x, rfl, H2.out, H3.out, H4.out, H5.out, HB2.out⟩
set_option maxHeartbeats 2000000 in
theorem out_no1 {w : World} {v : Value} {k : Nat} {n : Int} {H : Hds} {day : Int} (hH : HoldR w v k H) (hw : Hwf H k) (hv : ¬ H.valid n k) :
  Calls Tryz.prog 22 #[.int .i64 n, v, .int .i64 day] w (GivesNo w 1) := by
 obtain ⟨a, c, rfl⟩ : ∃ a c, v = .slice a k c := by obtain ⟨a, b, o, c, h1, _⟩ := hH; exact ⟨a, c, h1⟩
 have HH := Lib.hid hH
 have HW := Lib.hid hw
 have HV := Lib.hid hv
 clear hH hw hv
 go_enter Tryz.func22, Tryz.ntmps22
 go_wp2_with fail
 refine (part_any (n := 0) (by omega) (by omega)).mono ?_
 rintro en w1 ⟨n1, a1, k1, c1, n2, a2, k2, c2, rfl, hx, hb⟩
 have HX := Lib.hid (show RatR w1 (.agg #[.bool n1, .slice a1 k1 c1, .bool n2, .slice a2 k2 c2]) 0 from by have := hx; rw [part_zero] at this; exact this)
 have HB := Lib.hid hb
 clear hx hb
 go_wp2_with fail
 refine (solve_no1 (HH.out.below HB.out) HW.out HV.out HX.out).mono ?_
 rintro en w2 ⟨rfl, hb⟩
 have HB2 := Lib.hid (bt HB.out hb)
 clear hb
 go_wp2
 go_ret2
 exact ⟨rfl, HB2.out⟩
set_option maxHeartbeats 2000000 in
theorem out_no2 {w : World} {v : Value} {k : Nat} {n : Int} {H : Hds} {day : Int} (hH : HoldR w v k H) (hw : Hwf H k) (hv : H.valid n k) (hd : ¬ goodDate day) :
  Calls Tryz.prog 22 #[.int .i64 n, v, .int .i64 day] w (GivesNo w 2) := by
 obtain ⟨a, c, rfl⟩ : ∃ a c, v = .slice a k c := by obtain ⟨a, b, o, c, h1, _⟩ := hH; exact ⟨a, c, h1⟩
 have HH := Lib.hid hH
 have HW := Lib.hid hw
 have HV := Lib.hid hv
 have HD := Lib.hid hd
 clear hH hw hv hd
 go_enter Tryz.func22, Tryz.ntmps22
 go_wp2_with fail
 refine (part_any (n := 0) (by omega) (by omega)).mono ?_
 rintro en w1 ⟨n1, a1, k1, c1, n2, a2, k2, c2, rfl, hx, hb⟩
 have HX := Lib.hid (show RatR w1 (.agg #[.bool n1, .slice a1 k1 c1, .bool n2, .slice a2 k2 c2]) 0 from by have := hx; rw [part_zero] at this; exact this)
 have HB := Lib.hid hb
 clear hx hb
 go_wp2_with fail
 refine (solve_no2 (HH.out.below HB.out) HW.out HV.out HD.out HX.out).mono ?_
 rintro en w2 ⟨rfl, hb⟩
 have HB2 := Lib.hid (bt HB.out hb)
 clear hb
 go_wp2
 go_ret2
 exact ⟨rfl, HB2.out⟩
end Go.Proofs.YteionhenpehogaaGreatDoor
