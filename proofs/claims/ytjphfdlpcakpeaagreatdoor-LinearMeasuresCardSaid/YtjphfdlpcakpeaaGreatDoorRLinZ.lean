/- Texts put together: RLinP, RLinQ, RLinN. -/
import Derived.Test.YtjphfdlpcakpeaaGreatDoorRLinA
import Derived.Test.YtjphfdlpcakpeaaGreatDoorRRatI
import Derived.Test.YtjphfdlpcakpeaaGreatDoorLinPZ
import Derived.Test.YtjphfdlpcakpeaaGreatDoorLinN

/- The reference's Apply. -/

namespace Go.Proofs.YtjphfdlpcakpeaaGreatDoor
open Go.RowKit Tally

/-- what a function of the reference that gives a slice of numbers and a code leaves -/
def rGivesSE (w : World) (n : Nat) (f : Nat → Rat) (cd : Int) (e : Ending) (w' : World) : Prop :=
  ∃ (a : Option Addr) (c : Nat), e = .returned (.tuple #[.slice a n c, .int .i64 cd]) ∧ rRatsR w' (.slice a n c) n f ∧ Below w.heap.size w w'
theorem rBuildN.aside {B S : Nat} {w w' : World} {v : Value} {L : List Num} {k : Nat} {f : Nat → Rat} (h : rBuildN B w v L k f) (hs : Stay S (S + 1) w w') (hS : ∀ g, v.ownBlock = some g → g ≠ S) (hn : NoInt w S) : rBuildN B w' v L k f := by
  refine ⟨h.len, ⟨h.own.own.kept (row := some S) ⟨hs.os, hs.tape, hs.output, hs.size, fun k hk hne => hs.block k hk (by have : k ≠ S := fun e => hne (by rw [e]); omega)⟩ (.inr (fun e => hS S e rfl)), fun g hg o K x e => ?_⟩, h.num.stay hs (noInt_one hn)⟩
  · have hl := (h.own.own.lt g hg).2
    have hne := hS g hg
    refine h.own.free g hg o K x ?_
    rw [← World.cell?_of_block (w := w) (w' := w') (a := ⟨g, o, none⟩) (hs.block g hl (by omega))]
    exact e
theorem rMatsR.even {w : World} {v : Value} {m : Nat} {L : Nat → Nat} {A : Mx} (h : rMatsR w v m L A) (hv : IsMat m L) : rMatsR w v m (fun _ => colsN m L) A := h.congr (fun i hi => hv.1 i hi) (fun _ _ _ _ => rfl)

set_option maxHeartbeats 8000000 in
set_option maxRecDepth 100000 in
theorem rapply_yes {w : World} {v u : Value} {m n N : Nat} {L : Nat → Nat} {A : Mx} {x : Nat → Rat} (h : rMatsR w v m L A) (hv : IsMat m L) (hcn : colsN m L = n) (hx : rRatsR w u n x) (hA : ∀ i, i < m → ∀ k, k < n → Rg N (A i k)) (hX : ∀ k, k < n → Rg N (x k)) (hS : ∀ i, i < m → ∀ k, k ≤ n → Rg N (sumTo k (fun j => A i j * x j))) (hNN : 8 * N + 8 ≤ 999999999990) :
    Calls Tryz.prog 19 #[v, u] w (rGivesSE w m (fun i => sumTo n (fun j => A i j * x j)) 0) := by
  obtain ⟨i0, hi, hz0, hz1, hz2⟩ := info_parts rinfoQ
  have H := Lib.hid h
  have HV := Lib.hid hv
  have HC := Lib.hid hcn
  obtain ⟨a, c, rfl⟩ := h.shape
  obtain ⟨a2, c2, rfl⟩ := hx.shape
  have h24 := hv.2.1
  have n24 : n ≤ 24 := hcn ▸ hv.2.2
  obtain ⟨_, _, b, o, h3, h4⟩ := (hcn ▸ h.even hv : rMatsR w (.slice a m c) m (fun _ => n) A).parts
  obtain ⟨_, _, b2, o2, k3, k4⟩ := hx.parts
  have H3 := Lib.hid h3
  have H4 := Lib.hid h4
  have K3 := Lib.hid k3
  have K4 := Lib.hid k4
  have RA := Lib.hid hA
  have RX := Lib.hid hX
  have RS := Lib.hid hS
  clear h hv hcn hx h3 h4 k3 k4 hA hX hS
  have hq : ((n : Int) == (n : Int)) = true := beq_self_eq_true _
  go_enter Tryz.func19, Tryz.ntmps19
  go_wp2_with fail
  refine (rvalid_any H.out true (iff_of_true rfl HV.out)).mono ?_
  rintro e wv ⟨rfl, hbv⟩
  have HBV := Lib.hid hbv
  clear hbv
  go_wp2_with fail
  refine (rcolumns_any (H.out.below HBV.out)).mono ?_
  rintro e w' ⟨rfl, hww⟩
  obtain rfl := hww.symm
  rw [HC.out]
  go_wp2
  go_loopw [6, 7] (fun s i wr => ∃ (k : Nat) (Ls : List Num) (sv : Value), sv = s ∧ i = .int .i64 k ∧ k ≤ m ∧ rBuildN w.heap.size wr s Ls k (fun i => sumTo n (fun j => A i j * x j)) ∧ Below w.heap.size w wr) (fun _ i _ => m - (intOf i).toNat)
  case atStart => exact ⟨0, [], _, rfl, rfl, by omega, rBuildN.start _ _ _, HBV.out⟩
  case round =>
    obtain ⟨k, Ls, s, rfl, rfl, hk, hbn, hbr⟩ := hrel
    have HN0 := Lib.hid hbn
    have HB0 := Lib.hid hbr
    clear hbn hbr
    rename World => wz
    by_cases hkm : k = m
    · obtain rfl : m = k := hkm.symm
      obtain ⟨a', c', rfl, hrr⟩ := HN0.out.rats
      have HRR := Lib.hid hrr
      clear hrr
      go_wp2
      go_ret2
      exact ⟨a', c', rfl, HRR.out, HB0.out⟩
    · have hkl : k < m := by omega
      have hki : (k : Int) < (m : Int) := by omega
      obtain rfl := H3.out (by omega)
      obtain ⟨a', c', q1, q2⟩ := H4.out k hkl
      obtain ⟨_, _, b3, o3, p3, p4⟩ := q2.parts
      have P3 := Lib.hid p3
      have P4 := Lib.hid p4
      have HQ1 := Lib.hid q1
      clear q1 q2 p3 p4
      go_wp2_with fail
      (with_reducible refine ((rint_any (n := 0) (by decide) (by decide)).mono fun _ _ h => h.plain).mono ?_)
      rintro e wo ⟨m1, d1, l1, f1, m2, d2, l2, f2, rfl, hu, hb⟩
      have HB := Lib.hid (bt HB0.out hb)
      have HN := Lib.hid (HN0.out.below hb)
      have HU := Lib.hid (RRatR.as hu (show ((0 : Int) : Rat) = 0 from rfl))
      clear hu hb HB0 HN0
      go_wp2_with fail
      obtain ⟨W1, hW, hs, hb, b0⟩ := alloc1 wo (.cells #[.bool m1, .slice d1 l1 f1, .bool m2, .slice d2 l2 f2] 54)
      rw [← hW]
      have HB1 := Lib.hid (bt HB.out hb)
      have HN1 := Lib.hid (HN.out.below hb)
      have HU1 := Lib.hid (HU.out.below hb)
      have HS1 := Lib.hid b0
      have hown := Lib.hid (show ∀ g, s.ownBlock = some g → g ≠ wo.heap.size from fun g hg => by have := (HN.out.own.own.lt g hg).2; omega)
      clear hW hs hb b0 HU
      go_loopw [9] (fun j wj => ∃ (jj : Nat) (n1 : Bool) (a1 : Option Addr) (k1 c1 : Nat) (n2 : Bool) (a2 : Option Addr) (k2 c2 : Nat), j = .int .i64 jj ∧ jj ≤ n ∧ wj.heap[wo.heap.size]? = some (.cells #[.bool n1, .slice a1 k1 c1, .bool n2, .slice a2 k2 c2] 54 (0, 0)) ∧ RRatR wj (.agg #[.bool n1, .slice a1 k1 c1, .bool n2, .slice a2 k2 c2]) (sumTo jj (fun j => A k j * x j)) ∧ Stay (wo.heap.size) (wo.heap.size + 1) W1 wj) (fun j _ => n - (intOf j).toNat)
      case atStart => exact ⟨0, _, _, _, _, _, _, _, _, rfl, by omega, HS1.out, HU1.out, Stay.refl _ _ _⟩
      case round =>
        obtain ⟨jj, n1, a1, k1, c1, n2, a2, k2, c2, rfl, hjj, hbk, hnum, hst⟩ := hrel
        have HBK := Lib.hid hbk
        have HNUM := Lib.hid hnum
        have HST := Lib.hid hst
        have HNj := Lib.hid (HN1.out.aside hst hown.out (noInt4 HS1.out))
        have HBj := Lib.hid (HB1.out.trans (hst.below HB.out.size HB1.out.size))
        clear hbk hnum hst
        obtain ⟨⟨z0, z1, z2, z3⟩, z4, z5, z6, z7⟩ := res4_facts HBK.out
        by_cases hjn : jj = n
        · obtain rfl : n = jj := hjn.symm
          have HO := Lib.hid (HNj.out.own)
          have hlen := HNj.out.len
          have hbs := HBj.out.size
          go_wp2_with (at_builtin; refine wpList_append_free _ rfl _ _ 37 rfl w.heap.size 54 i0 (.agg #[.bool false, .slice none 0 0, .bool false, .slice none 0 0]) 4 64 Tryz.underlying37 hi hz0 hz1 hz2 rfl (by decide) _ _ _ rfl (HO.out.below (allocs_below1 _ _)) ⟨wr.heap.size, 0, none⟩ 1 1 (flat [⟨n1, a1, k1, c1, n2, a2, k2, c2⟩]) rfl rfl ?_ (fun u hu => (flat_one u hu).1) (by unfold maxLen; omega) (by omega) (by simp; have := HBj.out.size; omega) (fun u hu => (flat_one u hu).2) zero_notInt ?_)
          · first | exact fun _ _ hq => hq | exact cells_at4 _ _ _ _ _ _ (by first | rfl | simp)
          · intro v' w2 ho hg _
            have hb2 := allocs_below1 wr (.cells #[.bool n1, .slice a1 k1 c1, .bool n2, .slice a2 k2 c2] 54)
            have HN2 := Lib.hid (rBuildN.snoc (HNj.out.below hb2) (by rw [hlen]; exact ho) hg (RRatR.below HNUM.out hb2))
            have HB2 := Lib.hid (grown_below (bt HBj.out hb2) (HO.out.below hb2).own hg (Nat.le_refl _) (by simp; omega))
            clear ho hg hb2
            go_wp2
            refine ⟨⟨k + 1, _, _, rfl, by go_num, by omega, HN2.out, HB2.out⟩, ?_⟩
            simp [intOf]; omega
        · have hjl : jj < n := by omega
          have hji : (jj : Int) < (n : Int) := by omega
          obtain rfl := P3.out (by omega)
          obtain rfl := K3.out (by omega)
          obtain ⟨y, hy4, hyq⟩ := P4.out jj hjl
          obtain ⟨t, ht4, htq⟩ := K4.out jj hjl
          have c0 := keepc HBj.out HQ1.out
          obtain ⟨y0, y1, y2, y3⟩ := hy4.at HBj.out
          obtain ⟨t0, t1, t2, t3⟩ := ht4.at HBj.out
          have HY := Lib.hid (show RRatR wr (.agg #[.bool y.n1, .slice y.a1 y.k1 y.c1, .bool y.n2, .slice y.a2 y.k2 y.c2]) (A k jj) from RRatR.below hyq HBj.out)
          have HT := Lib.hid (show RRatR wr (.agg #[.bool t.n1, .slice t.a1 t.k1 t.c1, .bool t.n2, .slice t.a2 t.k2 t.c2]) (x jj) from RRatR.below htq HBj.out)
          have hlb : b < w.heap.size := World.block_lt_of_cell? _ _ HQ1.out
          have hlb3 : b3 < w.heap.size := World.block_lt_of_cell? _ _ hy4.1
          have hlb2 : b2 < w.heap.size := World.block_lt_of_cell? _ _ ht4.1
          have hbo := HB.out.size
          have hso := (Array.getElem?_eq_some_iff.1 HBK.out).1
          have r1 := RA.out k hkl jj hjl
          have r2 := RX.out jj hjl
          have r3 := (RS.out k hkl jj hjj).mono (show N ≤ 2 * N + 1 by omega)
          have r4 := r1.mul r2
          have HL := Lib.hid (fun (w' : World) (hs : Stay (wo.heap.size) (wo.heap.size + 1) wr w') => (⟨hs, hs.cell (.inl (by omega)) c0, hs.cell (.inl (by omega)) y0, hs.cell (.inl (by omega)) y1, hs.cell (.inl (by omega)) y2, hs.cell (.inl (by omega)) y3, hs.cell (.inl (by omega)) t0, hs.cell (.inl (by omega)) t1, hs.cell (.inl (by omega)) t2, hs.cell (.inl (by omega)) t3⟩ : Stay (wo.heap.size) (wo.heap.size + 1) wr w' ∧ w'.cell? ⟨b, o + k, none⟩ = some (.slice (some ⟨b3, o3, none⟩) n c') ∧ w'.cell? ⟨b3, o3 + jj * 4, none⟩ = some (.bool y.n1) ∧ w'.cell? ⟨b3, o3 + jj * 4 + 1, none⟩ = some (.slice y.a1 y.k1 y.c1) ∧ w'.cell? ⟨b3, o3 + jj * 4 + 2, none⟩ = some (.bool y.n2) ∧ w'.cell? ⟨b3, o3 + jj * 4 + 3, none⟩ = some (.slice y.a2 y.k2 y.c2) ∧ w'.cell? ⟨b2, o2 + jj * 4, none⟩ = some (.bool t.n1) ∧ w'.cell? ⟨b2, o2 + jj * 4 + 1, none⟩ = some (.slice t.a1 t.k1 t.c1) ∧ w'.cell? ⟨b2, o2 + jj * 4 + 2, none⟩ = some (.bool t.n2) ∧ w'.cell? ⟨b2, o2 + jj * 4 + 3, none⟩ = some (.slice t.a2 t.k2 t.c2)))
          have HS := Lib.hid (Stay.refl (wo.heap.size) (wo.heap.size + 1) wr)
          clear hy4 ht4 hyq htq y0 y1 y2 y3 t0 t1 t2 t3 c0
          go_wp2_with fail
          refine wp_region_held_drew (S := fun w' => Stay (wo.heap.size) (wo.heap.size + 1) wr w' ∧ w'.cell? ⟨b, o + k, none⟩ = some (.slice (some ⟨b3, o3, none⟩) n c') ∧ w'.cell? ⟨b3, o3 + jj * 4, none⟩ = some (.bool y.n1) ∧ w'.cell? ⟨b3, o3 + jj * 4 + 1, none⟩ = some (.slice y.a1 y.k1 y.c1) ∧ w'.cell? ⟨b3, o3 + jj * 4 + 2, none⟩ = some (.bool y.n2) ∧ w'.cell? ⟨b3, o3 + jj * 4 + 3, none⟩ = some (.slice y.a2 y.k2 y.c2) ∧ w'.cell? ⟨b2, o2 + jj * 4, none⟩ = some (.bool t.n1) ∧ w'.cell? ⟨b2, o2 + jj * 4 + 1, none⟩ = some (.slice t.a1 t.k1 t.c1) ∧ w'.cell? ⟨b2, o2 + jj * 4 + 2, none⟩ = some (.bool t.n2) ∧ w'.cell? ⟨b2, o2 + jj * 4 + 3, none⟩ = some (.slice t.a2 t.k2 t.c2)) (by kernel_rfl) ?_ (fun hHeld => ?_)
          · (first | assumption | with_reducible exact HL.out _ (Stay.drew HS.out) | with_reducible exact HL.out _ HT1.out | with_reducible exact HL.out _ HT3.out | with_reducible exact HL.out _ (stay_four HT3.out))
          (try dsimp only at hHeld)
          refine wpAnyH_take (i := 1) (oi := ({ dst := some 34, op := Op.move (Operand.tmp 0), type := 29, pos := "ref.go:39", after := #[], guard := none } : Oper)) (v := ?y1_1_v) rfl (by kernel_rfl) (by kernel_rfl) (by kernel_rfl) (fun _ _ _ h => h) (Or.inl ⟨by rfl, ?y1_1_h⟩) hHeld ?y1_1_r
          case y1_1_h => (intro w hSw; (try dsimp only at hSw); go_simp; all_goals with_reducible rfl)
          (try simp only [Act.put, List.setIfInBounds_toArray, List.set_cons_zero, List.set_cons_succ])
          refine wpAnyH_take (i := 2) (oi := ({ dst := some 35, op := Op.move (Operand.tmp 7), type := 3, pos := "ref.go:39", after := #[], guard := none } : Oper)) (v := ?y1_2_v) rfl (by kernel_rfl) (by kernel_rfl) (by kernel_rfl) (fun _ _ _ h => h) (Or.inl ⟨by rfl, ?y1_2_h⟩) hHeld ?y1_2_r
          case y1_2_h => (intro w hSw; (try dsimp only at hSw); go_simp; all_goals with_reducible rfl)
          (try simp only [Act.put, List.setIfInBounds_toArray, List.set_cons_zero, List.set_cons_succ])
          refine wpAnyH_take (i := 3) (oi := ({ dst := some 36, op := Op.indexAddr 29 (Operand.tmp 34) (Operand.tmp 35), type := 0, pos := "ref.go:39", after := #[{ on := 1, ground := Ground.data }, { on := 2, ground := Ground.data }], guard := none } : Oper)) (v := ?y1_3_v) rfl (by kernel_rfl) (by kernel_rfl) (by kernel_rfl) (fun _ _ _ h => h) (Or.inl ⟨by rfl, ?y1_3_h⟩) hHeld ?y1_3_r
          case y1_3_h => (intro w hSw; (try dsimp only at hSw); go_simp; all_goals with_reducible rfl)
          (try simp only [Act.put, List.setIfInBounds_toArray, List.set_cons_zero, List.set_cons_succ])
          refine wpAnyH_take (i := 4) (oi := ({ dst := some 37, op := Op.load 37 (Operand.tmp 36), type := 37, pos := "ref.go:39", after := #[{ on := 3, ground := Ground.data }], guard := none } : Oper)) (v := ?y1_4_v) rfl (by kernel_rfl) (by kernel_rfl) (by kernel_rfl) (fun _ _ _ h => h) (Or.inl ⟨by rfl, ?y1_4_h⟩) hHeld ?y1_4_r
          case y1_4_h => (intro w hSw; (try dsimp only at hSw); go_simp; all_goals with_reducible rfl)
          (try simp only [Act.put, List.setIfInBounds_toArray, List.set_cons_zero, List.set_cons_succ])
          refine wpAnyH_take (i := 5) (oi := ({ dst := some 38, op := Op.move (Operand.tmp 9), type := 3, pos := "ref.go:39", after := #[], guard := none } : Oper)) (v := ?y1_5_v) rfl (by kernel_rfl) (by kernel_rfl) (by kernel_rfl) (fun _ _ _ h => h) (Or.inl ⟨by rfl, ?y1_5_h⟩) hHeld ?y1_5_r
          case y1_5_h => (intro w hSw; (try dsimp only at hSw); go_simp; all_goals with_reducible rfl)
          (try simp only [Act.put, List.setIfInBounds_toArray, List.set_cons_zero, List.set_cons_succ])
          refine wpAnyH_take (i := 6) (oi := ({ dst := some 39, op := Op.indexAddr 37 (Operand.tmp 37) (Operand.tmp 38), type := 0, pos := "ref.go:39", after := #[{ on := 4, ground := Ground.data }, { on := 5, ground := Ground.data }], guard := none } : Oper)) (v := ?y1_6_v) rfl (by kernel_rfl) (by kernel_rfl) (by kernel_rfl) (fun _ _ _ h => h) (Or.inl ⟨by rfl, ?y1_6_h⟩) hHeld ?y1_6_r
          case y1_6_h => (intro w hSw; (try dsimp only at hSw); go_simp; all_goals with_reducible rfl)
          (try simp only [Act.put, List.setIfInBounds_toArray, List.set_cons_zero, List.set_cons_succ])
          refine wpAnyH_take (i := 7) (oi := ({ dst := some 40, op := Op.load 54 (Operand.tmp 39), type := 54, pos := "ref.go:39", after := #[{ on := 6, ground := Ground.data }], guard := none } : Oper)) (v := ?y1_7_v) rfl (by kernel_rfl) (by kernel_rfl) (by kernel_rfl) (fun _ _ _ h => h) (Or.inl ⟨by rfl, ?y1_7_h⟩) hHeld ?y1_7_r
          case y1_7_h => (intro w hSw; (try dsimp only at hSw); go_simp; all_goals with_reducible rfl)
          (try simp only [Act.put, List.setIfInBounds_toArray, List.set_cons_zero, List.set_cons_succ])
          refine wpAnyH_take (i := 8) (oi := ({ dst := some 41, op := Op.move (Operand.tmp 1), type := 37, pos := "ref.go:39", after := #[], guard := none } : Oper)) (v := ?y1_8_v) rfl (by kernel_rfl) (by kernel_rfl) (by kernel_rfl) (fun _ _ _ h => h) (Or.inl ⟨by rfl, ?y1_8_h⟩) hHeld ?y1_8_r
          case y1_8_h => (intro w hSw; (try dsimp only at hSw); go_simp; all_goals with_reducible rfl)
          (try simp only [Act.put, List.setIfInBounds_toArray, List.set_cons_zero, List.set_cons_succ])
          refine wpAnyH_take (i := 9) (oi := ({ dst := some 42, op := Op.move (Operand.tmp 9), type := 3, pos := "ref.go:39", after := #[], guard := none } : Oper)) (v := ?y1_9_v) rfl (by kernel_rfl) (by kernel_rfl) (by kernel_rfl) (fun _ _ _ h => h) (Or.inl ⟨by rfl, ?y1_9_h⟩) hHeld ?y1_9_r
          case y1_9_h => (intro w hSw; (try dsimp only at hSw); go_simp; all_goals with_reducible rfl)
          (try simp only [Act.put, List.setIfInBounds_toArray, List.set_cons_zero, List.set_cons_succ])
          refine wpAnyH_take (i := 10) (oi := ({ dst := some 43, op := Op.indexAddr 37 (Operand.tmp 41) (Operand.tmp 42), type := 0, pos := "ref.go:39", after := #[{ on := 8, ground := Ground.data }, { on := 9, ground := Ground.data }], guard := none } : Oper)) (v := ?y1_10_v) rfl (by kernel_rfl) (by kernel_rfl) (by kernel_rfl) (fun _ _ _ h => h) (Or.inl ⟨by rfl, ?y1_10_h⟩) hHeld ?y1_10_r
          case y1_10_h => (intro w hSw; (try dsimp only at hSw); go_simp; all_goals with_reducible rfl)
          (try simp only [Act.put, List.setIfInBounds_toArray, List.set_cons_zero, List.set_cons_succ])
          refine wpAnyH_take (i := 11) (oi := ({ dst := some 44, op := Op.load 54 (Operand.tmp 43), type := 54, pos := "ref.go:39", after := #[{ on := 10, ground := Ground.data }], guard := none } : Oper)) (v := ?y1_11_v) rfl (by kernel_rfl) (by kernel_rfl) (by kernel_rfl) (fun _ _ _ h => h) (Or.inl ⟨by rfl, ?y1_11_h⟩) hHeld ?y1_11_r
          case y1_11_h => (intro w hSw; (try dsimp only at hSw); go_simp; all_goals with_reducible rfl)
          (try simp only [Act.put, List.setIfInBounds_toArray, List.set_cons_zero, List.set_cons_succ])
          refine wpAnyH_ready (rs := [0, 12]) (by kernel_rfl) (by simp) ?_
          refine AllReadyH.cons (o := ({ dst := some 33, op := Op.load 54 (Operand.tmp 8), type := 54, pos := "ref.go:39", after := #[], guard := none } : Oper)) rfl (fun K hK => ?_) (AllReadyH.cons (o := ({ dst := some 45, op := Op.call { callee := Callee.value (Operand.func 40), args := #[Operand.tmp 40, Operand.tmp 44], argTypes := #[54, 54] }, type := 54, pos := "ref.go:39", after := #[{ on := 7, ground := Ground.data }, { on := 11, ground := Ground.data }], guard := none } : Oper)) rfl (fun K hK => ?_) AllReadyH.nil)
          · go_simp
            first | refine hK.out _ _ ?_ (fun hHeld => ?_) | (go_wp2_with fail; refine hK.out _ _ ?_ (fun hHeld => ?_))
            · (first | assumption | with_reducible exact HL.out _ (Stay.drew HS.out) | with_reducible exact HL.out _ HT1.out | with_reducible exact HL.out _ HT3.out | with_reducible exact HL.out _ (stay_four HT3.out))
            clear hK K
            (try dsimp only at hHeld)
            (try simp only [Act.put, List.setIfInBounds_toArray, List.set_cons_zero, List.set_cons_succ])
            refine wpAnyH_ready (rs := [12]) (by kernel_rfl) (by simp) ?_
            refine AllReadyH.cons (o := ({ dst := some 45, op := Op.call { callee := Callee.value (Operand.func 40), args := #[Operand.tmp 40, Operand.tmp 44], argTypes := #[54, 54] }, type := 54, pos := "ref.go:39", after := #[{ on := 7, ground := Ground.data }, { on := 11, ground := Ground.data }], guard := none } : Oper)) rfl (fun K hK => ?_) AllReadyH.nil
            go_simp
            (go_at_call 40; (with_reducible refine ((rratmul_any (HY.out.below (Below.drew (Below.refl _ _))) (HT.out.below (Below.drew (Below.refl _ _))) r1 r2 (by omega)).mono fun _ _ h => h.plain).mono ?_); rintro e x1 ⟨n3, p3, l3, d3, n4, p4, l4, d4, rfl, hu1, hbm⟩; have HP := Lib.hid hu1; clear hu1; have HT1 := Lib.hid (Stay.next (Stay.drew HS.out) hbm); have HB5 := Lib.hid (blk_next (w := wr.drew) HBK.out hbm); obtain ⟨⟨g0, g1, g2, g3⟩, _, _, _, _⟩ := res4_facts HB5.out)
            first | refine hK.out _ _ ?_ (fun hHeld => ?_) | (go_wp2_with fail; refine hK.out _ _ ?_ (fun hHeld => ?_))
            · (first | assumption | with_reducible exact HL.out _ (Stay.drew HS.out) | with_reducible exact HL.out _ HT1.out | with_reducible exact HL.out _ HT3.out | with_reducible exact HL.out _ (stay_four HT3.out))
            clear hK K
            (try dsimp only at hHeld)
            (try simp only [Act.put, List.setIfInBounds_toArray, List.set_cons_zero, List.set_cons_succ])
            refine wpAnyH_ready (rs := [13]) (by kernel_rfl) (by simp) ?_
            refine AllReadyH.cons (o := ({ dst := some 46, op := Op.call { callee := Callee.value (Operand.func 39), args := #[Operand.tmp 33, Operand.tmp 45], argTypes := #[54, 54] }, type := 54, pos := "ref.go:39", after := #[{ on := 0, ground := Ground.data }, { on := 12, ground := Ground.data }, { on := 12, ground := Ground.chain }], guard := none } : Oper)) rfl (fun K hK => ?_) AllReadyH.nil
            go_simp
            (go_at_call 39; (with_reducible refine ((rratadd_any ((HNUM.out.below (Below.drew (Below.refl _ _))).below hbm) HP.out r3 r4 (by omega)).mono fun _ _ h => h.plain).mono ?_); rintro e x2 ⟨n5, p5, l5, d5, n6, p6, l6, d6, rfl, hu3, hbs⟩; have HQ := Lib.hid hu3; clear hu3; have HT3 := Lib.hid (Stay.next HT1.out hbs); have HB6 := Lib.hid (blk_next HB5.out hbs); obtain ⟨⟨f0, f1, f2, f3⟩, f4, f5, f6, f7⟩ := res4_facts HB6.out)
            first | refine hK.out _ _ ?_ (fun hHeld => ?_) | (go_wp2_with fail; refine hK.out _ _ ?_ (fun hHeld => ?_))
            · (first | assumption | with_reducible exact HL.out _ (Stay.drew HS.out) | with_reducible exact HL.out _ HT1.out | with_reducible exact HL.out _ HT3.out | with_reducible exact HL.out _ (stay_four HT3.out))
            clear hK K
            (try dsimp only at hHeld)
            (try simp only [Act.put, List.setIfInBounds_toArray, List.set_cons_zero, List.set_cons_succ])
            refine wpAnyH_ready (rs := [14]) (by kernel_rfl) (by simp) ?_
            refine AllReadyH.cons (o := ({ dst := none, op := Op.store 54 (Operand.tmp 8) (Operand.tmp 46), type := 0, pos := "ref.go:39", after := #[{ on := 13, ground := Ground.data }, { on := 13, ground := Ground.chain }, { on := 0, ground := Ground.phase }, { on := 1, ground := Ground.phase }, { on := 2, ground := Ground.phase }, { on := 3, ground := Ground.phase }, { on := 4, ground := Ground.phase }, { on := 5, ground := Ground.phase }, { on := 6, ground := Ground.phase }, { on := 7, ground := Ground.phase }, { on := 8, ground := Ground.phase }, { on := 9, ground := Ground.phase }, { on := 10, ground := Ground.phase }, { on := 11, ground := Ground.phase }, { on := 12, ground := Ground.phase }, { on := 13, ground := Ground.phase }], guard := none } : Oper)) rfl (fun K hK => ?_) AllReadyH.nil
            go_simp
            first | refine hK.out _ _ ?_ (fun hHeld => ?_) | (go_wp2_with fail; refine hK.out _ _ ?_ (fun hHeld => ?_))
            · (first | assumption | with_reducible exact HL.out _ (Stay.drew HS.out) | with_reducible exact HL.out _ HT1.out | with_reducible exact HL.out _ HT3.out | with_reducible exact HL.out _ (stay_four HT3.out))
            clear hK K
            (try dsimp only at hHeld)
            (try simp only [Act.put, List.setIfInBounds_toArray, List.set_cons_zero, List.set_cons_succ])
            refine wpAnyH_done (by kernel_rfl) ?_ _
            have HF := Lib.hid (HQ.out.stay (set4_stay (x := .bool n5) (y := .slice p5 l5 d5) (z := .bool n6) (u := .slice p6 l6 d6)) (noInt_one (noInt4 HB6.out)))
            have HG := Lib.hid (res4_set (x' := .bool n5) (y' := .slice p5 l5 d5) (z' := .bool n6) (u' := .slice p6 l6 d6) HB6.out)
            have HSS := Lib.hid (((HST.out.next (Below.drew (Below.refl _ _))).next hbm).next hbs)
            clear HL
            go_wp2
            refine ⟨⟨jj + 1, n5, p5, l5, d5, n6, p6, l6, d6, by go_num, by omega, HG.out, HF.out, stay_four HSS.out⟩, ?_⟩
            simp [intOf]; omega
          · go_simp
            (go_at_call 40; (with_reducible refine ((rratmul_any (HY.out.below (Below.drew (Below.refl _ _))) (HT.out.below (Below.drew (Below.refl _ _))) r1 r2 (by omega)).mono fun _ _ h => h.plain).mono ?_); rintro e x1 ⟨n3, p3, l3, d3, n4, p4, l4, d4, rfl, hu1, hbm⟩; have HP := Lib.hid hu1; clear hu1; have HT1 := Lib.hid (Stay.next (Stay.drew HS.out) hbm); have HB5 := Lib.hid (blk_next (w := wr.drew) HBK.out hbm); obtain ⟨⟨g0, g1, g2, g3⟩, _, _, _, _⟩ := res4_facts HB5.out)
            first | refine hK.out _ _ ?_ (fun hHeld => ?_) | (go_wp2_with fail; refine hK.out _ _ ?_ (fun hHeld => ?_))
            · (first | assumption | with_reducible exact HL.out _ (Stay.drew HS.out) | with_reducible exact HL.out _ HT1.out | with_reducible exact HL.out _ HT3.out | with_reducible exact HL.out _ (stay_four HT3.out))
            clear hK K
            (try dsimp only at hHeld)
            (try simp only [Act.put, List.setIfInBounds_toArray, List.set_cons_zero, List.set_cons_succ])
            refine wpAnyH_ready (rs := [0]) (by kernel_rfl) (by simp) ?_
            refine AllReadyH.cons (o := ({ dst := some 33, op := Op.load 54 (Operand.tmp 8), type := 54, pos := "ref.go:39", after := #[], guard := none } : Oper)) rfl (fun K hK => ?_) AllReadyH.nil
            go_simp
            first | refine hK.out _ _ ?_ (fun hHeld => ?_) | (go_wp2_with fail; refine hK.out _ _ ?_ (fun hHeld => ?_))
            · (first | assumption | with_reducible exact HL.out _ (Stay.drew HS.out) | with_reducible exact HL.out _ HT1.out | with_reducible exact HL.out _ HT3.out | with_reducible exact HL.out _ (stay_four HT3.out))
            clear hK K
            (try dsimp only at hHeld)
            (try simp only [Act.put, List.setIfInBounds_toArray, List.set_cons_zero, List.set_cons_succ])
            refine wpAnyH_ready (rs := [13]) (by kernel_rfl) (by simp) ?_
            refine AllReadyH.cons (o := ({ dst := some 46, op := Op.call { callee := Callee.value (Operand.func 39), args := #[Operand.tmp 33, Operand.tmp 45], argTypes := #[54, 54] }, type := 54, pos := "ref.go:39", after := #[{ on := 0, ground := Ground.data }, { on := 12, ground := Ground.data }, { on := 12, ground := Ground.chain }], guard := none } : Oper)) rfl (fun K hK => ?_) AllReadyH.nil
            go_simp
            (go_at_call 39; (with_reducible refine ((rratadd_any ((HNUM.out.below (Below.drew (Below.refl _ _))).below hbm) HP.out r3 r4 (by omega)).mono fun _ _ h => h.plain).mono ?_); rintro e x2 ⟨n5, p5, l5, d5, n6, p6, l6, d6, rfl, hu3, hbs⟩; have HQ := Lib.hid hu3; clear hu3; have HT3 := Lib.hid (Stay.next HT1.out hbs); have HB6 := Lib.hid (blk_next HB5.out hbs); obtain ⟨⟨f0, f1, f2, f3⟩, f4, f5, f6, f7⟩ := res4_facts HB6.out)
            first | refine hK.out _ _ ?_ (fun hHeld => ?_) | (go_wp2_with fail; refine hK.out _ _ ?_ (fun hHeld => ?_))
            · (first | assumption | with_reducible exact HL.out _ (Stay.drew HS.out) | with_reducible exact HL.out _ HT1.out | with_reducible exact HL.out _ HT3.out | with_reducible exact HL.out _ (stay_four HT3.out))
            clear hK K
            (try dsimp only at hHeld)
            (try simp only [Act.put, List.setIfInBounds_toArray, List.set_cons_zero, List.set_cons_succ])
            refine wpAnyH_ready (rs := [14]) (by kernel_rfl) (by simp) ?_
            refine AllReadyH.cons (o := ({ dst := none, op := Op.store 54 (Operand.tmp 8) (Operand.tmp 46), type := 0, pos := "ref.go:39", after := #[{ on := 13, ground := Ground.data }, { on := 13, ground := Ground.chain }, { on := 0, ground := Ground.phase }, { on := 1, ground := Ground.phase }, { on := 2, ground := Ground.phase }, { on := 3, ground := Ground.phase }, { on := 4, ground := Ground.phase }, { on := 5, ground := Ground.phase }, { on := 6, ground := Ground.phase }, { on := 7, ground := Ground.phase }, { on := 8, ground := Ground.phase }, { on := 9, ground := Ground.phase }, { on := 10, ground := Ground.phase }, { on := 11, ground := Ground.phase }, { on := 12, ground := Ground.phase }, { on := 13, ground := Ground.phase }], guard := none } : Oper)) rfl (fun K hK => ?_) AllReadyH.nil
            go_simp
            first | refine hK.out _ _ ?_ (fun hHeld => ?_) | (go_wp2_with fail; refine hK.out _ _ ?_ (fun hHeld => ?_))
            · (first | assumption | with_reducible exact HL.out _ (Stay.drew HS.out) | with_reducible exact HL.out _ HT1.out | with_reducible exact HL.out _ HT3.out | with_reducible exact HL.out _ (stay_four HT3.out))
            clear hK K
            (try dsimp only at hHeld)
            (try simp only [Act.put, List.setIfInBounds_toArray, List.set_cons_zero, List.set_cons_succ])
            refine wpAnyH_done (by kernel_rfl) ?_ _
            have HF := Lib.hid (HQ.out.stay (set4_stay (x := .bool n5) (y := .slice p5 l5 d5) (z := .bool n6) (u := .slice p6 l6 d6)) (noInt_one (noInt4 HB6.out)))
            have HG := Lib.hid (res4_set (x' := .bool n5) (y' := .slice p5 l5 d5) (z' := .bool n6) (u' := .slice p6 l6 d6) HB6.out)
            have HSS := Lib.hid (((HST.out.next (Below.drew (Below.refl _ _))).next hbm).next hbs)
            clear HL
            go_wp2
            refine ⟨⟨jj + 1, n5, p5, l5, d5, n6, p6, l6, d6, by go_num, by omega, HG.out, HF.out, stay_four HSS.out⟩, ?_⟩
            simp [intOf]; omega
end Go.Proofs.YtjphfdlpcakpeaaGreatDoor

/- The reference's Check. -/

namespace Go.Proofs.YtjphfdlpcakpeaaGreatDoor
open Go.RowKit Tally

set_option maxHeartbeats 8000000 in
set_option maxRecDepth 100000 in
theorem rcheck_yes {w : World} {v u t : Value} {m n q N : Nat} {L : Nat → Nat} {A : Mx} {xv h : Nat → Rat} (hm : rMatsR w v m L A) (hv : IsMat m L) (hcn : colsN m L = n) (hx : rRatsR w u n xv) (hb : rRatsR w t q h) (hA : ∀ i, i < m → ∀ k, k < n → Rg N (A i k)) (hX0 : ∀ k, k < n → Rg N (xv k)) (hS : ∀ i, i < m → ∀ k, k ≤ n → Rg N (sumTo k (fun j => A i j * xv j))) (hH : ∀ k, k < q → Rg N (h k)) (hNN8 : 8 * N + 8 ≤ 999999999990) (X : Bool) (hX : X = true ↔ m = q ∧ ∀ k, k < m → sumTo n (fun j => A k j * xv j) = h k) :
    Calls Tryz.prog 23 #[v, u, t] w fun e w' => e = .returned (.bool X) ∧ Below w.heap.size w w' := by
  have HM := Lib.hid hm
  have HV := Lib.hid hv
  have HC := Lib.hid hcn
  have HXV := Lib.hid hx
  have RA := Lib.hid hA
  have RX := Lib.hid hX0
  have RS := Lib.hid hS
  have RH := Lib.hid hH
  have HXX := Lib.hid hX
  have HBV := Lib.hid hb
  obtain ⟨a0, c0, rfl⟩ := hm.shape
  obtain ⟨a3, c3, rfl⟩ := hx.shape
  obtain ⟨a2, c2, rfl⟩ := hb.shape
  have hNN : 2 * N + 2 ≤ 999999999990 := by omega
  have RF := Lib.hid (show ∀ k, k < m → Rg N (sumTo n (fun j => A k j * xv j)) from fun k hk => hS k hk n (Nat.le_refl _))
  clear hm hv hcn hx hA hX0 hS hH hX hb
  go_enter Tryz.func23, Tryz.ntmps23
  go_wp2_with fail
  (with_reducible refine (rapply_yes HM.out HV.out HC.out HXV.out RA.out RX.out RS.out hNN8).mono ?_)
  rintro e w1 ⟨a, c, rfl, hl, hb1⟩
  have HB0 := Lib.hid hb1
  obtain ⟨_, _, b, o, h3, h4⟩ := hl.parts
  obtain ⟨_, _, b2, o2, k3, k4⟩ := (HBV.out.below hb1).parts
  have H3 := Lib.hid h3
  have H4 := Lib.hid h4
  have K3 := Lib.hid k3
  have K4 := Lib.hid k4
  clear hl hb1 h3 h4 k3 k4 HM HV HC HXV RA RX RS HBV
  by_cases hnm : m = q
  · subst hnm
    have hq : ((m : Int) == (m : Int)) = true := beq_self_eq_true _
    go_wp2
    go_loopw [9] (fun i wr => ∃ (k : Nat), i = .int .i64 k ∧ k ≤ m ∧ (∀ j, j < k → sumTo n (fun l => A j l * xv l) = h j) ∧ Below w1.heap.size w1 wr) (fun i _ => m - (intOf i).toNat)
    case atStart => exact ⟨0, rfl, by omega, fun j hj => by omega, Below.refl _ _⟩
    case round =>
      obtain ⟨k, rfl, hk, hall, hbr⟩ := hrel
      have HA := Lib.hid hall
      have HB := Lib.hid hbr
      clear hall hbr
      by_cases hkn : k = m
      · obtain rfl : m = k := hkn.symm
        obtain rfl : X = true := by first | exact HXX.out.2 ⟨rfl, HA.out⟩ | exact HXX.out.2 ⟨trivial, HA.out⟩ | exact HXX.out.2 HA.out
        go_wp2
        go_ret
        exact ⟨rfl, bt HB0.out HB.out⟩
      have hkl : k < m := by omega
      have hki : (k : Int) < (m : Int) := by omega
      obtain rfl := H3.out (by omega)
      obtain rfl := K3.out (by omega)
      obtain ⟨x, hx4, hxq⟩ := H4.out k hkl
      obtain ⟨y, hy4, hyq⟩ := K4.out k hkl
      obtain ⟨x0, x1, x2, x3⟩ := hx4.at HB.out
      obtain ⟨y0, y1, y2, y3⟩ := hy4.at HB.out
      have HX := Lib.hid (show RRatR wr (.agg #[.bool x.n1, .slice x.a1 x.k1 x.c1, .bool x.n2, .slice x.a2 x.k2 x.c2]) (sumTo n (fun l => A k l * xv l)) from RRatR.below hxq HB.out)
      have HY := Lib.hid (show RRatR wr (.agg #[.bool y.n1, .slice y.a1 y.k1 y.c1, .bool y.n2, .slice y.a2 y.k2 y.c2]) (h k) from RRatR.below hyq HB.out)
      have r1 := RF.out k hkl
      have r2 := RH.out k hkl
      clear hx4 hxq hy4 hyq
      obtain ⟨cv, hcv⟩ : ∃ z, ((sumTo n (fun l => A k l * xv l)).num * (h k).den - (h k).num * (sumTo n (fun l => A k l * xv l)).den).sign = z := ⟨_, rfl⟩
      have HCV := Lib.hid hcv
      by_cases he : sumTo n (fun l => A k l * xv l) = h k
      · have hz : cv = 0 := by rw [← hcv]; exact cmpQ_zero.2 he
        have HA2 := Lib.hid (show ∀ j, j < k + 1 → sumTo n (fun l => A j l * xv l) = h j from fun j hj => by
          by_cases e : j = k
          · rw [e]; exact he
          · exact HA.out j (by omega))
        subst hz
        clear hcv he
        go_wp2_with fail
        have HL := Lib.hid (fun (w' : World) (hb : Below wr.heap.size wr w') => (⟨hb, keepc hb x0, keepc hb x1, keepc hb x2, keepc hb x3, keepc hb y0, keepc hb y1, keepc hb y2, keepc hb y3⟩ : Below wr.heap.size wr w' ∧ w'.cell? ⟨b, o + k * 4, none⟩ = some (.bool x.n1) ∧ w'.cell? ⟨b, o + k * 4 + 1, none⟩ = some (.slice x.a1 x.k1 x.c1) ∧ w'.cell? ⟨b, o + k * 4 + 2, none⟩ = some (.bool x.n2) ∧ w'.cell? ⟨b, o + k * 4 + 3, none⟩ = some (.slice x.a2 x.k2 x.c2) ∧ w'.cell? ⟨b2, o2 + k * 4, none⟩ = some (.bool y.n1) ∧ w'.cell? ⟨b2, o2 + k * 4 + 1, none⟩ = some (.slice y.a1 y.k1 y.c1) ∧ w'.cell? ⟨b2, o2 + k * 4 + 2, none⟩ = some (.bool y.n2) ∧ w'.cell? ⟨b2, o2 + k * 4 + 3, none⟩ = some (.slice y.a2 y.k2 y.c2)))
        have HI := Lib.hid (fun (w' : World) (hs : Below wr.heap.size wr w' ∧ w'.cell? ⟨b, o + k * 4, none⟩ = some (.bool x.n1) ∧ w'.cell? ⟨b, o + k * 4 + 1, none⟩ = some (.slice x.a1 x.k1 x.c1) ∧ w'.cell? ⟨b, o + k * 4 + 2, none⟩ = some (.bool x.n2) ∧ w'.cell? ⟨b, o + k * 4 + 3, none⟩ = some (.slice x.a2 x.k2 x.c2) ∧ w'.cell? ⟨b2, o2 + k * 4, none⟩ = some (.bool y.n1) ∧ w'.cell? ⟨b2, o2 + k * 4 + 1, none⟩ = some (.slice y.a1 y.k1 y.c1) ∧ w'.cell? ⟨b2, o2 + k * 4 + 2, none⟩ = some (.bool y.n2) ∧ w'.cell? ⟨b2, o2 + k * 4 + 3, none⟩ = some (.slice y.a2 y.k2 y.c2)) => hs.1)
        have HS := Lib.hid (Below.refl wr.heap.size wr)
        go_region_held3 (fun w' => Below wr.heap.size wr w' ∧ w'.cell? ⟨b, o + k * 4, none⟩ = some (.bool x.n1) ∧ w'.cell? ⟨b, o + k * 4 + 1, none⟩ = some (.slice x.a1 x.k1 x.c1) ∧ w'.cell? ⟨b, o + k * 4 + 2, none⟩ = some (.bool x.n2) ∧ w'.cell? ⟨b, o + k * 4 + 3, none⟩ = some (.slice x.a2 x.k2 x.c2) ∧ w'.cell? ⟨b2, o2 + k * 4, none⟩ = some (.bool y.n1) ∧ w'.cell? ⟨b2, o2 + k * 4 + 1, none⟩ = some (.slice y.a1 y.k1 y.c1) ∧ w'.cell? ⟨b2, o2 + k * 4 + 2, none⟩ = some (.bool y.n2) ∧ w'.cell? ⟨b2, o2 + k * 4 + 3, none⟩ = some (.slice y.a2 y.k2 y.c2))
          (first | assumption | with_reducible exact HL.out _ (Below.drew HS.out) | with_reducible exact HL.out _ (bt (HI.out _ (by assumption)) (by assumption)))
          (first | (go_at_call 42; (with_reducible refine (rratcmp_any (HX.out.below (HI.out _ (by assumption))) (HY.out.below (HI.out _ (by assumption))) r1 r2 hNN).mono ?_); rintro e w1 ⟨rfl, hb1⟩; rw [HCV.out]))
        have HB1 := Lib.hid (bt HB.out (bt (Below.drew HS.out) hb1))
        clear x0 x1 x2 x3 y0 y1 y2 y3 hb1 HL HI HS
        go_wp2
        refine ⟨⟨k + 1, by go_num, by omega, HA2.out, HB1.out⟩, ?_⟩
        simp [intOf]; omega
      · have hz : ¬ cv = 0 := fun e => he (cmpQ_zero.1 (by rw [← e, ← hcv]; rfl))
        have hz1 : (cv == 0) = false := by rw [beq_eq_false_iff_ne]; exact hz
        have hz2 : (cv != 0) = true := by rw [bne, hz1]; rfl
        obtain rfl : X = false := by
          rcases hx : X with _ | _
          · rfl
          · exact absurd ((HXX.out.1 hx).2 k hkl) he
        clear hcv he hz
        go_wp2_with fail
        have HL := Lib.hid (fun (w' : World) (hb : Below wr.heap.size wr w') => (⟨hb, keepc hb x0, keepc hb x1, keepc hb x2, keepc hb x3, keepc hb y0, keepc hb y1, keepc hb y2, keepc hb y3⟩ : Below wr.heap.size wr w' ∧ w'.cell? ⟨b, o + k * 4, none⟩ = some (.bool x.n1) ∧ w'.cell? ⟨b, o + k * 4 + 1, none⟩ = some (.slice x.a1 x.k1 x.c1) ∧ w'.cell? ⟨b, o + k * 4 + 2, none⟩ = some (.bool x.n2) ∧ w'.cell? ⟨b, o + k * 4 + 3, none⟩ = some (.slice x.a2 x.k2 x.c2) ∧ w'.cell? ⟨b2, o2 + k * 4, none⟩ = some (.bool y.n1) ∧ w'.cell? ⟨b2, o2 + k * 4 + 1, none⟩ = some (.slice y.a1 y.k1 y.c1) ∧ w'.cell? ⟨b2, o2 + k * 4 + 2, none⟩ = some (.bool y.n2) ∧ w'.cell? ⟨b2, o2 + k * 4 + 3, none⟩ = some (.slice y.a2 y.k2 y.c2)))
        have HI := Lib.hid (fun (w' : World) (hs : Below wr.heap.size wr w' ∧ w'.cell? ⟨b, o + k * 4, none⟩ = some (.bool x.n1) ∧ w'.cell? ⟨b, o + k * 4 + 1, none⟩ = some (.slice x.a1 x.k1 x.c1) ∧ w'.cell? ⟨b, o + k * 4 + 2, none⟩ = some (.bool x.n2) ∧ w'.cell? ⟨b, o + k * 4 + 3, none⟩ = some (.slice x.a2 x.k2 x.c2) ∧ w'.cell? ⟨b2, o2 + k * 4, none⟩ = some (.bool y.n1) ∧ w'.cell? ⟨b2, o2 + k * 4 + 1, none⟩ = some (.slice y.a1 y.k1 y.c1) ∧ w'.cell? ⟨b2, o2 + k * 4 + 2, none⟩ = some (.bool y.n2) ∧ w'.cell? ⟨b2, o2 + k * 4 + 3, none⟩ = some (.slice y.a2 y.k2 y.c2)) => hs.1)
        have HS := Lib.hid (Below.refl wr.heap.size wr)
        go_region_held3 (fun w' => Below wr.heap.size wr w' ∧ w'.cell? ⟨b, o + k * 4, none⟩ = some (.bool x.n1) ∧ w'.cell? ⟨b, o + k * 4 + 1, none⟩ = some (.slice x.a1 x.k1 x.c1) ∧ w'.cell? ⟨b, o + k * 4 + 2, none⟩ = some (.bool x.n2) ∧ w'.cell? ⟨b, o + k * 4 + 3, none⟩ = some (.slice x.a2 x.k2 x.c2) ∧ w'.cell? ⟨b2, o2 + k * 4, none⟩ = some (.bool y.n1) ∧ w'.cell? ⟨b2, o2 + k * 4 + 1, none⟩ = some (.slice y.a1 y.k1 y.c1) ∧ w'.cell? ⟨b2, o2 + k * 4 + 2, none⟩ = some (.bool y.n2) ∧ w'.cell? ⟨b2, o2 + k * 4 + 3, none⟩ = some (.slice y.a2 y.k2 y.c2))
          (first | assumption | with_reducible exact HL.out _ (Below.drew HS.out) | with_reducible exact HL.out _ (bt (HI.out _ (by assumption)) (by assumption)))
          (first | (go_at_call 42; (with_reducible refine (rratcmp_any (HX.out.below (HI.out _ (by assumption))) (HY.out.below (HI.out _ (by assumption))) r1 r2 hNN).mono ?_); rintro e w1 ⟨rfl, hb1⟩; rw [HCV.out]))
        have HB1 := Lib.hid (bt HB.out (bt (Below.drew HS.out) hb1))
        clear x0 x1 x2 x3 y0 y1 y2 y3 hb1 HL HI HS
        go_wp2
        go_ret
        exact ⟨rfl, bt HB0.out HB1.out⟩
  · have hq : ((q : Int) == (m : Int)) = false := by rw [beq_eq_false_iff_ne]; omega
    have hq2 : ((q : Int) != (m : Int)) = true := by rw [bne_iff_ne]; omega
    obtain rfl : X = false := by
      rcases hx : X with _ | _
      · rfl
      · exact absurd (HXX.out.1 hx).1 hnm
    go_wp2
    go_ret
    exact ⟨rfl, HB0.out⟩
end Go.Proofs.YtjphfdlpcakpeaaGreatDoor

/- The reference's Apply that refuses; Check of both then. -/

namespace Go.Proofs.YtjphfdlpcakpeaaGreatDoor
open Go.RowKit Tally

set_option maxHeartbeats 4000000 in
set_option maxRecDepth 100000 in
theorem rapply_no {w : World} {v u : Value} {m n : Nat} {L : Nat → Nat} {A : Mx} {x : Nat → Rat} (h : rMatsR w v m L A) (hx : rRatsR w u n x) (hno : ¬ (IsMat m L ∧ n = colsN m L)) :
    Calls Tryz.prog 19 #[v, u] w fun e w' => e = .returned (.tuple #[.slice none 0 0, .int .i64 1]) ∧ Below w.heap.size w w' := by
  have H := Lib.hid h
  have HNO := Lib.hid hno
  obtain ⟨a, c, rfl⟩ := h.shape
  obtain ⟨a2, c2, rfl⟩ := hx.shape
  clear h hx hno
  by_cases hv : IsMat m L
  · have HV := Lib.hid hv
    have hne : ((n : Int) == ((colsN m L : Nat) : Int)) = false := by
      rw [beq_eq_false_iff_ne]
      intro e
      exact HNO.out ⟨HV.out, by omega⟩
    clear hv
    go_enter Tryz.func19, Tryz.ntmps19
    go_wp2_with fail
    refine (rvalid_any H.out true (iff_of_true rfl HV.out)).mono ?_
    rintro e wv ⟨rfl, hbv⟩
    have HBV := Lib.hid hbv
    clear hbv
    go_wp2_with fail
    refine (rcolumns_any (H.out.below HBV.out)).mono ?_
    rintro e w' ⟨rfl, hww⟩
    obtain rfl := hww.symm
    go_wp2
    go_ret2
    exact ⟨rfl, HBV.out⟩
  · have HV := Lib.hid hv
    clear hv
    go_enter Tryz.func19, Tryz.ntmps19
    go_wp2_with fail
    refine (rvalid_any H.out false (iff_of_false (by decide) HV.out)).mono ?_
    rintro e wv ⟨rfl, hbv⟩
    have HBV := Lib.hid hbv
    clear hbv
    go_wp2
    go_ret2
    exact ⟨rfl, HBV.out⟩

set_option maxHeartbeats 4000000 in
set_option maxRecDepth 100000 in
theorem check_no {w : World} {v u t : Value} {m n q : Nat} {L : Nat → Nat} {A : Mx} {x y : Nat → Rat} (h : MatsR w v m L A) (hx : RatsR w u n x) (hb : RatsR w t q y) (hno : ¬ (IsMat m L ∧ n = colsN m L)) :
    Calls Tryz.prog 22 #[v, u, t] w fun e w' => e = .returned (.bool false) ∧ Below w.heap.size w w' := by
  have H := Lib.hid h
  have HX := Lib.hid hx
  have HNO := Lib.hid hno
  obtain ⟨a, c, rfl⟩ := h.shape
  obtain ⟨a2, c2, rfl⟩ := hx.shape
  obtain ⟨a3, c3, rfl⟩ := hb.shape
  clear h hx hb hno
  go_enter Tryz.func22, Tryz.ntmps22
  go_wp2_with fail
  refine (apply_no H.out HX.out HNO.out).mono ?_
  rintro e w' ⟨rfl, hb⟩
  have HB := Lib.hid hb
  clear hb
  go_wp2
  go_ret
  exact ⟨rfl, HB.out⟩

set_option maxHeartbeats 4000000 in
set_option maxRecDepth 100000 in
theorem rcheck_no {w : World} {v u t : Value} {m n q : Nat} {L : Nat → Nat} {A : Mx} {x y : Nat → Rat} (h : rMatsR w v m L A) (hx : rRatsR w u n x) (hb : rRatsR w t q y) (hno : ¬ (IsMat m L ∧ n = colsN m L)) :
    Calls Tryz.prog 23 #[v, u, t] w fun e w' => e = .returned (.bool false) ∧ Below w.heap.size w w' := by
  have H := Lib.hid h
  have HX := Lib.hid hx
  have HNO := Lib.hid hno
  obtain ⟨a, c, rfl⟩ := h.shape
  obtain ⟨a2, c2, rfl⟩ := hx.shape
  obtain ⟨a3, c3, rfl⟩ := hb.shape
  clear h hx hb hno
  go_enter Tryz.func23, Tryz.ntmps23
  go_wp2_with fail
  refine (rapply_no H.out HX.out HNO.out).mono ?_
  rintro e w' ⟨rfl, hb⟩
  have HB := Lib.hid hb
  clear hb
  go_wp2
  go_ret
  exact ⟨rfl, HB.out⟩

end Go.Proofs.YtjphfdlpcakpeaaGreatDoor
