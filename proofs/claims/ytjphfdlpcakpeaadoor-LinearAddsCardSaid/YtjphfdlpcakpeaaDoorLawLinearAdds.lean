/- LinearAdds, walked. -/
import Derived.Test.YtjphfdlpcakpeaaDoorLawLinearCramer
import Derived.Test.YtjphfdlpcakpeaaDoorLinT
namespace Go.Proofs.YtjphfdlpcakpeaaDoor
open Go.RowKit Tally

/-- two vectors' headers as a slice of slices -/
theorem heads_two {w : World} {g n c n2 c2 : Nat} {a a2 : Option Addr} {T : TypeId} (h : w.heap[g]? = some (.cells #[.slice a n c, .slice a2 n2 c2] T (0, 0))) : HeadsR w (.slice (some ⟨g, 0, none⟩) 2 2) 2 (fun i => if i = 0 then n else n2) := by
  obtain ⟨h0, h1⟩ := two_cells h
  refine ⟨_, g, 0, 2, rfl, Nat.le_refl _, by decide, fun _ => rfl, fun i hi => ?_⟩
  match i, hi with
  | 0, _ => exact ⟨a, c, h0⟩
  | 1, _ => exact ⟨a2, c2, h1⟩
/-- one number as a vector -/
theorem row_one16 {w : World} {g : Nat} {z : Int} {T : TypeId} (h : w.heap[g]? = some (.cells #[.int .i16 z] T (0, 0))) : RowR w (.slice (some ⟨g, 0, none⟩) 1 1) 1 fun _ => .int .i16 z := by
  refine ⟨_, g, 0, 1, rfl, Nat.le_refl _, by decide, fun _ => rfl, fun i hi => ?_⟩
  obtain rfl : i = 0 := by omega
  rw [Lib.cell_of_heap h]; rfl

/-- Solve's code for a matrix and the length of the vector -/
noncomputable def solCode (m n : Nat) (L : Nat → Nat) (A : Mx) : Int :=
  open Classical in if IsMat m L ∧ m = colsN m L ∧ n = m then (if ∃ (y : Nat → Rat) (s : St), Run upR m (wideM m A y) m s ∧ s.rank = m then 0 else 14) else 1
/-- what Solve gives for a small matrix and a small vector -/
def GivesSol (w : World) (m n : Nat) (A : Mx) (y : Nat → Rat) (cd : Int) (e : Ending) (w' : World) : Prop :=
  ∃ (a : Option Addr) (k c : Nat) (f : Nat → Rat), e = .returned (.tuple #[.slice a k c, .int .i64 cd]) ∧ Below w.heap.size w w' ∧ RatsR w' (.slice a k c) k f ∧ (∀ i, i < k → Rg 14000000000 (f i)) ∧
    (cd = 0 → k = m ∧ n = m ∧ (∀ i, i < m → sumTo m (fun j => A i j * f j) = y i) ∧ ∀ g : Nat → Rat, (∀ i, i < m → sumTo m (fun j => A i j * g j) = y i) → ∀ i, i < m → g i = f i)
theorem rats_nil (w : World) (f : Nat → Rat) : RatsR w (.slice none 0 0) 0 f := ⟨[], rfl, ⟨none, 0, 0, 0, rfl, Nat.le_refl _, Nat.zero_le _, fun h => absurd h (by decide), fun k x h => by simp at h⟩, fun k x h => by simp at h⟩
theorem solve_some {w : World} {v u : Value} {m n d M : Nat} {L : Nat → Nat} {Z : Nat → Nat → Int} {y : Nat → Rat} (h : MatsR w v m L (ratM d Z)) (hz : ∀ i, i < m → Small (L i) (Z i)) (hd : d ≤ 255) (hy : RatsR w u n y) (hf : ∀ i, i < n → FewD M (y i)) (hM : M ≤ 90) :
    Calls Tryd.prog 10 #[v, u] w (GivesSol w m n (ratM d Z) y (solCode m n L (ratM d Z))) := by
  by_cases hok : IsMat m L ∧ m = colsN m L ∧ n = m
  · obtain ⟨hi, hc, rfl⟩ := hok
    have hW := wide_rows (N := 5) (M := M) (fun i hi2 => (rowD_num (fun k hk => hz i hi2 k (by have := hi.1 i hi2; omega)) hd : RowD 5 n (ratM d Z i))) hf
    refine (solve_yes h hi hc hy hW (by omega)).mono ?_
    rintro e w' ⟨s, hrun, hb, hor⟩
    have h24 := hi.2.1
    have hsm := dgs_small (N := 5 + M) (c := n) (by omega) (by omega)
    rcases hor with ⟨hlt, rfl⟩ | ⟨hr, a, c, rfl, hx⟩
    · refine ⟨none, 0, 0, fun _ => 0, ?_, hb, rats_nil _ _, fun i hi => absurd hi (Nat.not_lt_zero _), ?_⟩
      · have : solCode n n L (ratM d Z) = 14 := by
          unfold solCode
          rw [if_pos ⟨hi, hc, rfl⟩, if_neg]
          rintro ⟨y2, s2, h2, h3⟩
          have := wide_rank2 hrun h2
          omega
        rw [this]
      · intro h0
        exfalso
        have : solCode n n L (ratM d Z) = 14 := by
          unfold solCode
          rw [if_pos ⟨hi, hc, rfl⟩, if_neg]
          rintro ⟨y2, s2, h2, h3⟩
          have := wide_rank2 hrun h2
          omega
        rw [this] at h0
        exact absurd h0 (by decide)
    · have h0 : solCode n n L (ratM d Z) = 0 := by
        unfold solCode
        rw [if_pos ⟨hi, hc, rfl⟩, if_pos ⟨y, s, hrun, hr⟩]
      refine ⟨a, n, c, fun i => s.A i n / s.A i i, by rw [h0], hb, hx, fun i hi2 => Rg.mono (Rg.of (sol_fw hrun hr hW i hi2)) (by omega), fun _ => ⟨rfl, rfl, solve_sum hrun hr, fun g hg i hi2 => solve_law hrun hr hg i hi2⟩⟩
  · refine (solve_no h hy (fun q => hok q)).mono ?_
    rintro e w' ⟨rfl, hb⟩
    have h1 : solCode m n L (ratM d Z) = 1 := by unfold solCode; rw [if_neg hok]
    exact ⟨none, 0, 0, fun _ => 0, by rw [h1], hb, rats_nil _ _, fun i hi => absurd hi (Nat.not_lt_zero _), fun h0 => by rw [h1] at h0; exact absurd h0 (by decide)⟩

set_option maxHeartbeats 8000000 in
set_option maxRecDepth 100000 in
theorem lawAdds_any {w : World} {v u1 u2 : Value} {m n n2 d : Nat} {L : Nat → Nat} {Z : Nat → Nat → Int} {x y : Nat → Int} {q : Int} (h : MatI w v m L Z) (hz : ∀ i, i < m → Small (L i) (Z i)) (hd : d ≤ 255)
    (hx : RowR w u1 n fun k => .int .i16 (x k)) (hxs : Small n x) (hy : RowR w u2 n2 fun k => .int .i16 (y k)) (hys : Small n2 y) (hq : -32768 ≤ q ∧ q ≤ 32767) (ht : Tab w) :
    Calls Tryd.prog 3 #[.agg #[v, .int .u8 d], .agg #[u1, u2], .int .i16 q] w fun e w' => e = .returned (.bool true) ∧ Below w.heap.size w w' := by
  obtain ⟨i2, hi2, hz20, hz21, hz22⟩ := info_parts infoQ4
  have HM := Lib.hid h
  have HZ := Lib.hid hz
  have HX := Lib.hid hx
  have HXS := Lib.hid hxs
  have HY := Lib.hid hy
  have HYS := Lib.hid hys
  have HQ := Lib.hid hq
  have HT := Lib.hid ht
  obtain ⟨a, b, o, c, rfl, -⟩ := h
  obtain ⟨a1, b1, o1, c1, rfl, -⟩ := hx
  obtain ⟨a2, b2, o2, c2, rfl, -⟩ := hy
  clear hz hxs hys hq ht
  go_enter Tryd.func3, Tryd.ntmps3
  go_wp2_with fail
  obtain ⟨W1, hW, hs, hb, hc, hc2⟩ := alloc2 w (.cells #[.slice a m c, .int .u8 d] 24) (.cells #[.slice a1 n c1, .slice a2 n2 c2] 26)
  rw [← hW]
  have HB := Lib.hid hb
  have HC := Lib.hid hc
  have HC2 := Lib.hid hc2
  clear hW hs hb hc hc2
  refine (awake22_any (HT.out.below HB.out)).mono ?_
  rintro e w1 ⟨rfl, hb⟩
  replace HC := Lib.hid (blk_next HC.out hb)
  replace HC2 := Lib.hid (blk_next HC2.out hb)
  replace HB := Lib.hid (bt HB.out hb)
  clear hb
  obtain ⟨e0, e1, e2, e3⟩ := res_facts HC.out
  obtain ⟨e4, e5, e6, e7⟩ := res_facts HC2.out
  go_wp2_with fail
  obtain ⟨W2, hW, hs, hb, hc⟩ := alloc1 w1 (.cells #[.slice a1 n c1, .slice a2 n2 c2] 25)
  rw [← hW]
  replace HB := Lib.hid (bt HB.out hb)
  replace HC := Lib.hid (blk_next HC.out hb)
  replace HC2 := Lib.hid (blk_next HC2.out hb)
  have HH := Lib.hid (heads_two hc)
  clear hW hs hb hc e0 e1 e2 e3 e4 e5 e6 e7
  by_cases hf : (∀ i, i < m → L i ≤ 10) ∧ (∀ i, i < 2 → (if i = 0 then n else n2) ≤ 10) ∧ m ≤ 10
  case neg =>
    have HF := Lib.hid hf
    clear hf
    refine (few_any (t := 10) (HM.out.heads.below HB.out) HH.out (by decide) false (iff_of_false (by decide) HF.out)).mono ?_
    rintro e w2 ⟨rfl, hb⟩
    replace HB := Lib.hid (bt HB.out hb)
    clear hb HH HC HC2
    go_wp2
    go_ret
    exact ⟨rfl, HB.out⟩
  have HF := Lib.hid hf
  have hm10 := hf.2.2
  have hn10 : n ≤ 10 := hf.2.1 0 (by decide)
  have hn210 : n2 ≤ 10 := hf.2.1 1 (by decide)
  clear hf
  refine (few_any (t := 10) (HM.out.heads.below HB.out) HH.out (by decide) true (iff_of_true rfl HF.out)).mono ?_
  rintro e w2 ⟨rfl, hb⟩
  replace HB := Lib.hid (bt HB.out hb)
  replace HC := Lib.hid (blk_next HC.out hb)
  replace HC2 := Lib.hid (blk_next HC2.out hb)
  clear hb HH
  obtain ⟨e0, e1, e2, e3⟩ := res_facts HC.out
  obtain ⟨e4, e5, e6, e7⟩ := res_facts HC2.out
  by_cases hnn : n = n2
  case neg =>
    have hne : ((n : Int) == (n2 : Int)) = false := by rw [beq_eq_false_iff_ne]; omega
    have HMN := Lib.hid hnn
    clear hnn
    go_wp2
    go_ret
    exact ⟨rfl, HB.out⟩
  obtain rfl : n = n2 := hnn
  have hq : ((n : Int) == (n : Int)) = true := beq_self_eq_true _
  go_wp2_with fail
  refine (rows_any (HM.out.below HB.out) HZ.out (fun i hi => by have := HF.out.1 i hi; omega) (by omega) hd).mono ?_
  rintro e w3 ⟨a3, b3, c3, d3, rfl, hm3, -, hb⟩
  have HA := Lib.hid hm3
  replace HB := Lib.hid (bt HB.out hb)
  replace HC2 := Lib.hid (blk_next HC2.out hb)
  clear hm3 hb HC HM e0 e1 e2 e3 e4 e5 e6 e7
  obtain ⟨e4, e5, e6, e7⟩ := res_facts HC2.out
  go_wp2_with fail
  have HLS := Lib.hid (fun (w' : World) (hb : Below w3.heap.size w3 w') => (⟨keepc hb e4, keepc hb e5⟩ : w'.cell? ⟨w.heap.size + 1, 0, none⟩ = some (.slice a1 n c1) ∧ w'.cell? ⟨w.heap.size + 1, 1, none⟩ = some (.slice a2 n c2)))
  clear e4 e5 e6 e7 HC2
  refine wp_region_held_drew (S := fun w' => w'.cell? ⟨w.heap.size + 1, 0, none⟩ = some (.slice a1 n c1) ∧ w'.cell? ⟨w.heap.size + 1, 1, none⟩ = some (.slice a2 n c2)) (by kernel_rfl) ?_ (fun hHeld => ?_)
  · exact HLS.out _ (Below.drew (Below.refl _ _))
  (try dsimp only at hHeld)
  refine wpAnyH_take (i := 0) (oi := ({ dst := some 50, op := Op.indexAddr 26 (Operand.tmp 4) (Operand.const (Value.int IntKind.i64 0)), type := 0, pos := "law.go:163", after := #[], guard := none } : Oper)) (v := ?y1_1_v) rfl (by kernel_rfl) (by kernel_rfl) (by kernel_rfl) (fun _ _ _ h => h) (Or.inl ⟨by rfl, ?y1_1_h⟩) hHeld ?y1_1_r
  case y1_1_h => (intro w hSw; (try dsimp only at hSw); go_simp; all_goals with_reducible rfl)
  (try simp only [Act.put, List.setIfInBounds_toArray, List.set_cons_zero, List.set_cons_succ])
  refine wpAnyH_take (i := 1) (oi := ({ dst := some 51, op := Op.load 25 (Operand.tmp 50), type := 25, pos := "law.go:163", after := #[{ on := 0, ground := Ground.data }], guard := none } : Oper)) (v := ?y1_2_v) rfl (by kernel_rfl) (by kernel_rfl) (by kernel_rfl) (fun _ _ _ h => h) (Or.inl ⟨by rfl, ?y1_2_h⟩) hHeld ?y1_2_r
  case y1_2_h => (intro w hSw; (try dsimp only at hSw); go_simp; all_goals with_reducible rfl)
  (try simp only [Act.put, List.setIfInBounds_toArray, List.set_cons_zero, List.set_cons_succ])
  refine wpAnyH_take (i := 3) (oi := ({ dst := some 53, op := Op.indexAddr 26 (Operand.tmp 4) (Operand.const (Value.int IntKind.i64 1)), type := 0, pos := "law.go:163", after := #[], guard := none } : Oper)) (v := ?y1_3_v) rfl (by kernel_rfl) (by kernel_rfl) (by kernel_rfl) (fun _ _ _ h => h) (Or.inl ⟨by rfl, ?y1_3_h⟩) hHeld ?y1_3_r
  case y1_3_h => (intro w hSw; (try dsimp only at hSw); go_simp; all_goals with_reducible rfl)
  (try simp only [Act.put, List.setIfInBounds_toArray, List.set_cons_zero, List.set_cons_succ])
  refine wpAnyH_take (i := 4) (oi := ({ dst := some 54, op := Op.load 25 (Operand.tmp 53), type := 25, pos := "law.go:163", after := #[{ on := 3, ground := Ground.data }], guard := none } : Oper)) (v := ?y1_4_v) rfl (by kernel_rfl) (by kernel_rfl) (by kernel_rfl) (fun _ _ _ h => h) (Or.inl ⟨by rfl, ?y1_4_h⟩) hHeld ?y1_4_r
  case y1_4_h => (intro w hSw; (try dsimp only at hSw); go_simp; all_goals with_reducible rfl)
  (try simp only [Act.put, List.setIfInBounds_toArray, List.set_cons_zero, List.set_cons_succ])
  refine wpAnyH_ready (rs := [2]) (by kernel_rfl) (by simp) ?_
  refine AllReadyH.cons (o := ({ dst := some 52, op := Op.call { callee := Callee.value (Operand.func 9), args := #[Operand.tmp 51, Operand.const (Value.int IntKind.u8 3)], argTypes := #[25, 5] }, type := 34, pos := "law.go:163", after := #[{ on := 1, ground := Ground.data }], guard := none } : Oper)) rfl (fun K hK => ?_) AllReadyH.nil
  go_simp
  (go_at_call 9; (refine (numbers_any (d := 3) (HX.out.below (Below.drew HB.out)) HXS.out (by decide) (by omega)).mono ?_); rintro e w4 ⟨a4, c4, rfl, hv, hbb⟩; have HZ2 := Lib.hid (bt (Below.drew (Below.refl w3.heap.size w3)) hbb); have HV4 := Lib.hid hv; clear hv hbb)
  first | refine hK.out _ _ ?_ (fun hHeld => ?_) | (go_wp2_with fail; refine hK.out _ _ ?_ (fun hHeld => ?_))
  · exact HLS.out _ HZ2.out
  clear hK K
  (try dsimp only at hHeld)
  (try simp only [Act.put, List.setIfInBounds_toArray, List.set_cons_zero, List.set_cons_succ])
  refine wpAnyH_ready (rs := [5]) (by kernel_rfl) (by simp) ?_
  refine AllReadyH.cons (o := ({ dst := some 55, op := Op.call { callee := Callee.value (Operand.func 9), args := #[Operand.tmp 54, Operand.const (Value.int IntKind.u8 5)], argTypes := #[25, 5] }, type := 34, pos := "law.go:163", after := #[{ on := 4, ground := Ground.data }, { on := 2, ground := Ground.chain }], guard := none } : Oper)) rfl (fun K hK => ?_) AllReadyH.nil
  go_simp
  (go_at_call 9; (refine (numbers_any (d := 5) (HY.out.below (bt HB.out HZ2.out)) HYS.out (by decide) (by omega)).mono ?_); rintro e w5 ⟨a5, c5, rfl, hv, hbb⟩; have HZ5 := Lib.hid (bt HZ2.out hbb); have HVY := Lib.hid (show RatsR w5 (.slice a5 n c5) n (ratV 5 y) from hv); have HVX := Lib.hid (show RatsR w5 (.slice a4 n c4) n (ratV 3 x) from HV4.out.below hbb); clear hv hbb HV4)
  first | refine hK.out _ _ ?_ (fun hHeld => ?_) | (go_wp2_with fail; refine hK.out _ _ ?_ (fun hHeld => ?_))
  · exact HLS.out _ HZ5.out
  clear hK K
  (try dsimp only at hHeld)
  (try simp only [Act.put, List.setIfInBounds_toArray, List.set_cons_zero, List.set_cons_succ])
  refine wpAnyH_take (i := 6) (oi := ({ dst := some 9, op := Op.assign (Operand.tmp 52), type := 34, pos := "law.go:163", after := #[{ on := 2, ground := Ground.data }, { on := 5, ground := Ground.chain }, { on := 0, ground := Ground.phase }, { on := 1, ground := Ground.phase }, { on := 2, ground := Ground.phase }, { on := 3, ground := Ground.textOnly Departure.lateStores }, { on := 4, ground := Ground.textOnly Departure.lateStores }, { on := 5, ground := Ground.textOnly Departure.lateStoresUnsure }], guard := none } : Oper)) (v := ?y1_5_v) rfl (by kernel_rfl) (by kernel_rfl) (by kernel_rfl) (fun _ _ _ h => h) (Or.inl ⟨by rfl, ?y1_5_h⟩) hHeld ?y1_5_r
  case y1_5_h => (intro w hSw; (try dsimp only at hSw); go_simp; all_goals with_reducible rfl)
  (try simp only [Act.put, List.setIfInBounds_toArray, List.set_cons_zero, List.set_cons_succ])
  refine wpAnyH_take (i := 7) (oi := ({ dst := some 10, op := Op.assign (Operand.tmp 55), type := 34, pos := "law.go:163", after := #[{ on := 5, ground := Ground.data }, { on := 6, ground := Ground.chain }, { on := 0, ground := Ground.phase }, { on := 1, ground := Ground.phase }, { on := 2, ground := Ground.phase }, { on := 3, ground := Ground.phase }, { on := 4, ground := Ground.phase }, { on := 5, ground := Ground.phase }, { on := 6, ground := Ground.phase }], guard := none } : Oper)) (v := ?y1_6_v) rfl (by kernel_rfl) (by kernel_rfl) (by kernel_rfl) (fun _ _ _ h => h) (Or.inl ⟨by rfl, ?y1_6_h⟩) hHeld ?y1_6_r
  case y1_6_h => (intro w hSw; (try dsimp only at hSw); go_simp; all_goals with_reducible rfl)
  (try simp only [Act.put, List.setIfInBounds_toArray, List.set_cons_zero, List.set_cons_succ])
  refine wpAnyH_done (by kernel_rfl) ?_ _
  replace HA := Lib.hid (HA.out.below HZ5.out)
  replace HB := Lib.hid (bt HB.out HZ5.out)
  clear HLS HX HY HZ2 HZ5
  go_wp2_with fail
  obtain ⟨W6, hW, hs, hb, hc⟩ := alloc1 w5 (.cells #[.int .i16 q] 27)
  rw [← hW]
  have HR1 := Lib.hid (row_one16 hc)
  replace HA := Lib.hid (HA.out.below hb)
  replace HVX := Lib.hid (HVX.out.below hb)
  replace HVY := Lib.hid (HVY.out.below hb)
  replace HB := Lib.hid (bt HB.out hb)
  have HQ1 := Lib.hid (show Small 1 (fun _ => q) from fun _ _ => HQ.out)
  clear hW hs hb hc
  refine (numbers_any (d := 4) HR1.out HQ1.out (by decide) (by decide)).mono ?_
  rintro e w7 ⟨a6, c6, rfl, hk6, hb⟩
  replace HA := Lib.hid (HA.out.below hb)
  replace HVX := Lib.hid (HVX.out.below hb)
  replace HVY := Lib.hid (HVY.out.below hb)
  replace HB := Lib.hid (bt HB.out hb)
  obtain ⟨_, _, b6, o6, p3, p4⟩ := (show RatsR w7 (.slice a6 1 c6) 1 (ratV 4 fun _ => q) from hk6).parts
  obtain rfl := p3 (by decide)
  obtain ⟨t, ⟨t0, t1, t2, t3⟩, tq⟩ := p4 0 (by decide)
  have HTQ := Lib.hid (show RatR w7 (.agg #[.bool t.n1, .slice t.a1 t.k1 t.c1, .bool t.n2, .slice t.a2 t.k2 t.c2]) (ratV 4 (fun _ => q) 0) from tq)
  have HFQ := Lib.hid (show FewD 5 (ratV 4 (fun _ => q) 0) from fewD_num (d := 4) HQ.out (by decide))
  simp only [Nat.zero_mul, Nat.add_zero] at t0 t1 t2 t3
  have hlt := World.block_lt_of_cell? _ _ t0
  clear hk6 p3 p4 tq hb HR1 HQ1
  obtain ⟨kq, hkq⟩ : ∃ kq, ratV 4 (fun _ => q) 0 = kq := ⟨_, rfl⟩
  rw [hkq] at HTQ HFQ
  clear hkq HQ
  go_wp2_with fail
  obtain ⟨w8, hW, hs, hb, hc⟩ := alloc1 w7 (.cells #[.bool t.n1, .slice t.a1 t.k1 t.c1, .bool t.n2, .slice t.a2 t.k2 t.c2] 40)
  rw [← hW]
  have HKC := Lib.hid hc
  replace HA := Lib.hid (HA.out.below hb)
  replace HVX := Lib.hid (HVX.out.below hb)
  replace HVY := Lib.hid (HVY.out.below hb)
  replace HTQ := Lib.hid (HTQ.out.below hb)
  replace HB := Lib.hid (bt HB.out hb)
  have HFX := Lib.hid (fun (i : Nat) (hi : i < n) => (fewD_num (d := 3) (HXS.out i hi) (by decide) : FewD 5 (ratV 3 x i)))
  have HFY := Lib.hid (fun (i : Nat) (hi : i < n) => (fewD_num (d := 5) (HYS.out i hi) (by decide) : FewD 5 (ratV 5 y i)))
  clear hW hs hb hc t0 t1 t2 t3 hlt
  obtain ⟨cd, hcd⟩ : ∃ cd, solCode m n L (ratM d Z) = cd := ⟨_, rfl⟩
  have HCD := Lib.hid hcd
  clear hcd
  refine (solve_some HA.out HZ.out hd HVX.out HFX.out (by decide)).mono ?_
  rw [HCD.out]
  rintro e w9 ⟨ax, kx, cx, fx, rfl, hb, hx, hrx, hsx⟩
  have HSX := Lib.hid hx
  have HRX := Lib.hid hrx
  have HLX := Lib.hid hsx
  replace HKC := Lib.hid (blk_next HKC.out hb)
  replace HA := Lib.hid (HA.out.below hb)
  replace HVX := Lib.hid (HVX.out.below hb)
  replace HVY := Lib.hid (HVY.out.below hb)
  replace HTQ := Lib.hid (HTQ.out.below hb)
  replace HB := Lib.hid (bt HB.out hb)
  clear hb hx hrx hsx
  go_wp2_with fail
  refine (solve_some HA.out HZ.out hd HVY.out HFY.out (by decide)).mono ?_
  rw [HCD.out]
  rintro e w10 ⟨ay, ky, cy, fy, rfl, hb, hx, hrx, hsx⟩
  have HSY := Lib.hid hx
  have HRY := Lib.hid hrx
  have HLY := Lib.hid hsx
  replace HSX := Lib.hid (HSX.out.below hb)
  replace HKC := Lib.hid (blk_next HKC.out hb)
  replace HA := Lib.hid (HA.out.below hb)
  replace HVX := Lib.hid (HVX.out.below hb)
  replace HVY := Lib.hid (HVY.out.below hb)
  replace HTQ := Lib.hid (HTQ.out.below hb)
  replace HB := Lib.hid (bt HB.out hb)
  clear hb hx hrx hsx
  obtain ⟨_, _, bP, oP, p3, p4⟩ := HVX.out.parts
  obtain ⟨_, _, bR, oR, r3, r4⟩ := HVY.out.parts
  have P3 := Lib.hid p3
  have P4 := Lib.hid p4
  have R3 := Lib.hid r3
  have R4 := Lib.hid r4
  have hlk : w7.heap.size < w10.heap.size := (Array.getElem?_eq_some_iff.1 HKC.out).1
  clear p3 p4 r3 r4
  go_wp2_with fail
  go_loopw [16, 17, 20] (fun sv tv iv wr => ∃ (k : Nat) (Ls Ms : List Num) (s t : Value), s = sv ∧ t = tv ∧ iv = .int .i64 k ∧ k ≤ n ∧ BuildN w10.heap.size wr sv Ls k (fun i => ratV 3 x i + ratV 5 y i) ∧ BuildN w10.heap.size wr tv Ms k (fun i => kq * ratV 3 x i) ∧ Apart sv tv ∧ Below w10.heap.size w10 wr) (fun _ _ iv _ => n - (intOf iv).toNat)
  case atStart => exact ⟨0, [], [], _, _, rfl, rfl, rfl, by omega, BuildN.start _ _ _, BuildN.start _ _ _, Apart.nil, Below.refl _ _⟩
  case round =>
    obtain ⟨k, Ls, Ms, sv, tv, rfl, rfl, rfl, hk, hbn, hbm, hap, hbr⟩ := hrel
    have HN := Lib.hid hbn
    have HMM := Lib.hid hbm
    have HAP := Lib.hid hap
    have HBr := Lib.hid hbr
    clear hbn hbm hap hbr
    by_cases hkn : k = n
    · obtain rfl : n = k := hkn.symm
      obtain ⟨aE, cE, rfl, hE⟩ := HN.out.rats
      obtain ⟨aF, cF, rfl, hF⟩ := HMM.out.rats
      have HE := Lib.hid hE
      have HFF := Lib.hid hF
      have HGE := Lib.hid (fun (i : Nat) (hi : i < n) => (FewD.add (HFX.out i hi) (HFY.out i hi) : FewD 11 (ratV 3 x i + ratV 5 y i)))
      have HGF := Lib.hid (fun (i : Nat) (hi : i < n) => (FewD.mul HFQ.out (HFX.out i hi) : FewD 10 (kq * ratV 3 x i)))
      replace HA := Lib.hid (HA.out.below HBr.out)
      replace HSX := Lib.hid (HSX.out.below HBr.out)
      replace HSY := Lib.hid (HSY.out.below HBr.out)
      replace HKC := Lib.hid (blk_next HKC.out HBr.out)
      replace HTQ := Lib.hid (HTQ.out.below HBr.out)
      replace HB := Lib.hid (bt HB.out HBr.out)
      clear hE hF HN HMM HAP HBr P3 P4 R3 R4 HVX HVY
      go_wp2_with fail
      refine (solve_some HA.out HZ.out hd HE.out HGE.out (by decide)).mono ?_
      rw [HCD.out]
      rintro e w11 ⟨au, ku, cu, fu, rfl, hb, hx, hrx, hsx⟩
      have HSU := Lib.hid hx
      have HRU := Lib.hid hrx
      have HLU := Lib.hid hsx
      replace HA := Lib.hid (HA.out.below hb)
      replace HFF := Lib.hid (HFF.out.below hb)
      replace HSX := Lib.hid (HSX.out.below hb)
      replace HSY := Lib.hid (HSY.out.below hb)
      replace HKC := Lib.hid (blk_next HKC.out hb)
      replace HTQ := Lib.hid (HTQ.out.below hb)
      replace HB := Lib.hid (bt HB.out hb)
      clear hb hx hrx hsx HE HGE
      go_wp2_with fail
      refine (solve_some HA.out HZ.out hd HFF.out HGF.out (by decide)).mono ?_
      rw [HCD.out]
      rintro e w12 ⟨av, kv, cv, fv, rfl, hb, hx, hrx, hsx⟩
      have HSV := Lib.hid hx
      have HRV := Lib.hid hrx
      have HLV := Lib.hid hsx
      replace HSU := Lib.hid (HSU.out.below hb)
      replace HSX := Lib.hid (HSX.out.below hb)
      replace HSY := Lib.hid (HSY.out.below hb)
      replace HKC := Lib.hid (blk_next HKC.out hb)
      replace HTQ := Lib.hid (HTQ.out.below hb)
      replace HB := Lib.hid (bt HB.out hb)
      clear hb hx hrx hsx HFF HGF HA
      by_cases h0 : cd = 0
      case neg =>
        have hce : (cd == 0) = false := by rw [beq_eq_false_iff_ne]; exact h0
        have hcc : (cd == cd) = true := beq_self_eq_true _
        clear h0
        go_wp2
        go_ret
        exact ⟨rfl, HB.out⟩
      obtain ⟨hkx, hnm, hx1, hx2⟩ := HLX.out h0
      obtain ⟨hky, -, hy1, hy2⟩ := HLY.out h0
      obtain ⟨hku, -, hu1, hu2⟩ := HLU.out h0
      obtain ⟨hkv, -, hv1, hv2⟩ := HLV.out h0
      have HUE := Lib.hid (hu2 (fun j => fx j + fy j) (sum_law hx1 hy1))
      have HVE := Lib.hid (hv2 (fun j => kq * fx j) (mul_law hx1))
      subst h0
      subst hkx
      subst hky
      obtain rfl : ku = ky := hku
      obtain rfl : kv = ku := hkv
      obtain rfl : n = kv := hnm
      clear hx1 hx2 hy1 hy2 hu1 hu2 hv1 hv2 HLX HLY HLU HLV HCD HZ
      obtain ⟨_, _, bE, oE, p3, p4⟩ := HSX.out.parts
      obtain ⟨_, _, bF, oF, r3, r4⟩ := HSY.out.parts
      have P3 := Lib.hid p3
      have P4 := Lib.hid p4
      have R3 := Lib.hid r3
      have R4 := Lib.hid r4
      have hlk2 : w7.heap.size < w12.heap.size := (Array.getElem?_eq_some_iff.1 HKC.out).1
      clear p3 p4 r3 r4
      go_wp2_with fail
      go_loopw [18, 19, 25] (fun sv tv iv wr => ∃ (k : Nat) (Ls Ms : List Num) (s t : Value), s = sv ∧ t = tv ∧ iv = .int .i64 k ∧ k ≤ n ∧ BuildN w12.heap.size wr sv Ls k (fun i => fx i + fy i) ∧ BuildN w12.heap.size wr tv Ms k (fun i => kq * fx i) ∧ Apart sv tv ∧ Below w12.heap.size w12 wr) (fun _ _ iv _ => n - (intOf iv).toNat)
      case atStart => exact ⟨0, [], [], _, _, rfl, rfl, rfl, by omega, BuildN.start _ _ _, BuildN.start _ _ _, Apart.nil, Below.refl _ _⟩
      case round =>
        obtain ⟨k, Ls, Ms, sv, tv, rfl, rfl, rfl, hk, hbn, hbm, hap, hbr⟩ := hrel
        have HN := Lib.hid hbn
        have HMM := Lib.hid hbm
        have HAP := Lib.hid hap
        have HBr := Lib.hid hbr
        clear hbn hbm hap hbr
        by_cases hkn : k = n
        · obtain rfl : n = k := hkn.symm
          obtain ⟨aE, cE, rfl, hE⟩ := HN.out.rats
          obtain ⟨aF, cF, rfl, hF⟩ := HMM.out.rats
          have HE := Lib.hid hE
          have HFF := Lib.hid hF
          replace HSU := Lib.hid (HSU.out.below HBr.out)
          replace HSV := Lib.hid (HSV.out.below HBr.out)
          replace HB := Lib.hid (bt HB.out HBr.out)
          have hru := Lib.hid (fun (i : Nat) (hi : i < n) => ((HUE.out i hi) ▸ HRU.out i hi : Rg 14000000000 (fx i + fy i)))
          have hrv := Lib.hid (fun (i : Nat) (hi : i < n) => ((HVE.out i hi) ▸ HRV.out i hi : Rg 14000000000 (kq * fx i)))
          clear hE hF HN HMM HAP HBr
          go_wp2_with fail
          refine (linequal_any HSU.out HE.out HRU.out hru.out (by decide) true (iff_of_true rfl ⟨rfl, fun i hi => (HUE.out i hi).symm⟩)).mono ?_
          rintro e w13 ⟨rfl, hb⟩
          replace HSV := Lib.hid (HSV.out.below hb)
          replace HFF := Lib.hid (HFF.out.below hb)
          replace HB := Lib.hid (bt HB.out hb)
          clear hb
          go_wp2_with fail
          refine (linequal_any HSV.out HFF.out HRV.out hrv.out (by decide) true (iff_of_true rfl ⟨rfl, fun i hi => (HVE.out i hi).symm⟩)).mono ?_
          rintro e w14 ⟨rfl, hb⟩
          replace HB := Lib.hid (bt HB.out hb)
          clear hb
          go_wp2
          go_ret
          exact ⟨rfl, HB.out⟩
        have hkl : k < n := by omega
        have hki : (k : Int) < (n : Int) := by omega
        obtain rfl := P3.out (by omega)
        obtain rfl := R3.out (by omega)
        obtain ⟨p, p4', pq⟩ := P4.out k hkl
        obtain ⟨r, r4', rq⟩ := R4.out k hkl
        have HPQ := Lib.hid (show RatR w12 (.agg #[.bool p.n1, .slice p.a1 p.k1 p.c1, .bool p.n2, .slice p.a2 p.k2 p.c2]) (fx k) from pq)
        have HRQ := Lib.hid (show RatR w12 (.agg #[.bool r.n1, .slice r.a1 r.k1 r.c1, .bool r.n2, .slice r.a2 r.k2 r.c2]) (fy k) from rq)
        have HP4 := Lib.hid p4'
        have HR4 := Lib.hid r4'
        have hLl := HN.out.len
        have hMl := HMM.out.len
        have rp : Rg 14000000000 (fx k) := HRX.out k hkl
        have rr : Rg 14000000000 (fy k) := HRY.out k hkl
        have rk : Rg 14000000000 kq := Rg.mono (Rg.of (FewD.fw HFQ.out)) (by decide)
        clear pq rq p4' r4'
        go_wp2_with fail
        have HLS := Lib.hid (fun (w' : World) (hb : Below w12.heap.size w12 w') => (⟨keepc hb HP4.out.1, keepc hb HP4.out.2.1, keepc hb HP4.out.2.2.1, keepc hb HP4.out.2.2.2, keepc hb HR4.out.1, keepc hb HR4.out.2.1, keepc hb HR4.out.2.2.1, keepc hb HR4.out.2.2.2, keepc hb (res4_facts HKC.out).1.1, keepc hb (res4_facts HKC.out).1.2.1, keepc hb (res4_facts HKC.out).1.2.2.1, keepc hb (res4_facts HKC.out).1.2.2.2⟩ : w'.cell? ⟨bE, oE + k * 4, none⟩ = some (.bool p.n1) ∧ w'.cell? ⟨bE, oE + k * 4 + 1, none⟩ = some (.slice p.a1 p.k1 p.c1) ∧ w'.cell? ⟨bE, oE + k * 4 + 2, none⟩ = some (.bool p.n2) ∧ w'.cell? ⟨bE, oE + k * 4 + 3, none⟩ = some (.slice p.a2 p.k2 p.c2) ∧ w'.cell? ⟨bF, oF + k * 4, none⟩ = some (.bool r.n1) ∧ w'.cell? ⟨bF, oF + k * 4 + 1, none⟩ = some (.slice r.a1 r.k1 r.c1) ∧ w'.cell? ⟨bF, oF + k * 4 + 2, none⟩ = some (.bool r.n2) ∧ w'.cell? ⟨bF, oF + k * 4 + 3, none⟩ = some (.slice r.a2 r.k2 r.c2) ∧ w'.cell? ⟨w7.heap.size, 0, none⟩ = some (.bool t.n1) ∧ w'.cell? ⟨w7.heap.size, 1, none⟩ = some (.slice t.a1 t.k1 t.c1) ∧ w'.cell? ⟨w7.heap.size, 2, none⟩ = some (.bool t.n2) ∧ w'.cell? ⟨w7.heap.size, 3, none⟩ = some (.slice t.a2 t.k2 t.c2)))
        refine wp_region_held_drew (S := fun w' => w'.cell? ⟨bE, oE + k * 4, none⟩ = some (.bool p.n1) ∧ w'.cell? ⟨bE, oE + k * 4 + 1, none⟩ = some (.slice p.a1 p.k1 p.c1) ∧ w'.cell? ⟨bE, oE + k * 4 + 2, none⟩ = some (.bool p.n2) ∧ w'.cell? ⟨bE, oE + k * 4 + 3, none⟩ = some (.slice p.a2 p.k2 p.c2) ∧ w'.cell? ⟨bF, oF + k * 4, none⟩ = some (.bool r.n1) ∧ w'.cell? ⟨bF, oF + k * 4 + 1, none⟩ = some (.slice r.a1 r.k1 r.c1) ∧ w'.cell? ⟨bF, oF + k * 4 + 2, none⟩ = some (.bool r.n2) ∧ w'.cell? ⟨bF, oF + k * 4 + 3, none⟩ = some (.slice r.a2 r.k2 r.c2) ∧ w'.cell? ⟨w7.heap.size, 0, none⟩ = some (.bool t.n1) ∧ w'.cell? ⟨w7.heap.size, 1, none⟩ = some (.slice t.a1 t.k1 t.c1) ∧ w'.cell? ⟨w7.heap.size, 2, none⟩ = some (.bool t.n2) ∧ w'.cell? ⟨w7.heap.size, 3, none⟩ = some (.slice t.a2 t.k2 t.c2)) (by kernel_rfl) ?_ (fun hHeld => ?_)
        · exact HLS.out _ (Below.drew HBr.out)
        (try dsimp only at hHeld)
        refine wpAnyH_take (i := 0) (oi := ({ dst := some 138, op := Op.move (Operand.tmp 18), type := 34, pos := "law.go:180", after := #[], guard := none } : Oper)) (v := ?y3_1_v) rfl (by kernel_rfl) (by kernel_rfl) (by kernel_rfl) (fun _ _ _ h => h) (Or.inl ⟨by rfl, ?y3_1_h⟩) hHeld ?y3_1_r
        case y3_1_h => (intro w hSw; (try dsimp only at hSw); go_simp; all_goals with_reducible rfl)
        (try simp only [Act.put, List.setIfInBounds_toArray, List.set_cons_zero, List.set_cons_succ])
        refine wpAnyH_take (i := 1) (oi := ({ dst := some 139, op := Op.move (Operand.tmp 12), type := 34, pos := "law.go:180", after := #[], guard := none } : Oper)) (v := ?y3_2_v) rfl (by kernel_rfl) (by kernel_rfl) (by kernel_rfl) (fun _ _ _ h => h) (Or.inl ⟨by rfl, ?y3_2_h⟩) hHeld ?y3_2_r
        case y3_2_h => (intro w hSw; (try dsimp only at hSw); go_simp; all_goals with_reducible rfl)
        (try simp only [Act.put, List.setIfInBounds_toArray, List.set_cons_zero, List.set_cons_succ])
        refine wpAnyH_take (i := 2) (oi := ({ dst := some 140, op := Op.move (Operand.tmp 25), type := 3, pos := "law.go:180", after := #[], guard := none } : Oper)) (v := ?y3_3_v) rfl (by kernel_rfl) (by kernel_rfl) (by kernel_rfl) (fun _ _ _ h => h) (Or.inl ⟨by rfl, ?y3_3_h⟩) hHeld ?y3_3_r
        case y3_3_h => (intro w hSw; (try dsimp only at hSw); go_simp; all_goals with_reducible rfl)
        (try simp only [Act.put, List.setIfInBounds_toArray, List.set_cons_zero, List.set_cons_succ])
        refine wpAnyH_take (i := 3) (oi := ({ dst := some 141, op := Op.indexAddr 34 (Operand.tmp 139) (Operand.tmp 140), type := 0, pos := "law.go:180", after := #[{ on := 1, ground := Ground.data }, { on := 2, ground := Ground.data }], guard := none } : Oper)) (v := ?y3_4_v) rfl (by kernel_rfl) (by kernel_rfl) (by kernel_rfl) (fun _ _ _ h => h) (Or.inl ⟨by rfl, ?y3_4_h⟩) hHeld ?y3_4_r
        case y3_4_h => (intro w hSw; (try dsimp only at hSw); go_simp; all_goals with_reducible rfl)
        (try simp only [Act.put, List.setIfInBounds_toArray, List.set_cons_zero, List.set_cons_succ])
        refine wpAnyH_take (i := 4) (oi := ({ dst := some 142, op := Op.load 40 (Operand.tmp 141), type := 40, pos := "law.go:180", after := #[{ on := 3, ground := Ground.data }], guard := none } : Oper)) (v := ?y3_5_v) rfl (by kernel_rfl) (by kernel_rfl) (by kernel_rfl) (fun _ _ _ h => h) (Or.inl ⟨by rfl, ?y3_5_h⟩) hHeld ?y3_5_r
        case y3_5_h => (intro w hSw; (try dsimp only at hSw); go_simp; all_goals with_reducible rfl)
        (try simp only [Act.put, List.setIfInBounds_toArray, List.set_cons_zero, List.set_cons_succ])
        refine wpAnyH_take (i := 5) (oi := ({ dst := some 143, op := Op.move (Operand.tmp 14), type := 34, pos := "law.go:180", after := #[], guard := none } : Oper)) (v := ?y3_6_v) rfl (by kernel_rfl) (by kernel_rfl) (by kernel_rfl) (fun _ _ _ h => h) (Or.inl ⟨by rfl, ?y3_6_h⟩) hHeld ?y3_6_r
        case y3_6_h => (intro w hSw; (try dsimp only at hSw); go_simp; all_goals with_reducible rfl)
        (try simp only [Act.put, List.setIfInBounds_toArray, List.set_cons_zero, List.set_cons_succ])
        refine wpAnyH_take (i := 6) (oi := ({ dst := some 144, op := Op.move (Operand.tmp 25), type := 3, pos := "law.go:180", after := #[], guard := none } : Oper)) (v := ?y3_7_v) rfl (by kernel_rfl) (by kernel_rfl) (by kernel_rfl) (fun _ _ _ h => h) (Or.inl ⟨by rfl, ?y3_7_h⟩) hHeld ?y3_7_r
        case y3_7_h => (intro w hSw; (try dsimp only at hSw); go_simp; all_goals with_reducible rfl)
        (try simp only [Act.put, List.setIfInBounds_toArray, List.set_cons_zero, List.set_cons_succ])
        refine wpAnyH_take (i := 7) (oi := ({ dst := some 145, op := Op.indexAddr 34 (Operand.tmp 143) (Operand.tmp 144), type := 0, pos := "law.go:180", after := #[{ on := 5, ground := Ground.data }, { on := 6, ground := Ground.data }], guard := none } : Oper)) (v := ?y3_8_v) rfl (by kernel_rfl) (by kernel_rfl) (by kernel_rfl) (fun _ _ _ h => h) (Or.inl ⟨by rfl, ?y3_8_h⟩) hHeld ?y3_8_r
        case y3_8_h => (intro w hSw; (try dsimp only at hSw); go_simp; all_goals with_reducible rfl)
        (try simp only [Act.put, List.setIfInBounds_toArray, List.set_cons_zero, List.set_cons_succ])
        refine wpAnyH_take (i := 8) (oi := ({ dst := some 146, op := Op.load 40 (Operand.tmp 145), type := 40, pos := "law.go:180", after := #[{ on := 7, ground := Ground.data }], guard := none } : Oper)) (v := ?y3_9_v) rfl (by kernel_rfl) (by kernel_rfl) (by kernel_rfl) (fun _ _ _ h => h) (Or.inl ⟨by rfl, ?y3_9_h⟩) hHeld ?y3_9_r
        case y3_9_h => (intro w hSw; (try dsimp only at hSw); go_simp; all_goals with_reducible rfl)
        (try simp only [Act.put, List.setIfInBounds_toArray, List.set_cons_zero, List.set_cons_succ])
        refine wpAnyH_take (i := 12) (oi := ({ dst := some 150, op := Op.move (Operand.tmp 19), type := 34, pos := "law.go:180", after := #[], guard := none } : Oper)) (v := ?y3_10_v) rfl (by kernel_rfl) (by kernel_rfl) (by kernel_rfl) (fun _ _ _ h => h) (Or.inl ⟨by rfl, ?y3_10_h⟩) hHeld ?y3_10_r
        case y3_10_h => (intro w hSw; (try dsimp only at hSw); go_simp; all_goals with_reducible rfl)
        (try simp only [Act.put, List.setIfInBounds_toArray, List.set_cons_zero, List.set_cons_succ])
        refine wpAnyH_take (i := 13) (oi := ({ dst := some 151, op := Op.load 40 (Operand.tmp 11), type := 40, pos := "law.go:180", after := #[], guard := none } : Oper)) (v := ?y3_11_v) rfl (by kernel_rfl) (by kernel_rfl) (by kernel_rfl) (fun _ _ _ h => h) (Or.inl ⟨by rfl, ?y3_11_h⟩) hHeld ?y3_11_r
        case y3_11_h => (intro w hSw; (try dsimp only at hSw); go_simp; all_goals with_reducible rfl)
        (try simp only [Act.put, List.setIfInBounds_toArray, List.set_cons_zero, List.set_cons_succ])
        refine wpAnyH_take (i := 14) (oi := ({ dst := some 152, op := Op.move (Operand.tmp 12), type := 34, pos := "law.go:180", after := #[], guard := none } : Oper)) (v := ?y3_12_v) rfl (by kernel_rfl) (by kernel_rfl) (by kernel_rfl) (fun _ _ _ h => h) (Or.inl ⟨by rfl, ?y3_12_h⟩) hHeld ?y3_12_r
        case y3_12_h => (intro w hSw; (try dsimp only at hSw); go_simp; all_goals with_reducible rfl)
        (try simp only [Act.put, List.setIfInBounds_toArray, List.set_cons_zero, List.set_cons_succ])
        refine wpAnyH_take (i := 15) (oi := ({ dst := some 153, op := Op.move (Operand.tmp 25), type := 3, pos := "law.go:180", after := #[], guard := none } : Oper)) (v := ?y3_13_v) rfl (by kernel_rfl) (by kernel_rfl) (by kernel_rfl) (fun _ _ _ h => h) (Or.inl ⟨by rfl, ?y3_13_h⟩) hHeld ?y3_13_r
        case y3_13_h => (intro w hSw; (try dsimp only at hSw); go_simp; all_goals with_reducible rfl)
        (try simp only [Act.put, List.setIfInBounds_toArray, List.set_cons_zero, List.set_cons_succ])
        refine wpAnyH_take (i := 16) (oi := ({ dst := some 154, op := Op.indexAddr 34 (Operand.tmp 152) (Operand.tmp 153), type := 0, pos := "law.go:180", after := #[{ on := 14, ground := Ground.data }, { on := 15, ground := Ground.data }], guard := none } : Oper)) (v := ?y3_14_v) rfl (by kernel_rfl) (by kernel_rfl) (by kernel_rfl) (fun _ _ _ h => h) (Or.inl ⟨by rfl, ?y3_14_h⟩) hHeld ?y3_14_r
        case y3_14_h => (intro w hSw; (try dsimp only at hSw); go_simp; all_goals with_reducible rfl)
        (try simp only [Act.put, List.setIfInBounds_toArray, List.set_cons_zero, List.set_cons_succ])
        refine wpAnyH_take (i := 17) (oi := ({ dst := some 155, op := Op.load 40 (Operand.tmp 154), type := 40, pos := "law.go:180", after := #[{ on := 16, ground := Ground.data }], guard := none } : Oper)) (v := ?y3_15_v) rfl (by kernel_rfl) (by kernel_rfl) (by kernel_rfl) (fun _ _ _ h => h) (Or.inl ⟨by rfl, ?y3_15_h⟩) hHeld ?y3_15_r
        case y3_15_h => (intro w hSw; (try dsimp only at hSw); go_simp; all_goals with_reducible rfl)
        (try simp only [Act.put, List.setIfInBounds_toArray, List.set_cons_zero, List.set_cons_succ])
        refine wpAnyH_ready (rs := [9]) (by kernel_rfl) (by simp) ?_
        refine AllReadyH.cons (o := ({ dst := some 147, op := Op.call { callee := Callee.value (Operand.func 11), args := #[Operand.tmp 142, Operand.tmp 146], argTypes := #[40, 40] }, type := 40, pos := "law.go:180", after := #[{ on := 4, ground := Ground.data }, { on := 8, ground := Ground.data }], guard := none } : Oper)) rfl (fun K hK => ?_) AllReadyH.nil
        go_simp
        (go_at_call 11; (with_reducible refine ((ratadd_any (HPQ.out.below (Below.drew HBr.out)) (HRQ.out.below (Below.drew HBr.out)) rp rr (by decide)).mono fun _ _ h => h.plain).mono ?_); rintro e wa ⟨g1, g2, g3, g4, g5, g6, g7, g8, rfl, hm, hbb⟩; have HZ9 := Lib.hid (bt (Below.drew (Below.refl wr.heap.size wr)) hbb); have HX9 := Lib.hid hm; clear hm hbb)
        first | refine hK.out _ _ ?_ (fun hHeld => ?_) | (go_wp2_with fail; refine hK.out _ _ ?_ (fun hHeld => ?_))
        · exact HLS.out _ (bt HBr.out HZ9.out)
        clear hK K
        (try dsimp only at hHeld)
        (try simp only [Act.put, List.setIfInBounds_toArray, List.set_cons_zero, List.set_cons_succ])
        refine wpAnyH_ready (rs := [10]) (by kernel_rfl) (by simp) ?_
        refine AllReadyH.cons (o := ({ dst := some 148, op := Op.buildSlice 34 1 #[(0, Operand.tmp 147)], type := 34, pos := "law.go:180", after := #[{ on := 9, ground := Ground.data }], guard := none } : Oper)) rfl (fun K hK => ?_) AllReadyH.nil
        go_simp
        (obtain ⟨wb, hW, hs, hb, hx⟩ := alloc1 wa (.cells #[.bool g1, .slice g2 g3 g4, .bool g5, .slice g6 g7 g8] 40); rw [← hW]; have HZ10 := Lib.hid (bt HZ9.out hb); replace HX9 := Lib.hid (show RatN wb ⟨g1, g2, g3, g4, g5, g6, g7, g8⟩ _ from HX9.out.below hb); have HK9 := Lib.hid hx; clear hW hs hb hx)
        first | refine hK.out _ _ ?_ (fun hHeld => ?_) | (go_wp2_with fail; refine hK.out _ _ ?_ (fun hHeld => ?_))
        · exact HLS.out _ (bt HBr.out HZ10.out)
        clear hK K
        (try dsimp only at hHeld)
        (try simp only [Act.put, List.setIfInBounds_toArray, List.set_cons_zero, List.set_cons_succ])
        refine wpAnyH_ready (rs := [11]) (by kernel_rfl) (by simp) ?_
        refine AllReadyH.cons (o := ({ dst := some 149, op := Op.call { callee := Callee.builtin Builtin.append, args := #[Operand.tmp 138, Operand.tmp 148], argTypes := #[34, 34] }, type := 34, pos := "law.go:180", after := #[{ on := 0, ground := Ground.data }, { on := 10, ground := Ground.data }, { on := 9, ground := Ground.chain }], guard := none } : Oper)) rfl (fun K hK => ?_) AllReadyH.nil
        (have HNb := Lib.hid (HN.out.below HZ10.out); refine step_append_at (G := notInt) _ rfl (.tmp 138) (.tmp 148) 34 rfl w12.heap.size 40 i2 (.agg #[.bool false, .slice none 0 0, .bool false, .slice none 0 0]) 4 64 Tryd.underlying34 hi2 hz20 hz21 hz22 rfl (by decide) sv Ls.length (flat Ls) rfl HNb.out.own.good ⟨wa.heap.size, 0, none⟩ 1 1 (flat [⟨g1, g2, g3, g4, g5, g6, g7, g8⟩]) rfl rfl (row_cells HK9.out) (fun u hu => (flat_one u hu).1) (by unfold maxLen; omega) (by omega) (by have := HBr.out.size; have := HZ10.out.size; omega) (fun u hu => (flat_one u hu).2) zero_notInt ?_; intro s' wc ho hg hat; have HBc := Lib.hid (grown_below (bt HBr.out HZ10.out) HNb.out.own.own hg (Nat.le_refl _) (by have := HBr.out.size; have := HZ10.out.size; omega)); have HNc := Lib.hid (HNb.out.snoc ho.noInts hg HX9.out); have HMc := Lib.hid ((HMM.out.below HZ10.out).side hg HAP.out.symm HNb.out.own.free); have HAPc := Lib.hid (HAP.out.grow hat (HMM.out.below HZ10.out).lt); clear ho hg hat HNb)
        first | refine hK.out _ _ ?_ (fun hHeld => ?_) | (go_wp2_with fail; refine hK.out _ _ ?_ (fun hHeld => ?_))
        · exact HLS.out _ HBc.out
        clear hK K
        (try dsimp only at hHeld)
        (try simp only [Act.put, List.setIfInBounds_toArray, List.set_cons_zero, List.set_cons_succ])
        refine wpAnyH_ready (rs := [18]) (by kernel_rfl) (by simp) ?_
        refine AllReadyH.cons (o := ({ dst := some 156, op := Op.call { callee := Callee.value (Operand.func 12), args := #[Operand.tmp 151, Operand.tmp 155], argTypes := #[40, 40] }, type := 40, pos := "law.go:180", after := #[{ on := 13, ground := Ground.data }, { on := 17, ground := Ground.data }, { on := 11, ground := Ground.chain }], guard := none } : Oper)) rfl (fun K hK => ?_) AllReadyH.nil
        go_simp
        (go_at_call 12; (with_reducible refine ((ratmul_any (HTQ.out.below HBc.out) (HPQ.out.below HBc.out) rk rp (by decide)).mono fun _ _ h => h.plain).mono ?_); rintro e wd ⟨j1, j2, j3, j4, j5, j6, j7, j8, rfl, hm, hbb⟩; have HZ18 := Lib.hid hbb; have HX18 := Lib.hid hm; clear hm hbb)
        first | refine hK.out _ _ ?_ (fun hHeld => ?_) | (go_wp2_with fail; refine hK.out _ _ ?_ (fun hHeld => ?_))
        · exact HLS.out _ (bt HBc.out HZ18.out)
        clear hK K
        (try dsimp only at hHeld)
        (try simp only [Act.put, List.setIfInBounds_toArray, List.set_cons_zero, List.set_cons_succ])
        refine wpAnyH_ready (rs := [19]) (by kernel_rfl) (by simp) ?_
        refine AllReadyH.cons (o := ({ dst := some 157, op := Op.buildSlice 34 1 #[(0, Operand.tmp 156)], type := 34, pos := "law.go:180", after := #[{ on := 18, ground := Ground.data }], guard := none } : Oper)) rfl (fun K hK => ?_) AllReadyH.nil
        go_simp
        (obtain ⟨we, hW, hs, hb, hx⟩ := alloc1 wd (.cells #[.bool j1, .slice j2 j3 j4, .bool j5, .slice j6 j7 j8] 40); rw [← hW]; have HZ19 := Lib.hid (bt HZ18.out hb); replace HX18 := Lib.hid (show RatN we ⟨j1, j2, j3, j4, j5, j6, j7, j8⟩ _ from HX18.out.below hb); have HK18 := Lib.hid hx; clear hW hs hb hx)
        first | refine hK.out _ _ ?_ (fun hHeld => ?_) | (go_wp2_with fail; refine hK.out _ _ ?_ (fun hHeld => ?_))
        · exact HLS.out _ (bt HBc.out HZ19.out)
        clear hK K
        (try dsimp only at hHeld)
        (try simp only [Act.put, List.setIfInBounds_toArray, List.set_cons_zero, List.set_cons_succ])
        refine wpAnyH_ready (rs := [20]) (by kernel_rfl) (by simp) ?_
        refine AllReadyH.cons (o := ({ dst := some 158, op := Op.call { callee := Callee.builtin Builtin.append, args := #[Operand.tmp 150, Operand.tmp 157], argTypes := #[34, 34] }, type := 34, pos := "law.go:180", after := #[{ on := 12, ground := Ground.data }, { on := 19, ground := Ground.data }, { on := 18, ground := Ground.chain }], guard := none } : Oper)) rfl (fun K hK => ?_) AllReadyH.nil
        (have HNb := Lib.hid (HMc.out.below HZ19.out); refine step_append_at (G := notInt) _ rfl (.tmp 150) (.tmp 157) 34 rfl w12.heap.size 40 i2 (.agg #[.bool false, .slice none 0 0, .bool false, .slice none 0 0]) 4 64 Tryd.underlying34 hi2 hz20 hz21 hz22 rfl (by decide) tv Ms.length (flat Ms) rfl HNb.out.own.good ⟨wd.heap.size, 0, none⟩ 1 1 (flat [⟨j1, j2, j3, j4, j5, j6, j7, j8⟩]) rfl rfl (row_cells HK18.out) (fun u hu => (flat_one u hu).1) (by unfold maxLen; omega) (by omega) (by have := HBc.out.size; have := HZ19.out.size; omega) (fun u hu => (flat_one u hu).2) zero_notInt ?_; intro t' wf ho hg hat; have HBf := Lib.hid (grown_below (bt HBc.out HZ19.out) HNb.out.own.own hg (Nat.le_refl _) (by have := HBc.out.size; have := HZ19.out.size; omega)); have HMf := Lib.hid (HNb.out.snoc ho.noInts hg HX18.out); have HNf := Lib.hid ((HNc.out.below HZ19.out).side hg HAPc.out HNb.out.own.free); have HAPf := Lib.hid (HAPc.out.symm.grow hat (HNc.out.below HZ19.out).lt).symm; clear ho hg hat HNb)
        first | refine hK.out _ _ ?_ (fun hHeld => ?_) | (go_wp2_with fail; refine hK.out _ _ ?_ (fun hHeld => ?_))
        · exact HLS.out _ HBf.out
        clear hK K
        (try dsimp only at hHeld)
        (try simp only [Act.put, List.setIfInBounds_toArray, List.set_cons_zero, List.set_cons_succ])
        refine wpAnyH_take (i := 21) (oi := ({ dst := some 18, op := Op.assign (Operand.tmp 149), type := 34, pos := "law.go:180", after := #[{ on := 11, ground := Ground.data }, { on := 20, ground := Ground.chain }, { on := 0, ground := Ground.phase }, { on := 1, ground := Ground.phase }, { on := 2, ground := Ground.phase }, { on := 3, ground := Ground.phase }, { on := 4, ground := Ground.phase }, { on := 5, ground := Ground.phase }, { on := 6, ground := Ground.phase }, { on := 7, ground := Ground.phase }, { on := 8, ground := Ground.phase }, { on := 9, ground := Ground.phase }, { on := 10, ground := Ground.phase }, { on := 11, ground := Ground.phase }, { on := 12, ground := Ground.textOnly Departure.lateStores }, { on := 13, ground := Ground.textOnly Departure.lateStores }, { on := 14, ground := Ground.textOnly Departure.lateStores }, { on := 15, ground := Ground.textOnly Departure.lateStores }, { on := 16, ground := Ground.textOnly Departure.lateStores }, { on := 17, ground := Ground.textOnly Departure.lateStores }, { on := 18, ground := Ground.textOnly Departure.lateStoresUnsure }, { on := 19, ground := Ground.textOnly Departure.lateStores }, { on := 20, ground := Ground.textOnly Departure.lateStoresUnsure }], guard := none } : Oper)) (v := ?y3_16_v) rfl (by kernel_rfl) (by kernel_rfl) (by kernel_rfl) (fun _ _ _ h => h) (Or.inl ⟨by rfl, ?y3_16_h⟩) hHeld ?y3_16_r
        case y3_16_h => (intro w hSw; (try dsimp only at hSw); go_simp; all_goals with_reducible rfl)
        (try simp only [Act.put, List.setIfInBounds_toArray, List.set_cons_zero, List.set_cons_succ])
        refine wpAnyH_take (i := 22) (oi := ({ dst := some 19, op := Op.assign (Operand.tmp 158), type := 34, pos := "law.go:180", after := #[{ on := 20, ground := Ground.data }, { on := 21, ground := Ground.chain }, { on := 0, ground := Ground.phase }, { on := 1, ground := Ground.phase }, { on := 2, ground := Ground.phase }, { on := 3, ground := Ground.phase }, { on := 4, ground := Ground.phase }, { on := 5, ground := Ground.phase }, { on := 6, ground := Ground.phase }, { on := 7, ground := Ground.phase }, { on := 8, ground := Ground.phase }, { on := 9, ground := Ground.phase }, { on := 10, ground := Ground.phase }, { on := 11, ground := Ground.phase }, { on := 12, ground := Ground.phase }, { on := 13, ground := Ground.phase }, { on := 14, ground := Ground.phase }, { on := 15, ground := Ground.phase }, { on := 16, ground := Ground.phase }, { on := 17, ground := Ground.phase }, { on := 18, ground := Ground.phase }, { on := 19, ground := Ground.phase }, { on := 20, ground := Ground.phase }, { on := 21, ground := Ground.phase }], guard := none } : Oper)) (v := ?y3_17_v) rfl (by kernel_rfl) (by kernel_rfl) (by kernel_rfl) (fun _ _ _ h => h) (Or.inl ⟨by rfl, ?y3_17_h⟩) hHeld ?y3_17_r
        case y3_17_h => (intro w hSw; (try dsimp only at hSw); go_simp; all_goals with_reducible rfl)
        (try simp only [Act.put, List.setIfInBounds_toArray, List.set_cons_zero, List.set_cons_succ])
        refine wpAnyH_done (by kernel_rfl) ?_ _
        clear HLS
        go_wp2
        go_roundw
        case rel => (first | exact ⟨k + 1, _, _, _, _, rfl, rfl, by go_num, by omega, HNf.out, HMf.out, HAPf.out, HBf.out⟩ | ((repeat apply Exists.intro); exact ⟨⟨k + 1, _, _, _, _, rfl, rfl, by go_num, by omega, HNf.out, HMf.out, HAPf.out, HBf.out⟩, rfl⟩))
        case measure => (simp [intOf]; omega)
    have hkl : k < n := by omega
    have hki : (k : Int) < (n : Int) := by omega
    obtain rfl := P3.out (by omega)
    obtain rfl := R3.out (by omega)
    obtain ⟨p, p4', pq⟩ := P4.out k hkl
    obtain ⟨r, r4', rq⟩ := R4.out k hkl
    have HPQ := Lib.hid (show RatR w10 (.agg #[.bool p.n1, .slice p.a1 p.k1 p.c1, .bool p.n2, .slice p.a2 p.k2 p.c2]) (ratV 3 x k) from pq)
    have HRQ := Lib.hid (show RatR w10 (.agg #[.bool r.n1, .slice r.a1 r.k1 r.c1, .bool r.n2, .slice r.a2 r.k2 r.c2]) (ratV 5 y k) from rq)
    have HP4 := Lib.hid p4'
    have HR4 := Lib.hid r4'
    have hLl := HN.out.len
    have hMl := HMM.out.len
    have rp : Rg 5 (ratV 3 x k) := Rg.of (FewD.fw (HFX.out k hkl))
    have rr : Rg 5 (ratV 5 y k) := Rg.of (FewD.fw (HFY.out k hkl))
    have rk := Rg.of (FewD.fw HFQ.out)
    clear pq rq p4' r4'
    go_wp2_with fail
    have HLS := Lib.hid (fun (w' : World) (hb : Below w10.heap.size w10 w') => (⟨keepc hb HP4.out.1, keepc hb HP4.out.2.1, keepc hb HP4.out.2.2.1, keepc hb HP4.out.2.2.2, keepc hb HR4.out.1, keepc hb HR4.out.2.1, keepc hb HR4.out.2.2.1, keepc hb HR4.out.2.2.2, keepc hb (res4_facts HKC.out).1.1, keepc hb (res4_facts HKC.out).1.2.1, keepc hb (res4_facts HKC.out).1.2.2.1, keepc hb (res4_facts HKC.out).1.2.2.2⟩ : w'.cell? ⟨bP, oP + k * 4, none⟩ = some (.bool p.n1) ∧ w'.cell? ⟨bP, oP + k * 4 + 1, none⟩ = some (.slice p.a1 p.k1 p.c1) ∧ w'.cell? ⟨bP, oP + k * 4 + 2, none⟩ = some (.bool p.n2) ∧ w'.cell? ⟨bP, oP + k * 4 + 3, none⟩ = some (.slice p.a2 p.k2 p.c2) ∧ w'.cell? ⟨bR, oR + k * 4, none⟩ = some (.bool r.n1) ∧ w'.cell? ⟨bR, oR + k * 4 + 1, none⟩ = some (.slice r.a1 r.k1 r.c1) ∧ w'.cell? ⟨bR, oR + k * 4 + 2, none⟩ = some (.bool r.n2) ∧ w'.cell? ⟨bR, oR + k * 4 + 3, none⟩ = some (.slice r.a2 r.k2 r.c2) ∧ w'.cell? ⟨w7.heap.size, 0, none⟩ = some (.bool t.n1) ∧ w'.cell? ⟨w7.heap.size, 1, none⟩ = some (.slice t.a1 t.k1 t.c1) ∧ w'.cell? ⟨w7.heap.size, 2, none⟩ = some (.bool t.n2) ∧ w'.cell? ⟨w7.heap.size, 3, none⟩ = some (.slice t.a2 t.k2 t.c2)))
    refine wp_region_held_drew (S := fun w' => w'.cell? ⟨bP, oP + k * 4, none⟩ = some (.bool p.n1) ∧ w'.cell? ⟨bP, oP + k * 4 + 1, none⟩ = some (.slice p.a1 p.k1 p.c1) ∧ w'.cell? ⟨bP, oP + k * 4 + 2, none⟩ = some (.bool p.n2) ∧ w'.cell? ⟨bP, oP + k * 4 + 3, none⟩ = some (.slice p.a2 p.k2 p.c2) ∧ w'.cell? ⟨bR, oR + k * 4, none⟩ = some (.bool r.n1) ∧ w'.cell? ⟨bR, oR + k * 4 + 1, none⟩ = some (.slice r.a1 r.k1 r.c1) ∧ w'.cell? ⟨bR, oR + k * 4 + 2, none⟩ = some (.bool r.n2) ∧ w'.cell? ⟨bR, oR + k * 4 + 3, none⟩ = some (.slice r.a2 r.k2 r.c2) ∧ w'.cell? ⟨w7.heap.size, 0, none⟩ = some (.bool t.n1) ∧ w'.cell? ⟨w7.heap.size, 1, none⟩ = some (.slice t.a1 t.k1 t.c1) ∧ w'.cell? ⟨w7.heap.size, 2, none⟩ = some (.bool t.n2) ∧ w'.cell? ⟨w7.heap.size, 3, none⟩ = some (.slice t.a2 t.k2 t.c2)) (by kernel_rfl) ?_ (fun hHeld => ?_)
    · exact HLS.out _ (Below.drew HBr.out)
    (try dsimp only at hHeld)
    refine wpAnyH_take (i := 0) (oi := ({ dst := some 79, op := Op.move (Operand.tmp 16), type := 34, pos := "law.go:169", after := #[], guard := none } : Oper)) (v := ?y2_1_v) rfl (by kernel_rfl) (by kernel_rfl) (by kernel_rfl) (fun _ _ _ h => h) (Or.inl ⟨by rfl, ?y2_1_h⟩) hHeld ?y2_1_r
    case y2_1_h => (intro w hSw; (try dsimp only at hSw); go_simp; all_goals with_reducible rfl)
    (try simp only [Act.put, List.setIfInBounds_toArray, List.set_cons_zero, List.set_cons_succ])
    refine wpAnyH_take (i := 1) (oi := ({ dst := some 80, op := Op.move (Operand.tmp 9), type := 34, pos := "law.go:169", after := #[], guard := none } : Oper)) (v := ?y2_2_v) rfl (by kernel_rfl) (by kernel_rfl) (by kernel_rfl) (fun _ _ _ h => h) (Or.inl ⟨by rfl, ?y2_2_h⟩) hHeld ?y2_2_r
    case y2_2_h => (intro w hSw; (try dsimp only at hSw); go_simp; all_goals with_reducible rfl)
    (try simp only [Act.put, List.setIfInBounds_toArray, List.set_cons_zero, List.set_cons_succ])
    refine wpAnyH_take (i := 2) (oi := ({ dst := some 81, op := Op.move (Operand.tmp 20), type := 3, pos := "law.go:169", after := #[], guard := none } : Oper)) (v := ?y2_3_v) rfl (by kernel_rfl) (by kernel_rfl) (by kernel_rfl) (fun _ _ _ h => h) (Or.inl ⟨by rfl, ?y2_3_h⟩) hHeld ?y2_3_r
    case y2_3_h => (intro w hSw; (try dsimp only at hSw); go_simp; all_goals with_reducible rfl)
    (try simp only [Act.put, List.setIfInBounds_toArray, List.set_cons_zero, List.set_cons_succ])
    refine wpAnyH_take (i := 3) (oi := ({ dst := some 82, op := Op.indexAddr 34 (Operand.tmp 80) (Operand.tmp 81), type := 0, pos := "law.go:169", after := #[{ on := 1, ground := Ground.data }, { on := 2, ground := Ground.data }], guard := none } : Oper)) (v := ?y2_4_v) rfl (by kernel_rfl) (by kernel_rfl) (by kernel_rfl) (fun _ _ _ h => h) (Or.inl ⟨by rfl, ?y2_4_h⟩) hHeld ?y2_4_r
    case y2_4_h => (intro w hSw; (try dsimp only at hSw); go_simp; all_goals with_reducible rfl)
    (try simp only [Act.put, List.setIfInBounds_toArray, List.set_cons_zero, List.set_cons_succ])
    refine wpAnyH_take (i := 4) (oi := ({ dst := some 83, op := Op.load 40 (Operand.tmp 82), type := 40, pos := "law.go:169", after := #[{ on := 3, ground := Ground.data }], guard := none } : Oper)) (v := ?y2_5_v) rfl (by kernel_rfl) (by kernel_rfl) (by kernel_rfl) (fun _ _ _ h => h) (Or.inl ⟨by rfl, ?y2_5_h⟩) hHeld ?y2_5_r
    case y2_5_h => (intro w hSw; (try dsimp only at hSw); go_simp; all_goals with_reducible rfl)
    (try simp only [Act.put, List.setIfInBounds_toArray, List.set_cons_zero, List.set_cons_succ])
    refine wpAnyH_take (i := 5) (oi := ({ dst := some 84, op := Op.move (Operand.tmp 10), type := 34, pos := "law.go:169", after := #[], guard := none } : Oper)) (v := ?y2_6_v) rfl (by kernel_rfl) (by kernel_rfl) (by kernel_rfl) (fun _ _ _ h => h) (Or.inl ⟨by rfl, ?y2_6_h⟩) hHeld ?y2_6_r
    case y2_6_h => (intro w hSw; (try dsimp only at hSw); go_simp; all_goals with_reducible rfl)
    (try simp only [Act.put, List.setIfInBounds_toArray, List.set_cons_zero, List.set_cons_succ])
    refine wpAnyH_take (i := 6) (oi := ({ dst := some 85, op := Op.move (Operand.tmp 20), type := 3, pos := "law.go:169", after := #[], guard := none } : Oper)) (v := ?y2_7_v) rfl (by kernel_rfl) (by kernel_rfl) (by kernel_rfl) (fun _ _ _ h => h) (Or.inl ⟨by rfl, ?y2_7_h⟩) hHeld ?y2_7_r
    case y2_7_h => (intro w hSw; (try dsimp only at hSw); go_simp; all_goals with_reducible rfl)
    (try simp only [Act.put, List.setIfInBounds_toArray, List.set_cons_zero, List.set_cons_succ])
    refine wpAnyH_take (i := 7) (oi := ({ dst := some 86, op := Op.indexAddr 34 (Operand.tmp 84) (Operand.tmp 85), type := 0, pos := "law.go:169", after := #[{ on := 5, ground := Ground.data }, { on := 6, ground := Ground.data }], guard := none } : Oper)) (v := ?y2_8_v) rfl (by kernel_rfl) (by kernel_rfl) (by kernel_rfl) (fun _ _ _ h => h) (Or.inl ⟨by rfl, ?y2_8_h⟩) hHeld ?y2_8_r
    case y2_8_h => (intro w hSw; (try dsimp only at hSw); go_simp; all_goals with_reducible rfl)
    (try simp only [Act.put, List.setIfInBounds_toArray, List.set_cons_zero, List.set_cons_succ])
    refine wpAnyH_take (i := 8) (oi := ({ dst := some 87, op := Op.load 40 (Operand.tmp 86), type := 40, pos := "law.go:169", after := #[{ on := 7, ground := Ground.data }], guard := none } : Oper)) (v := ?y2_9_v) rfl (by kernel_rfl) (by kernel_rfl) (by kernel_rfl) (fun _ _ _ h => h) (Or.inl ⟨by rfl, ?y2_9_h⟩) hHeld ?y2_9_r
    case y2_9_h => (intro w hSw; (try dsimp only at hSw); go_simp; all_goals with_reducible rfl)
    (try simp only [Act.put, List.setIfInBounds_toArray, List.set_cons_zero, List.set_cons_succ])
    refine wpAnyH_take (i := 12) (oi := ({ dst := some 91, op := Op.move (Operand.tmp 17), type := 34, pos := "law.go:169", after := #[], guard := none } : Oper)) (v := ?y2_10_v) rfl (by kernel_rfl) (by kernel_rfl) (by kernel_rfl) (fun _ _ _ h => h) (Or.inl ⟨by rfl, ?y2_10_h⟩) hHeld ?y2_10_r
    case y2_10_h => (intro w hSw; (try dsimp only at hSw); go_simp; all_goals with_reducible rfl)
    (try simp only [Act.put, List.setIfInBounds_toArray, List.set_cons_zero, List.set_cons_succ])
    refine wpAnyH_take (i := 13) (oi := ({ dst := some 92, op := Op.load 40 (Operand.tmp 11), type := 40, pos := "law.go:169", after := #[], guard := none } : Oper)) (v := ?y2_11_v) rfl (by kernel_rfl) (by kernel_rfl) (by kernel_rfl) (fun _ _ _ h => h) (Or.inl ⟨by rfl, ?y2_11_h⟩) hHeld ?y2_11_r
    case y2_11_h => (intro w hSw; (try dsimp only at hSw); go_simp; all_goals with_reducible rfl)
    (try simp only [Act.put, List.setIfInBounds_toArray, List.set_cons_zero, List.set_cons_succ])
    refine wpAnyH_take (i := 14) (oi := ({ dst := some 93, op := Op.move (Operand.tmp 9), type := 34, pos := "law.go:169", after := #[], guard := none } : Oper)) (v := ?y2_12_v) rfl (by kernel_rfl) (by kernel_rfl) (by kernel_rfl) (fun _ _ _ h => h) (Or.inl ⟨by rfl, ?y2_12_h⟩) hHeld ?y2_12_r
    case y2_12_h => (intro w hSw; (try dsimp only at hSw); go_simp; all_goals with_reducible rfl)
    (try simp only [Act.put, List.setIfInBounds_toArray, List.set_cons_zero, List.set_cons_succ])
    refine wpAnyH_take (i := 15) (oi := ({ dst := some 94, op := Op.move (Operand.tmp 20), type := 3, pos := "law.go:169", after := #[], guard := none } : Oper)) (v := ?y2_13_v) rfl (by kernel_rfl) (by kernel_rfl) (by kernel_rfl) (fun _ _ _ h => h) (Or.inl ⟨by rfl, ?y2_13_h⟩) hHeld ?y2_13_r
    case y2_13_h => (intro w hSw; (try dsimp only at hSw); go_simp; all_goals with_reducible rfl)
    (try simp only [Act.put, List.setIfInBounds_toArray, List.set_cons_zero, List.set_cons_succ])
    refine wpAnyH_take (i := 16) (oi := ({ dst := some 95, op := Op.indexAddr 34 (Operand.tmp 93) (Operand.tmp 94), type := 0, pos := "law.go:169", after := #[{ on := 14, ground := Ground.data }, { on := 15, ground := Ground.data }], guard := none } : Oper)) (v := ?y2_14_v) rfl (by kernel_rfl) (by kernel_rfl) (by kernel_rfl) (fun _ _ _ h => h) (Or.inl ⟨by rfl, ?y2_14_h⟩) hHeld ?y2_14_r
    case y2_14_h => (intro w hSw; (try dsimp only at hSw); go_simp; all_goals with_reducible rfl)
    (try simp only [Act.put, List.setIfInBounds_toArray, List.set_cons_zero, List.set_cons_succ])
    refine wpAnyH_take (i := 17) (oi := ({ dst := some 96, op := Op.load 40 (Operand.tmp 95), type := 40, pos := "law.go:169", after := #[{ on := 16, ground := Ground.data }], guard := none } : Oper)) (v := ?y2_15_v) rfl (by kernel_rfl) (by kernel_rfl) (by kernel_rfl) (fun _ _ _ h => h) (Or.inl ⟨by rfl, ?y2_15_h⟩) hHeld ?y2_15_r
    case y2_15_h => (intro w hSw; (try dsimp only at hSw); go_simp; all_goals with_reducible rfl)
    (try simp only [Act.put, List.setIfInBounds_toArray, List.set_cons_zero, List.set_cons_succ])
    refine wpAnyH_ready (rs := [9]) (by kernel_rfl) (by simp) ?_
    refine AllReadyH.cons (o := ({ dst := some 88, op := Op.call { callee := Callee.value (Operand.func 11), args := #[Operand.tmp 83, Operand.tmp 87], argTypes := #[40, 40] }, type := 40, pos := "law.go:169", after := #[{ on := 4, ground := Ground.data }, { on := 8, ground := Ground.data }], guard := none } : Oper)) rfl (fun K hK => ?_) AllReadyH.nil
    go_simp
    (go_at_call 11; (with_reducible refine ((ratadd_any (HPQ.out.below (Below.drew HBr.out)) (HRQ.out.below (Below.drew HBr.out)) rp rr (by decide)).mono fun _ _ h => h.plain).mono ?_); rintro e wa ⟨g1, g2, g3, g4, g5, g6, g7, g8, rfl, hm, hbb⟩; have HZ9 := Lib.hid (bt (Below.drew (Below.refl wr.heap.size wr)) hbb); have HX9 := Lib.hid hm; clear hm hbb)
    first | refine hK.out _ _ ?_ (fun hHeld => ?_) | (go_wp2_with fail; refine hK.out _ _ ?_ (fun hHeld => ?_))
    · exact HLS.out _ (bt HBr.out HZ9.out)
    clear hK K
    (try dsimp only at hHeld)
    (try simp only [Act.put, List.setIfInBounds_toArray, List.set_cons_zero, List.set_cons_succ])
    refine wpAnyH_ready (rs := [10]) (by kernel_rfl) (by simp) ?_
    refine AllReadyH.cons (o := ({ dst := some 89, op := Op.buildSlice 34 1 #[(0, Operand.tmp 88)], type := 34, pos := "law.go:169", after := #[{ on := 9, ground := Ground.data }], guard := none } : Oper)) rfl (fun K hK => ?_) AllReadyH.nil
    go_simp
    (obtain ⟨wb, hW, hs, hb, hx⟩ := alloc1 wa (.cells #[.bool g1, .slice g2 g3 g4, .bool g5, .slice g6 g7 g8] 40); rw [← hW]; have HZ10 := Lib.hid (bt HZ9.out hb); replace HX9 := Lib.hid (show RatN wb ⟨g1, g2, g3, g4, g5, g6, g7, g8⟩ _ from HX9.out.below hb); have HK9 := Lib.hid hx; clear hW hs hb hx)
    first | refine hK.out _ _ ?_ (fun hHeld => ?_) | (go_wp2_with fail; refine hK.out _ _ ?_ (fun hHeld => ?_))
    · exact HLS.out _ (bt HBr.out HZ10.out)
    clear hK K
    (try dsimp only at hHeld)
    (try simp only [Act.put, List.setIfInBounds_toArray, List.set_cons_zero, List.set_cons_succ])
    refine wpAnyH_ready (rs := [11]) (by kernel_rfl) (by simp) ?_
    refine AllReadyH.cons (o := ({ dst := some 90, op := Op.call { callee := Callee.builtin Builtin.append, args := #[Operand.tmp 79, Operand.tmp 89], argTypes := #[34, 34] }, type := 34, pos := "law.go:169", after := #[{ on := 0, ground := Ground.data }, { on := 10, ground := Ground.data }, { on := 9, ground := Ground.chain }], guard := none } : Oper)) rfl (fun K hK => ?_) AllReadyH.nil
    (have HNb := Lib.hid (HN.out.below HZ10.out); refine step_append_at (G := notInt) _ rfl (.tmp 79) (.tmp 89) 34 rfl w10.heap.size 40 i2 (.agg #[.bool false, .slice none 0 0, .bool false, .slice none 0 0]) 4 64 Tryd.underlying34 hi2 hz20 hz21 hz22 rfl (by decide) sv Ls.length (flat Ls) rfl HNb.out.own.good ⟨wa.heap.size, 0, none⟩ 1 1 (flat [⟨g1, g2, g3, g4, g5, g6, g7, g8⟩]) rfl rfl (row_cells HK9.out) (fun u hu => (flat_one u hu).1) (by unfold maxLen; omega) (by omega) (by have := HBr.out.size; have := HZ10.out.size; omega) (fun u hu => (flat_one u hu).2) zero_notInt ?_; intro s' wc ho hg hat; have HBc := Lib.hid (grown_below (bt HBr.out HZ10.out) HNb.out.own.own hg (Nat.le_refl _) (by have := HBr.out.size; have := HZ10.out.size; omega)); have HNc := Lib.hid (HNb.out.snoc ho.noInts hg HX9.out); have HMc := Lib.hid ((HMM.out.below HZ10.out).side hg HAP.out.symm HNb.out.own.free); have HAPc := Lib.hid (HAP.out.grow hat (HMM.out.below HZ10.out).lt); clear ho hg hat HNb)
    first | refine hK.out _ _ ?_ (fun hHeld => ?_) | (go_wp2_with fail; refine hK.out _ _ ?_ (fun hHeld => ?_))
    · exact HLS.out _ HBc.out
    clear hK K
    (try dsimp only at hHeld)
    (try simp only [Act.put, List.setIfInBounds_toArray, List.set_cons_zero, List.set_cons_succ])
    refine wpAnyH_ready (rs := [18]) (by kernel_rfl) (by simp) ?_
    refine AllReadyH.cons (o := ({ dst := some 97, op := Op.call { callee := Callee.value (Operand.func 12), args := #[Operand.tmp 92, Operand.tmp 96], argTypes := #[40, 40] }, type := 40, pos := "law.go:169", after := #[{ on := 13, ground := Ground.data }, { on := 17, ground := Ground.data }, { on := 11, ground := Ground.chain }], guard := none } : Oper)) rfl (fun K hK => ?_) AllReadyH.nil
    go_simp
    (go_at_call 12; (with_reducible refine ((ratmul_any (HTQ.out.below HBc.out) (HPQ.out.below HBc.out) rk rp (by decide)).mono fun _ _ h => h.plain).mono ?_); rintro e wd ⟨j1, j2, j3, j4, j5, j6, j7, j8, rfl, hm, hbb⟩; have HZ18 := Lib.hid hbb; have HX18 := Lib.hid hm; clear hm hbb)
    first | refine hK.out _ _ ?_ (fun hHeld => ?_) | (go_wp2_with fail; refine hK.out _ _ ?_ (fun hHeld => ?_))
    · exact HLS.out _ (bt HBc.out HZ18.out)
    clear hK K
    (try dsimp only at hHeld)
    (try simp only [Act.put, List.setIfInBounds_toArray, List.set_cons_zero, List.set_cons_succ])
    refine wpAnyH_ready (rs := [19]) (by kernel_rfl) (by simp) ?_
    refine AllReadyH.cons (o := ({ dst := some 98, op := Op.buildSlice 34 1 #[(0, Operand.tmp 97)], type := 34, pos := "law.go:169", after := #[{ on := 18, ground := Ground.data }], guard := none } : Oper)) rfl (fun K hK => ?_) AllReadyH.nil
    go_simp
    (obtain ⟨we, hW, hs, hb, hx⟩ := alloc1 wd (.cells #[.bool j1, .slice j2 j3 j4, .bool j5, .slice j6 j7 j8] 40); rw [← hW]; have HZ19 := Lib.hid (bt HZ18.out hb); replace HX18 := Lib.hid (show RatN we ⟨j1, j2, j3, j4, j5, j6, j7, j8⟩ _ from HX18.out.below hb); have HK18 := Lib.hid hx; clear hW hs hb hx)
    first | refine hK.out _ _ ?_ (fun hHeld => ?_) | (go_wp2_with fail; refine hK.out _ _ ?_ (fun hHeld => ?_))
    · exact HLS.out _ (bt HBc.out HZ19.out)
    clear hK K
    (try dsimp only at hHeld)
    (try simp only [Act.put, List.setIfInBounds_toArray, List.set_cons_zero, List.set_cons_succ])
    refine wpAnyH_ready (rs := [20]) (by kernel_rfl) (by simp) ?_
    refine AllReadyH.cons (o := ({ dst := some 99, op := Op.call { callee := Callee.builtin Builtin.append, args := #[Operand.tmp 91, Operand.tmp 98], argTypes := #[34, 34] }, type := 34, pos := "law.go:169", after := #[{ on := 12, ground := Ground.data }, { on := 19, ground := Ground.data }, { on := 18, ground := Ground.chain }], guard := none } : Oper)) rfl (fun K hK => ?_) AllReadyH.nil
    (have HNb := Lib.hid (HMc.out.below HZ19.out); refine step_append_at (G := notInt) _ rfl (.tmp 91) (.tmp 98) 34 rfl w10.heap.size 40 i2 (.agg #[.bool false, .slice none 0 0, .bool false, .slice none 0 0]) 4 64 Tryd.underlying34 hi2 hz20 hz21 hz22 rfl (by decide) tv Ms.length (flat Ms) rfl HNb.out.own.good ⟨wd.heap.size, 0, none⟩ 1 1 (flat [⟨j1, j2, j3, j4, j5, j6, j7, j8⟩]) rfl rfl (row_cells HK18.out) (fun u hu => (flat_one u hu).1) (by unfold maxLen; omega) (by omega) (by have := HBc.out.size; have := HZ19.out.size; omega) (fun u hu => (flat_one u hu).2) zero_notInt ?_; intro t' wf ho hg hat; have HBf := Lib.hid (grown_below (bt HBc.out HZ19.out) HNb.out.own.own hg (Nat.le_refl _) (by have := HBc.out.size; have := HZ19.out.size; omega)); have HMf := Lib.hid (HNb.out.snoc ho.noInts hg HX18.out); have HNf := Lib.hid ((HNc.out.below HZ19.out).side hg HAPc.out HNb.out.own.free); have HAPf := Lib.hid (HAPc.out.symm.grow hat (HNc.out.below HZ19.out).lt).symm; clear ho hg hat HNb)
    first | refine hK.out _ _ ?_ (fun hHeld => ?_) | (go_wp2_with fail; refine hK.out _ _ ?_ (fun hHeld => ?_))
    · exact HLS.out _ HBf.out
    clear hK K
    (try dsimp only at hHeld)
    (try simp only [Act.put, List.setIfInBounds_toArray, List.set_cons_zero, List.set_cons_succ])
    refine wpAnyH_take (i := 21) (oi := ({ dst := some 16, op := Op.assign (Operand.tmp 90), type := 34, pos := "law.go:169", after := #[{ on := 11, ground := Ground.data }, { on := 20, ground := Ground.chain }, { on := 0, ground := Ground.phase }, { on := 1, ground := Ground.phase }, { on := 2, ground := Ground.phase }, { on := 3, ground := Ground.phase }, { on := 4, ground := Ground.phase }, { on := 5, ground := Ground.phase }, { on := 6, ground := Ground.phase }, { on := 7, ground := Ground.phase }, { on := 8, ground := Ground.phase }, { on := 9, ground := Ground.phase }, { on := 10, ground := Ground.phase }, { on := 11, ground := Ground.phase }, { on := 12, ground := Ground.textOnly Departure.lateStores }, { on := 13, ground := Ground.textOnly Departure.lateStores }, { on := 14, ground := Ground.textOnly Departure.lateStores }, { on := 15, ground := Ground.textOnly Departure.lateStores }, { on := 16, ground := Ground.textOnly Departure.lateStores }, { on := 17, ground := Ground.textOnly Departure.lateStores }, { on := 18, ground := Ground.textOnly Departure.lateStoresUnsure }, { on := 19, ground := Ground.textOnly Departure.lateStores }, { on := 20, ground := Ground.textOnly Departure.lateStoresUnsure }], guard := none } : Oper)) (v := ?y2_16_v) rfl (by kernel_rfl) (by kernel_rfl) (by kernel_rfl) (fun _ _ _ h => h) (Or.inl ⟨by rfl, ?y2_16_h⟩) hHeld ?y2_16_r
    case y2_16_h => (intro w hSw; (try dsimp only at hSw); go_simp; all_goals with_reducible rfl)
    (try simp only [Act.put, List.setIfInBounds_toArray, List.set_cons_zero, List.set_cons_succ])
    refine wpAnyH_take (i := 22) (oi := ({ dst := some 17, op := Op.assign (Operand.tmp 99), type := 34, pos := "law.go:169", after := #[{ on := 20, ground := Ground.data }, { on := 21, ground := Ground.chain }, { on := 0, ground := Ground.phase }, { on := 1, ground := Ground.phase }, { on := 2, ground := Ground.phase }, { on := 3, ground := Ground.phase }, { on := 4, ground := Ground.phase }, { on := 5, ground := Ground.phase }, { on := 6, ground := Ground.phase }, { on := 7, ground := Ground.phase }, { on := 8, ground := Ground.phase }, { on := 9, ground := Ground.phase }, { on := 10, ground := Ground.phase }, { on := 11, ground := Ground.phase }, { on := 12, ground := Ground.phase }, { on := 13, ground := Ground.phase }, { on := 14, ground := Ground.phase }, { on := 15, ground := Ground.phase }, { on := 16, ground := Ground.phase }, { on := 17, ground := Ground.phase }, { on := 18, ground := Ground.phase }, { on := 19, ground := Ground.phase }, { on := 20, ground := Ground.phase }, { on := 21, ground := Ground.phase }], guard := none } : Oper)) (v := ?y2_17_v) rfl (by kernel_rfl) (by kernel_rfl) (by kernel_rfl) (fun _ _ _ h => h) (Or.inl ⟨by rfl, ?y2_17_h⟩) hHeld ?y2_17_r
    case y2_17_h => (intro w hSw; (try dsimp only at hSw); go_simp; all_goals with_reducible rfl)
    (try simp only [Act.put, List.setIfInBounds_toArray, List.set_cons_zero, List.set_cons_succ])
    refine wpAnyH_done (by kernel_rfl) ?_ _
    clear HLS
    go_wp2
    go_roundw
    case rel => (first | exact ⟨k + 1, _, _, _, _, rfl, rfl, by go_num, by omega, HNf.out, HMf.out, HAPf.out, HBf.out⟩ | ((repeat apply Exists.intro); exact ⟨⟨k + 1, _, _, _, _, rfl, rfl, by go_num, by omega, HNf.out, HMf.out, HAPf.out, HBf.out⟩, rfl⟩))
    case measure => (simp [intOf]; omega)
end Go.Proofs.YtjphfdlpcakpeaaDoor
