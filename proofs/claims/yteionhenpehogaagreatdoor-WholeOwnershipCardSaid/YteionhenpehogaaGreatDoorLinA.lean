import Derived.Test.YteionhenpehogaaGreatDoorMat
import Derived.Test.YteionhenpehogaaGreatDoorRatB
import Derived.Test.YteionhenpehogaaGreatDoorPlainZ
namespace Go.Proofs.YteionhenpehogaaGreatDoor
open Go.RowKit Tally
theorem infoQ : (Tryz.prog.info? 37).map (fun i => (i.zero, i.size, i.bytes)) = some (some (.agg #[.bool false, .slice none 0 0, .bool false, .slice none 0 0]), 4, 64) := by kernel_rfl
theorem cells_new4 (w : World) (x y z u : Value) (t : TypeId) : ∀ j v, [x, y, z, u][j]? = some v → (w.alloc (.cells #[x, y, z, u] t)).cell? ((⟨w.heap.size, 0, none⟩ : Addr).add j) = some v := by
 intro j v h
 have hadd : (⟨w.heap.size, 0, none⟩ : Addr).add j = ⟨w.heap.size, j, none⟩ := by unfold Addr.add; split <;> simp_all
 rw [hadd, Lib.cell_of_heap (heap_alloc_new w _)]
 simpa using h
theorem cells_at4 (w : World) (x y z u : Value) (t : TypeId) {k : Nat} (hk : w.heap.size = k) : ∀ j v, [x, y, z, u][j]? = some v → (w.alloc (.cells #[x, y, z, u] t)).cell? ((⟨k, 0, none⟩ : Addr).add j) = some v := by
 subst hk; exact cells_new4 w x y z u t
theorem zero_notInt : ∀ u ∈ (Value.agg #[.bool false, .slice none 0 0, .bool false, .slice none 0 0]).cells, notInt u := by
 intro u hu K x e
 subst e
 simp [Value.cells] at hu
def GivesS (w : World) (n : Nat) (f : Nat → Rat) (e : Ending) (w' : World) : Prop :=
 ∃ (a : Option Addr) (c : Nat), e = .returned (.slice a n c) ∧ RatsR w' (.slice a n c) n f ∧ Below w.heap.size w w'
structure BuildN (B : Nat) (w : World) (v : Value) (L : List Num) (k : Nat) (f : Nat → Rat) : Prop where
 len : L.length = k
 own : OwnV w B 37 4 v L.length (flat L)
 num : NumsR w L f
theorem BuildN.start (B : Nat) (w : World) (f : Nat → Rat) : BuildN B w (.slice none 0 0) [] 0 f := ⟨rfl, OwnV.nil _ _ _ _, fun k x h => by simp at h⟩
theorem BuildN.rats {B : Nat} {w : World} {v : Value} {L : List Num} {k : Nat} {f : Nat → Rat} (h : BuildN B w v L k f) : ∃ a c, v = .slice a k c ∧ RatsR w (.slice a k c) k f := by
 have hs := SliN.of_own h.own.own
 have hl := h.len
 obtain ⟨a, b, o, c, hv, r⟩ := hs
 subst hv
 subst hl
 exact ⟨a, c, rfl, L, rfl, ⟨a, b, o, c, rfl, r⟩, h.num⟩
theorem OwnV.below {w w' : World} {base : Nat} {e : TypeId} {size : Nat} {v : Value} {n : Nat} {xs : List Value} (h : OwnV w base e size v n xs) (hb : Below w.heap.size w w') : OwnV w' base e size v n xs :=
 ⟨h.own.kept (row := none) ⟨hb.os, hb.tape, hb.output, hb.size, fun k hk _ => hb.block k hk⟩ (by cases hv : v.ownBlock <;> simp), fun g hg o K x e => by
  have hl := (h.own.lt g hg).2
  rw [hb.cell (p := ⟨g, o, none⟩) hl] at e
  exact h.free g hg o K x e⟩
theorem BuildN.below {B : Nat} {w w' : World} {v : Value} {L : List Num} {k : Nat} {f : Nat → Rat} (h : BuildN B w v L k f) (hb : Below w.heap.size w w') : BuildN B w' v L k f := ⟨h.len, h.own.below hb, h.num.below hb⟩
theorem BuildN.snoc {B : Nat} {w w' : World} {v v' : Value} {L : List Num} {k : Nat} {f : Nat → Rat} {x : Num} (h : BuildN B w v L k f) (ho : OwnV w' B 37 4 v' (L.length + 1) (flat L ++ flat [x])) (hg : w.grownBy w' v.ownBlock) (hx : RatN w x (f k)) : BuildN B w' v' (L ++ [x]) (k + 1) f := by
 refine ⟨by rw [List.length_append, h.len]; rfl, ?_, (h.num.grown hg h.own.free).snoc ?_⟩
 ·rw [List.length_append, flat_append]; exact ho
 ·rw [h.len]; exact RatR.grown hx hg h.own.free
theorem grown_below {B : Nat} {a w w' : World} {v : Value} {base : Nat} {e : TypeId} {size n : Nat} {xs : List Value} (h : Below B a w) (ho : w.ownsRow base e size v n xs) (hg : w.grownBy w' v.ownBlock) (hB : B ≤ base) (hs : B ≤ w.heap.size) : Below B a w' :=
 h.grown hg hs (fun j hj => by have := (ho.lt j hj).1; omega)
theorem int16_fw {z : Int} {d : Nat} (h1 : -32768 ≤ z) (h2 : z ≤ 32767) (hd : d ≤ 255) : Rg 5 (Rat.divInt z (max 1 (d : Int))) := by
 have e : (10 : Nat) ^ 5 = 100000 := by decide
 have h3 : z.natAbs < 10 ^ 5 := by omega
 have h4 : (max 1 (d : Int)).natAbs < 10 ^ 5 := by omega
 exact (fw_divInt (by omega) h3 h4 : Fw 5 _)
set_option maxHeartbeats 2000000 in
set_option maxRecDepth 100000 in
theorem numbers_any {w : World} {v : Value} {n d : Nat} {z : Nat → Int} (h : RowR w v n fun i => .int .i16 (z i)) (hz : ∀ i, i < n → -32768 ≤ z i ∧ z i ≤ 32767) (hd : d ≤ 255) (hn : n ≤ 1000000000) :
  Calls Tryz.prog 33 #[v, .int .u8 d] w (GivesS w n fun i => Rat.divInt (z i) (max 1 (d : Int))) := by
 obtain ⟨i0, hi, hz0, hz1, hz2⟩ := info_parts infoQ
 obtain ⟨a, b, o, c, rfl, hnc, hcm, ha, hr⟩ := h
 have HA := Lib.hid ha
 have HR := Lib.hid hr
 have HZ := Lib.hid hz
 clear ha hr hz
 go_enter Tryz.func33, Tryz.ntmps33
 go_wp2
 go_loopw [5, 6] (fun s i wr => ∃ (k : Nat) (L : List Num) (sv : Value), sv = s ∧ i = .int .i64 k ∧ k ≤ n ∧ BuildN w.heap.size wr s L k (fun i => Rat.divInt (z i) (max 1 (d : Int))) ∧ Below w.heap.size w wr) (fun _ i _ => n - (intOf i).toNat)
 case atStart => exact ⟨0, [], _, rfl, rfl, by omega, BuildN.start _ _ _, Below.refl _ _⟩
 case round =>
  obtain ⟨k, L, s, rfl, rfl, hk, hbn, hbr⟩ := hrel
  have HN := Lib.hid hbn
  have HB := Lib.hid hbr
  clear hbn hbr
  by_cases hkn : k = n
  ·subst hkn
   obtain ⟨a', c', rfl, hrr⟩ := HN.out.rats
   have HRR := Lib.hid hrr
   clear hrr
   go_wp2
   go_ret
   exact ⟨a', c', rfl, HRR.out, HB.out⟩
  ·have hkl : k < n := by omega
   have hki : (k : Int) < (n : Int) := by omega
   obtain rfl := HA.out (by omega)
   have c1 := HR.out k hkl
   have c2 := keepc HB.out c1
   obtain ⟨z1, z2⟩ := HZ.out k hkl
   have RN := Lib.hid (int16_fw z1 z2 hd)
   go_wp2_with fail
   (with_reducible refine (ratof_any (d := max 1 (d : Int)) (by omega) (by omega) (by omega) (by omega) (by omega)).mono ?_)
   rintro e w1 ⟨n1, a1, k1, c1', n2, a2, k2, c2', rfl, hx1, hx2, hb1⟩
   have HX := Lib.hid (show RatN w1 ⟨n1, a1, k1, c1', n2, a2, k2, c2'⟩ (Rat.divInt (z k) (max 1 (d : Int))) from RatR.mk hx1 hx2 (.inl rfl))
   replace HN := Lib.hid (HN.out.below hb1)
   replace HB := Lib.hid (bt HB.out hb1)
   clear hx1 hx2 hb1 c2
   have HO := Lib.hid (HN.out.own)
   have hlen := HN.out.len
   have hbs := HB.out.size
   go_wp2_with (at_builtin; refine wpList_append_free _ rfl _ _ 26 rfl w.heap.size 37 i0 (.agg #[.bool false, .slice none 0 0, .bool false, .slice none 0 0]) 4 64 Tryz.underlying26 hi hz0 hz1 hz2 rfl (by decide) _ _ _ rfl (HO.out.below (allocs_below2 _ _ _)) ⟨w1.heap.size + 1, 0, none⟩ 1 1 (flat [⟨n1, a1, k1, c1', n2, a2, k2, c2'⟩]) rfl rfl ?_ (fun u hu => (flat_one u hu).1) (by unfold maxLen; omega) (by omega) (by simp; have := HB.out.size; omega) (fun u hu => (flat_one u hu).2) zero_notInt ?_)
   ·exact cells_at4 _ _ _ _ _ _ (by simp)
   ·intro v' w2 ho hg _
    have hb2 := allocs_below2 w1 (.cells #[.bool n1, .slice a1 k1 c1', .bool n2, .slice a2 k2 c2'] 37) (.cells #[.bool n1, .slice a1 k1 c1', .bool n2, .slice a2 k2 c2'] 37)
    have HN2 := Lib.hid (BuildN.snoc (HN.out.below hb2) (by rw [hlen]; exact ho) hg (RatR.below HX.out hb2))
    have HB2 := Lib.hid (grown_below (bt HB.out hb2) (HO.out.below hb2).own hg (Nat.le_refl _) (by simp; omega))
    clear ho hg hb2
    go_wp2
    go_roundw
    case rel => exact ⟨k + 1, _, _, rfl, by go_num, by omega, HN2.out, HB2.out⟩
    case measure => simp [intOf]; omega
def colsN (m : Nat) (L : Nat → Nat) : Nat := if m = 0 then 0 else L 0
def IsMat (m : Nat) (L : Nat → Nat) : Prop := (∀ i, i < m → L i = colsN m L) ∧ m ≤ 24 ∧ colsN m L ≤ 24
set_option maxHeartbeats 1000000 in
theorem columns_any {w : World} {v : Value} {m : Nat} {L : Nat → Nat} {A : Nat → Nat → Rat} (h : MatsR w v m L A) :
  Calls Tryz.prog 91 #[v] w fun e w' => e = .returned (.int .i64 (colsN m L : Nat)) ∧ w' = w := by
 obtain ⟨a, c, rfl⟩ := h.shape
 obtain ⟨h1, h2, b, o, h3, h4⟩ := h.parts
 have hm0 : (m : Int) ≤ 9223372036854775807 := by omega
 by_cases hm : m = 0
 ·subst hm
  clear h h3 h4
  rw [show colsN 0 L = 0 from rfl]
  go_enter Tryz.func91, Tryz.ntmps91
  go_wp2
  go_ret
  exact ⟨rfl, rfl⟩
 ·have hp : 0 < m := by omega
  obtain rfl := h3 hp
  obtain ⟨a', c', q1, _⟩ := h4 0 hp
  have hne : ((m : Int) == 0) = false := by rw [beq_eq_false_iff_ne]; omega
  have hlt : (0 : Int) < (m : Int) := by omega
  simp only [Nat.add_zero] at q1
  rw [show colsN m L = L 0 from if_neg hm]
  clear h h3 h4 hm
  go_enter Tryz.func91, Tryz.ntmps91
  go_wp2
  go_ret
  exact ⟨rfl, rfl⟩
set_option maxHeartbeats 2000000 in
set_option maxRecDepth 100000 in
theorem valid_any {w : World} {v : Value} {m : Nat} {L : Nat → Nat} {A : Nat → Nat → Rat} (h : MatsR w v m L A) (X : Bool) (hX : X = true ↔ IsMat m L) :
  Calls Tryz.prog 43 #[v] w fun e w' => e = .returned (.bool X) ∧ w' = w := by
 have H := Lib.hid h
 have HX := Lib.hid hX
 obtain ⟨a, c, rfl⟩ := h.shape
 obtain ⟨h1, h2, b, o, h3, h4⟩ := h.parts
 obtain ⟨C, hC⟩ : ∃ C, colsN m L = C := ⟨_, rfl⟩
 have HC := Lib.hid hC
 have H3 := Lib.hid h3
 have H4 := Lib.hid h4
 clear h h3 h4 hC hX
 go_enter Tryz.func43, Tryz.ntmps43
 go_wp2
 go_loopw [7] (fun i wr => ∃ (k : Nat), wr = w ∧ i = .int .i64 k ∧ k ≤ m ∧ ∀ j, j < k → L j = C) (fun i _ => m - (intOf i).toNat)
 case atStart => exact ⟨0, rfl, rfl, by omega, fun j hj => by omega⟩
 case round =>
  obtain ⟨k, rfl, rfl, hk, hall⟩ := hrel
  have HA := Lib.hid hall
  clear hall
  by_cases hkm : k = m
  ·subst hkm
   by_cases hm24 : k ≤ 24
   ·have hm25 : (k : Int) ≤ 24 := by omega
    go_wp2_with fail
    refine (columns_any H.out).mono ?_
    rintro e w' ⟨rfl, rfl⟩
    rw [HC.out]
    by_cases hc24 : C ≤ 24
    ·have hc25 : (C : Int) ≤ 24 := by omega
     obtain rfl : X = true := HX.out.2 ⟨fun i hi => (HA.out i hi).trans HC.out.symm, hm24, by rw [HC.out]; exact hc24⟩
     go_wp2
     go_ret
     exact ⟨by simp, rfl⟩
    ·have hc25 : ¬ (C : Int) ≤ 24 := by omega
     obtain rfl : X = false := by
      rcases hx : X with _ | _
      ·rfl
      ·exact absurd (HX.out.1 hx).2.2 (by rw [HC.out]; exact hc24)
     go_wp2
     go_ret
     exact ⟨by simp [hc25], rfl⟩
   ·have hm25 : ¬ (k : Int) ≤ 24 := by omega
    obtain rfl : X = false := by
     rcases hx : X with _ | _
     ·rfl
     ·exact absurd (HX.out.1 hx).2.1 hm24
    go_wp2
    go_ret
    exact ⟨rfl, rfl⟩
  ·have hkl : k < m := by omega
   have hki : (k : Int) < (m : Int) := by omega
   obtain rfl := H3.out (by omega)
   obtain ⟨a', c', q1, _⟩ := H4.out k hkl
   go_wp2_with fail
   refine (columns_any H.out).mono ?_
   rintro e w' ⟨rfl, rfl⟩
   rw [HC.out]
   by_cases he : L k = C
   ·have HK := Lib.hid (show ∀ j, j < k + 1 → L j = C from fun j hj => by
     by_cases e : j = k
     ·rw [e]; exact he
     ·exact HA.out j (by omega))
    have heq : ((L k : Int) == (C : Int)) = true := by rw [he]; exact beq_self_eq_true _
    clear he
    go_wp2
    refine ⟨⟨k + 1, trivial, by go_num, by omega, HK.out⟩, ?_⟩
    show m - ((k : Int) + 1).toNat < m - (k : Int).toNat
    omega
   ·have hne : ((L k : Int) == (C : Int)) = false := by rw [beq_eq_false_iff_ne]; omega
    obtain rfl : X = false := by
     rcases hx : X with _ | _
     ·rfl
     ·exact absurd ((HX.out.1 hx).1 k hkl) (by rw [HC.out]; exact he)
    go_wp2
    go_ret
    exact ⟨rfl, rfl⟩
set_option maxHeartbeats 1000000 in
theorem square_any {w : World} {v : Value} {m : Nat} {L : Nat → Nat} {A : Nat → Nat → Rat} (h : MatsR w v m L A) (X : Bool) (hX : X = true ↔ IsMat m L ∧ m = colsN m L) :
  Calls Tryz.prog 84 #[v] w fun e w' => e = .returned (.bool X) ∧ w' = w := by
 have H := Lib.hid h
 have HX := Lib.hid hX
 obtain ⟨a, c, rfl⟩ := h.shape
 clear h hX
 by_cases hv : IsMat m L
 ·go_enter Tryz.func84, Tryz.ntmps84
  go_wp2_with fail
  refine (valid_any H.out true (iff_of_true rfl hv)).mono ?_
  rintro e w' ⟨rfl, rfl⟩
  go_wp2_with fail
  refine (columns_any H.out).mono ?_
  rintro e w' ⟨rfl, rfl⟩
  by_cases he : m = colsN m L
  ·obtain rfl : X = true := HX.out.2 ⟨hv, he⟩
   rw [← he]
   clear he
   go_wp2
   go_ret
   exact ⟨by simp, rfl⟩
  ·have hne : ((m : Int) == (colsN m L : Int)) = false := by rw [beq_eq_false_iff_ne]; omega
   obtain rfl : X = false := by
    rcases hx : X with _ | _
    ·rfl
    ·exact absurd (HX.out.1 hx).2 he
   go_wp2
   go_ret
   exact ⟨by simp, rfl⟩
 ·obtain rfl : X = false := by
   rcases hx : X with _ | _
   ·rfl
   ·exact absurd (HX.out.1 hx).1 hv
  go_enter Tryz.func84, Tryz.ntmps84
  go_wp2_with fail
  refine (valid_any H.out false ⟨(fun q => by cases q), (fun q => absurd q hv)⟩).mono ?_
  rintro e w' ⟨rfl, rfl⟩
  go_wp2
  go_ret
  exact ⟨rfl, rfl⟩
end Go.Proofs.YteionhenpehogaaGreatDoor
