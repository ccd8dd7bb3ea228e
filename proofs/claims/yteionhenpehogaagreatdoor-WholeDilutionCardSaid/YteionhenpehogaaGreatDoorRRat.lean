import Derived.Test.YteionhenpehogaaGreatDoorRatD
import Derived.Test.YteionhenpehogaaGreatDoorRParse
import Derived.Deep.DeepCutAuto
import Derived.Deep.RegionWith
namespace Go.Proofs.YteionhenpehogaaGreatDoor
open Go.RowKit Tally
theorem RefR.stay {lo hi : Nat} {w w' : World} {v : Value} {z : Int} (h : RefR w v z) (hs : Stay lo hi w w') (hn : ∀ g, lo ≤ g → g < hi → NoInt w g) : RefR w' v z := by
 obtain ⟨neg, s, l, h1, ⟨a, b, o, c, h2, h3, h4, h5, h6⟩, h7⟩ := h
 refine ⟨neg, s, l, h1, ⟨a, b, o, c, h2, h3, h4, h5, fun i hil => ?_⟩, h7⟩
 have hc := h6 i hil
 refine hs.cell ?_ hc
 rcases Nat.lt_or_ge b lo with q | q
 ·exact .inl q
 ·rcases Nat.lt_or_ge b hi with r | r
  ·exact absurd hc (hn b q r _ _ _)
  ·exact .inr r
theorem RefR.as {w : World} {v : Value} {x y : Int} (h : RefR w v x) (e : x = y) : RefR w v y := e ▸ h
def RRatR (w : World) (v : Value) (q : Rat) : Prop :=
 ∃ (n1 : Bool) (a1 : Option Addr) (k1 c1 : Nat) (n2 : Bool) (a2 : Option Addr) (k2 c2 : Nat) (d : Int), v = .agg #[.bool n1, .slice a1 k1 c1, .bool n2, .slice a2 k2 c2] ∧
  RefR w (.agg #[.bool n1, .slice a1 k1 c1]) q.num ∧ RefR w (.agg #[.bool n2, .slice a2 k2 c2]) d ∧ (d = q.den ∨ d = 0 ∧ q = 0)
theorem RRatR.below {w w' : World} {v : Value} {q : Rat} (h : RRatR w v q) (hb : Below w.heap.size w w') : RRatR w' v q := by
 obtain ⟨n1, a1, k1, c1, n2, a2, k2, c2, d, e, h1, h2, h3⟩ := h
 exact ⟨n1, a1, k1, c1, n2, a2, k2, c2, d, e, h1.below hb, h2.below hb, h3⟩
def rGivesP (w : World) (q : Rat) (e : Ending) (w' : World) : Prop :=
 ∃ (n1 : Bool) (a1 : Option Addr) (k1 c1 : Nat) (n2 : Bool) (a2 : Option Addr) (k2 c2 : Nat), e = .returned (.agg #[.bool n1, .slice a1 k1 c1, .bool n2, .slice a2 k2 c2]) ∧
  RefR w' (.agg #[.bool n1, .slice a1 k1 c1]) q.num ∧ RefR w' (.agg #[.bool n2, .slice a2 k2 c2]) (q.den : Int) ∧ Below w.heap.size w w'
def rGivesR (w : World) (q : Rat) (e : Ending) (w' : World) : Prop :=
 ∃ (n1 : Bool) (a1 : Option Addr) (k1 c1 : Nat) (n2 : Bool) (a2 : Option Addr) (k2 c2 : Nat), e = .returned (.agg #[.bool n1, .slice a1 k1 c1, .bool n2, .slice a2 k2 c2]) ∧
  RRatR w' (.agg #[.bool n1, .slice a1 k1 c1, .bool n2, .slice a2 k2 c2]) q ∧ Below w.heap.size w w'
theorem rGivesP.plain {w w' : World} {q : Rat} {e : Ending} (h : rGivesP w q e w') : rGivesR w q e w' := by
 obtain ⟨n1, a1, k1, c1, n2, a2, k2, c2, he, h1, h2, h3⟩ := h
 exact ⟨n1, a1, k1, c1, n2, a2, k2, c2, he, ⟨n1, a1, k1, c1, n2, a2, k2, c2, _, rfl, h1, h2, .inl rfl⟩, h3⟩
theorem RRatR.stay {lo hi : Nat} {w w' : World} {v : Value} {q : Rat} (h : RRatR w v q) (hs : Stay lo hi w w') (hn : ∀ g, lo ≤ g → g < hi → NoInt w g) : RRatR w' v q := by
 obtain ⟨n1, a1, k1, c1, n2, a2, k2, c2, d, e, h1, h2, h3⟩ := h
 exact ⟨n1, a1, k1, c1, n2, a2, k2, c2, d, e, h1.stay hs hn, h2.stay hs hn, h3⟩
theorem RRatR.shape {w : World} {v : Value} {q : Rat} (h : RRatR w v q) : ∃ (n1 : Bool) (a1 : Option Addr) (k1 c1 : Nat) (n2 : Bool) (a2 : Option Addr) (k2 c2 : Nat), v = .agg #[.bool n1, .slice a1 k1 c1, .bool n2, .slice a2 k2 c2] := by
 obtain ⟨n1, a1, k1, c1, n2, a2, k2, c2, d, e, _⟩ := h
 exact ⟨n1, a1, k1, c1, n2, a2, k2, c2, e⟩
theorem RRatR.as {w : World} {v : Value} {p q : Rat} (h : RRatR w v p) (e : p = q) : RRatR w v q := e ▸ h
theorem RRatR.two {w : World} {n1 : Bool} {a1 : Option Addr} {k1 c1 : Nat} {n2 : Bool} {a2 : Option Addr} {k2 c2 : Nat} {q : Rat} (h : RRatR w (.agg #[.bool n1, .slice a1 k1 c1, .bool n2, .slice a2 k2 c2]) q) :
  ∃ d : Int, RefR w (.agg #[.bool n1, .slice a1 k1 c1]) q.num ∧ RefR w (.agg #[.bool n2, .slice a2 k2 c2]) d ∧ (d = q.den ∨ d = 0 ∧ q = 0) := by
 obtain ⟨_, _, _, _, _, _, _, _, d, e, h1, h2, h3⟩ := h
 cases e
 exact ⟨d, h1, h2, h3⟩
theorem RRatR.mk {w : World} {n1 : Bool} {a1 : Option Addr} {k1 c1 : Nat} {n2 : Bool} {a2 : Option Addr} {k2 c2 : Nat} {q : Rat} {d : Int} (h1 : RefR w (.agg #[.bool n1, .slice a1 k1 c1]) q.num) (h2 : RefR w (.agg #[.bool n2, .slice a2 k2 c2]) d) (h3 : d = q.den ∨ d = 0 ∧ q = 0) :
  RRatR w (.agg #[.bool n1, .slice a1 k1 c1, .bool n2, .slice a2 k2 c2]) q := ⟨n1, a1, k1, c1, n2, a2, k2, c2, d, rfl, h1, h2, h3⟩
theorem rratR_zero (w : World) : RRatR w (.agg #[.bool false, .slice none 0 0, .bool false, .slice none 0 0]) 0 := RRatR.mk (refR_zero w) (refR_zero w) (.inr ⟨rfl, rfl⟩)
def rGivesZZ (w : World) (z y : Int) (e : Ending) (w' : World) : Prop :=
 ∃ (n : Bool) (a : Option Addr) (k cp : Nat) (n2 : Bool) (a2 : Option Addr) (k2 cp2 : Nat), e = .returned (.tuple #[.agg #[.bool n, .slice a k cp], .agg #[.bool n2, .slice a2 k2 cp2]]) ∧
  RefR w' (.agg #[.bool n, .slice a k cp]) z ∧ RefR w' (.agg #[.bool n2, .slice a2 k2 cp2]) y ∧ Below w.heap.size w w'
def rGivesPE (w : World) (q : Rat) (c : Int) (e : Ending) (w' : World) : Prop :=
 ∃ (n1 : Bool) (a1 : Option Addr) (k1 c1 : Nat) (n2 : Bool) (a2 : Option Addr) (k2 c2 : Nat), e = .returned (.tuple #[.agg #[.bool n1, .slice a1 k1 c1, .bool n2, .slice a2 k2 c2], .int .i64 c]) ∧
  RefR w' (.agg #[.bool n1, .slice a1 k1 c1]) q.num ∧ RefR w' (.agg #[.bool n2, .slice a2 k2 c2]) (q.den : Int) ∧ Below w.heap.size w w'
def rGivesRE (w : World) (q : Rat) (c : Int) (e : Ending) (w' : World) : Prop :=
 ∃ (n1 : Bool) (a1 : Option Addr) (k1 c1 : Nat) (n2 : Bool) (a2 : Option Addr) (k2 c2 : Nat), e = .returned (.tuple #[.agg #[.bool n1, .slice a1 k1 c1, .bool n2, .slice a2 k2 c2], .int .i64 c]) ∧
  RRatR w' (.agg #[.bool n1, .slice a1 k1 c1, .bool n2, .slice a2 k2 c2]) q ∧ Below w.heap.size w w'
theorem rGivesPE.plain {w w' : World} {q : Rat} {c : Int} {e : Ending} (h : rGivesPE w q c e w') : rGivesRE w q c e w' := by
 obtain ⟨n1, a1, k1, c1, n2, a2, k2, c2, he, h1, h2, h3⟩ := h
 exact ⟨n1, a1, k1, c1, n2, a2, k2, c2, he, RRatR.mk h1 h2 (.inl rfl), h3⟩
set_option maxHeartbeats 2000000 in
set_option maxRecDepth 100000 in
theorem rparts_any {w : World} {v : Value} {q : Rat} (h : RRatR w v q) :
  Calls Tryz.prog 132 #[v] w (rGivesZZ w q.num q.den) := by
 obtain ⟨n1, a1, k1, c1, n2, a2, k2, c2, rfl⟩ := h.shape
 obtain ⟨d, hx, hd, hc⟩ := h.two
 have HX := Lib.hid hx
 have HD := Lib.hid hd
 have HC := Lib.hid hc
 clear h hx hd hc
 go_enter Tryz.func132, Tryz.ntmps132
 go_wp2_with fail
 obtain ⟨W1, hW, hs, hb, b0, b1, b2⟩ := alloc3 w (.cells #[.bool n1, .slice a1 k1 c1, .bool n2, .slice a2 k2 c2] 86) (.cells #[.bool false, .slice none 0 0] 84) (.cells #[.bool false, .slice none 0 0] 84)
 rw [← hW]
 have HB := Lib.hid hb
 replace HX := Lib.hid (HX.out.below hb)
 replace HD := Lib.hid (HD.out.below hb)
 have BP := Lib.hid b0
 have BR1 := Lib.hid b1
 have BR2 := Lib.hid b2
 clear hW hs hb b0 b1 b2
 (with_reducible refine (rsign_any HD.out).mono ?_)
 rintro e w2 ⟨rfl, hb⟩
 replace HB := Lib.hid (bt HB.out hb)
 replace HX := Lib.hid (HX.out.below hb)
 replace HD := Lib.hid (HD.out.below hb)
 replace BP := Lib.hid (blk_next BP.out hb)
 replace BR1 := Lib.hid (blk_next BR1.out hb)
 replace BR2 := Lib.hid (blk_next BR2.out hb)
 clear hb
 by_cases hd0 : d = 0
 ·subst hd0
  have E := Lib.hid (show q = 0 from by
     rcases HC.out with e | e
     ·exact absurd e (by have := q.den_nz; omega)
     ·exact e.2)
  have E1 := Lib.hid (show (1 : Int) = q.den from by rw [E.out]; rfl)
  rw [show Int.sign 0 = 0 from rfl]
  have lt1_P : w.heap.size < w2.heap.size := (Array.getElem?_eq_some_iff.1 BP.out).1
  have lt2_R1 : w.heap.size + 1 < w2.heap.size := (Array.getElem?_eq_some_iff.1 BR1.out).1
  have lt3_R2 : w.heap.size + 1 + 1 < w2.heap.size := (Array.getElem?_eq_some_iff.1 BR2.out).1
  obtain ⟨⟨cP0, cP1, cP2, cP3⟩, fP0, fP1, fP2, fP3⟩ := res4_facts BP.out
  go_wp2_with fail
  clear cP0 cP1 cP2 cP3 fP0 fP1 fP2 fP3
  obtain ⟨⟨cP0, cP1, cP2, cP3⟩, fP0, fP1, fP2, fP3⟩ := res4_facts BP.out
  have HL3 := Lib.hid (fun (w' : World) (hb : Stay (w.heap.size + 1) (w.heap.size + 1 + 1 + 1) w2 w') => (⟨hb, hb.cell (by omega) cP0, hb.cell (by omega) cP1⟩ : Stay (w.heap.size + 1) (w.heap.size + 1 + 1 + 1) w2 w' ∧ w'.cell? ⟨w.heap.size, 0, none⟩ = some (.bool n1) ∧ w'.cell? ⟨w.heap.size, 1, none⟩ = some (.slice a1 k1 c1)))
  have HI3 := Lib.hid (fun (w' : World) (hs : Stay (w.heap.size + 1) (w.heap.size + 1 + 1 + 1) w2 w' ∧ w'.cell? ⟨w.heap.size, 0, none⟩ = some (.bool n1) ∧ w'.cell? ⟨w.heap.size, 1, none⟩ = some (.slice a1 k1 c1)) => hs.1)
  have HN3 := Lib.hid (noInt_two (noInt2 BR1.out) (noInt2 BR2.out))
  have HS3 := Lib.hid (Stay.refl (w.heap.size + 1) (w.heap.size + 1 + 1 + 1) w2)
  have HC3 := Lib.hid (Below.drew (Below.refl w2.heap.size w2))
  go_region_held3 (fun w' => Stay (w.heap.size + 1) (w.heap.size + 1 + 1 + 1) w2 w' ∧ w'.cell? ⟨w.heap.size, 0, none⟩ = some (.bool n1) ∧ w'.cell? ⟨w.heap.size, 1, none⟩ = some (.slice a1 k1 c1))
   (first | exact HL3.out _ (Stay.drew HS3.out) | exact HL3.out _ (Stay.next (HI3.out _ (by assumption)) (by assumption)) | exact HL3.out _ (stay_set2 (HI3.out _ (by assumption)) (by omega) (by omega)))
   (first | (go_at_call 100; (with_reducible refine (rof_any (n := 1) (by decide) (by decide)).mono ?_); rintro e w4 ⟨n_4, a_4, k_4, c_4, rfl, hu_4, hbr4⟩; have HONE := Lib.hid hu_4; clear hu_4; have HRX4 := Lib.hid (blk_next (w := w2.drew) BR1.out hbr4); have HRY4 := Lib.hid (blk_next (w := w2.drew) BR2.out hbr4); obtain ⟨d0, d1, e0, e1⟩ := res_facts HRX4.out; obtain ⟨d4, d5, e4, e5⟩ := res_facts HRY4.out))
  go_wp2
  try simp only [Exit.inBlock, Exit.then]
  have S22 := store22 (x' := .bool n1) (y' := .slice a1 k1 c1) (z' := .bool n_4) (u' := .slice a_4 k_4 c_4) HRX4.out HRY4.out (show w.heap.size + 1 ≠ w.heap.size + 1 + 1 by omega)
  refine bodyPost_ret (results_cell2 rfl _ _ (w.heap.size + 1) (w.heap.size + 1 + 1) 84 84 _ _ (0, 0) (0, 0) _ _ rfl rfl S22.2.1 S22.2.2 Tryz.underlying84 rfl (by kernel_rfl) Tryz.underlying84 rfl (by kernel_rfl)) rfl ?_
  exact ⟨_, _, _, _, _, _, _, _, rfl, (((HX.out.below (bt HC3.out hbr4)).set2 HRX4.out).set2 S22.1), (((HONE.out.set2 HRX4.out).set2 S22.1).as E1.out), held_set2 (held_set2 (bt HB.out (bt HC3.out hbr4)) (by omega)) (by omega)⟩
 ·have hs0 : (d.sign == 0) = false := by
     rw [beq_eq_false_iff_ne]
     intro e
     exact hd0 (Int.sign_eq_zero_iff_zero.1 e)
  have E1 := Lib.hid (show d = q.den from by
     rcases HC.out with e | e
     ·exact e
     ·exact absurd e.1 hd0)
  clear hd0
  have lt1_P : w.heap.size < w2.heap.size := (Array.getElem?_eq_some_iff.1 BP.out).1
  have lt2_R1 : w.heap.size + 1 < w2.heap.size := (Array.getElem?_eq_some_iff.1 BR1.out).1
  have lt3_R2 : w.heap.size + 1 + 1 < w2.heap.size := (Array.getElem?_eq_some_iff.1 BR2.out).1
  obtain ⟨⟨cP0, cP1, cP2, cP3⟩, fP0, fP1, fP2, fP3⟩ := res4_facts BP.out
  obtain ⟨cR10, cR11, fR10, fR11⟩ := res_facts BR1.out
  obtain ⟨cR20, cR21, fR20, fR21⟩ := res_facts BR2.out
  go_wp2_with fail
  clear cP0 cP1 cP2 cP3 fP0 fP1 fP2 fP3 cR10 cR11 fR10 fR11 cR20 cR21 fR20 fR21
  obtain ⟨⟨cP0, cP1, cP2, cP3⟩, fP0, fP1, fP2, fP3⟩ := res4_facts BP.out
  have HL3 := Lib.hid (fun (w' : World) (hb : Stay (w.heap.size + 1) (w.heap.size + 1 + 1 + 1) w2 w') => (⟨hb, hb.cell (by omega) cP0, hb.cell (by omega) cP1, hb.cell (by omega) cP2, hb.cell (by omega) cP3⟩ : Stay (w.heap.size + 1) (w.heap.size + 1 + 1 + 1) w2 w' ∧ w'.cell? ⟨w.heap.size, 0, none⟩ = some (.bool n1) ∧ w'.cell? ⟨w.heap.size, 1, none⟩ = some (.slice a1 k1 c1) ∧ w'.cell? ⟨w.heap.size, 2, none⟩ = some (.bool n2) ∧ w'.cell? ⟨w.heap.size, 3, none⟩ = some (.slice a2 k2 c2)))
  have HI3 := Lib.hid (fun (w' : World) (hs : Stay (w.heap.size + 1) (w.heap.size + 1 + 1 + 1) w2 w' ∧ w'.cell? ⟨w.heap.size, 0, none⟩ = some (.bool n1) ∧ w'.cell? ⟨w.heap.size, 1, none⟩ = some (.slice a1 k1 c1) ∧ w'.cell? ⟨w.heap.size, 2, none⟩ = some (.bool n2) ∧ w'.cell? ⟨w.heap.size, 3, none⟩ = some (.slice a2 k2 c2)) => hs.1)
  have HN3 := Lib.hid (noInt_two (noInt2 BR1.out) (noInt2 BR2.out))
  have HS3 := Lib.hid (Stay.refl (w.heap.size + 1) (w.heap.size + 1 + 1 + 1) w2)
  have HC3 := Lib.hid (Below.drew (Below.refl w2.heap.size w2))
  obtain ⟨cR10, cR11, fR10, fR11⟩ := res_facts BR1.out
  obtain ⟨cR20, cR21, fR20, fR21⟩ := res_facts BR2.out
  go_region_held3 (fun w' => Stay (w.heap.size + 1) (w.heap.size + 1 + 1 + 1) w2 w' ∧ w'.cell? ⟨w.heap.size, 0, none⟩ = some (.bool n1) ∧ w'.cell? ⟨w.heap.size, 1, none⟩ = some (.slice a1 k1 c1) ∧ w'.cell? ⟨w.heap.size, 2, none⟩ = some (.bool n2) ∧ w'.cell? ⟨w.heap.size, 3, none⟩ = some (.slice a2 k2 c2))
   (first | exact HL3.out _ (Stay.drew HS3.out) | exact HL3.out _ (Stay.drew (stay_set2 HS3.out (by omega) (by omega))) | exact HL3.out _ (Stay.drew (stay_set2 (stay_set2 HS3.out (by omega) (by omega)) (by omega) (by omega))))
   (fail)
  go_wp2
  try simp only [Exit.inBlock, Exit.then]
  have S22 := store22 (x' := .bool n1) (y' := .slice a1 k1 c1) (z' := .bool n2) (u' := .slice a2 k2 c2) BR1.out BR2.out (show w.heap.size + 1 ≠ w.heap.size + 1 + 1 by omega)
  refine bodyPost_ret (results_cell2 rfl _ _ (w.heap.size + 1) (w.heap.size + 1 + 1) 84 84 _ _ (0, 0) (0, 0) _ _ rfl rfl S22.2.1 S22.2.2 Tryz.underlying84 rfl (by kernel_rfl) Tryz.underlying84 rfl (by kernel_rfl)) rfl ?_
  exact ⟨_, _, _, _, _, _, _, _, rfl, (((HX.out.set2 BR1.out).set2 S22.1).below (Below.drew (Below.refl _ _))), ((((HD.out.set2 BR1.out).set2 S22.1).below (Below.drew (Below.refl _ _))).as E1.out), Below.drew (held_set2 (held_set2 HB.out (by omega)) (by omega))⟩
set_option maxHeartbeats 2000000 in
set_option maxRecDepth 100000 in
theorem rnew_any {w : World} {v u : Value} {x y : Int} {N : Nat} (h : RefR w v x) (k : RefR w u y) (hy : y ≠ 0) (hx : Dg N x) (hd : Dg N y) (hN : N ≤ 999999999990) :
  Calls Tryz.prog 99 #[v, u] w (rGivesPE w (Rat.divInt x y) 0) := by
 obtain ⟨n1, a1, k1, c1, rfl⟩ := h.shape
 obtain ⟨n2, a2, k2, c2, rfl⟩ := k.shape
 have HX := Lib.hid h
 have HY := Lib.hid k
 have HY0 := Lib.hid hy
 have hys : (y.sign == 0) = false := by
   rw [beq_eq_false_iff_ne]
   intro e
   exact hy (Int.sign_eq_zero_iff_zero.1 e)
 clear hy
 clear h k
 go_enter Tryz.func99, Tryz.ntmps99
 go_wp2_with fail
 obtain ⟨W1, hW, hs, hb, b0, b1, b2⟩ := alloc3 w (.cells #[.bool n1, .slice a1 k1 c1] 84) (.cells #[.bool n2, .slice a2 k2 c2] 84) (.cells #[.bool false, .slice none 0 0, .bool false, .slice none 0 0] 86)
 rw [← hW]
 have HB := Lib.hid hb
 replace HX := Lib.hid (HX.out.below hb)
 replace HY := Lib.hid (HY.out.below hb)
 have BP := Lib.hid b0
 have BU := Lib.hid b1
 have BR := Lib.hid b2
 clear hW hs hb b0 b1 b2
 (with_reducible refine (rsign_any HY.out).mono ?_)
 rintro e w2 ⟨rfl, hb⟩
 replace HB := Lib.hid (bt HB.out hb)
 replace HX := Lib.hid (HX.out.below hb)
 replace HY := Lib.hid (HY.out.below hb)
 replace BP := Lib.hid (blk_next BP.out hb)
 replace BU := Lib.hid (blk_next BU.out hb)
 replace BR := Lib.hid (blk_next BR.out hb)
 clear hb
 have lt1_P : w.heap.size < w2.heap.size := (Array.getElem?_eq_some_iff.1 BP.out).1
 have lt2_U : w.heap.size + 1 < w2.heap.size := (Array.getElem?_eq_some_iff.1 BU.out).1
 have lt3_R : w.heap.size + 1 + 1 < w2.heap.size := (Array.getElem?_eq_some_iff.1 BR.out).1
 obtain ⟨cP0, cP1, fP0, fP1⟩ := res_facts BP.out
 obtain ⟨cU0, cU1, fU0, fU1⟩ := res_facts BU.out
 go_wp2_with fail
 clear cP0 cP1 fP0 fP1 cU0 cU1 fU0 fU1
 (with_reducible refine (rsign_any HY.out).mono ?_)
 rintro e w3 ⟨rfl, hb⟩
 replace HB := Lib.hid (bt HB.out hb)
 replace HX := Lib.hid (HX.out.below hb)
 replace HY := Lib.hid (HY.out.below hb)
 replace BP := Lib.hid (blk_next BP.out hb)
 replace BU := Lib.hid (blk_next BU.out hb)
 replace BR := Lib.hid (blk_next BR.out hb)
 clear hb
 by_cases hneg : y < 0
 ·have hsg : y.sign < 0 := by rw [Int.sign_eq_neg_one_of_neg hneg]; decide
  have hx2 := hx.neg
  have hd2 := hd.neg
  have HG0 := Lib.hid (show (((-x).gcd (-y) : Nat) : Int) ≠ 0 from fun e => HY0.out (by have := (gcd_zero.1 e).2; omega))
  have E1 := Lib.hid (show (-x).tdiv ((-x).gcd (-y)) = (Rat.divInt x y).num from by rw [← low_neg]; exact low_num_pos (by omega))
  have E2 := Lib.hid (show (-y).tdiv ((-x).gcd (-y)) = ((Rat.divInt x y).den : Int) from by rw [← low_neg]; exact low_den_pos (by omega))
  have lt4_P : w.heap.size < w3.heap.size := (Array.getElem?_eq_some_iff.1 BP.out).1
  have lt5_U : w.heap.size + 1 < w3.heap.size := (Array.getElem?_eq_some_iff.1 BU.out).1
  have lt6_R : w.heap.size + 1 + 1 < w3.heap.size := (Array.getElem?_eq_some_iff.1 BR.out).1
  obtain ⟨cP0, cP1, fP0, fP1⟩ := res_facts BP.out
  obtain ⟨cU0, cU1, fU0, fU1⟩ := res_facts BU.out
  go_wp2_with fail
  clear cP0 cP1 fP0 fP1 cU0 cU1 fU0 fU1
  go_upto_region 4 with fail
  go_cut [] (fun wx => ∃ (m1 : Bool) (e1 : Option Addr) (i1 j1 : Nat) (m2 : Bool) (e2 : Option Addr) (i2 j2 : Nat), wx.heap[w.heap.size]? = some (.cells #[.bool m1, .slice e1 i1 j1] 84 (0, 0)) ∧ wx.heap[w.heap.size + 1]? = some (.cells #[.bool m2, .slice e2 i2 j2] 84 (0, 0)) ∧ wx.heap[w.heap.size + 1 + 1]? = some (.cells #[.bool false, .slice none 0 0, .bool false, .slice none 0 0] 86 (0, 0)) ∧ RefR wx (.agg #[.bool m1, .slice e1 i1 j1]) (-x) ∧ RefR wx (.agg #[.bool m2, .slice e2 i2 j2]) (-y) ∧ Below w.heap.size w wx)
  case first =>
   obtain ⟨cP0, cP1, fP0, fP1⟩ := res_facts BP.out
   obtain ⟨cU0, cU1, fU0, fU1⟩ := res_facts BU.out
   have HDR := Lib.hid (Below.drew (Below.refl w3.heap.size w3))
   go_region_with ((first | (go_at_call 141; (with_reducible refine (rneg_any (HX.out.below HDR.out)).mono ?_); rintro e v1 ⟨m1, e1, i1, j1, rfl, hu1, hb1⟩; have HU1 := Lib.hid hu1; clear hu1; have q0 := keepc (bt HDR.out hb1) cU0; have q1 := keepc (bt HDR.out hb1) cU1) | (go_at_call 141; (with_reducible refine (rneg_any ((HY.out.below HDR.out).below hb1)).mono ?_); rintro e v2 ⟨m2, e2, i2, j2, rfl, hu2, hb2⟩; have HU2 := Lib.hid hu2; clear hu2; have HB1 := Lib.hid (bt (bt HB.out HDR.out) (bt hb1 hb2)); have HP2 := Lib.hid (blk_next (blk_next (blk_next BP.out HDR.out) hb1) hb2); have HU22 := Lib.hid (blk_next (blk_next (blk_next BU.out HDR.out) hb1) hb2); have HR2 := Lib.hid (blk_next (blk_next (blk_next BR.out HDR.out) hb1) hb2); have HB2 := Lib.hid hb2; obtain ⟨d0, d1, e0, e1'⟩ := res_facts HP2.out; obtain ⟨d4, d5, e4, e5⟩ := res_facts HU22.out; clear q0 q1 hb2)))
   all_goals
    go_wp2_with fail
    go_meet
    have S22 := store22 (x' := .bool m1) (y' := .slice e1 i1 j1) (z' := .bool m2) (u' := .slice e2 i2 j2) HP2.out HU22.out (show w.heap.size ≠ w.heap.size + 1 by omega)
    exact ⟨m1, e1, i1, j1, m2, e2, i2, j2, S22.2.1, S22.2.2, Blk.set_other (Blk.set_other (Blk.set_other (Blk.set_other HR2.out (by omega)) (by omega)) (by omega)) (by omega), ((HU1.out.below HB2.out).set2 HP2.out).set2 S22.1, (HU2.out.set2 HP2.out).set2 S22.1, held_set2 (held_set2 HB1.out (by omega)) (by omega)⟩
  case rest =>
   obtain ⟨m1, e1, i1, j1, m2, e2, i2, j2, bp, bu, br, hu1, hu2, hbx⟩ := hcut
   replace BP := Lib.hid bp
   replace BU := Lib.hid bu
   replace BR := Lib.hid br
   have HNX := Lib.hid hu1
   have HNY := Lib.hid hu2
   replace HB := Lib.hid hbx
   clear bp bu br hu1 hu2 hbx HX HY
   have lt1_P : w.heap.size < wc.heap.size := (Array.getElem?_eq_some_iff.1 BP.out).1
   have lt2_U : w.heap.size + 1 < wc.heap.size := (Array.getElem?_eq_some_iff.1 BU.out).1
   have lt3_R : w.heap.size + 1 + 1 < wc.heap.size := (Array.getElem?_eq_some_iff.1 BR.out).1
   obtain ⟨cP0, cP1, fP0, fP1⟩ := res_facts BP.out
   obtain ⟨cU0, cU1, fU0, fU1⟩ := res_facts BU.out
   go_wp2_with fail
   clear cP0 cP1 fP0 fP1 cU0 cU1 fU0 fU1
   (with_reducible refine (rgcd_any HNX.out HNY.out hx2 hd2 hN).mono ?_)
   rintro e w4 ⟨n_4, a_4, k_4, c_4, rfl, hu_4, hb⟩
   replace HB := Lib.hid (bt HB.out hb)
   replace HNX := Lib.hid (HNX.out.below hb)
   replace HNY := Lib.hid (HNY.out.below hb)
   replace BP := Lib.hid (blk_next BP.out hb)
   replace BU := Lib.hid (blk_next BU.out hb)
   replace BR := Lib.hid (blk_next BR.out hb)
   have HG := Lib.hid hu_4
   clear hu_4
   clear hb
   have lt4_P : w.heap.size < w4.heap.size := (Array.getElem?_eq_some_iff.1 BP.out).1
   have lt5_U : w.heap.size + 1 < w4.heap.size := (Array.getElem?_eq_some_iff.1 BU.out).1
   have lt6_R : w.heap.size + 1 + 1 < w4.heap.size := (Array.getElem?_eq_some_iff.1 BR.out).1
   obtain ⟨cP0, cP1, fP0, fP1⟩ := res_facts BP.out
   obtain ⟨cU0, cU1, fU0, fU1⟩ := res_facts BU.out
   go_wp2_with fail
   clear cP0 cP1 fP0 fP1 cU0 cU1 fU0 fU1
   obtain ⟨W5, hW, hs, hb, b0⟩ := alloc1 w4 (.cells #[.bool n_4, .slice a_4 k_4 c_4] 84)
   rw [← hW]
   replace HB := Lib.hid (bt HB.out hb)
   replace HNX := Lib.hid (HNX.out.below hb)
   replace HNY := Lib.hid (HNY.out.below hb)
   replace HG := Lib.hid (HG.out.below hb)
   replace BP := Lib.hid (blk_next BP.out hb)
   replace BU := Lib.hid (blk_next BU.out hb)
   replace BR := Lib.hid (blk_next BR.out hb)
   have Bg := Lib.hid b0
   clear hW hs hb b0
   (with_reducible refine (rquorem_any HNX.out HG.out HG0.out hx2 hN).mono ?_)
   rintro e w6 ⟨n_6, a_6, k_6, c_6, n2_6, a2_6, k2_6, c2_6, rfl, hu_6, hv_6, hb⟩
   replace HB := Lib.hid (bt HB.out hb)
   replace HNX := Lib.hid (HNX.out.below hb)
   replace HNY := Lib.hid (HNY.out.below hb)
   replace HG := Lib.hid (HG.out.below hb)
   replace BP := Lib.hid (blk_next BP.out hb)
   replace BU := Lib.hid (blk_next BU.out hb)
   replace BR := Lib.hid (blk_next BR.out hb)
   replace Bg := Lib.hid (blk_next Bg.out hb)
   have HQ1 := Lib.hid hu_6
   have HQ1r := Lib.hid hv_6
   clear hu_6 hv_6
   clear hb
   have lt7_P : w.heap.size < w6.heap.size := (Array.getElem?_eq_some_iff.1 BP.out).1
   have lt8_U : w.heap.size + 1 < w6.heap.size := (Array.getElem?_eq_some_iff.1 BU.out).1
   have lt9_R : w.heap.size + 1 + 1 < w6.heap.size := (Array.getElem?_eq_some_iff.1 BR.out).1
   have lt10_g : w4.heap.size < w6.heap.size := (Array.getElem?_eq_some_iff.1 Bg.out).1
   obtain ⟨cP0, cP1, fP0, fP1⟩ := res_facts BP.out
   obtain ⟨cU0, cU1, fU0, fU1⟩ := res_facts BU.out
   obtain ⟨cg0, cg1, fg0, fg1⟩ := res_facts Bg.out
   go_wp2_with fail
   clear cP0 cP1 fP0 fP1 cU0 cU1 fU0 fU1 cg0 cg1 fg0 fg1
   obtain ⟨W7, hW⟩ : ∃ W', W' = ((w6.setCell ⟨w.heap.size, 0, none⟩ (.bool n_6)).setCell ⟨w.heap.size, 1, none⟩ (.slice a_6 k_6 c_6)) := ⟨_, rfl⟩
   rw [← hW]
   have hst : Stay (w.heap.size) (w.heap.size + 1) w6 W7 := by rw [hW]; exact set2_stay
   have hsb : w.heap.size ≤ w.heap.size := by omega
   replace HB := Lib.hid (HB.out.trans (hst.below hsb HB.out.size))
   clear hsb
   replace HNX := Lib.hid (HNX.out.stay hst (noInt_one (noInt2 BP.out)))
   replace HNY := Lib.hid (HNY.out.stay hst (noInt_one (noInt2 BP.out)))
   replace HG := Lib.hid (HG.out.stay hst (noInt_one (noInt2 BP.out)))
   replace HQ1 := Lib.hid (HQ1.out.stay hst (noInt_one (noInt2 BP.out)))
   replace HQ1r := Lib.hid (HQ1r.out.stay hst (noInt_one (noInt2 BP.out)))
   have hbn : W7.heap[w.heap.size]? = some (.cells #[.bool n_6, .slice a_6 k_6 c_6] 84 (0, 0)) := by rw [hW]; exact res_set BP.out
   replace BU := Lib.hid ((hst.block (w.heap.size + 1) (Array.getElem?_eq_some_iff.1 BU.out).1 (by omega)).trans BU.out)
   replace BR := Lib.hid ((hst.block (w.heap.size + 1 + 1) (Array.getElem?_eq_some_iff.1 BR.out).1 (by omega)).trans BR.out)
   replace Bg := Lib.hid ((hst.block (w4.heap.size) (Array.getElem?_eq_some_iff.1 Bg.out).1 (by omega)).trans Bg.out)
   replace BP := Lib.hid hbn
   clear hW hst hbn
   (with_reducible refine (rquorem_any HNY.out HG.out HG0.out hd2 hN).mono ?_)
   rintro e w8 ⟨n_8, a_8, k_8, c_8, n2_8, a2_8, k2_8, c2_8, rfl, hu_8, hv_8, hb⟩
   replace HB := Lib.hid (bt HB.out hb)
   replace HNX := Lib.hid (HNX.out.below hb)
   replace HNY := Lib.hid (HNY.out.below hb)
   replace HG := Lib.hid (HG.out.below hb)
   replace HQ1 := Lib.hid (HQ1.out.below hb)
   replace HQ1r := Lib.hid (HQ1r.out.below hb)
   replace BP := Lib.hid (blk_next BP.out hb)
   replace BU := Lib.hid (blk_next BU.out hb)
   replace BR := Lib.hid (blk_next BR.out hb)
   replace Bg := Lib.hid (blk_next Bg.out hb)
   have HQ2 := Lib.hid hu_8
   have HQ2r := Lib.hid hv_8
   clear hu_8 hv_8
   clear hb
   have lt11_P : w.heap.size < w8.heap.size := (Array.getElem?_eq_some_iff.1 BP.out).1
   have lt12_U : w.heap.size + 1 < w8.heap.size := (Array.getElem?_eq_some_iff.1 BU.out).1
   have lt13_R : w.heap.size + 1 + 1 < w8.heap.size := (Array.getElem?_eq_some_iff.1 BR.out).1
   have lt14_g : w4.heap.size < w8.heap.size := (Array.getElem?_eq_some_iff.1 Bg.out).1
   obtain ⟨cP0, cP1, fP0, fP1⟩ := res_facts BP.out
   obtain ⟨cU0, cU1, fU0, fU1⟩ := res_facts BU.out
   obtain ⟨⟨cR0, cR1, cR2, cR3⟩, fR0, fR1, fR2, fR3⟩ := res4_facts BR.out
   go_wp2
   try simp only [Exit.inBlock, Exit.then]
   have hst : Stay (w.heap.size + 1) (w.heap.size + 1 + 1) w8 ((w8.setCell ⟨w.heap.size + 1, 0, none⟩ (.bool n_8)).setCell ⟨w.heap.size + 1, 1, none⟩ (.slice a_8 k_8 c_8)) := set2_stay
   have hni := noInt_one (noInt2 BU.out)
   have BR2 := (hst.block (w.heap.size + 1 + 1) (Array.getElem?_eq_some_iff.1 BR.out).1 (by omega)).trans BR.out
   have hn4 := noInt_one (noInt4 BR2)
   refine bodyPost_ret (results_cell_slot rfl _ _ (w.heap.size + 1 + 1) 86 _ (0, 0) _ (.int .i64 0) rfl rfl (res4_set BR2) Tryz.underlying86 rfl (by kernel_rfl)) rfl ?_
   exact ⟨_, _, _, _, _, _, _, _, rfl, (((HQ1.out.stay hst hni).stay set4_stay hn4).as E1.out), (((HQ2.out.stay hst hni).stay set4_stay hn4).as E2.out), fin4 (fin2 HB.out (by omega)) (by omega)⟩
 ·have hsg : ¬ y.sign < 0 := by have := Int.sign_nonneg_iff.2 (show 0 ≤ y by omega); omega
  have HG0 := Lib.hid (show ((x.gcd y : Nat) : Int) ≠ 0 from fun e => HY0.out (gcd_zero.1 e).2)
  have hy1 : y ≠ 0 := HY0.out
  have E1 := Lib.hid (show x.tdiv (x.gcd y) = (Rat.divInt x y).num from low_num_pos (by omega))
  have E2 := Lib.hid (show y.tdiv (x.gcd y) = ((Rat.divInt x y).den : Int) from low_den_pos (by omega))
  clear hy1
  have lt4_P : w.heap.size < w3.heap.size := (Array.getElem?_eq_some_iff.1 BP.out).1
  have lt5_U : w.heap.size + 1 < w3.heap.size := (Array.getElem?_eq_some_iff.1 BU.out).1
  have lt6_R : w.heap.size + 1 + 1 < w3.heap.size := (Array.getElem?_eq_some_iff.1 BR.out).1
  obtain ⟨cP0, cP1, fP0, fP1⟩ := res_facts BP.out
  obtain ⟨cU0, cU1, fU0, fU1⟩ := res_facts BU.out
  go_wp2_with fail
  clear cP0 cP1 fP0 fP1 cU0 cU1 fU0 fU1
  (with_reducible refine (rgcd_any HX.out HY.out hx hd hN).mono ?_)
  rintro e w4 ⟨n_4, a_4, k_4, c_4, rfl, hu_4, hb⟩
  replace HB := Lib.hid (bt HB.out hb)
  replace HX := Lib.hid (HX.out.below hb)
  replace HY := Lib.hid (HY.out.below hb)
  replace BP := Lib.hid (blk_next BP.out hb)
  replace BU := Lib.hid (blk_next BU.out hb)
  replace BR := Lib.hid (blk_next BR.out hb)
  have HG := Lib.hid hu_4
  clear hu_4
  clear hb
  have lt7_P : w.heap.size < w4.heap.size := (Array.getElem?_eq_some_iff.1 BP.out).1
  have lt8_U : w.heap.size + 1 < w4.heap.size := (Array.getElem?_eq_some_iff.1 BU.out).1
  have lt9_R : w.heap.size + 1 + 1 < w4.heap.size := (Array.getElem?_eq_some_iff.1 BR.out).1
  obtain ⟨cP0, cP1, fP0, fP1⟩ := res_facts BP.out
  obtain ⟨cU0, cU1, fU0, fU1⟩ := res_facts BU.out
  go_wp2_with fail
  clear cP0 cP1 fP0 fP1 cU0 cU1 fU0 fU1
  obtain ⟨W5, hW, hs, hb, b0⟩ := alloc1 w4 (.cells #[.bool n_4, .slice a_4 k_4 c_4] 84)
  rw [← hW]
  replace HB := Lib.hid (bt HB.out hb)
  replace HX := Lib.hid (HX.out.below hb)
  replace HY := Lib.hid (HY.out.below hb)
  replace HG := Lib.hid (HG.out.below hb)
  replace BP := Lib.hid (blk_next BP.out hb)
  replace BU := Lib.hid (blk_next BU.out hb)
  replace BR := Lib.hid (blk_next BR.out hb)
  have Bg := Lib.hid b0
  clear hW hs hb b0
  (with_reducible refine (rquorem_any HX.out HG.out HG0.out hx hN).mono ?_)
  rintro e w6 ⟨n_6, a_6, k_6, c_6, n2_6, a2_6, k2_6, c2_6, rfl, hu_6, hv_6, hb⟩
  replace HB := Lib.hid (bt HB.out hb)
  replace HX := Lib.hid (HX.out.below hb)
  replace HY := Lib.hid (HY.out.below hb)
  replace HG := Lib.hid (HG.out.below hb)
  replace BP := Lib.hid (blk_next BP.out hb)
  replace BU := Lib.hid (blk_next BU.out hb)
  replace BR := Lib.hid (blk_next BR.out hb)
  replace Bg := Lib.hid (blk_next Bg.out hb)
  have HQ1 := Lib.hid hu_6
  have HQ1r := Lib.hid hv_6
  clear hu_6 hv_6
  clear hb
  have lt10_P : w.heap.size < w6.heap.size := (Array.getElem?_eq_some_iff.1 BP.out).1
  have lt11_U : w.heap.size + 1 < w6.heap.size := (Array.getElem?_eq_some_iff.1 BU.out).1
  have lt12_R : w.heap.size + 1 + 1 < w6.heap.size := (Array.getElem?_eq_some_iff.1 BR.out).1
  have lt13_g : w4.heap.size < w6.heap.size := (Array.getElem?_eq_some_iff.1 Bg.out).1
  obtain ⟨cP0, cP1, fP0, fP1⟩ := res_facts BP.out
  obtain ⟨cU0, cU1, fU0, fU1⟩ := res_facts BU.out
  obtain ⟨cg0, cg1, fg0, fg1⟩ := res_facts Bg.out
  go_wp2_with fail
  clear cP0 cP1 fP0 fP1 cU0 cU1 fU0 fU1 cg0 cg1 fg0 fg1
  obtain ⟨W7, hW⟩ : ∃ W', W' = ((w6.setCell ⟨w.heap.size, 0, none⟩ (.bool n_6)).setCell ⟨w.heap.size, 1, none⟩ (.slice a_6 k_6 c_6)) := ⟨_, rfl⟩
  rw [← hW]
  have hst : Stay (w.heap.size) (w.heap.size + 1) w6 W7 := by rw [hW]; exact set2_stay
  have hsb : w.heap.size ≤ w.heap.size := by omega
  replace HB := Lib.hid (HB.out.trans (hst.below hsb HB.out.size))
  clear hsb
  replace HX := Lib.hid (HX.out.stay hst (noInt_one (noInt2 BP.out)))
  replace HY := Lib.hid (HY.out.stay hst (noInt_one (noInt2 BP.out)))
  replace HG := Lib.hid (HG.out.stay hst (noInt_one (noInt2 BP.out)))
  replace HQ1 := Lib.hid (HQ1.out.stay hst (noInt_one (noInt2 BP.out)))
  replace HQ1r := Lib.hid (HQ1r.out.stay hst (noInt_one (noInt2 BP.out)))
  have hbn : W7.heap[w.heap.size]? = some (.cells #[.bool n_6, .slice a_6 k_6 c_6] 84 (0, 0)) := by rw [hW]; exact res_set BP.out
  replace BU := Lib.hid ((hst.block (w.heap.size + 1) (Array.getElem?_eq_some_iff.1 BU.out).1 (by omega)).trans BU.out)
  replace BR := Lib.hid ((hst.block (w.heap.size + 1 + 1) (Array.getElem?_eq_some_iff.1 BR.out).1 (by omega)).trans BR.out)
  replace Bg := Lib.hid ((hst.block (w4.heap.size) (Array.getElem?_eq_some_iff.1 Bg.out).1 (by omega)).trans Bg.out)
  replace BP := Lib.hid hbn
  clear hW hst hbn
  (with_reducible refine (rquorem_any HY.out HG.out HG0.out hd hN).mono ?_)
  rintro e w8 ⟨n_8, a_8, k_8, c_8, n2_8, a2_8, k2_8, c2_8, rfl, hu_8, hv_8, hb⟩
  replace HB := Lib.hid (bt HB.out hb)
  replace HX := Lib.hid (HX.out.below hb)
  replace HY := Lib.hid (HY.out.below hb)
  replace HG := Lib.hid (HG.out.below hb)
  replace HQ1 := Lib.hid (HQ1.out.below hb)
  replace HQ1r := Lib.hid (HQ1r.out.below hb)
  replace BP := Lib.hid (blk_next BP.out hb)
  replace BU := Lib.hid (blk_next BU.out hb)
  replace BR := Lib.hid (blk_next BR.out hb)
  replace Bg := Lib.hid (blk_next Bg.out hb)
  have HQ2 := Lib.hid hu_8
  have HQ2r := Lib.hid hv_8
  clear hu_8 hv_8
  clear hb
  have lt14_P : w.heap.size < w8.heap.size := (Array.getElem?_eq_some_iff.1 BP.out).1
  have lt15_U : w.heap.size + 1 < w8.heap.size := (Array.getElem?_eq_some_iff.1 BU.out).1
  have lt16_R : w.heap.size + 1 + 1 < w8.heap.size := (Array.getElem?_eq_some_iff.1 BR.out).1
  have lt17_g : w4.heap.size < w8.heap.size := (Array.getElem?_eq_some_iff.1 Bg.out).1
  obtain ⟨cP0, cP1, fP0, fP1⟩ := res_facts BP.out
  obtain ⟨cU0, cU1, fU0, fU1⟩ := res_facts BU.out
  obtain ⟨⟨cR0, cR1, cR2, cR3⟩, fR0, fR1, fR2, fR3⟩ := res4_facts BR.out
  go_wp2
  try simp only [Exit.inBlock, Exit.then]
  have hst : Stay (w.heap.size + 1) (w.heap.size + 1 + 1) w8 ((w8.setCell ⟨w.heap.size + 1, 0, none⟩ (.bool n_8)).setCell ⟨w.heap.size + 1, 1, none⟩ (.slice a_8 k_8 c_8)) := set2_stay
  have hni := noInt_one (noInt2 BU.out)
  have BR2 := (hst.block (w.heap.size + 1 + 1) (Array.getElem?_eq_some_iff.1 BR.out).1 (by omega)).trans BR.out
  have hn4 := noInt_one (noInt4 BR2)
  refine bodyPost_ret (results_cell_slot rfl _ _ (w.heap.size + 1 + 1) 86 _ (0, 0) _ (.int .i64 0) rfl rfl (res4_set BR2) Tryz.underlying86 rfl (by kernel_rfl)) rfl ?_
  exact ⟨_, _, _, _, _, _, _, _, rfl, (((HQ1.out.stay hst hni).stay set4_stay hn4).as E1.out), (((HQ2.out.stay hst hni).stay set4_stay hn4).as E2.out), fin4 (fin2 HB.out (by omega)) (by omega)⟩
set_option maxHeartbeats 2000000 in
set_option maxRecDepth 100000 in
theorem rratsign_any {w : World} {v : Value} {q : Rat} (h : RRatR w v q) :
  Calls Tryz.prog 130 #[v] w (fun e w' => e = .returned (.int .i64 q.num.sign) ∧ Below w.heap.size w w') := by
 obtain ⟨n1, a1, k1, c1, n2, a2, k2, c2, rfl⟩ := h.shape
 obtain ⟨d, hx, _, _⟩ := h.two
 have HX := Lib.hid hx
 clear h hx
 go_enter Tryz.func130, Tryz.ntmps130
 go_wp2_with fail
 obtain ⟨W1, hW, hs, hb, b0⟩ := alloc1 w (.cells #[.bool n1, .slice a1 k1 c1, .bool n2, .slice a2 k2 c2] 86)
 rw [← hW]
 have HB := Lib.hid hb
 replace HX := Lib.hid (HX.out.below hb)
 have BP := Lib.hid b0
 clear hW hs hb b0
 (with_reducible refine (rsign_any HX.out).mono ?_)
 rintro e w2 ⟨rfl, hb⟩
 replace HB := Lib.hid (bt HB.out hb)
 replace HX := Lib.hid (HX.out.below hb)
 replace BP := Lib.hid (blk_next BP.out hb)
 clear hb
 go_wp2
 go_ret
 exact ⟨rfl, HB.out⟩
end Go.Proofs.YteionhenpehogaaGreatDoor
