/- The law package's both (layer 02). -/
import Derived.Test.YtikpafocankggaaGreatDoorRatParse
import Derived.Test.YtikpafocankggaaGreatDoorRRatParse
import Derived.Test.YtikpafocankggaaGreatDoorBoth
import Derived.BigRegion
namespace Go.Proofs.YtikpafocankggaaGreatDoor
open Go.RowKit Tally Go.Lib
structure Cells16 (B : Nat) (w : World) (v00 v01 v02 v03 v10 v11 v12 v13 v20 v21 v22 v23 v30 v31 v32 v33 : Value) : Prop where
 c0 : w.heap[B]? = some (.cells #[v00, v01, v02, v03] 27 (0, 0))
 c1 : w.heap[B + 1]? = some (.cells #[v10, v11, v12, v13] 27 (0, 0))
 c2 : w.heap[B + 1 + 1]? = some (.cells #[v20, v21, v22, v23] 32 (0, 0))
 c3 : w.heap[B + 1 + 1 + 1]? = some (.cells #[v30, v31, v32, v33] 32 (0, 0))
section
variable {B : Nat} {w w' : World} {v00 v01 v02 v03 v10 v11 v12 v13 v20 v21 v22 v23 v30 v31 v32 v33 p q r u : Value}
theorem set4_other {w : World} {g k : Nat} {o : Obj} {p q r u : Value} (h : w.heap[g]? = some o) (hn : g ≠ k) : ((((w.setCell ⟨k, 0, none⟩ p).setCell ⟨k, 1, none⟩ q).setCell ⟨k, 2, none⟩ r).setCell ⟨k, 3, none⟩ u).heap[g]? = some o :=
 Blk.set_other (Blk.set_other (Blk.set_other (Blk.set_other h hn) hn) hn) hn
theorem Cells16.next (h : Cells16 B w v00 v01 v02 v03 v10 v11 v12 v13 v20 v21 v22 v23 v30 v31 v32 v33) (hb : Below w.heap.size w w') : Cells16 B w' v00 v01 v02 v03 v10 v11 v12 v13 v20 v21 v22 v23 v30 v31 v32 v33 := ⟨blk_next h.c0 hb, blk_next h.c1 hb, blk_next h.c2 hb, blk_next h.c3 hb⟩
theorem Cells16.set0 (h : Cells16 B w v00 v01 v02 v03 v10 v11 v12 v13 v20 v21 v22 v23 v30 v31 v32 v33) : Cells16 B ((((w.setCell ⟨B, 0, none⟩ p).setCell ⟨B, 1, none⟩ q).setCell ⟨B, 2, none⟩ r).setCell ⟨B, 3, none⟩ u) p q r u v10 v11 v12 v13 v20 v21 v22 v23 v30 v31 v32 v33 := ⟨res4_set h.c0, set4_other h.c1 (by omega), set4_other h.c2 (by omega), set4_other h.c3 (by omega)⟩
theorem Cells16.set1 (h : Cells16 B w v00 v01 v02 v03 v10 v11 v12 v13 v20 v21 v22 v23 v30 v31 v32 v33) : Cells16 B ((((w.setCell ⟨B + 1, 0, none⟩ p).setCell ⟨B + 1, 1, none⟩ q).setCell ⟨B + 1, 2, none⟩ r).setCell ⟨B + 1, 3, none⟩ u) v00 v01 v02 v03 p q r u v20 v21 v22 v23 v30 v31 v32 v33 := ⟨set4_other h.c0 (by omega), res4_set h.c1, set4_other h.c2 (by omega), set4_other h.c3 (by omega)⟩
theorem Cells16.set2 (h : Cells16 B w v00 v01 v02 v03 v10 v11 v12 v13 v20 v21 v22 v23 v30 v31 v32 v33) : Cells16 B ((((w.setCell ⟨B + 1 + 1, 0, none⟩ p).setCell ⟨B + 1 + 1, 1, none⟩ q).setCell ⟨B + 1 + 1, 2, none⟩ r).setCell ⟨B + 1 + 1, 3, none⟩ u) v00 v01 v02 v03 v10 v11 v12 v13 p q r u v30 v31 v32 v33 := ⟨set4_other h.c0 (by omega), set4_other h.c1 (by omega), res4_set h.c2, set4_other h.c3 (by omega)⟩
theorem Cells16.set3 (h : Cells16 B w v00 v01 v02 v03 v10 v11 v12 v13 v20 v21 v22 v23 v30 v31 v32 v33) : Cells16 B ((((w.setCell ⟨B + 1 + 1 + 1, 0, none⟩ p).setCell ⟨B + 1 + 1 + 1, 1, none⟩ q).setCell ⟨B + 1 + 1 + 1, 2, none⟩ r).setCell ⟨B + 1 + 1 + 1, 3, none⟩ u) v00 v01 v02 v03 v10 v11 v12 v13 v20 v21 v22 v23 p q r u := ⟨set4_other h.c0 (by omega), set4_other h.c1 (by omega), set4_other h.c2 (by omega), res4_set h.c3⟩
theorem Cells16.cells (h : Cells16 B w v00 v01 v02 v03 v10 v11 v12 v13 v20 v21 v22 v23 v30 v31 v32 v33) : w.cell? ⟨B, 0, none⟩ = some v00 ∧ w.cell? ⟨B, 1, none⟩ = some v01 ∧ w.cell? ⟨B, 2, none⟩ = some v02 ∧ w.cell? ⟨B, 3, none⟩ = some v03 ∧ w.cell? ⟨B + 1, 0, none⟩ = some v10 ∧ w.cell? ⟨B + 1, 1, none⟩ = some v11 ∧ w.cell? ⟨B + 1, 2, none⟩ = some v12 ∧ w.cell? ⟨B + 1, 3, none⟩ = some v13 ∧ w.cell? ⟨B + 1 + 1, 0, none⟩ = some v20 ∧ w.cell? ⟨B + 1 + 1, 1, none⟩ = some v21 ∧ w.cell? ⟨B + 1 + 1, 2, none⟩ = some v22 ∧ w.cell? ⟨B + 1 + 1, 3, none⟩ = some v23 ∧ w.cell? ⟨B + 1 + 1 + 1, 0, none⟩ = some v30 ∧ w.cell? ⟨B + 1 + 1 + 1, 1, none⟩ = some v31 ∧ w.cell? ⟨B + 1 + 1 + 1, 2, none⟩ = some v32 ∧ w.cell? ⟨B + 1 + 1 + 1, 3, none⟩ = some v33 :=
 ⟨by rw [Lib.cell_of_heap h.c0]; rfl, by rw [Lib.cell_of_heap h.c0]; rfl, by rw [Lib.cell_of_heap h.c0]; rfl, by rw [Lib.cell_of_heap h.c0]; rfl, by rw [Lib.cell_of_heap h.c1]; rfl, by rw [Lib.cell_of_heap h.c1]; rfl, by rw [Lib.cell_of_heap h.c1]; rfl, by rw [Lib.cell_of_heap h.c1]; rfl, by rw [Lib.cell_of_heap h.c2]; rfl, by rw [Lib.cell_of_heap h.c2]; rfl, by rw [Lib.cell_of_heap h.c2]; rfl, by rw [Lib.cell_of_heap h.c2]; rfl, by rw [Lib.cell_of_heap h.c3]; rfl, by rw [Lib.cell_of_heap h.c3]; rfl, by rw [Lib.cell_of_heap h.c3]; rfl, by rw [Lib.cell_of_heap h.c3]; rfl⟩
theorem Cells16.frozen (h : Cells16 B w v00 v01 v02 v03 v10 v11 v12 v13 v20 v21 v22 v23 v30 v31 v32 v33) : w.frozen? ⟨B, 0, none⟩ = false ∧ w.frozen? ⟨B, 1, none⟩ = false ∧ w.frozen? ⟨B, 2, none⟩ = false ∧ w.frozen? ⟨B, 3, none⟩ = false ∧ w.frozen? ⟨B + 1, 0, none⟩ = false ∧ w.frozen? ⟨B + 1, 1, none⟩ = false ∧ w.frozen? ⟨B + 1, 2, none⟩ = false ∧ w.frozen? ⟨B + 1, 3, none⟩ = false ∧ w.frozen? ⟨B + 1 + 1, 0, none⟩ = false ∧ w.frozen? ⟨B + 1 + 1, 1, none⟩ = false ∧ w.frozen? ⟨B + 1 + 1, 2, none⟩ = false ∧ w.frozen? ⟨B + 1 + 1, 3, none⟩ = false ∧ w.frozen? ⟨B + 1 + 1 + 1, 0, none⟩ = false ∧ w.frozen? ⟨B + 1 + 1 + 1, 1, none⟩ = false ∧ w.frozen? ⟨B + 1 + 1 + 1, 2, none⟩ = false ∧ w.frozen? ⟨B + 1 + 1 + 1, 3, none⟩ = false :=
 ⟨Lib.frozen_of_heap h.c0 0, Lib.frozen_of_heap h.c0 1, Lib.frozen_of_heap h.c0 2, Lib.frozen_of_heap h.c0 3, Lib.frozen_of_heap h.c1 0, Lib.frozen_of_heap h.c1 1, Lib.frozen_of_heap h.c1 2, Lib.frozen_of_heap h.c1 3, Lib.frozen_of_heap h.c2 0, Lib.frozen_of_heap h.c2 1, Lib.frozen_of_heap h.c2 2, Lib.frozen_of_heap h.c2 3, Lib.frozen_of_heap h.c3 0, Lib.frozen_of_heap h.c3 1, Lib.frozen_of_heap h.c3 2, Lib.frozen_of_heap h.c3 3⟩
theorem Cells16.same (h : Cells16 B w v00 v01 v02 v03 v10 v11 v12 v13 v20 v21 v22 v23 v30 v31 v32 v33) : w.setCell ⟨B, 0, none⟩ v00 = w ∧ w.setCell ⟨B, 1, none⟩ v01 = w ∧ w.setCell ⟨B, 2, none⟩ v02 = w ∧ w.setCell ⟨B, 3, none⟩ v03 = w ∧ w.setCell ⟨B + 1, 0, none⟩ v10 = w ∧ w.setCell ⟨B + 1, 1, none⟩ v11 = w ∧ w.setCell ⟨B + 1, 2, none⟩ v12 = w ∧ w.setCell ⟨B + 1, 3, none⟩ v13 = w ∧ w.setCell ⟨B + 1 + 1, 0, none⟩ v20 = w ∧ w.setCell ⟨B + 1 + 1, 1, none⟩ v21 = w ∧ w.setCell ⟨B + 1 + 1, 2, none⟩ v22 = w ∧ w.setCell ⟨B + 1 + 1, 3, none⟩ v23 = w ∧ w.setCell ⟨B + 1 + 1 + 1, 0, none⟩ v30 = w ∧ w.setCell ⟨B + 1 + 1 + 1, 1, none⟩ v31 = w ∧ w.setCell ⟨B + 1 + 1 + 1, 2, none⟩ v32 = w ∧ w.setCell ⟨B + 1 + 1 + 1, 3, none⟩ v33 = w :=
 ⟨setCell_same h.c0 rfl, setCell_same h.c0 rfl, setCell_same h.c0 rfl, setCell_same h.c0 rfl, setCell_same h.c1 rfl, setCell_same h.c1 rfl, setCell_same h.c1 rfl, setCell_same h.c1 rfl, setCell_same h.c2 rfl, setCell_same h.c2 rfl, setCell_same h.c2 rfl, setCell_same h.c2 rfl, setCell_same h.c3 rfl, setCell_same h.c3 rfl, setCell_same h.c3 rfl, setCell_same h.c3 rfl⟩
theorem Cells16.drew (h : Cells16 B w v00 v01 v02 v03 v10 v11 v12 v13 v20 v21 v22 v23 v30 v31 v32 v33) : Cells16 B w.drew v00 v01 v02 v03 v10 v11 v12 v13 v20 v21 v22 v23 v30 v31 v32 v33 := ⟨h.c0, h.c1, h.c2, h.c3⟩
end
theorem cells16_made (w : World) : Cells16 w.heap.size ((((w.alloc (.cells #[.bool false, .slice none 0 0, .bool false, .slice none 0 0] 27)).alloc (.cells #[.bool false, .slice none 0 0, .bool false, .slice none 0 0] 27)).alloc (.cells #[.bool false, .slice none 0 0, .bool false, .slice none 0 0] 32)).alloc (.cells #[.bool false, .slice none 0 0, .bool false, .slice none 0 0] 32)) (.bool false) (.slice none 0 0) (.bool false) (.slice none 0 0) (.bool false) (.slice none 0 0) (.bool false) (.slice none 0 0) (.bool false) (.slice none 0 0) (.bool false) (.slice none 0 0) (.bool false) (.slice none 0 0) (.bool false) (.slice none 0 0) ∧ Below w.heap.size w ((((w.alloc (.cells #[.bool false, .slice none 0 0, .bool false, .slice none 0 0] 27)).alloc (.cells #[.bool false, .slice none 0 0, .bool false, .slice none 0 0] 27)).alloc (.cells #[.bool false, .slice none 0 0, .bool false, .slice none 0 0] 32)).alloc (.cells #[.bool false, .slice none 0 0, .bool false, .slice none 0 0] 32)) := by
 obtain ⟨W, hW, _, hb, q0, q1, q2, q3⟩ := alloc4 w (.cells #[.bool false, .slice none 0 0, .bool false, .slice none 0 0] 27) (.cells #[.bool false, .slice none 0 0, .bool false, .slice none 0 0] 27) (.cells #[.bool false, .slice none 0 0, .bool false, .slice none 0 0] 32) (.cells #[.bool false, .slice none 0 0, .bool false, .slice none 0 0] 32)
 rw [← hW]
 exact ⟨⟨q0, q1, q2, q3⟩, hb⟩
def GivesBothR (w : World) (s t : ByteArray) (e : Ending) (w' : World) : Prop :=
 ∃ (n1 : Bool) (a1 : Option Addr) (k1 c1 : Nat) (m1 : Bool) (e1 : Option Addr) (i1 j1 : Nat) (n2 : Bool) (a2 : Option Addr) (k2 c2 : Nat) (m2 : Bool) (e2 : Option Addr) (i2 j2 : Nat) (n3 : Bool) (a3 : Option Addr) (k3 c3 : Nat) (m3 : Bool) (e3 : Option Addr) (i3 j3 : Nat) (n4 : Bool) (a4 : Option Addr) (k4 c4 : Nat) (m4 : Bool) (e4 : Option Addr) (i4 j4 : Nat) (ok : Bool),
  e = .returned (.tuple #[.agg #[.bool n1, .slice a1 k1 c1, .bool m1, .slice e1 i1 j1], .agg #[.bool n2, .slice a2 k2 c2, .bool m2, .slice e2 i2 j2], .agg #[.bool n3, .slice a3 k3 c3, .bool m3, .slice e3 i3 j3], .agg #[.bool n4, .slice a4 k4 c4, .bool m4, .slice e4 i4 j4], .bool ok]) ∧
  (ok = true → s.size ≤ 400 ∧ t.size ≤ 400 ∧ qcode s.data.toList = 0 ∧ qcode t.data.toList = 0 ∧ RatR w' (.agg #[.bool n1, .slice a1 k1 c1, .bool m1, .slice e1 i1 j1]) (qval s.data.toList) ∧ RatR w' (.agg #[.bool n2, .slice a2 k2 c2, .bool m2, .slice e2 i2 j2]) (qval t.data.toList) ∧ RRatR w' (.agg #[.bool n3, .slice a3 k3 c3, .bool m3, .slice e3 i3 j3]) (qval s.data.toList) ∧ RRatR w' (.agg #[.bool n4, .slice a4 k4 c4, .bool m4, .slice e4 i4 j4]) (qval t.data.toList)) ∧ Below w.heap.size w w'
theorem results_bothR {P : Program} {fn : Func} {p1 p2 p3 p4 q : Tmp} {t1 t2 : TypeId} (h : fn.results = #[.cell p1 t1, .cell p2 t1, .cell p3 t2, .cell p4 t2, .tmp q]) (tmps : Array Value) (w : World) (B : Nat) (d1 d2 : TypeDesc) (v00 v01 v02 v03 v10 v11 v12 v13 v20 v21 v22 v23 v30 v31 v32 v33 v : Value)
  (h1 : tmps.getD p1 undef = .pointer (some ⟨B, 0, none⟩)) (h2 : tmps.getD p2 undef = .pointer (some ⟨B + 1, 0, none⟩)) (h3 : tmps.getD p3 undef = .pointer (some ⟨B + 1 + 1, 0, none⟩)) (h4 : tmps.getD p4 undef = .pointer (some ⟨B + 1 + 1 + 1, 0, none⟩)) (hq : tmps.getD q undef = v) (hc : Cells16 B w v00 v01 v02 v03 v10 v11 v12 v13 v20 v21 v22 v23 v30 v31 v32 v33)
  (hu1 : P.underlying t1 = some d1) (hd1 : (match d1 with | .struct _ | .array _ _ => true | _ => false) = true) (hi1 : (P.info? t1).map (·.size) = some 4)
  (hu2 : P.underlying t2 = some d2) (hd2 : (match d2 with | .struct _ | .array _ _ => true | _ => false) = true) (hi2 : (P.info? t2).map (·.size) = some 4) :
  (results fn tmps).run P w = .ok (.tuple #[.agg #[v00, v01, v02, v03], .agg #[v10, v11, v12, v13], .agg #[v20, v21, v22, v23], .agg #[v30, v31, v32, v33], v]) w := by
 have g1 : tmps[p1]?.getD undef = .pointer (some ⟨B, 0, none⟩) := by simpa using h1
 have g2 : tmps[p2]?.getD undef = .pointer (some ⟨B + 1, 0, none⟩) := by simpa using h2
 have g3 : tmps[p3]?.getD undef = .pointer (some ⟨B + 1 + 1, 0, none⟩) := by simpa using h3
 have g4 : tmps[p4]?.getD undef = .pointer (some ⟨B + 1 + 1 + 1, 0, none⟩) := by simpa using h4
 have gq : tmps[q]?.getD undef = v := by simpa using hq
 simp [results, h, g1, g2, g3, g4, gq, asAddr, run_loadVar_row w _ _ t1 _ _ d1 hc.c0 hu1 hd1 hi1, run_loadVar_row w _ _ t1 _ _ d1 hc.c1 hu1 hd1 hi1, run_loadVar_row w _ _ t2 _ _ d2 hc.c2 hu2 hd2 hi2, run_loadVar_row w _ _ t2 _ _ d2 hc.c3 hu2 hd2 hi2]
set_option maxHeartbeats 8000000 in
set_option maxRecDepth 100000 in
theorem ratboth_any {w : World} (s t : ByteArray) (hs : s.size ≤ 9223372036854775807) (ht : t.size ≤ 9223372036854775807) (hlen : Mlen w) :
  Calls Tryz.prog 13 #[.string s, .string t] w (GivesBothR w s t) := by
 have BF := hid (cells16_made w)
 have HML := hid hlen
 clear hlen
 by_cases hbig : s.size ≤ 400 ∧ t.size ≤ 400
 ·obtain ⟨hs6, ht6⟩ := hbig
  have hs6z : ¬ (400 : Int) < (s.size : Int) := by omega
  have ht6z : ¬ (400 : Int) < (t.size : Int) := by omega
  obtain ⟨cs, hcs⟩ : ∃ c, qcode s.data.toList = c := ⟨_, rfl⟩
  obtain ⟨ct, hct⟩ : ∃ c, qcode t.data.toList = c := ⟨_, rfl⟩
  have HCS := hid hcs
  have HCT := hid hct
  clear hcs hct
  go_enter Tryz.func13, Tryz.ntmps13
  go_wp2_with fail
  revert BF
  generalize ((((w.alloc (.cells #[.bool false, .slice none 0 0, .bool false, .slice none 0 0] 27)).alloc (.cells #[.bool false, .slice none 0 0, .bool false, .slice none 0 0] 27)).alloc (.cells #[.bool false, .slice none 0 0, .bool false, .slice none 0 0] 32)).alloc (.cells #[.bool false, .slice none 0 0, .bool false, .slice none 0 0] 32)) = W
  intro BF
  have HC := hid BF.out.1
  have HB := hid BF.out.2
  refine (ratparse_any (w := W) s (by omega) (HML.out.below HB.out)).mono ?_
  rintro e w1 ⟨n1, a1, k1, c1, m1, e1, i1, j1, rfl, hu, hb⟩
  rw [HCS.out]
  have HNX := hid (HC.out.next hb)
  have hni := noInt_one (noInt4 HNX.out.c0)
  have hst : Stay (w.heap.size) (w.heap.size + 1) w1 _ := set4_stay (x := .bool n1) (y := .slice a1 k1 c1) (z := .bool m1) (u := .slice e1 i1 j1)
  have HU1 := hid (hu.stay hst hni)
  have HBB := hid (bt HB.out hb)
  have hsb := hst.below (show w.heap.size ≤ w.heap.size by omega) HBB.out.size
  replace HC := hid (HNX.out.set0 (p := .bool n1) (q := .slice a1 k1 c1) (r := .bool m1) (u := .slice e1 i1 j1))
  replace HB := hid (HBB.out.trans hsb)
  obtain ⟨⟨g0, g1, g2, g3⟩, g4, g5, g6, g7⟩ := res4_facts HNX.out.c0
  clear hu hb HBB hsb hst hni HNX
  go_wp2_with fail
  clear g0 g1 g2 g3 g4 g5 g6 g7
  revert HU1 HC HB
  generalize ((((w1.setCell ⟨w.heap.size, 0, none⟩ (.bool n1)).setCell ⟨w.heap.size, 1, none⟩ (.slice a1 k1 c1)).setCell ⟨w.heap.size, 2, none⟩ (.bool m1)).setCell ⟨w.heap.size, 3, none⟩ (.slice e1 i1 j1)) = W1
  intro HU1 HC HB
  refine (ratparse_any (w := W1) t (by omega) (HML.out.below HB.out)).mono ?_
  rintro e w2 ⟨n2, a2, k2, c2, m2, e2, i2, j2, rfl, hu, hb⟩
  rw [HCT.out]
  have HNX := hid (HC.out.next hb)
  have hni := noInt_one (noInt4 HNX.out.c1)
  have hst : Stay (w.heap.size + 1) (w.heap.size + 1 + 1) w2 _ := set4_stay (x := .bool n2) (y := .slice a2 k2 c2) (z := .bool m2) (u := .slice e2 i2 j2)
  replace HU1 := hid ((HU1.out.below hb).stay hst hni)
  have HU2 := hid (hu.stay hst hni)
  have HBB := hid (bt HB.out hb)
  have hsb := hst.below (show w.heap.size ≤ w.heap.size + 1 by omega) HBB.out.size
  replace HC := hid (HNX.out.set1 (p := .bool n2) (q := .slice a2 k2 c2) (r := .bool m2) (u := .slice e2 i2 j2))
  replace HB := hid (HBB.out.trans hsb)
  obtain ⟨⟨g0, g1, g2, g3⟩, g4, g5, g6, g7⟩ := res4_facts HNX.out.c1
  clear hu hb HBB hsb hst hni HNX
  go_wp2_with fail
  clear g0 g1 g2 g3 g4 g5 g6 g7
  revert HU1 HU2 HC HB
  generalize ((((w2.setCell ⟨w.heap.size + 1, 0, none⟩ (.bool n2)).setCell ⟨w.heap.size + 1, 1, none⟩ (.slice a2 k2 c2)).setCell ⟨w.heap.size + 1, 2, none⟩ (.bool m2)).setCell ⟨w.heap.size + 1, 3, none⟩ (.slice e2 i2 j2)) = W2
  intro HU1 HU2 HC HB
  refine (rratparse_any (w := W2) s (by omega)).mono ?_
  rintro e w3 ⟨n3, a3, k3, c3, m3, e3, i3, j3, rfl, hu, hb⟩
  rw [HCS.out]
  have HNX := hid (HC.out.next hb)
  have hni := noInt_one (noInt4 HNX.out.c2)
  have hst : Stay (w.heap.size + 1 + 1) (w.heap.size + 1 + 1 + 1) w3 _ := set4_stay (x := .bool n3) (y := .slice a3 k3 c3) (z := .bool m3) (u := .slice e3 i3 j3)
  replace HU1 := hid ((HU1.out.below hb).stay hst hni)
  replace HU2 := hid ((HU2.out.below hb).stay hst hni)
  have HU3 := hid (hu.stay hst hni)
  have HBB := hid (bt HB.out hb)
  have hsb := hst.below (show w.heap.size ≤ w.heap.size + 1 + 1 by omega) HBB.out.size
  replace HC := hid (HNX.out.set2 (p := .bool n3) (q := .slice a3 k3 c3) (r := .bool m3) (u := .slice e3 i3 j3))
  replace HB := hid (HBB.out.trans hsb)
  obtain ⟨⟨g0, g1, g2, g3⟩, g4, g5, g6, g7⟩ := res4_facts HNX.out.c2
  clear hu hb HBB hsb hst hni HNX
  go_wp2_with fail
  clear g0 g1 g2 g3 g4 g5 g6 g7
  revert HU1 HU2 HU3 HC HB
  generalize ((((w3.setCell ⟨w.heap.size + 1 + 1, 0, none⟩ (.bool n3)).setCell ⟨w.heap.size + 1 + 1, 1, none⟩ (.slice a3 k3 c3)).setCell ⟨w.heap.size + 1 + 1, 2, none⟩ (.bool m3)).setCell ⟨w.heap.size + 1 + 1, 3, none⟩ (.slice e3 i3 j3)) = W3
  intro HU1 HU2 HU3 HC HB
  refine (rratparse_any (w := W3) t (by omega)).mono ?_
  rintro e w4 ⟨n4, a4, k4, c4, m4, e4, i4, j4, rfl, hu, hb⟩
  rw [HCT.out]
  have HNX := hid (HC.out.next hb)
  have hni := noInt_one (noInt4 HNX.out.c3)
  have hst : Stay (w.heap.size + 1 + 1 + 1) (w.heap.size + 1 + 1 + 1 + 1) w4 _ := set4_stay (x := .bool n4) (y := .slice a4 k4 c4) (z := .bool m4) (u := .slice e4 i4 j4)
  replace HU1 := hid ((HU1.out.below hb).stay hst hni)
  replace HU2 := hid ((HU2.out.below hb).stay hst hni)
  replace HU3 := hid ((HU3.out.below hb).stay hst hni)
  have HU4 := hid (hu.stay hst hni)
  have HBB := hid (bt HB.out hb)
  have hsb := hst.below (show w.heap.size ≤ w.heap.size + 1 + 1 + 1 by omega) HBB.out.size
  replace HC := hid (HNX.out.set3 (p := .bool n4) (q := .slice a4 k4 c4) (r := .bool m4) (u := .slice e4 i4 j4))
  replace HB := hid (HBB.out.trans hsb)
  obtain ⟨⟨g0, g1, g2, g3⟩, g4, g5, g6, g7⟩ := res4_facts HNX.out.c3
  clear hu hb HBB hsb hst hni HNX
  by_cases hcs0 : cs = 0
  ·by_cases hct0 : ct = 0
   ·subst hcs0 hct0
    go_wp2_with fail
    clear g0 g1 g2 g3 g4 g5 g6 g7
    revert HU1 HU2 HU3 HU4 HC HB
    generalize ((((w4.setCell ⟨w.heap.size + 1 + 1 + 1, 0, none⟩ (.bool n4)).setCell ⟨w.heap.size + 1 + 1 + 1, 1, none⟩ (.slice a4 k4 c4)).setCell ⟨w.heap.size + 1 + 1 + 1, 2, none⟩ (.bool m4)).setCell ⟨w.heap.size + 1 + 1 + 1, 3, none⟩ (.slice e4 i4 j4)) = W4
    intro HU1 HU2 HU3 HU4 HC HB
    obtain ⟨xe0, xe1, xe2, xe3, xe4, xe5, xe6, xe7, xe8, xe9, xe10, xe11, xe12, xe13, xe14, xe15⟩ := HC.out.drew.same
    obtain ⟨xf0, xf1, xf2, xf3, xf4, xf5, xf6, xf7, xf8, xf9, xf10, xf11, xf12, xf13, xf14, xf15⟩ := HC.out.drew.frozen
    have hcells := HC.out.drew.cells
    go_region_held3 (fun w' => w'.cell? ⟨w.heap.size, 0, none⟩ = some (.bool n1) ∧ w'.cell? ⟨w.heap.size, 1, none⟩ = some (.slice a1 k1 c1) ∧ w'.cell? ⟨w.heap.size, 2, none⟩ = some (.bool m1) ∧ w'.cell? ⟨w.heap.size, 3, none⟩ = some (.slice e1 i1 j1) ∧ w'.cell? ⟨w.heap.size + 1, 0, none⟩ = some (.bool n2) ∧ w'.cell? ⟨w.heap.size + 1, 1, none⟩ = some (.slice a2 k2 c2) ∧ w'.cell? ⟨w.heap.size + 1, 2, none⟩ = some (.bool m2) ∧ w'.cell? ⟨w.heap.size + 1, 3, none⟩ = some (.slice e2 i2 j2) ∧ w'.cell? ⟨w.heap.size + 1 + 1, 0, none⟩ = some (.bool n3) ∧ w'.cell? ⟨w.heap.size + 1 + 1, 1, none⟩ = some (.slice a3 k3 c3) ∧ w'.cell? ⟨w.heap.size + 1 + 1, 2, none⟩ = some (.bool m3) ∧ w'.cell? ⟨w.heap.size + 1 + 1, 3, none⟩ = some (.slice e3 i3 j3) ∧ w'.cell? ⟨w.heap.size + 1 + 1 + 1, 0, none⟩ = some (.bool n4) ∧ w'.cell? ⟨w.heap.size + 1 + 1 + 1, 1, none⟩ = some (.slice a4 k4 c4) ∧ w'.cell? ⟨w.heap.size + 1 + 1 + 1, 2, none⟩ = some (.bool m4) ∧ w'.cell? ⟨w.heap.size + 1 + 1 + 1, 3, none⟩ = some (.slice e4 i4 j4))
     (first | exact hcells | (simp only [xe0, xe1, xe2, xe3, xe4, xe5, xe6, xe7, xe8, xe9, xe10, xe11, xe12, xe13, xe14, xe15]; exact hcells))
     (fail)
    clear xe0 xe1 xe2 xe3 xe4 xe5 xe6 xe7 xe8 xe9 xe10 xe11 xe12 xe13 xe14 xe15 xf0 xf1 xf2 xf3 xf4 xf5 xf6 xf7 xf8 xf9 xf10 xf11 xf12 xf13 xf14 xf15 hcells
    all_goals
     have HC2 := hid HC.out.drew
     have HB2 := hid (Below.drew HB.out)
     clear HC
     have HC := HC2
     go_wp2
     try simp only [Exit.inBlock, Exit.then]
     refine bodyPost_ret (results_bothR rfl _ _ w.heap.size _ _ (.bool n1) (.slice a1 k1 c1) (.bool m1) (.slice e1 i1 j1) (.bool n2) (.slice a2 k2 c2) (.bool m2) (.slice e2 i2 j2) (.bool n3) (.slice a3 k3 c3) (.bool m3) (.slice e3 i3 j3) (.bool n4) (.slice a4 k4 c4) (.bool m4) (.slice e4 i4 j4) (.bool true) rfl rfl rfl rfl rfl HC.out Tryz.underlying27 rfl (by kernel_rfl) Tryz.underlying32 rfl (by kernel_rfl)) rfl ?_
     exact ⟨_, _, _, _, _, _, _, _, _, _, _, _, _, _, _, _, _, _, _, _, _, _, _, _, _, _, _, _, _, _, _, _, true, rfl, fun _ => ⟨hs6, ht6, HCS.out, HCT.out, HU1.out.below (Below.drew (Below.refl _ _)), HU2.out.below (Below.drew (Below.refl _ _)), HU3.out.below (Below.drew (Below.refl _ _)), HU4.out.below (Below.drew (Below.refl _ _))⟩, HB2.out⟩
   ·have ctz : (ct == 0) = false := by rw [beq_eq_false_iff_ne]; exact hct0
    have ctd : decide (ct = 0) = false := by simp [hct0]
    subst hcs0
    clear hct0
    go_wp2_with fail
    clear g0 g1 g2 g3 g4 g5 g6 g7
    revert HU1 HU2 HU3 HU4 HC HB
    generalize ((((w4.setCell ⟨w.heap.size + 1 + 1 + 1, 0, none⟩ (.bool n4)).setCell ⟨w.heap.size + 1 + 1 + 1, 1, none⟩ (.slice a4 k4 c4)).setCell ⟨w.heap.size + 1 + 1 + 1, 2, none⟩ (.bool m4)).setCell ⟨w.heap.size + 1 + 1 + 1, 3, none⟩ (.slice e4 i4 j4)) = W4
    intro HU1 HU2 HU3 HU4 HC HB
    obtain ⟨xe0, xe1, xe2, xe3, xe4, xe5, xe6, xe7, xe8, xe9, xe10, xe11, xe12, xe13, xe14, xe15⟩ := HC.out.drew.same
    obtain ⟨xf0, xf1, xf2, xf3, xf4, xf5, xf6, xf7, xf8, xf9, xf10, xf11, xf12, xf13, xf14, xf15⟩ := HC.out.drew.frozen
    obtain ⟨xg0, xg1, xg2, xg3, xg4, xg5, xg6, xg7, xg8, xg9, xg10, xg11, xg12, xg13, xg14, xg15⟩ := HC.out.same
    obtain ⟨xi0, xi1, xi2, xi3, xi4, xi5, xi6, xi7, xi8, xi9, xi10, xi11, xi12, xi13, xi14, xi15⟩ := HC.out.cells
    obtain ⟨xj0, xj1, xj2, xj3, xj4, xj5, xj6, xj7, xj8, xj9, xj10, xj11, xj12, xj13, xj14, xj15⟩ := HC.out.frozen
    go_region
    all_goals clear xe0 xe1 xe2 xe3 xe4 xe5 xe6 xe7 xe8 xe9 xe10 xe11 xe12 xe13 xe14 xe15 xf0 xf1 xf2 xf3 xf4 xf5 xf6 xf7 xf8 xf9 xf10 xf11 xf12 xf13 xf14 xf15 xg0 xg1 xg2 xg3 xg4 xg5 xg6 xg7 xg8 xg9 xg10 xg11 xg12 xg13 xg14 xg15 xi0 xi1 xi2 xi3 xi4 xi5 xi6 xi7 xi8 xi9 xi10 xi11 xi12 xi13 xi14 xi15 xj0 xj1 xj2 xj3 xj4 xj5 xj6 xj7 xj8 xj9 xj10 xj11 xj12 xj13 xj14 xj15
    all_goals
     have HC2 := hid HC.out.drew
     have HB2 := hid (Below.drew HB.out)
     clear HC
     have HC := HC2
     go_wp2
     try simp only [Exit.inBlock, Exit.then]
     refine bodyPost_ret (results_bothR rfl _ _ w.heap.size _ _ (.bool n1) (.slice a1 k1 c1) (.bool m1) (.slice e1 i1 j1) (.bool n2) (.slice a2 k2 c2) (.bool m2) (.slice e2 i2 j2) (.bool n3) (.slice a3 k3 c3) (.bool m3) (.slice e3 i3 j3) (.bool n4) (.slice a4 k4 c4) (.bool m4) (.slice e4 i4 j4) (.bool false) rfl rfl rfl rfl rfl HC.out Tryz.underlying27 rfl (by kernel_rfl) Tryz.underlying32 rfl (by kernel_rfl)) rfl ?_
     exact ⟨_, _, _, _, _, _, _, _, _, _, _, _, _, _, _, _, _, _, _, _, _, _, _, _, _, _, _, _, _, _, _, _, false, rfl, fun h => by simp at h, HB2.out⟩
  ·have csz : (cs == 0) = false := by rw [beq_eq_false_iff_ne]; exact hcs0
   have csd : decide (cs = 0) = false := by simp [hcs0]
   clear hcs0
   go_wp2_with fail
   clear g0 g1 g2 g3 g4 g5 g6 g7
   revert HU1 HU2 HU3 HU4 HC HB
   generalize ((((w4.setCell ⟨w.heap.size + 1 + 1 + 1, 0, none⟩ (.bool n4)).setCell ⟨w.heap.size + 1 + 1 + 1, 1, none⟩ (.slice a4 k4 c4)).setCell ⟨w.heap.size + 1 + 1 + 1, 2, none⟩ (.bool m4)).setCell ⟨w.heap.size + 1 + 1 + 1, 3, none⟩ (.slice e4 i4 j4)) = W4
   intro HU1 HU2 HU3 HU4 HC HB
   obtain ⟨xe0, xe1, xe2, xe3, xe4, xe5, xe6, xe7, xe8, xe9, xe10, xe11, xe12, xe13, xe14, xe15⟩ := HC.out.drew.same
   obtain ⟨xf0, xf1, xf2, xf3, xf4, xf5, xf6, xf7, xf8, xf9, xf10, xf11, xf12, xf13, xf14, xf15⟩ := HC.out.drew.frozen
   obtain ⟨xg0, xg1, xg2, xg3, xg4, xg5, xg6, xg7, xg8, xg9, xg10, xg11, xg12, xg13, xg14, xg15⟩ := HC.out.same
   obtain ⟨xi0, xi1, xi2, xi3, xi4, xi5, xi6, xi7, xi8, xi9, xi10, xi11, xi12, xi13, xi14, xi15⟩ := HC.out.cells
   obtain ⟨xj0, xj1, xj2, xj3, xj4, xj5, xj6, xj7, xj8, xj9, xj10, xj11, xj12, xj13, xj14, xj15⟩ := HC.out.frozen
   go_region
   all_goals clear xe0 xe1 xe2 xe3 xe4 xe5 xe6 xe7 xe8 xe9 xe10 xe11 xe12 xe13 xe14 xe15 xf0 xf1 xf2 xf3 xf4 xf5 xf6 xf7 xf8 xf9 xf10 xf11 xf12 xf13 xf14 xf15 xg0 xg1 xg2 xg3 xg4 xg5 xg6 xg7 xg8 xg9 xg10 xg11 xg12 xg13 xg14 xg15 xi0 xi1 xi2 xi3 xi4 xi5 xi6 xi7 xi8 xi9 xi10 xi11 xi12 xi13 xi14 xi15 xj0 xj1 xj2 xj3 xj4 xj5 xj6 xj7 xj8 xj9 xj10 xj11 xj12 xj13 xj14 xj15
   all_goals
    have HC2 := hid HC.out.drew
    have HB2 := hid (Below.drew HB.out)
    clear HC
    have HC := HC2
    go_wp2
    try simp only [Exit.inBlock, Exit.then]
    refine bodyPost_ret (results_bothR rfl _ _ w.heap.size _ _ (.bool n1) (.slice a1 k1 c1) (.bool m1) (.slice e1 i1 j1) (.bool n2) (.slice a2 k2 c2) (.bool m2) (.slice e2 i2 j2) (.bool n3) (.slice a3 k3 c3) (.bool m3) (.slice e3 i3 j3) (.bool n4) (.slice a4 k4 c4) (.bool m4) (.slice e4 i4 j4) (.bool false) rfl rfl rfl rfl rfl HC.out Tryz.underlying27 rfl (by kernel_rfl) Tryz.underlying32 rfl (by kernel_rfl)) rfl ?_
    exact ⟨_, _, _, _, _, _, _, _, _, _, _, _, _, _, _, _, _, _, _, _, _, _, _, _, _, _, _, _, _, _, _, _, false, rfl, fun h => by simp at h, HB2.out⟩
 ·have hcase : 400 < s.size ∨ (s.size ≤ 400 ∧ 400 < t.size) := by omega
  rcases hcase with h6 | ⟨h6, h7⟩
  case' inl => have hz : (400 : Int) < (s.size : Int) := by omega
  case' inr =>
   have hz : ¬ (400 : Int) < (s.size : Int) := by omega
   have hz2 : (400 : Int) < (t.size : Int) := by omega
  all_goals
   clear HML
   go_enter Tryz.func13, Tryz.ntmps13
   go_wp2_with fail
   revert BF
   generalize ((((w.alloc (.cells #[.bool false, .slice none 0 0, .bool false, .slice none 0 0] 27)).alloc (.cells #[.bool false, .slice none 0 0, .bool false, .slice none 0 0] 27)).alloc (.cells #[.bool false, .slice none 0 0, .bool false, .slice none 0 0] 32)).alloc (.cells #[.bool false, .slice none 0 0, .bool false, .slice none 0 0] 32)) = W
   intro BF
   have HC := hid BF.out.1
   have HB := hid BF.out.2
   obtain ⟨xe0, xe1, xe2, xe3, xe4, xe5, xe6, xe7, xe8, xe9, xe10, xe11, xe12, xe13, xe14, xe15⟩ := HC.out.drew.same
   obtain ⟨xf0, xf1, xf2, xf3, xf4, xf5, xf6, xf7, xf8, xf9, xf10, xf11, xf12, xf13, xf14, xf15⟩ := HC.out.drew.frozen
   have hcells := HC.out.drew.cells
   go_region_held3 (fun w' => w'.cell? ⟨w.heap.size, 0, none⟩ = some (.bool false) ∧ w'.cell? ⟨w.heap.size, 1, none⟩ = some (.slice none 0 0) ∧ w'.cell? ⟨w.heap.size, 2, none⟩ = some (.bool false) ∧ w'.cell? ⟨w.heap.size, 3, none⟩ = some (.slice none 0 0) ∧ w'.cell? ⟨w.heap.size + 1, 0, none⟩ = some (.bool false) ∧ w'.cell? ⟨w.heap.size + 1, 1, none⟩ = some (.slice none 0 0) ∧ w'.cell? ⟨w.heap.size + 1, 2, none⟩ = some (.bool false) ∧ w'.cell? ⟨w.heap.size + 1, 3, none⟩ = some (.slice none 0 0) ∧ w'.cell? ⟨w.heap.size + 1 + 1, 0, none⟩ = some (.bool false) ∧ w'.cell? ⟨w.heap.size + 1 + 1, 1, none⟩ = some (.slice none 0 0) ∧ w'.cell? ⟨w.heap.size + 1 + 1, 2, none⟩ = some (.bool false) ∧ w'.cell? ⟨w.heap.size + 1 + 1, 3, none⟩ = some (.slice none 0 0) ∧ w'.cell? ⟨w.heap.size + 1 + 1 + 1, 0, none⟩ = some (.bool false) ∧ w'.cell? ⟨w.heap.size + 1 + 1 + 1, 1, none⟩ = some (.slice none 0 0) ∧ w'.cell? ⟨w.heap.size + 1 + 1 + 1, 2, none⟩ = some (.bool false) ∧ w'.cell? ⟨w.heap.size + 1 + 1 + 1, 3, none⟩ = some (.slice none 0 0))
    (first | exact hcells | (simp only [xe0, xe1, xe2, xe3, xe4, xe5, xe6, xe7, xe8, xe9, xe10, xe11, xe12, xe13, xe14, xe15]; exact hcells))
    (fail)
   clear xe0 xe1 xe2 xe3 xe4 xe5 xe6 xe7 xe8 xe9 xe10 xe11 xe12 xe13 xe14 xe15 xf0 xf1 xf2 xf3 xf4 xf5 xf6 xf7 xf8 xf9 xf10 xf11 xf12 xf13 xf14 xf15 hcells
   all_goals
    have HC2 := hid HC.out.drew
    have HB2 := hid (Below.drew HB.out)
    clear HC
    have HC := HC2
    go_wp2
    try simp only [Exit.inBlock, Exit.then]
    refine bodyPost_ret (results_bothR rfl _ _ w.heap.size _ _ (.bool false) (.slice none 0 0) (.bool false) (.slice none 0 0) (.bool false) (.slice none 0 0) (.bool false) (.slice none 0 0) (.bool false) (.slice none 0 0) (.bool false) (.slice none 0 0) (.bool false) (.slice none 0 0) (.bool false) (.slice none 0 0) (.bool false) rfl rfl rfl rfl rfl HC.out Tryz.underlying27 rfl (by kernel_rfl) Tryz.underlying32 rfl (by kernel_rfl)) rfl ?_
    exact ⟨_, _, _, _, _, _, _, _, _, _, _, _, _, _, _, _, _, _, _, _, _, _, _, _, _, _, _, _, _, _, _, _, false, rfl, fun h => by simp at h, HB2.out⟩
end Go.Proofs.YtikpafocankggaaGreatDoor
