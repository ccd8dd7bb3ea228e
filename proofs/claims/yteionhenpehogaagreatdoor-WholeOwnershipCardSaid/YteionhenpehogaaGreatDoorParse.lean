import Derived.Test.YteionhenpehogaaGreatDoorInts
import Derived.Test.YteionhenpehogaaGreatDoorPlainZ
import Derived.Test.YteionhenpehogaaGreatDoorShelf
import Derived.Test.YteionhenpehogaaGreatDoorDivs
import Derived.Test.YteionhenpehogaaGreatDoorPlain
import Derived.Lib.OthersKept
import Derived.Laws.RangeAny
namespace Go.Proofs.YteionhenpehogaaGreatDoor
open Go.RowKit Tally
theorem results_cell_slot {P : Program} {fn : Func} {p q : Tmp} {ty : TypeId} (h : fn.results = #[.cell p ty, .tmp q]) (tmps : Array Value) (w : World) (g : Nat) (t : TypeId) (cs : Array Value) (fr : Nat × Nat) (d : TypeDesc) (v : Value)
  (hp : tmps.getD p undef = .pointer (some ⟨g, 0, none⟩)) (hq : tmps.getD q undef = v) (hg : w.heap[g]? = some (.cells cs t fr))
  (hu : P.underlying ty = some d) (hd : (match d with | .struct _ | .array _ _ => true | _ => false) = true) (hi : (P.info? ty).map (·.size) = some cs.size) :
  (results fn tmps).run P w = .ok (.tuple #[.agg cs, v]) w := by
 have hp' : tmps[p]?.getD undef = .pointer (some ⟨g, 0, none⟩) := by simpa using hp
 have hq' : tmps[q]?.getD undef = v := by simpa using hq
 simp [results, h, hp', hq', asAddr, run_loadVar_row w g t ty cs fr d hg hu hd hi]
theorem intR_zero (w : World) : IntR w (.agg #[.bool false, .slice none 0 0]) 0 :=
 ⟨false, _, [], rfl, ⟨none, 0, 0, 0, rfl, by simp, by omega, fun h => by simp at h, fun i hi => by simp at hi⟩, canon_nil _, by simp, by simp⟩
theorem owns_below {w w' : World} {base : Nat} {e : TypeId} {size : Nat} {v : Value} {n : Nat} {xs : List Value} (h : w.ownsRow base e size v n xs) (hb : Below w.heap.size w w') : w'.ownsRow base e size v n xs := by
 obtain ⟨h1, h2⟩ := h
 refine ⟨h1, ?_⟩
 rcases h2 with h2 | ⟨g, cap, cur, a, b, c, d⟩
 ·exact .inl h2
 ·exact .inr ⟨g, cap, cur, a, b, blk_next c hb, d⟩
end Go.Proofs.YteionhenpehogaaGreatDoor
namespace Go.Proofs.YteionhenpehogaaGreatDoor
open Go.RowKit Tally
set_option maxHeartbeats 2000000 in
theorem quorem_any {w : World} {v u : Value} {x y : Int} {N : Nat} (h : IntR w v x) (k : IntR w u y) (hy0 : y ≠ 0) (hx : Dg N x) (hN : N ≤ 999999999990) :
  Calls Tryz.prog 127 #[v, u] w (GivesZZE w (x.tdiv y) (x.tmod y) 0) := by
 have K := Lib.hid k
 obtain ⟨n1, s1, l1, rfl, lr1, ca1, g1, z1, ab1⟩ := h.parts
 obtain ⟨n2, s2, l2, rfl, lr2, ca2, g2, z2, ab2⟩ := k.parts
 obtain ⟨a1, bb1, oo1, c1, rfl, q1⟩ := id lr1
 obtain ⟨a2, bb2, oo2, c2, rfl, q2⟩ := id lr2
 have f1 := IntR.few ca1 ab1 hx
 have hne : l2 ≠ [] := by
  rintro rfl
  simp at ab2
  omega
 have hsg : (y.sign == 0) = false := by
  rw [beq_eq_false_iff_ne]
  intro e
  exact hy0 (Int.sign_eq_zero_iff_zero.1 e)
 have HQ := Lib.hid (show (if (n1 != n2) = true then -((val 1000000000 l1 / val 1000000000 l2 : Nat) : Int) else ((val 1000000000 l1 / val 1000000000 l2 : Nat) : Int)) = x.tdiv y from by rw [z1, z2]; exact tdiv_signs)
 have HM := Lib.hid (show (if n1 = true then -((val 1000000000 l1 % val 1000000000 l2 : Nat) : Int) else ((val 1000000000 l1 % val 1000000000 l2 : Nat) : Int)) = x.tmod y from by rw [z1, z2]; exact tmod_signs)
 have L1 := Lib.hid lr1
 have L2 := Lib.hid lr2
 have C1 := Lib.hid ca1
 have C2' := Lib.hid ca2
 have HNE := Lib.hid hne
 have HF := Lib.hid (show ∀ m, l1 = m → m.length ≤ 999999999999 from fun m e => by subst e; omega)
 generalize l1.length = k1 at *
 generalize l2.length = k2 at *
 clear h k lr1 lr2 ca1 ca2 g1 g2 z1 z2 ab1 ab2 q1 q2 hx hne hy0
 go_enter Tryz.func127, Tryz.ntmps127
 go_wp2_with fail
 obtain ⟨W, hW, hs, hb, b0, b1, b2, b3⟩ := alloc4 w (.cells #[.bool n1, .slice a1 k1 c1] 35) (.cells #[.bool n2, .slice a2 k2 c2] 35) (.cells #[.bool false, .slice none 0 0] 35) (.cells #[.bool false, .slice none 0 0] 35)
 rw [← hW]
 have HB := Lib.hid hb
 have HS := Lib.hid hs
 have B0 := Lib.hid b0
 have B1 := Lib.hid b1
 have B2 := Lib.hid b2
 have B3 := Lib.hid b3
 clear hW hs hb b0 b1 b2 b3
 refine (sign_any (K.out.below HB.out)).mono ?_
 rintro e w1 ⟨rfl, hb1⟩
 have HB1 := Lib.hid (bt HB.out hb1)
 replace HS := Lib.hid (show w.heap.size + 1 + 1 + 1 + 1 ≤ w1.heap.size from by have := HS.out; have := hb1.size; omega)
 replace B0 := Lib.hid (blk_next B0.out hb1)
 replace B1 := Lib.hid (blk_next B1.out hb1)
 replace B2 := Lib.hid (blk_next B2.out hb1)
 replace B3 := Lib.hid (blk_next B3.out hb1)
 clear hb1
 obtain ⟨d0, d1, _, _⟩ := res_facts B0.out
 obtain ⟨d2, d3, _, _⟩ := res_facts B1.out
 go_wp2_with fail
 refine (divide_any (L1.out.below HB1.out) (L2.out.below HB1.out) C1.out C2'.out HNE.out (HF.out _ rfl)).mono ?_
 rintro e w2 ⟨p1, i1, j1, p2, i2, j2, lq, lr, rfl, hq1, hr1, hq2, hr2, hq3, hr3, hb2⟩
 have HB2 := Lib.hid (bt HB1.out hb2)
 replace HS := Lib.hid (show w.heap.size + 1 + 1 + 1 + 1 ≤ w2.heap.size from by have := HS.out; have := hb2.size; omega)
 replace B0 := Lib.hid (blk_next B0.out hb2)
 replace B1 := Lib.hid (blk_next B1.out hb2)
 replace B2 := Lib.hid (blk_next B2.out hb2)
 replace B3 := Lib.hid (blk_next B3.out hb2)
 have HQ1 := Lib.hid hq1
 have HR1 := Lib.hid hr1
 have HQ2 := Lib.hid hq2
 have HR2 := Lib.hid hr2
 have HQ3 := Lib.hid hq3
 have HR3 := Lib.hid hr3
 clear hb2 d0 d1 d2 d3 hq1 hr1 hq2 hr2 hq3 hr3
 obtain ⟨d0, d1, _, _⟩ := res_facts B0.out
 obtain ⟨d2, d3, _, _⟩ := res_facts B1.out
 have HL := Lib.hid (fun (w' : World) (hb : Below (w.heap.size + 1 + 1) w2 w') => (⟨hb, (hb.cell (p := ⟨w.heap.size, 0, none⟩) (show w.heap.size < w.heap.size + 1 + 1 by omega)).trans d0, (hb.cell (p := ⟨w.heap.size + 1, 0, none⟩) (show w.heap.size + 1 < w.heap.size + 1 + 1 by omega)).trans d2⟩ : Below (w.heap.size + 1 + 1) w2 w' ∧ w'.cell? ⟨w.heap.size, 0, none⟩ = some (.bool n1) ∧ w'.cell? ⟨w.heap.size + 1, 0, none⟩ = some (.bool n2)))
 have HBW := Lib.hid (show w.heap.size + 1 + 1 ≤ w2.heap.size by have := HS.out; omega)
 have HB0 := Lib.hid (Below.refl (w.heap.size + 1 + 1) w2)
 have HC0 := Lib.hid (Below.drew (Below.refl w2.heap.size w2))
 clear d0 d1 d2 d3
 obtain ⟨d0, d1, _, _⟩ := res_facts B0.out
 obtain ⟨d2, d3, _, _⟩ := res_facts B1.out
 go_wp2_with fail
 go_region_held3 (fun w' => Below (w.heap.size + 1 + 1) w2 w' ∧ w'.cell? ⟨w.heap.size, 0, none⟩ = some (.bool n1) ∧ w'.cell? ⟨w.heap.size + 1, 0, none⟩ = some (.bool n2))
  (first | exact HL.out _ (Below.drew HB0.out) | exact HL.out _ (held_next (And.left (by assumption)) HBW.out (by assumption)) | exact HL.out _ (held_set2 (And.left (by assumption)) (by omega)))
  (first | (go_at_call 117; (with_reducible refine (signed_gives (HQ1.out.below HC0.out) HQ2.out).mono ?_); rintro e w3 ⟨n3, a3, k3, c3, rfl, hu3, hb3⟩; have HU3 := Lib.hid hu3; have HB3 := Lib.hid hb3; clear hu3) | (go_at_call 117; (with_reducible refine (signed_gives (HR1.out.below (bt HC0.out HB3.out)) HR2.out).mono ?_); rintro e w4 ⟨n4, a4, k4, c4, rfl, hu4, hb4⟩; have HU4 := Lib.hid hu4; have HB4 := Lib.hid hb4; have C2 := Lib.hid (blk_next (blk_next (blk_next B2.out HC0.out) HB3.out) HB4.out); have C3 := Lib.hid (blk_next (blk_next (blk_next B3.out HC0.out) HB3.out) HB4.out); clear hu4; obtain ⟨d4, d5, e4, e5⟩ := res_facts C2.out; obtain ⟨d6, d7, e6, e7⟩ := res_facts C3.out))
 go_wp2
 try simp only [Exit.inBlock, Exit.then]
 have S22 := store22 (x' := .bool n3) (y' := .slice a3 k3 c3) (z' := .bool n4) (u' := .slice a4 k4 c4) C2.out C3.out (show w.heap.size + 1 + 1 ≠ w.heap.size + 1 + 1 + 1 by omega)
 refine bodyPost_ret (results_cell2_slot rfl _ _ (w.heap.size + 1 + 1) (w.heap.size + 1 + 1 + 1) 35 35 _ _ (0, 0) (0, 0) _ _ (.int .i64 0) rfl rfl rfl S22.2.1 S22.2.2 Tryz.underlying35 rfl (by kernel_rfl) Tryz.underlying35 rfl (by kernel_rfl)) rfl ?_
 have fit := HU3.out
 have fit2 := HU4.out
 rw [HQ3.out, show (!(n1 == n2)) = (n1 != n2) from rfl, HQ.out] at fit
 rw [HR3.out, HM.out] at fit2
 exact ⟨_, _, _, _, _, _, _, _, rfl, ((fit.below HB4.out).set2 C2.out).set2 S22.1, (fit2.set2 C2.out).set2 S22.1, held_set2 (held_set2 (bt (bt (bt HB2.out HC0.out) HB3.out) HB4.out) (by omega)) (by omega)⟩
end Go.Proofs.YteionhenpehogaaGreatDoor
namespace Go.Proofs.YteionhenpehogaaGreatDoor
open Go.RowKit Tally
theorem lr_shape {w : World} {v : Value} {l : List Nat} (h : LR w v l) : ∃ a c, v = .slice a l.length c := by
 obtain ⟨a, b, o, c, rfl, _⟩ := h
 exact ⟨a, c, rfl⟩
structure ValG (w : World) (N G : Nat) (v u : Value) (a b : List Nat) : Prop where
 ra : LR w v a
 rb : LR w u b
 ca : Canon 1000000000 a
 cb : Canon 1000000000 b
 la : a.length ≤ N
 lb : b.length ≤ N
 gcd : (val 1000000000 a).gcd (val 1000000000 b) = G
theorem ValG.below {w w' : World} {N G : Nat} {v u : Value} {a b : List Nat} (h : ValG w N G v u a b) (hb : Below w.heap.size w w') : ValG w' N G v u a b :=
 ⟨h.ra.below hb, h.rb.below hb, h.ca, h.cb, h.la, h.lb, h.gcd⟩
theorem canon_len {a b : List Nat} (ca : Canon 1000000000 a) (cb : Canon 1000000000 b) (h : val 1000000000 a ≤ val 1000000000 b) : a.length ≤ b.length := Nat.le_of_not_lt fun q => by
 have := Canon.lt_of_length (B := 1000000000) (by decide) cb.1 ca q
 omega
set_option maxHeartbeats 2000000 in
theorem gcd_any {w : World} {v u : Value} {x y : Int} {N : Nat} (h : IntR w v x) (k : IntR w u y) (hx : Dg N x) (hy : Dg N y) (hN : N ≤ 999999999990) :
  Calls Tryz.prog 125 #[v, u] w (GivesZ w ((x.gcd y : Nat) : Int)) := by
 obtain ⟨n1, s1, l1, rfl, lr1, ca1, g1, z1, ab1⟩ := h.parts
 obtain ⟨n2, s2, l2, rfl, lr2, ca2, g2, z2, ab2⟩ := k.parts
 have f1 := IntR.few ca1 ab1 hx
 have f2 := IntR.few ca2 ab2 hy
 have hG : (val 1000000000 l1).gcd (val 1000000000 l2) = x.gcd y := by rw [← ab1, ← ab2]; rfl
 obtain ⟨G, hg⟩ : ∃ G, x.gcd y = G := ⟨_, rfl⟩
 rw [hg] at hG ⊢
 obtain ⟨a1, c1, rfl⟩ := lr_shape lr1
 obtain ⟨a2, c2, rfl⟩ := lr_shape lr2
 have V0 := Lib.hid (show ValG w (N + 1) G _ _ l1 l2 from ⟨lr1, lr2, ca1, ca2, f1, f2, hG⟩)
 clear h k lr1 lr2 ca1 ca2 g1 g2 z1 z2 ab1 ab2 hx hy f1 f2 hG hg
 obtain ⟨k1, hk1⟩ : ∃ k, l1.length = k := ⟨_, rfl⟩
 obtain ⟨k2, hk2⟩ : ∃ k, l2.length = k := ⟨_, rfl⟩
 rw [hk1, hk2] at V0
 simp only [hk1, hk2]
 have HK1 := Lib.hid hk1
 have HK2 := Lib.hid hk2
 clear hk1 hk2
 go_enter Tryz.func125, Tryz.ntmps125
 go_wp2_with fail
 obtain ⟨W, hW, hs, hb, b0, b1, b2⟩ := alloc3 w (.cells #[.bool n1, .slice a1 k1 c1] 35) (.cells #[.bool n2, .slice a2 k2 c2] 35) (.cells #[.bool false, .slice none 0 0] 35)
 rw [← hW]
 have HB := Lib.hid hb
 have B2 := Lib.hid b2
 have V1 := Lib.hid (V0.out.below hb)
 obtain ⟨d0, d1, _, _⟩ := res_facts b0
 obtain ⟨d2, d3, _, _⟩ := res_facts b1
 clear hW hs hb b0 b1 b2
 go_quiet (fail)
 go_wp2_with fail
 clear d0 d1 d2 d3
 go_loopg [5, 6, 7, 8] (val 1000000000 l2) (fun g s5 s6 s7 s8 wr => ∃ (p1 : Option Addr) (i1 j1 : Nat) (p2 : Option Addr) (i2 j2 : Nat) (a b : List Nat), s5 = .slice p1 i1 j1 ∧ s6 = .slice p2 i2 j2 ∧ Hid (b.length = i2) ∧ Hid (g = val 1000000000 b) ∧ ValG wr (N + 1) G (.slice p1 i1 j1) (.slice p2 i2 j2) a b ∧ wr.heap[w.heap.size + 1 + 1]? = some (.cells #[.bool false, .slice none 0 0] 35 (0, 0)) ∧ Below w.heap.size w wr)
 case atStart =>
  have bx : ∀ n, Below W.heap.size W (W.drewN n) := fun n => Below.drewN' (Below.refl _ _) n
  exact ⟨a1, k1, c1, a2, k2, c2, l1, l2, rfl, rfl, HK2, rfl, V1.out.below (bx _), blk_next B2.out (bx _), bt HB.out (bx _)⟩
 case round =>
  obtain ⟨p1, i1, j1, p2, i2, j2, a, b, rfl, rfl, hlen, hg, hI, hblk, hbr⟩ := hrel
  have HI := Lib.hid hI
  have HBK := Lib.hid hblk
  have HBR := Lib.hid hbr
  clear hI hblk hbr
  by_cases h0 : i2 = 0
  ·subst h0
   have hbn : b = [] := List.length_eq_zero_iff.1 hlen.out
   have HGA := Lib.hid (show val 1000000000 a = G from by have := HI.out.gcd; rw [hbn] at this; simpa using this)
   go_wp2_with fail
   refine (signed_gives HI.out.ra HI.out.ca.1).mono ?_
   rintro e w2 ⟨n3, a3, k3, c3, rfl, hu3, hb3⟩
   have HU3 := Lib.hid hu3
   have HR3 := Lib.hid (blk_next HBK.out hb3)
   clear hu3
   obtain ⟨d0, d1, e0, e1⟩ := res_facts HR3.out
   go_wp2
   try simp only [Exit.inBlock, Exit.then]
   refine bodyPost_ret (results_cell_row rfl _ _ (w.heap.size + 1 + 1) 35 _ (0, 0) _ rfl (res_set HR3.out) Tryz.underlying35 rfl (by kernel_rfl)) rfl ?_
   have fit := HU3.out
   rw [HGA.out] at fit
   simp only [Bool.false_eq_true, if_false] at fit
   exact ⟨_, _, _, _, rfl, fit.set2 HR3.out, held_set2 (bt HBR.out hb3) (by omega)⟩
  ·have hp : (0 : Int) < (i2 : Int) := by omega
   have hne : b ≠ [] := by rintro rfl; have := hlen.out; simp at this; omega
   have HNE := Lib.hid hne
   clear hne h0
   go_wp2_with fail
   refine (divide_any HI.out.ra HI.out.rb HI.out.ca HI.out.cb HNE.out (by have := HI.out.la; omega)).mono ?_
   rintro e w2 ⟨q1, m1, o1, q2, m2, o2, lq, lr, rfl, hq1, hr1, hq2, hr2, hq3, hr3, hb2⟩
   have HR1 := Lib.hid hr1
   have HR2 := Lib.hid hr2
   have HR3 := Lib.hid hr3
   have HB2 := Lib.hid hb2
   clear hq1 hr1 hq2 hr2 hq3 hr3 hb2
   go_wp2_with fail
   refine (trim_same HR1.out).mono ?_
   rintro e w3 ⟨rfl, htr, hb3⟩
   have HTR := Lib.hid htr
   have HB3 := Lib.hid hb3
   have CT := Lib.hid (canon_trimZ 1000000000 lr HR2.out)
   have LT := Lib.hid (show LR w3 (.slice q2 (trimZ lr).length o2) (trimZ lr) from by
    have := (HR1.out.below hb3).cut (k := (trimZ lr).length) (trimZ_le lr)
    rw [← htr] at this
    exact this)
   have VLT := Lib.hid (show val 1000000000 (trimZ lr) < val 1000000000 b from by
    rw [val_trimZ, HR3.out]
    exact Nat.mod_lt _ (HI.out.cb.pos (by decide) HNE.out))
   obtain ⟨m, hm⟩ : ∃ m, (trimZ lr).length = m := ⟨_, rfl⟩
   rw [hm] at LT ⊢
   have HM := Lib.hid hm
   clear htr hb3 hm
   go_wp2
   go_roundg (val 1000000000 (trimZ lr))
   case measure => have := VLT.out; have := hg.out; omega
   case rel =>
    have bx := bt HB2.out HB3.out
    refine ⟨p2, i2, j2, q2, m, o2, b, trimZ lr, rfl, rfl, HM, rfl, ⟨HI.out.rb.below bx, LT.out, HI.out.cb, CT.out, HI.out.lb, Nat.le_trans (canon_len CT.out HI.out.cb (Nat.le_of_lt VLT.out)) HI.out.lb, ?_⟩, blk_next HBK.out bx, bt HBR.out bx⟩
    rw [val_trimZ, HR3.out, Nat.gcd_comm, ← Nat.gcd_rec, Nat.gcd_comm]
    exact HI.out.gcd
end Go.Proofs.YteionhenpehogaaGreatDoor
