import Derived.Test.YteionhenpehogaaGreatDoorReachZ
import Derived.Deep.LoopGhost
import Derived.Deep.Light
import Derived.Deep.QuietTactic
import Derived.BigQuiet
import Derived.Outline
import Derived.Maps.AppendAt
namespace Go.Proofs.YteionhenpehogaaGreatDoor.Gc
open Go.RowKit Graph.Plain
def MatR (w : World) (v : Value) (G : Nat) (L : Nat → Nat) (Z : Nat → Nat → Int) : Prop :=
 ∃ (a : Option Addr) (b o c : Nat) (A : Nat → Option Addr) (B O C : Nat → Nat), v = .slice a G c ∧ G ≤ c ∧ c ≤ 9223372036854775807 ∧ (0 < G → a = some ⟨b, o, none⟩) ∧
  ∀ r, r < G → w.cell? ⟨b, o + r, none⟩ = some (.slice (A r) (L r) (C r)) ∧ L r ≤ C r ∧ C r ≤ 9223372036854775807 ∧ (0 < L r → A r = some ⟨B r, O r, none⟩) ∧
   ∀ k, k < L r → w.cell? ⟨B r, O r + k, none⟩ = some (.int .i64 (Z r k))
theorem MatR.below {w w' : World} {v : Value} {G : Nat} {L : Nat → Nat} {Z : Nat → Nat → Int} (h : MatR w v G L Z) (hb : Below w.heap.size w w') : MatR w' v G L Z := by
 obtain ⟨a, b, o, c, A, B, O, C, hv, h1, h2, h3, h4⟩ := h
 refine ⟨a, b, o, c, A, B, O, C, hv, h1, h2, h3, fun r hr => ?_⟩
 obtain ⟨q1, q2, q3, q4, q5⟩ := h4 r hr
 refine ⟨?_, q2, q3, q4, fun k hk => ?_⟩
 ·rw [hb.cell (p := ⟨b, o + r, none⟩) (World.block_lt_of_cell? _ _ q1)]; exact q1
 ·rw [hb.cell (p := ⟨B r, O r + k, none⟩) (World.block_lt_of_cell? _ _ (q5 k hk))]; exact q5 k hk
theorem info4 : (Tryz.prog.info? 4).map (fun i => (i.zero, i.size, i.bytes)) = some (some (.bool false), 1, 1) := by kernel_rfl
theorem info3 : (Tryz.prog.info? 3).map (fun i => (i.zero, i.size, i.bytes)) = some (some (.int .i64 0), 1, 8) := by kernel_rfl
def part (Z : Nat → Nat → Int) (r c k : Nat) : Int := sumTo (fun i => Z i k) r + if k < c then Z r k else 0
def Good (G : Nat) (L : Nat → Nat) (Z : Nat → Nat → Int) (r : Nat) : Prop := L r = G ∧ ∀ c, c < G → 0 ≤ Z r c ∧ Z r c ≤ 10000
theorem part_bd {G : Nat} {L : Nat → Nat} {Z : Nat → Nat → Int} {r k : Nat} (hG : G ≤ 12) (hr : r ≤ G) (h : ∀ i, i < r → Good G L Z i) (hk : k < G) : 0 ≤ sumTo (fun i => Z i k) r ∧ sumTo (fun i => Z i k) r ≤ 120000 := by
 have := sumTo_bound (f := fun i => Z i k) (c := 10000) (by omega) r (fun i hi => (h i hi).2 k hk)
 omega
set_option maxHeartbeats 1000000 in
theorem valid_any {w : World} {v : Value} {G : Nat} {L : Nat → Nat} {Z : Nat → Nat → Int} {vb : Bool} (hvb : vb = true ↔ Vld G L Z) (h : MatR w v G L Z) :
  Calls Tryz.prog 107 #[v] w fun e w' => e = .returned (.bool vb) ∧ Below w.heap.size w w' := by
 obtain ⟨a, b, o, c, A, B, O, C, rfl, l1, m1, s1, r1⟩ := h
 by_cases g1 : G < 1
 ·have gz : (G : Int) < 1 := by omega
  have hf : vb = false := by cases vb; rfl; exact absurd (hvb.1 rfl).1 (by omega)
  subst hf
  clear hvb
  go_enter Tryz.func107, Tryz.ntmps107
  go_wp2
  go_ret
  exact ⟨rfl, Below.refl _ _⟩
 have gz : ¬ (G : Int) < 1 := by omega
 by_cases g2 : 12 < G
 ·have gz2 : (12 : Int) < (G : Int) := by omega
  have hf : vb = false := by cases vb; rfl; exact absurd (hvb.1 rfl).2.1 (by omega)
  subst hf
  clear hvb
  go_enter Tryz.func107, Tryz.ntmps107
  go_wp2
  go_ret
  exact ⟨rfl, Below.refl _ _⟩
 have gz2 : ¬ (12 : Int) < (G : Int) := by omega
 have HV : Hid (vb = true ↔ Vld G L Z) := hvb
 clear hvb
 have hmk := run_make_row' (P := Tryz.prog) 53 3 (.int .i64 0) 8 Tryz.underlying53 info3 rfl .i64 .i64 G (by omega) (by omega)
 obtain rfl := s1 (by omega)
 go_enter Tryz.func107, Tryz.ntmps107
 go_wp2
 clear hmk
 go_loopg [23] G (fun g i wr => ∃ r : Nat, r ≤ G ∧ g = G - r ∧ i = .int .i64 r ∧ Below w.heap.size w wr ∧ w.heap.size < wr.heap.size ∧ wr.rowIs w.heap.size 3 G (fun k => .int .i64 (sumTo (fun i => Z i k) r)) ∧ ∀ i, i < r → Good G L Z i)
 case atStart => exact ⟨0, Nat.zero_le _, rfl, rfl, (Below.refl _ _).alloc (Nat.le_refl _) _, by simp, (World.rowIs_made w _ G 3).congr (fun j _ => by simp [sumTo]), fun i hi => absurd hi (Nat.not_lt_zero _)⟩
 case round =>
  obtain ⟨r, hr, rfl, rfl, hb, hsz, hrow, hgood⟩ := hrel
  by_cases hrG : r < G
  ·obtain ⟨t1, t2, t3, t4, t5⟩ := r1 r hrG
   have u1 := keepc hb t1
   have hrz : (r : Int) < (G : Int) := by omega
   by_cases hL : L r = G
   ·have hLz : ((L r : Int) != (G : Int)) = false := by rw [hL]; simp
    have hLr : (L r : Int) ≤ 12 := by omega
    have HL : Hid (L r = G) := hL
    have HR : Hid (∀ r, r < G → w.cell? ⟨b, o + r, none⟩ = some (.slice (A r) (L r) (C r)) ∧ L r ≤ C r ∧ C r ≤ 9223372036854775807 ∧ (0 < L r → A r = some ⟨B r, O r, none⟩) ∧ ∀ k, k < L r → w.cell? ⟨B r, O r + k, none⟩ = some (.int .i64 (Z r k))) := r1
    have hA := t4 (by omega)
    rw [hA] at u1
    have H5 := Lib.hid t5
    have HG := Lib.hid hgood
    clear r1 t4 t5 t1 hL hgood hA
    go_wp2
    go_loopg [33] (L r) (fun g i wi => ∃ c : Nat, c ≤ G ∧ g = G - c ∧ i = .int .i64 c ∧ Below w.heap.size w wi ∧ w.heap.size < wi.heap.size ∧ wi.rowIs w.heap.size 3 G (fun k => .int .i64 (part Z r c k)) ∧ ∀ k, k < c → 0 ≤ Z r k ∧ Z r k ≤ 10000)
    case atStart =>
     go_light
     exact ⟨0, Nat.zero_le _, by rw [HL.out]; rfl, rfl, hb, hsz, hrow.congr (fun j _ => by simp [part]), fun i hi => absurd hi (Nat.not_lt_zero _)⟩
    case round =>
     obtain ⟨c, hc, rfl, rfl, hbi, hszi, hrowi, hgi⟩ := hrel
     clear hb hsz hrow u1
     by_cases hcG : c < G
     ·have hcL : (c : Int) < (L r : Int) := by rw [HL.out]; omega
      have x1 := keepc hbi (H5.out c (by rw [HL.out]; exact hcG))
      obtain ⟨z, hz⟩ : ∃ z, z = Z r c := ⟨_, rfl⟩
      rw [← hz] at x1
      by_cases z0 : z < 0
      ·have hf : vb = false := by cases vb; rfl; exact absurd ((HV.out.1 rfl).2.2.2.1 r c hrG hcG).1 (by omega)
       subst hf
       clear HV HR hz
       go_wp2
       go_ret
       exact ⟨rfl, hbi⟩
      by_cases z1 : 10000 < z
      ·have hf : vb = false := by cases vb; rfl; exact absurd ((HV.out.1 rfl).2.2.2.1 r c hrG hcG).2 (by omega)
       subst hf
       clear HV HR hz
       go_wp2
       go_ret
       exact ⟨rfl, hbi⟩
      have HZ := Lib.hid hz
      have y1 := hrowi.cell hcG
      have y2 := hrowi.frozen c
      obtain ⟨s, hs⟩ : ∃ s, s = part Z r c c := ⟨_, rfl⟩
      rw [← hs] at y1
      have hbd := part_bd (k := c) (by omega) hr HG.out hcG
      have hs0 : 0 ≤ s ∧ s ≤ 120000 := by rw [hs]; simp only [part]; simp; exact hbd
      have HS := Lib.hid hs
      clear hbd hs hz
      obtain ⟨hs1, hs2⟩ := hs0
      go_wp2
      go_roundg (G - (c + 1))
      case measure => go_light; omega
      case rel =>
       go_light
       refine ⟨c + 1, by omega, rfl, by simp, hbi.setCell (Nat.le_refl _) _, by simpa using hszi, (hrowi.set c _).congr (fun j hj => ?_), fun k hk => ?_⟩
       ·by_cases e : j = c
        ·subst e; rw [if_pos rfl, HS.out, HZ.out]; simp [part]
        ·rw [if_neg e]
         have e1 : (j < c) = (j < c + 1) := by apply propext; omega
         simp only [part, e1]
       ·by_cases e : k = c
        ·subst e; rw [← HZ.out]; omega
        ·exact hgi k (by omega)
     ·have hcL : ¬ (c : Int) < (L r : Int) := by rw [HL.out]; omega
      obtain rfl : c = G := by omega
      go_wp2
      go_roundg (c - (r + 1))
      case measure => go_light; omega
      case rel =>
       go_light
       refine ⟨r + 1, by omega, rfl, by simp, hbi, hszi, hrowi.congr (fun j hj => ?_), fun i hi => ?_⟩
       ·simp [part, hj, sumTo]
       ·by_cases e : i = r
        ·subst e; exact ⟨HL.out, hgi⟩
        ·exact HG.out i (by omega)
   ·have hLz : ((L r : Int) != (G : Int)) = true := by simp; omega
    have hf : vb = false := by cases vb; rfl; exact absurd ((HV.out.1 rfl).2.2.1 r hrG) hL
    subst hf
    clear HV r1 t4 t5 t1 hL hgood
    go_wp2
    go_ret
    exact ⟨rfl, hb⟩
  ·obtain rfl : r = G := by omega
   have hrz : ¬ (r : Int) < (r : Int) := by omega
   clear r1
   go_wp2
   go_loopg [55] r (fun g i wi => ∃ k : Nat, k ≤ r ∧ g = r - k ∧ i = .int .i64 k ∧ wi = wr ∧ ∀ j, j < k → sumTo (fun i => Z i j) r ≤ 10000)
   case atStart =>
    go_light
    exact ⟨0, Nat.zero_le _, rfl, rfl, rfl, fun i hi => absurd hi (Nat.not_lt_zero _)⟩
   case round =>
    obtain ⟨k, hk, rfl, rfl, rfl, hle⟩ := hrel
    have HG := Lib.hid hgood
    have HE := Lib.hid hle
    clear hgood hle
    by_cases hkr : k < r
    ·have hkz : (k : Int) < (r : Int) := by omega
     have y1 := hrow.cell hkr
     obtain ⟨s, hs⟩ : ∃ s, s = sumTo (fun i => Z i k) r := ⟨_, rfl⟩
     rw [← hs] at y1
     by_cases hs1 : 10000 < s
     ·have hf : vb = false := by cases vb; rfl; exact absurd ((HV.out.1 rfl).2.2.2.2 k hkr) (by omega)
      subst hf
      clear HV hs
      go_wp2
      go_ret
      exact ⟨rfl, hb⟩
     ·have HS := Lib.hid hs
      clear hs
      go_wp2
      go_roundg (r - (k + 1))
      case measure => go_light; omega
      case rel =>
       go_light
       refine ⟨k + 1, by omega, rfl, by simp, rfl, fun j hj => ?_⟩
       by_cases e : j = k
       ·subst e; rw [← HS.out]; omega
       ·exact HE.out j (by omega)
    ·obtain rfl : k = r := by omega
     have hkz : ¬ (k : Int) < (k : Int) := by omega
     have hf : vb = true := HV.out.2 ⟨by omega, by omega, fun i hi => (HG.out i hi).1, fun i j hi hj => (HG.out i hi).2 j hj, HE.out⟩
     subst hf
     clear HV HG HE
     go_wp2
     go_ret
     exact ⟨rfl, hb⟩
def ints (xs : List Nat) : List Value := xs.map fun x : Nat => Value.int .i64 (x : Int)
theorem ints_snoc (xs : List Nat) (x : Nat) : ints (xs ++ [x]) = ints xs ++ [.int .i64 (x : Int)] := by simp [ints]
theorem mz_len (n : Nat) (o : Nat → Bool) (len : Nat) : len ≤ mz n o len := by unfold mz; omega
structure MarkR (w0 w wr : World) (G : Nat) (Z : Nat → Nat → Int) (I : Nat → Prop) (v : Value) (o : Nat → Bool) (xs : List Nat) : Prop where
 below : Below w0.heap.size w0 wr
 size : w.heap.size < wr.heap.size
 out : wr.rowIs w.heap.size 4 G (fun i => .bool (o i))
 own : wr.ownsRow w0.heap.size 3 1 v xs.length (ints xs)
 st : Mk G Z I o xs
 bound : mz G o xs.length ≤ 400
structure MarkIn (w0 w wr : World) (G : Nat) (Z : Nat → Nat → Int) (I : Nat → Prop) (v : Value) (o : Nat → Bool) (xs : List Nat) (h e m : Nat) : Prop where
 below : Below w0.heap.size w0 wr
 size : w.heap.size < wr.heap.size
 out : wr.rowIs w.heap.size 4 G (fun i => .bool (o i))
 own : wr.ownsRow w0.heap.size 3 1 v xs.length (ints xs)
 st : MkIn G Z I o xs h e
 bound : mz G o xs.length + G ≤ m + e
 top : m ≤ 400
theorem markIn_push {w0 w wr w' : World} {G : Nat} {Z : Nat → Nat → Int} {I : Nat → Prop} {v v' : Value} {o : Nat → Bool} {xs : List Nat} {h e m : Nat} (k : MarkIn w0 w wr G Z I v o xs h e m) (hw : w0.heap.size ≤ w.heap.size) (he : e < G) (hz : 0 < Z h e)
  {ob : Obj} (hown : w'.ownsRow w0.heap.size 3 1 v' (xs.length + 1) (ints xs ++ [.int .i64 (e : Int)])) (hg : (wr.alloc ob).grownBy w' v.ownBlock) : MarkIn w0 w w' G Z I v' o (xs ++ [e]) h (e + 1) m := by
 have hsz := k.size
 refine ⟨(k.below.alloc (by omega) _).grown hg (by simp; omega) (fun j hj => (k.own.lt j hj).1), ?_, rowIs_grown (k.out.alloc _) (k.own.alloc _) hg (by decide), ?_, k.st.push he hz, ?_, k.top⟩
 ·have := hg.size; simp at this; omega
 ·rw [ints_snoc, List.length_append]; exact hown
 ·have := k.bound; unfold mz at this ⊢; simp only [List.length_append, List.length_cons, List.length_nil]; omega
def Reached (w0 w : World) (G : Nat) (Z : Nat → Nat → Int) (I : Nat → Prop) (e : Ending) (w' : World) : Prop :=
 ∃ o : Nat → Bool, e = .returned (.slice (some ⟨w.heap.size, 0, none⟩) G G) ∧ w'.rowIs w.heap.size 4 G (fun i => .bool (o i)) ∧ IsReach G Z I o ∧ Below w0.heap.size w0 w'
set_option maxHeartbeats 1000000 in
theorem mark_any {w0 w : World} {v u : Value} {G : Nat} {L : Nat → Nat} {Z : Nat → Nat → Int} {I : Nat → Prop} {xs : List Nat} (hv : Vld G L Z) (hb0 : Below w0.heap.size w0 w) (h : MatR w0 v G L Z)
  (hown : w.ownsRow w0.heap.size 3 1 u xs.length (ints xs)) (hmk : Mk G Z I (fun _ => false) xs) (hlen : xs.length ≤ 100) :
  Calls Tryz.prog 108 #[v, u] w (Reached w0 w G Z I) := by
 obtain ⟨a, b, o, c, A, B, O, C, rfl, l1, m1, s1, r1⟩ := h
 obtain ⟨g1, g2, g3, g4, g5⟩ := hv
 obtain rfl := s1 (by omega)
 have hws := hb0.size
 have hmake := run_make_row' (P := Tryz.prog) 41 4 (.bool false) 1 Tryz.underlying41 info4 rfl .i64 .i64 G (by omega) (by omega)
 obtain ⟨i0, hi, hz0, hz1, hz2⟩ := info_parts info3
 go_enter Tryz.func108, Tryz.ntmps108
 go_wp2
 clear hmake
 have start : MarkR w0 w (w.alloc (.cells (madeCells #[.bool false] G) 4)) G Z I u (fun _ => false) xs :=
  ⟨hb0.alloc hws _, by simp, World.rowIs_made w _ G 4, hown.alloc _, hmk, by have := mz_le (n := G) (o := fun _ => false) (len := xs.length); have : G * (G + 1) ≤ 12 * 13 := Nat.mul_le_mul g2 (by omega); omega⟩
 clear hown hmk hlen hb0
 have G3 := Lib.hid g3
 have G4 := Lib.hid g4
 clear g3 g4 g5
 go_loopg [1] (mz G (fun _ => false) xs.length) (fun g s wr => ∃ (q : Nat → Bool) (ys : List Nat), g = mz G q ys.length ∧ MarkR w0 w wr G Z I s q ys)
 case atStart => exact ⟨_, _, rfl, start⟩
 case round =>
  obtain ⟨q, ys, rfl, hm⟩ := hrel
  clear start
  have hys : ys.length ≤ 400 := by have := hm.bound; unfold mz at this; omega
  rcases hm.own.2 with ⟨rfl, hn0⟩ | ⟨g, cap, cur, rfl, hg, hh, hnc, hcm, hcs, htake⟩
  ·have hn : ys = [] := List.eq_nil_of_length_eq_zero hn0
   subst hn
   clear hn0 r1
   go_wp2
   go_ret
   exact ⟨q, rfl, hm.out, hm.st.done, hm.below⟩
  clear htake hcs hh
  by_cases hne : ys = []
  ·subst hne
   clear r1
   go_wp2
   go_ret
   exact ⟨q, rfl, hm.out, hm.st.done, hm.below⟩
  obtain ⟨zs, x, rfl⟩ : ∃ zs x, ys = zs ++ [x] := ⟨ys.dropLast, ys.getLast hne, (List.dropLast_concat_getLast hne).symm⟩
  have hxw := (hm.st.work x (by simp)).1
  have hown2 : wr.ownsRow w0.heap.size 3 1 (.slice (some ⟨g, 0, none⟩) zs.length cap) zs.length (ints zs) := by
   have := hm.own
   rw [ints_snoc, List.length_append] at this
   exact ownsRow_pop (by simp [ints]) this
  have hcell : wr.cell? ⟨g, zs.length, none⟩ = some (.int .i64 (x : Int)) := by
   have := hm.own.cellAt zs.length (by simp)
   rw [this, ints_snoc, List.getElem?_append_right (by simp [ints])]
   simp [ints]
  have hlen2 : (zs ++ [x]).length = zs.length + 1 := by simp
  have HM := Lib.hid hm
  have HO := Lib.hid hown2
  have hxG : (x : Int) < (G : Int) := by omega
  have y1 := hm.out.cell hxw
  have y2 := hm.out.frozen x
  rw [hlen2]
  rw [hlen2] at hnc hys
  have hcm' : cap ≤ 9223372036854775807 := by unfold maxLen at hcm; omega
  clear hcm hown2 hm hlen2 hne
  cases hq : q x
  ·rw [hq] at y1
   obtain ⟨t1, t2, t3, t4, t5⟩ := r1 x hxw
   have hLx := G3.out x hxw
   rw [t4 (by omega)] at t1
   have x1 := keepc HM.out.below t1
   have x2 : wr.cell? ⟨w.heap.size, x, none⟩ = some (.bool false) := y1
   have hbw : b < w.heap.size := by have := World.block_lt_of_cell? _ _ t1; simp at this; omega
   have x3 : ∀ u, (wr.setCell ⟨w.heap.size, x, none⟩ u).cell? ⟨b, o + x, none⟩ = some (.slice (some ⟨B x, O x, none⟩) (L x) (C x)) := fun u => by
    rw [World.cell?_setCell_other _ _ _ _ (fun e => by have := congrArg Addr.block e; simp at this; omega)]; exact x1
   have hLz : (L x : Int) ≤ 12 := by omega
   have enter : MarkIn w0 w (wr.setCell ⟨w.heap.size, x, none⟩ (.bool true)) G Z I (.slice (some ⟨g, 0, none⟩) zs.length cap) (setB q x) zs x 0 (mz G q (zs.length + 1) - 1) := by
    have hm := HM.out
    refine ⟨hm.below.setCell hws _, by simpa using hm.size, (hm.out.set x _).congr (fun j _ => ?_), ?_, hm.st.enter, ?_, ?_⟩
    ·unfold setB; by_cases e : j = x
     ·subst e; simp
     ·simp [e]
    ·refine HO.out.kept (row := some w.heap.size) ⟨rfl, rfl, rfl, by simp [World.setCell], fun k _ hk => Below.heap_setCell _ _ _ _ (fun e => hk (by rw [e]))⟩ (.inr ?_)
     intro e
     simp [Value.ownBlock] at e
     obtain ⟨cs, hcs, _⟩ := hm.out
     rcases HO.out.2 with ⟨h1, _⟩ | ⟨g', _, _, h1, _, h2, _⟩
     ·cases h1
     ·cases h1
      rw [e, hcs] at h2
      simp at h2
    ·have := mz_setB (len := zs.length) hxw hq
     have h2 : mz G q (zs.length + 1) = mz G q zs.length + 1 := by unfold mz; omega
     omega
    ·have := hm.bound; simp at this; omega
   have HLx := Lib.hid hLx
   have HE := Lib.hid enter
   have H5 := Lib.hid t5
   have hbB : 0 < L x → B x < w0.heap.size := fun h0 => by have := World.block_lt_of_cell? _ _ (t5 0 h0); simpa using this
   clear hq t4 t5 t1 hLx enter r1
   go_wp2
   go_loopg [1, 38] G (fun g s i wi => ∃ (ys : List Nat) (e : Nat), e ≤ G ∧ g = G - e ∧ i = .int .i64 e ∧ MarkIn w0 w wi G Z I s (setB q x) ys x e (mz G q (zs.length + 1) - 1))
   case atStart => go_light; exact ⟨zs, 0, Nat.zero_le _, rfl, rfl, HE.out⟩
   case round =>
    obtain ⟨ks, e, he, rfl, rfl, hk⟩ := hrel
    by_cases heG : e < G
    ·have hez : (e : Int) < (L x : Int) := by rw [HLx.out]; omega
     have z1 := keepc hk.below (H5.out e (by rw [HLx.out]; exact heG))
     have hkl : ks.length ≤ 412 := by have h1 := hk.bound; have h2 := hk.top; have h3 := mz_len G (setB q x) ks.length; omega
     by_cases hz : 0 < Z x e
     ·have HK := Lib.hid hk
      have hown := hk.own
      have hsz := hk.size
      clear hk
      go_wp2_with (at_builtin; refine wpList_append_own _ rfl _ _ 53 rfl w0.heap.size 3 i0 (.int .i64 0) 1 8 Tryz.underlying53 hi hz0 hz1 hz2 rfl (by decide) _ _ _ rfl (hown.alloc _) ⟨wr.heap.size, 0, none⟩ 1 1 [.int .i64 (e : Int)] rfl rfl (cell_one_new _ _ _) (ints_oneCell .i64 [(e : Int)]) (by unfold maxLen; omega) (by omega) (by simp; omega) ?_)
      intro v' w1 hown' hgrow _
      have hk2 := markIn_push HK.out hws heG hz hown' hgrow
      clear hown' hgrow hown
      go_wp2
      go_roundg (G - (e + 1))
      case measure => go_light; omega
      case rel => go_light; exact ⟨_, e + 1, by omega, rfl, by simp, hk2⟩
     ·go_wp2
      go_roundg (G - (e + 1))
      case measure => go_light; omega
      case rel => go_light; exact ⟨ks, e + 1, by omega, rfl, by simp, hk.below, hk.size, hk.out, hk.own, hk.st.pass (by omega), by have := hk.bound; omega, hk.top⟩
    ·have hez : ¬ (e : Int) < (L x : Int) := by rw [HLx.out]; omega
     obtain rfl : e = G := by omega
     go_wp2
     go_roundg (mz e (setB q x) ks.length)
     case measure => go_light; have h1 := hk.bound; have h3 := mz_len e q (zs.length + 1); omega
     case rel => go_light; exact ⟨_, ks, rfl, hk.below, hk.size, hk.out, hk.own, hk.st.leave, by have := hk.bound; have h2 := hk.top; omega⟩
  ·rw [hq] at y1
   have HQ := Lib.hid hq
   clear r1 hq
   go_wp2
   go_roundg (mz G q zs.length)
   case measure => go_light; unfold mz; simp
   case rel =>
    go_light
    have hm := HM.out
    exact ⟨q, zs, rfl, hm.below, hm.size, hm.out, HO.out, hm.st.skip HQ.out, by have := hm.bound; unfold mz at this ⊢; simp at this; omega⟩
def NewRow (w : World) (G : Nat) (f : Nat → Bool) (e : Ending) (w' : World) : Prop :=
 ∃ bk, w.heap.size ≤ bk ∧ e = .returned (.slice (some ⟨bk, 0, none⟩) G G) ∧ w'.rowIs bk 4 G (fun i => .bool (f i)) ∧ Below w.heap.size w w'
section
variable {w : World} {v : Value} {G : Nat} {L : Nat → Nat} {Z : Nat → Nat → Int}
theorem vb_true (hv : Vld G L Z) : (true = true) ↔ Vld G L Z := ⟨fun _ => hv, fun _ => rfl⟩
end
noncomputable def cB (n : Nat) (Z : Nat → Nat → Int) (e : Nat) : Bool := @decide (∃ k, k < n ∧ 0 < Z e k ∧ R n Z k e) (Classical.propDecidable _)
theorem cB_iff {n : Nat} {Z : Nat → Nat → Int} {e : Nat} : cB n Z e = true ↔ ∃ k, k < n ∧ 0 < Z e k ∧ R n Z k e := by unfold cB; exact @decide_eq_true_iff _ (Classical.propDecidable _)
theorem cB_of {n : Nat} {Z : Nat → Nat → Int} {h : Nat} {o : Nat → Bool} (hn : h < n) (k : IsReach n Z (fun a => a < n ∧ 0 < Z h a) o) : o h = cB n Z h := by
 rw [Bool.eq_iff_iff, k.iff hn, cB_iff]
 constructor
 ·intro hr
  refine hr (fun e => ∃ k, k < n ∧ 0 < Z h k ∧ R n Z k e) (fun a ha => ⟨a, ha.1, ha.2, R.refl _ _ _⟩) (fun a b ha hb hS hz => ?_)
  obtain ⟨k, h1, h2, h3⟩ := hS
  exact ⟨k, h1, h2, h3.step ha hb hz⟩
 ·rintro ⟨k, h1, h2, h3⟩
  exact ReachF.mono h3 fun a ha => by subst ha; exact ReachF.init ⟨h1, h2⟩
structure Succ (n : Nat) (Z : Nat → Nat → Int) (h e : Nat) (xs : List Nat) : Prop where
 mem : ∀ x, x ∈ xs → x < n ∧ 0 < Z h x
 all : ∀ a, a < e → 0 < Z h a → a ∈ xs
 len : xs.length ≤ e
theorem Succ.push {n : Nat} {Z : Nat → Nat → Int} {h e : Nat} {xs : List Nat} (k : Succ n Z h e xs) (he : e < n) (hz : 0 < Z h e) : Succ n Z h (e + 1) (xs ++ [e]) :=
 ⟨fun x hx => by
  rcases List.mem_append.1 hx with q | q
  ·exact k.mem x q
  ·simp at q; subst q; exact ⟨he, hz⟩, fun a ha hza => by
  by_cases e1 : a = e
  ·simp [e1]
  ·simp [k.all a (by omega) hza], by have := k.len; simp; omega⟩
theorem Succ.pass {n : Nat} {Z : Nat → Nat → Int} {h e : Nat} {xs : List Nat} (k : Succ n Z h e xs) (hz : ¬ 0 < Z h e) : Succ n Z h (e + 1) xs :=
 ⟨k.mem, fun a ha hza => by
  by_cases e1 : a = e
  ·subst e1; exact absurd hza hz
  ·exact k.all a (by omega) hza, by have := k.len; omega⟩
section
variable {w : World} {v : Value} {G : Nat} {L : Nat → Nat} {Z : Nat → Nat → Int}
set_option maxHeartbeats 1000000 in
theorem cyclic_yes (hv : Vld G L Z) (h : MatR w v G L Z) : Calls Tryz.prog 60 #[v] w (NewRow w G (cB G Z)) := by
 have HV := Lib.hid hv
 have HM := Lib.hid h
 obtain ⟨g1, g2, g3, g4, g5⟩ := hv
 have h' := h
 obtain ⟨a, b, o, c, A, B, O, C, rfl, l1, m1, s1, r1⟩ := h'
 obtain rfl := s1 (by omega)
 have hmake := run_make_row' (P := Tryz.prog) 41 4 (.bool false) 1 Tryz.underlying41 info4 rfl .i64 .i64 G (by omega) (by omega)
 obtain ⟨i0, hi, hz0, hz1, hz2⟩ := info_parts info3
 have R1 := Lib.hid r1
 have G3 := Lib.hid g3
 clear r1 g3 g4 g5 h
 go_enter Tryz.func60, Tryz.ntmps60
 go_wp2_with (go_at_call 107; refine (valid_any (vb_true HV.out) HM.out).mono ?_; rintro e w1 ⟨rfl, hb⟩)
 clear hmake
 have hsz1 := hb.size
 go_loopg [17] G (fun g s wr => ∃ k : Nat, k ≤ G ∧ g = G - k ∧ s = .int .i64 k ∧ Below w.heap.size w wr ∧ w1.heap.size < wr.heap.size ∧ ∃ f : Nat → Bool, wr.rowIs w1.heap.size 4 G (fun i => .bool (f i)) ∧ ∀ i, i < k → f i = cB G Z i)
 case atStart =>
  go_light
  exact ⟨0, Nat.zero_le _, rfl, rfl, hb.alloc hsz1 _, by simp, _, World.rowIs_made w1 _ G 4, fun i hi => absurd hi (Nat.not_lt_zero _)⟩
 case round =>
  obtain ⟨k, hk, rfl, rfl, hbr, hszr, f, hrow, hf⟩ := hrel
  have HF := Lib.hid hf
  clear hf
  by_cases hkG : k < G
  ·have hkz : (k : Int) < (G : Int) := by omega
   obtain ⟨t1, t2, t3, t4, t5⟩ := R1.out k hkG
   have hL := G3.out k hkG
   rw [t4 (by omega)] at t1
   have x1 := keepc hbr t1
   have hLz : (L k : Int) ≤ 12 := by omega
   have HL := Lib.hid hL
   have H5 := Lib.hid t5
   have HB := Lib.hid hbr
   have HW := Lib.hid hrow
   clear t1 t4 t5 hL hbr hrow
   obtain ⟨wo, rfl⟩ : ∃ wo : World, wo = wr := ⟨_, rfl⟩
   go_wp2
   go_loopg [6, 24] G (fun g s i wi => ∃ (xs : List Nat) (e : Nat), e ≤ G ∧ g = G - e ∧ i = .int .i64 e ∧ Below wo.heap.size wo wi ∧ wi.ownsRow wo.heap.size 3 1 s xs.length (ints xs) ∧ Succ G Z k e xs)
   case atStart => go_light; exact ⟨[], 0, Nat.zero_le _, rfl, rfl, Below.refl _ _, World.ownsRow_nil _ _ _ _, ⟨by simp, fun a ha => absurd ha (Nat.not_lt_zero _), Nat.le_refl _⟩⟩
   case round =>
    obtain ⟨xs, e, he, rfl, rfl, hbi, hown, hsucc⟩ := hrel
    by_cases heG : e < G
    ·have hez : (e : Int) < (L k : Int) := by rw [HL.out]; omega
     have z1 := keepc hbi (keepc HB.out (H5.out e (by rw [HL.out]; exact heG)))
     have hxl := hsucc.len
     have HS := Lib.hid hsucc
     have HBI := Lib.hid hbi
     have hszi := hbi.size
     clear hsucc hbi
     by_cases hz : 0 < Z k e
     ·go_wp2_with (at_builtin; refine wpList_append_own _ rfl _ _ 53 rfl wo.heap.size 3 i0 (.int .i64 0) 1 8 Tryz.underlying53 hi hz0 hz1 hz2 rfl (by decide) _ _ _ rfl (hown.alloc _) ⟨wr.heap.size, 0, none⟩ 1 1 [.int .i64 (e : Int)] rfl rfl (cell_one_new _ _ _) (ints_oneCell .i64 [(e : Int)]) (by unfold maxLen; omega) (by omega) (by simp; omega) ?_)
      intro v' w1' hown' hgrow _
      have hb2 : Below wo.heap.size wo w1' := (HBI.out.alloc hszi _).grown hgrow (by simp; omega) (fun j hj => (hown.lt j hj).1)
      have ho2 : w1'.ownsRow wo.heap.size 3 1 v' (xs ++ [e]).length (ints (xs ++ [e])) := by rw [ints_snoc, List.length_append]; exact hown'
      clear hown' hgrow hown
      go_wp2
      go_roundg (G - (e + 1))
      case measure => go_light; omega
      case rel => go_light; exact ⟨_, e + 1, by omega, rfl, by simp, hb2, ho2, HS.out.push heG hz⟩
     ·go_wp2
      go_roundg (G - (e + 1))
      case measure => go_light; omega
      case rel => go_light; exact ⟨_, e + 1, by omega, rfl, by simp, HBI.out, hown, HS.out.pass (by omega)⟩
    ·have hez : ¬ (e : Int) < (L k : Int) := by rw [HL.out]; omega
     obtain rfl : e = G := by omega
     have HS := Lib.hid hsucc
     have HBI := Lib.hid hbi
     have HO := Lib.hid hown
     clear hsucc hbi hown
     go_wp2_with fail
     refine (mark_any (w0 := wo) (I := fun a => a < e ∧ 0 < Z k a) HV.out HBI.out (HM.out.below HB.out) HO.out (Mk.start (fun x hx => (HS.out.mem x hx).1) HS.out.mem (fun a ha hI => HS.out.all a hI.1 hI.2)) (by have := HS.out.len; omega)).mono ?_
     rintro e2 w2 ⟨q, rfl, hrow2, hreach, hb2⟩
     have y1 := hrow2.cell hkG
     have hrow3 := HW.out.of_block (hb2.block w1.heap.size hszr)
     have y2 := hrow3.cell hkG
     have y3 := hrow3.frozen k
     rw [cB_of hkG hreach] at y1
     have HR3 := Lib.hid hrow3
     have HB2 := Lib.hid hb2
     clear hrow2 hrow3 hb2 hreach
     go_wp2
     go_roundg (e - (k + 1))
     case measure => go_light; omega
     case rel =>
      go_light
      refine ⟨k + 1, by omega, rfl, by simp, (HB.out.trans (HB2.out.mono HB.out.size)).setCell hsz1 _, by have := HB2.out.size; simp; omega, fun j => if j = k then cB e Z k else f j, (HR3.out.set k _).congr (fun j _ => ?_), fun i hi => ?_⟩
      ·by_cases e1 : j = k
       ·subst e1; simp
       ·simp [e1]
      ·by_cases e1 : i = k
       ·subst e1; simp
       ·simp only [e1, if_false]; exact HF.out i (by omega)
  ·have hkz : ¬ (k : Int) < (G : Int) := by omega
   obtain rfl : k = G := by omega
   have HB := Lib.hid hbr
   have HW := Lib.hid hrow
   clear hbr hrow
   go_wp2
   go_ret
   exact ⟨_, hsz1, rfl, HW.out.congr (fun i hi => by rw [HF.out i hi]), HB.out⟩
end
theorem matR_of {w : World} {v : Value} {G : Nat} {Z : Nat → Nat → Int} (h : MatZ w v G G Z) : MatR w v G (fun _ => G) Z := by
 obtain ⟨a, b, o, c, rfl, h2, h3, h4, h5⟩ := h
 have each : ∀ i, ∃ q : Option Addr × Nat × Nat × Nat, i < G → w.cell? ⟨b, o + i, none⟩ = some (.slice q.1 G q.2.2.2) ∧ G ≤ q.2.2.2 ∧ q.2.2.2 ≤ 9223372036854775807 ∧ (0 < G → q.1 = some ⟨q.2.1, q.2.2.1, none⟩) ∧ ∀ k, k < G → w.cell? ⟨q.2.1, q.2.2.1 + k, none⟩ = some (.int .i64 (Z i k)) := by
  intro i
  by_cases hi : i < G
  ·obtain ⟨a', c', q, r⟩ := h5 i hi
   obtain ⟨a2, b2, o2, c2, e, r1, r2, r3, r4⟩ := r
   injection e with e1 e2 e3
   subst e1
   subst e3
   exact ⟨(a', b2, o2, c'), fun _ => ⟨q, r1, r2, r3, r4⟩⟩
  ·exact ⟨(none, 0, 0, 0), fun h => absurd h hi⟩
 obtain ⟨q, hq⟩ := Classical.axiomOfChoice each
 exact ⟨a, b, o, c, fun i => (q i).1, fun i => (q i).2.1, fun i => (q i).2.2.1, fun i => (q i).2.2.2, rfl, h2, h3, h4, fun r hr => hq r hr⟩
end Go.Proofs.YteionhenpehogaaGreatDoor.Gc
