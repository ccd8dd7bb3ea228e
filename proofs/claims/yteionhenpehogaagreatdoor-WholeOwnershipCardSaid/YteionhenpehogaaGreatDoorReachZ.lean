import Derived.Test.YteionhenpehogaaGreatDoorMatrixZ
import Derived.Test.YteionhenpehogaaGreatDoorLinX
import Derived.Test.YteionhenpehogaaGreatDoorPlainSS
namespace Go.Proofs.YteionhenpehogaaGreatDoor
open Go.RowKit Tally
set_option maxHeartbeats 2000000 in
set_option maxRecDepth 100000 in
theorem part_any {w : World} {n : Int} (h1 : -9223372036854775808 ≤ n) (h2 : n ≤ 9223372036854775807) :
  Calls Tryz.prog 64 #[.int .i64 n] w (GivesR w (Tally.part n)) := by
 go_enter Tryz.func64, Tryz.ntmps64
 go_wp2_with fail
 obtain ⟨W1, hW, hs, hb, b0⟩ := alloc1 w (.cells #[.bool false, .slice none 0 0, .bool false, .slice none 0 0] 37)
 rw [← hW]
 have HB := Lib.hid hb
 have BR := Lib.hid b0
 clear hW hs hb b0
 refine (ratof_any h1 h2 (by decide) (by decide) (by decide)).mono ?_
 rintro e w2 ⟨n1, a1, k1, c1, n2, a2, k2, c2, rfl, hu, hv, hb2⟩
 have HX := Lib.hid (RatR.mk hu hv (.inl rfl))
 have HB2 := Lib.hid (bt HB.out hb2)
 have BR2 := Lib.hid (blk_next BR.out hb2)
 clear hu hv hb2
 obtain ⟨⟨d0, d1, d2, d3⟩, e0, e1, e2, e3⟩ := res4_facts BR2.out
 have hlt : w.heap.size < w2.heap.size := (Array.getElem?_eq_some_iff.1 BR2.out).1
 go_wp2
 try simp only [Exit.inBlock, Exit.then]
 have hal : ∀ W : World, Below W.heap.size W (W.alloc (.cells #[.bool n1, .slice a1 k1 c1, .bool n2, .slice a2 k2 c2] 37)) := fun W => (Below.refl _ W).alloc (Nat.le_refl _) _
 refine bodyPost_ret (results_cell_row rfl _ _ (w.heap.size) 37 _ (0, 0) _ rfl (blk_next (res4_set BR2.out) (hal _)) Tryz.underlying37 rfl (by kernel_rfl)) rfl ?_
 exact ⟨_, _, _, _, _, _, _, _, rfl, (HX.out.stay set4_stay (noInt_one (noInt4 BR2.out))).below (hal _), bt (fin4 HB2.out (by omega)) (hal _)⟩
end Go.Proofs.YteionhenpehogaaGreatDoor
namespace Go.Proofs.YteionhenpehogaaGreatDoor
open Go.RowKit Tally Graph.Plain
def natInts (xs : List Nat) : List Value := xs.map fun x : Nat => Value.int .i64 (x : Int)
theorem natInts_snoc (xs : List Nat) (x : Nat) : natInts (xs ++ [x]) = natInts xs ++ [.int .i64 (x : Int)] := by simp [natInts]
theorem mz_len (n : Nat) (o : Nat → Bool) (len : Nat) : len ≤ mz n o len := by unfold mz; omega
theorem rowIs_grown {w w' : World} {b n base m : Nat} {t e : TypeId} {f : Nat → Value} {v : Value} {xs : List Value} (h : w.rowIs b t n f) (hown : w.ownsRow base e 1 v m xs) (hg : w.grownBy w' v.ownBlock) (hne : t ≠ e) : w'.rowIs b t n f := by
 refine h.of_block (hg.block b h.lt fun e1 => ?_)
 rcases hown.2 with ⟨rfl, _⟩ | ⟨g, cap, cur, rfl, _, hh, _⟩
 ·simp [Value.ownBlock] at e1
 ·simp [Value.ownBlock] at e1
  subst e1
  obtain ⟨c, hc, _⟩ := h
  rw [hh] at hc
  simp at hc
  exact hne hc.2.symm
theorem infoB : (Tryz.prog.info? 4).map (fun i => (i.zero, i.size, i.bytes)) = some (some (.bool false), 1, 1) := by kernel_rfl
theorem infoN : (Tryz.prog.info? 3).map (fun i => (i.zero, i.size, i.bytes)) = some (some (.int .i64 0), 1, 8) := by kernel_rfl
structure MarkR (w wr : World) (G : Nat) (Z : Nat → Nat → Int) (I : Nat → Prop) (v : Value) (o : Nat → Bool) (xs : List Nat) : Prop where
 below : Below w.heap.size w wr
 size : w.heap.size < wr.heap.size
 out : wr.rowIs w.heap.size 4 G (fun i => .bool (o i))
 own : wr.ownsRow w.heap.size 3 1 v xs.length (natInts xs)
 st : Mk G Z I o xs
 bound : mz G o xs.length ≤ 400
structure MarkIn (w wr : World) (G : Nat) (Z : Nat → Nat → Int) (I : Nat → Prop) (v : Value) (o : Nat → Bool) (xs : List Nat) (h e m : Nat) : Prop where
 below : Below w.heap.size w wr
 size : w.heap.size < wr.heap.size
 out : wr.rowIs w.heap.size 4 G (fun i => .bool (o i))
 own : wr.ownsRow w.heap.size 3 1 v xs.length (natInts xs)
 st : MkIn G Z I o xs h e
 bound : mz G o xs.length + G ≤ m + e
 top : m ≤ 400
theorem markIn_push {w wr w' : World} {G : Nat} {Z : Nat → Nat → Int} {I : Nat → Prop} {v v' : Value} {o : Nat → Bool} {xs : List Nat} {h e m : Nat} (k : MarkIn w wr G Z I v o xs h e m) (he : e < G) (hz : 0 < Z h e)
  {ob : Obj} (hown : w'.ownsRow w.heap.size 3 1 v' (xs.length + 1) (natInts xs ++ [.int .i64 (e : Int)])) (hg : (wr.alloc ob).grownBy w' v.ownBlock) : MarkIn w w' G Z I v' o (xs ++ [e]) h (e + 1) m := by
 have hsz := k.size
 refine ⟨(k.below.alloc (by omega) _).grown hg (by simp; omega) (fun j hj => (k.own.lt j hj).1), ?_, rowIs_grown (k.out.alloc _) (k.own.alloc _) hg (by decide), ?_, k.st.push he hz, ?_, k.top⟩
 ·have := hg.size; simp at this; omega
 ·rw [natInts_snoc, List.length_append]; exact hown
 ·have := k.bound; unfold mz at this ⊢; simp only [List.length_append, List.length_cons, List.length_nil]; omega
def Reached (w : World) (G : Nat) (Z : Nat → Nat → Int) (I : Nat → Prop) (e : Ending) (w' : World) : Prop :=
 ∃ o : Nat → Bool, e = .returned (.slice (some ⟨w.heap.size, 0, none⟩) G G) ∧ w'.rowIs w.heap.size 4 G (fun i => .bool (o i)) ∧ IsReach G Z I o ∧ Below w.heap.size w w'
structure First (w wr : World) (G : Nat) (D : Nat → Int) (v : Value) (xs : List Nat) (e : Nat) : Prop where
 below : Below w.heap.size w wr
 size : w.heap.size < wr.heap.size
 out : wr.rowIs w.heap.size 4 G (fun _ => .bool false)
 own : wr.ownsRow w.heap.size 3 1 v xs.length (natInts xs)
 mem : ∀ x, x ∈ xs ↔ 1 ≤ x ∧ x < e ∧ 0 < D x
 len : xs.length ≤ e
theorem First.push {w wr w' : World} {G : Nat} {D : Nat → Int} {v v' : Value} {xs : List Nat} {e : Nat} (k : First w wr G D v xs e) (h1 : 1 ≤ e) (hz : 0 < D e)
  {ob : Obj} (hown : w'.ownsRow w.heap.size 3 1 v' (xs.length + 1) (natInts xs ++ [.int .i64 (e : Int)])) (hg : (wr.alloc ob).grownBy w' v.ownBlock) : First w w' G D v' (xs ++ [e]) (e + 1) := by
 have hsz := k.size
 refine ⟨(k.below.alloc (by omega) _).grown hg (by simp; omega) (fun j hj => (k.own.lt j hj).1), ?_, rowIs_grown (k.out.alloc _) (k.own.alloc _) hg (by decide), ?_, fun x => ?_, ?_⟩
 ·have := hg.size; simp at this; omega
 ·rw [natInts_snoc, List.length_append]; exact hown
 ·rw [List.mem_append, k.mem, List.mem_singleton]
  constructor
  ·rintro (⟨a, b, c⟩ | rfl)
   ·exact ⟨a, by omega, c⟩
   ·exact ⟨h1, by omega, hz⟩
  ·rintro ⟨a, b, c⟩
   by_cases q : x = e
   ·exact .inr q
   ·exact .inl ⟨a, by omega, c⟩
 ·have := k.len; simp; omega
theorem First.pass {w wr : World} {G : Nat} {D : Nat → Int} {v : Value} {xs : List Nat} {e : Nat} (k : First w wr G D v xs e) (hz : ¬ 0 < D e) : First w wr G D v xs (e + 1) :=
 ⟨k.below, k.size, k.out, k.own, fun x => by
  rw [k.mem]
  constructor
  ·rintro ⟨a, b, c⟩; exact ⟨a, by omega, c⟩
  ·rintro ⟨a, b, c⟩
   by_cases q : x = e
   ·subst q; exact absurd c hz
   ·exact ⟨a, by omega, c⟩, by have := k.len; omega⟩
end Go.Proofs.YteionhenpehogaaGreatDoor
namespace Go.Proofs.YteionhenpehogaaGreatDoor
open Go.RowKit Tally Graph.Plain
set_option maxRecDepth 100000 in
set_option maxHeartbeats 4000000 in
theorem reached_any {w : World} {v u : Value} {G : Nat} {Z : Nat → Nat → Int} {D : Nat → Int} (h : MatZ w v G G Z) (hd : RowR w u G fun e => .int .i64 (D e)) (hG1 : 1 ≤ G) (hG2 : G ≤ 12) :
  Calls Tryz.prog 111 #[v, u] w (Reached w G (inner Z) (direct G D)) := by
 obtain ⟨a, b, o, c, rfl, l1, m1, s1, r1⟩ := h
 obtain ⟨a2, b2, o2, c2, rfl, l2, m2, s2, r2⟩ := hd
 obtain rfl := s1 (by omega)
 obtain rfl := s2 (by omega)
 have hmake := run_make_row' (P := Tryz.prog) 41 4 (.bool false) 1 Tryz.underlying41 infoB rfl .i64 .i64 G (by omega) (by omega)
 obtain ⟨i0, hi, hz0, hz1, hz2⟩ := info_parts infoN
 have R1 := Lib.hid r1
 have R2 := Lib.hid r2
 clear r1 r2 s1 s2
 go_enter Tryz.func111, Tryz.ntmps111
 go_wp2
 clear hmake
 have start : First w (w.alloc (.cells (madeCells #[.bool false] G) 4)) G D (.slice none 0 0) [] 1 :=
  ⟨(Below.refl _ _).alloc (Nat.le_refl _) _, by simp, World.rowIs_made w _ G _, World.ownsRow_nil _ _ _ _, fun x => ⟨fun h => (by cases h), fun ⟨a, b, _⟩ => (by omega)⟩, Nat.zero_le _⟩
 have START := Lib.hid start
 clear start
 go_loopw [6, 7] (fun s i wr => ∃ (xs : List Nat) (e : Nat), 1 ≤ e ∧ e ≤ G ∧ i = .int .i64 e ∧ First w wr G D s xs e) (fun _ i _ => G - (RowKit.intOf i).toNat)
 case atStart => exact ⟨[], 1, Nat.le_refl _, hG1, rfl, START.out⟩
 case round =>
  obtain ⟨xs, e, he1, he, rfl, hf⟩ := hrel
  have HF := Lib.hid hf
  clear hf START
  by_cases heG : e < G
  ·have hez : (e : Int) < (G : Int) := by omega
   have hxl := HF.out.len
   have x1 := keepc HF.out.below (R2.out e heG)
   by_cases hz : 0 < D e
   ·have hown := HF.out.own
    have hsz := HF.out.size
    go_wp2_with (at_builtin; refine wpList_append_own _ rfl _ _ 53 rfl w.heap.size 3 i0 (.int .i64 0) 1 8 Tryz.underlying53 hi hz0 hz1 hz2 rfl (by decide) _ _ _ rfl (hown.alloc _) ⟨wr.heap.size, 0, none⟩ 1 1 [.int .i64 (e : Int)] rfl rfl (cell_one_new _ _ _) (ints_oneCell .i64 [(e : Int)]) (by unfold maxLen; omega) (by omega) (by simp; omega) ?_; intro v' w1 hown' hgrow _)
    have HK := Lib.hid (HF.out.push he1 hz hown' hgrow)
    clear hown' hgrow hown
    go_roundw
    case rel => exact ⟨_, e + 1, by omega, by omega, by simp, HK.out⟩
    case measure => simp [RowKit.intOf]; omega
   ·go_wp2
    go_roundw
    case rel => exact ⟨xs, e + 1, by omega, by omega, by simp, HF.out.pass hz⟩
    case measure => simp [RowKit.intOf]; omega
  ·obtain rfl : e = G := by omega
   have hst : MarkR w wr e (inner Z) (direct e D) u6 (fun _ => false) xs :=
    ⟨HF.out.below, HF.out.size, HF.out.out, HF.out.own, Mk.start (fun x hx => ((HF.out.mem x).1 hx).2.1) (fun x hx => (HF.out.mem x).1 hx) (fun y _ hI => (HF.out.mem y).2 hI), by
     have h1 := mz_le (n := e) (o := fun _ => false) (len := xs.length)
     have h2 := HF.out.len
     have h3 : e * (e + 1) ≤ 12 * 13 := Nat.mul_le_mul hG2 (by omega)
     omega⟩
   have HST := Lib.hid hst
   clear hst HF heG
   rename_i HEE
   go_wp2_with fail
   go_loopg [6] (mz e (fun _ => false) xs.length) (fun g s wr => ∃ (q : Nat → Bool) (ys : List Nat), g = mz e q ys.length ∧ MarkR w wr e (inner Z) (direct e D) s q ys)
   case atStart => exact ⟨_, _, rfl, HST.out⟩
   case round =>
    obtain ⟨q, ys, rfl, hm⟩ := hrel
    clear HST
    have hys : ys.length ≤ 400 := by have := hm.bound; unfold mz at this; omega
    rcases hm.own.2 with ⟨rfl, hn0⟩ | ⟨g, cap, cur, rfl, hg, hh, hnc, hcm, hcs, htake⟩
    ·have hn : ys = [] := List.eq_nil_of_length_eq_zero hn0
     subst hn
     clear hn0
     go_wp2
     go_ret
     exact ⟨q, rfl, hm.out, hm.st.done, hm.below⟩
    clear htake hcs hh
    by_cases hne : ys = []
    ·subst hne
     go_wp2
     go_ret
     exact ⟨q, rfl, hm.out, hm.st.done, hm.below⟩
    obtain ⟨zs, x, rfl⟩ : ∃ zs x, ys = zs ++ [x] := ⟨ys.dropLast, ys.getLast hne, (List.dropLast_concat_getLast hne).symm⟩
    have hxr := hm.st.work x (by simp)
    have hxw := hxr.1
    have hx1 : 1 ≤ x := (reach_inner (n := e) (fun _ h => ⟨h.1, h.2.1⟩) hxr.2).1
    have hown2 : wr.ownsRow w.heap.size 3 1 (.slice (some ⟨g, 0, none⟩) zs.length cap) zs.length (natInts zs) := by
     have := hm.own
     rw [natInts_snoc, List.length_append] at this
     exact ownsRow_pop (by simp [natInts]) this
    have hcell : wr.cell? ⟨g, zs.length, none⟩ = some (.int .i64 (x : Int)) := by
     have := hm.own.cellAt zs.length (by simp)
     rw [this, natInts_snoc, List.getElem?_append_right (by simp [natInts])]
     simp [natInts]
    have hlen2 : (zs ++ [x]).length = zs.length + 1 := by simp
    have HM := Lib.hid hm
    have HO := Lib.hid hown2
    have hxG : (x : Int) < (e : Int) := by omega
    have y1 := hm.out.cell hxw
    have y2 := hm.out.frozen x
    rw [hlen2]
    rw [hlen2] at hnc hys
    have hcm' : cap ≤ 9223372036854775807 := by unfold maxLen at hcm; omega
    clear hcm hown2 hm hlen2 hne hxr
    cases hq : q x
    ·rw [hq] at y1
     obtain ⟨a', c', t1, t2⟩ := R1.out x hxw
     obtain ⟨_, bx, ox, _, te, t3, t4, t5, t6⟩ := t2
     injection te with te1 _ te2
     subst te1
     subst te2
     obtain rfl := t5 (by omega)
     have x1 := keepc HM.out.below t1
     have x2 : wr.cell? ⟨w.heap.size, x, none⟩ = some (.bool false) := y1
     have hbw : b < w.heap.size := World.block_lt_of_cell? _ _ t1
     have x3 : ∀ u, (wr.setCell ⟨w.heap.size, x, none⟩ u).cell? ⟨b, o + x, none⟩ = some (.slice (some ⟨bx, ox, none⟩) e c') := fun u => by
      rw [World.cell?_setCell_other _ _ _ _ (fun e => by have := congrArg Addr.block e; simp at this; omega)]; exact x1
     have enter : MarkIn w (wr.setCell ⟨w.heap.size, x, none⟩ (.bool true)) e (inner Z) (direct e D) (.slice (some ⟨g, 0, none⟩) zs.length cap) (setB q x) zs x 1 (mz e q (zs.length + 1) - 1) := by
      have hm := HM.out
      refine ⟨hm.below.setCell (Nat.le_refl _) _, by simpa using hm.size, (hm.out.set x _).congr (fun j _ => ?_), ?_, hm.st.enter.pass (by unfold inner; simp), ?_, ?_⟩
      ·unfold setB; by_cases e : j = x
       ·subst e; simp
       ·simp [e]
      ·refine HO.out.kept (row := some w.heap.size) ⟨rfl, rfl, rfl, by simp [World.setCell], fun k _ hk => Below.heap_setCell _ _ _ _ (fun e => hk (by rw [e]))⟩ (.inr ?_)
       intro e
       simp [Value.ownBlock] at e
       obtain ⟨cs, hcs, _⟩ := hm.out
       rcases HO.out.2 with ⟨h1, _⟩ | ⟨g', _, _, h1, _, h2, _⟩
       ·cases h1
       ·cases h1
        rw [e, hcs] at h2
        simp at h2
      ·have := mz_setB (len := zs.length) hxw hq
       have h2 : mz e q (zs.length + 1) = mz e q zs.length + 1 := by unfold mz; omega
       omega
      ·have := hm.bound; simp at this; omega
     have HE := Lib.hid enter
     have H5 := Lib.hid t6
     have XT := Lib.hid t1
     clear hq t1 enter t5 t6
     go_wp2
     go_loopg [6, 9] (e - 1) (fun g s i wi => ∃ (ks : List Nat) (y : Nat), 1 ≤ y ∧ y ≤ e ∧ g = e - y ∧ i = .int .i64 y ∧ MarkIn w wi e (inner Z) (direct e D) s (setB q x) ks x y (mz e q (zs.length + 1) - 1))
     case atStart => go_light; exact ⟨zs, 1, Nat.le_refl _, hG1, rfl, rfl, HE.out⟩
     case round =>
      obtain ⟨ks, y, hy1, hy, rfl, rfl, hk⟩ := hrel
      by_cases hyG : y < e
      ·have hyz : (y : Int) < (e : Int) := by omega
       have z1 := keepc hk.below (H5.out y hyG)
       have x4 := keepc hk.below (show w.cell? ⟨b, o + x, none⟩ = some (.slice (some ⟨bx, ox, none⟩) e c') from XT.out)
       have hkl : ks.length ≤ 412 := by have h1 := hk.bound; have h2 := hk.top; have h3 := mz_len e (setB q x) ks.length; omega
       by_cases hz : 0 < Z x y
       ·have HK := Lib.hid hk
        have hown := hk.own
        have hsz := hk.size
        clear hk
        go_wp2_with (at_builtin; refine wpList_append_own _ rfl _ _ 53 rfl w.heap.size 3 i0 (.int .i64 0) 1 8 Tryz.underlying53 hi hz0 hz1 hz2 rfl (by decide) _ _ _ rfl (hown.alloc _) ⟨wr.heap.size, 0, none⟩ 1 1 [.int .i64 (y : Int)] rfl rfl (cell_one_new _ _ _) (ints_oneCell .i64 [(y : Int)]) (by unfold maxLen; omega) (by omega) (by simp; omega) ?_; intro v' w1 hown' hgrow _)
        have hk2 := markIn_push HK.out hyG (by rw [inner_pos hx1 hy1]; exact hz) hown' hgrow
        clear hown' hgrow hown
        go_wp2
        go_roundg (e - (y + 1))
        case measure => go_light; omega
        case rel => go_light; exact ⟨_, y + 1, by omega, by omega, rfl, by simp, hk2⟩
       ·go_wp2
        go_roundg (e - (y + 1))
        case measure => go_light; omega
        case rel => go_light; exact ⟨ks, y + 1, by omega, by omega, rfl, by simp, hk.below, hk.size, hk.out, hk.own, hk.st.pass (by rw [inner_pos hx1 hy1]; omega), by have := hk.bound; omega, hk.top⟩
      ·obtain rfl : y = e := by omega
       go_wp2
       go_roundg (mz y (setB q x) ks.length)
       case measure => go_light; have h1 := hk.bound; have h3 := mz_len y q (zs.length + 1); have h4 : (zs ++ [x]).length = zs.length + 1 := (by simp); rw [h4]; omega
       case rel => go_light; exact ⟨_, ks, rfl, hk.below, hk.size, hk.out, hk.own, hk.st.leave, by have := hk.bound; have h2 := hk.top; omega⟩
    ·rw [hq] at y1
     have HQ := Lib.hid hq
     clear hq
     go_wp2
     go_roundg (mz e q zs.length)
     case measure => go_light; unfold mz; simp
     case rel =>
      go_light
      have hm := HM.out
      exact ⟨q, zs, rfl, hm.below, hm.size, hm.out, HO.out, hm.st.skip HQ.out, by have := hm.bound; unfold mz at this ⊢; simp at this; omega⟩
end Go.Proofs.YteionhenpehogaaGreatDoor
