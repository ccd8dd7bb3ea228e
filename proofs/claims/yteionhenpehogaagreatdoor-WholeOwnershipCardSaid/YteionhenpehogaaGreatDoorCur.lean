import Derived.Test.YteionhenpehogaaGreatDoorIvls
namespace Go.Proofs.YteionhenpehogaaGreatDoor
open Go.RowKit Tally
theorem mOf_zero {N k : Nat} {H : Hds} {jt : Nat → Bool} {t : Int} : mOf N k H jt 0 t = 3 := by
 unfold mOf mth
 rw [if_pos (ctlS_iff.2 fun t h0 _ => h0)]
theorem iv_any {w : World} {u v : Value} {k N e : Nat} {H : Hds} {jt : Nat → Bool} (hE : EntR w u N jt) (hH : HoldR w v k H) (hw : Hwf H k) (hv : H.valid N k) (heN : e < N) :
  Calls Tryz.prog 81 #[.agg (grp u), v, .int .i64 (e : Nat)] w (GivesIv w (mOf N k H jt e)) := by
 by_cases h : e = 0
 ·subst h
  rw [show mOf N k H jt 0 = fun _ => 3 from funext fun _ => mOf_zero]
  exact iv_zero hE hH hw hv
 ·exact iv_pos hE hH hw hv (by omega) heN
theorem cells3 {w : World} {g : Nat} {x y z : Value} {T : TypeId} (h : w.heap[g]? = some (.cells #[x, y, z] T (0, 0))) :
  (w.cell? ⟨g, 0, none⟩ = some x ∧ w.cell? ⟨g, 1, none⟩ = some y ∧ w.cell? ⟨g, 2, none⟩ = some z) ∧ w.frozen? ⟨g, 0, none⟩ = false ∧ w.frozen? ⟨g, 1, none⟩ = false ∧ w.frozen? ⟨g, 2, none⟩ = false :=
 ⟨⟨by rw [Lib.cell_of_heap h]; rfl, by rw [Lib.cell_of_heap h]; rfl, by rw [Lib.cell_of_heap h]; rfl⟩, by simp [World.frozen?, h], by simp [World.frozen?, h], by simp [World.frozen?, h]⟩
theorem res3_set {w : World} {r : Nat} {x y z x' y' z' : Value} {T : TypeId} (h : w.heap[r]? = some (.cells #[x, y, z] T (0, 0))) :
  (((w.setCell ⟨r, 0, none⟩ x').setCell ⟨r, 1, none⟩ y').setCell ⟨r, 2, none⟩ z').heap[r]? = some (.cells #[x', y', z'] T (0, 0)) :=
 Joins.block_setCell (Joins.block_setCell (Joins.block_setCell h x') y') z'
set_option maxRecDepth 100000 in
set_option maxHeartbeats 4000000 in
theorem cur_any {w : World} {u v : Value} {k N e : Nat} {H : Hds} {day : Int} {jt : Nat → Bool} (hE : EntR w u N jt) (hH : HoldR w v k H) (hw : Hwf H k) (hv : H.valid N k) (hd : goodDate day) (he : e < N) :
  Calls Tryz.prog 27 #[.agg (grp u), v, .int .i64 (e : Nat), .int .i64 day] w fun en w' => ∃ fr tt : Int, en = .returned (.tuple #[.agg #[.int .i64 fr, .int .i64 tt, .int .i64 (mOf N k H jt e day)], .int .i64 0]) ∧ Below w.heap.size w w' := by
 obtain ⟨a, cp, rfl⟩ : ∃ a c, v = .slice a k c := by obtain ⟨a, b, o, c, h1, _⟩ := hH; exact ⟨a, c, h1⟩
 obtain ⟨W0, hW0, hs0, hb0, q0, q1⟩ := alloc2 w (.cells (grp u) 49) (.cells #[.int .i64 0, .int .i64 0, .int .i64 0] 60)
 have HI := Lib.hid (iv_any (jt := jt) (hE.below hb0) (hH.below hb0) hw hv he)
 have HQ := Lib.hid q0
 have HQ1 := Lib.hid q1
 have HB0 := Lib.hid hb0
 have HD := Lib.hid hd
 clear hE hH hw hv hd q0 q1 hb0
 go_enter Tryz.func27, Tryz.ntmps27
 rw [hW0] at HQ HI
 go_wp2_with (refine wpList_load_row rfl 49 (.tmp 4) rfl w.heap.size rfl 49 (grp u) (0, 0) _ HQ.out Tryz.underlying49 rfl (by kernel_rfl) ?_)
 refine HI.out.mono ?_
 rintro en w1 ⟨ia, ic, L, rfl, hR, hG, hb1⟩
 rw [← hW0] at hb1
 have HR1 := Lib.hid (blk_next HQ1.out hb1)
 have HB1 := Lib.hid (bt HB0.out hb1)
 obtain ⟨ia', ib, ic', hsl, l1, l2, l3, l4⟩ := hR
 injection hsl with hsl1 _ hsl3
 subst hsl1
 subst hsl3
 have H4 := Lib.hid l4
 have HG := Lib.hid hG
 have lt1 : w.heap.size + 1 < w1.heap.size := (Array.getElem?_eq_some_iff.1 HR1.out).1
 clear hb1 l4 hG hW0 HQ HI
 go_wp2_with fail
 go_loopw [27] (fun i wr => ∃ q : Nat, q ≤ L.length ∧ i = .int .i64 (q : Nat) ∧ (∀ (j : Nat) (hj : j < L.length), j < q → ¬ (L[j].fr ≤ day ∧ day < L[j].to)) ∧ Below w1.heap.size w1 wr) (fun i _ => L.length - (RowKit.intOf i).toNat)
 case atStart => exact ⟨0, Nat.zero_le _, rfl, fun j _ h => absurd h (Nat.not_lt_zero _), Below.refl _ _⟩
 case round =>
  obtain ⟨q, hq, rfl, hf, hb⟩ := hrel
  have HF := Lib.hid hf
  have HB := Lib.hid hb
  have HRR := Lib.hid (blk_next HR1.out hb)
  have hsw := hb.size
  clear hf hb
  by_cases hlt : q < L.length
  case neg =>
   exfalso
   obtain ⟨y, hy, h1, h2⟩ := (HG.out day HD.out).1
   obtain ⟨j, hj, rfl⟩ := List.getElem_of_mem hy
   exact HF.out j hj (by omega) ⟨h1, h2⟩
  have hqi : (q : Int) < (L.length : Int) := by omega
  obtain rfl := l3 (by omega)
  have c0 := keepc HB.out (H4.out q hlt).1
  have c1 := keepc HB.out (H4.out q hlt).2.1
  have c2 := keepc HB.out (H4.out q hlt).2.2
  obtain ⟨X, hX⟩ : ∃ X, X = L[q] := ⟨_, rfl⟩
  rw [← hX] at c0 c1 c2
  have HM := Lib.hid (show X.fr ≤ day → day < X.to → X.me = mOf N k H jt e day from fun h1 h2 => (HG.out day HD.out).2 X (by rw [hX]; exact List.getElem_mem hlt) h1 h2)
  obtain ⟨⟨r0, r1, r2⟩, f0, f1, f2⟩ := cells3 HRR.out
  have ltr : w.heap.size + 1 < wr.heap.size := (Array.getElem?_eq_some_iff.1 HRR.out).1
  have HX := Lib.hid hX
  clear hX
  by_cases h1 : X.fr ≤ day
  ·have h1d : decide (X.fr ≤ day) = true := decide_eq_true h1
   by_cases h2 : day < X.to
   ·have h2d : decide (day < X.to) = true := decide_eq_true h2
    have HME := Lib.hid (HM.out h1 h2)
    clear HM
    go_wp2_with (go_at_call 78; (with_reducible refine (date_yes HD.out).mono ?_); rintro en w7 ⟨rfl, rfl⟩)
    refine bodyPost_ret (results_cell_slot rfl _ _ (w.heap.size + 1) 60 _ (0, 0) _ (.int .i64 0) rfl rfl (blk_next (res3_set HRR.out) (allocs_below1 _ _)) Tryz.underlying60 rfl (by kernel_rfl)) rfl ?_
    exact ⟨_, _, by rw [HME.out], ((((bt HB1.out HB.out).setCell (p := ⟨w.heap.size + 1, 0, none⟩) (by show w.heap.size ≤ w.heap.size + 1; omega) _).setCell (p := ⟨w.heap.size + 1, 1, none⟩) (by show w.heap.size ≤ w.heap.size + 1; omega) _).setCell (p := ⟨w.heap.size + 1, 2, none⟩) (by show w.heap.size ≤ w.heap.size + 1; omega) _).alloc (by simp; omega) _⟩
   ·have h2d : decide (day < X.to) = false := decide_eq_false h2
    clear HM
    go_wp2_with (go_at_call 78; (with_reducible refine (date_yes HD.out).mono ?_); rintro en w7 ⟨rfl, rfl⟩)
    go_roundw
    case rel => exact ⟨q + 1, by omega, by go_num, fun j hj hjq => by
     by_cases e1 : j = q
     ·subst e1; rw [← HX.out]; exact fun z => absurd z.2 (by omega)
     ·exact HF.out j hj (by omega), HB.out.alloc hsw _⟩
    case measure => simp [RowKit.intOf]; omega
  ·have h1d : decide (X.fr ≤ day) = false := decide_eq_false h1
   clear HM
   go_wp2_with (go_at_call 78; (with_reducible refine (date_yes HD.out).mono ?_); rintro en w7 ⟨rfl, rfl⟩)
   go_roundw
   case rel => exact ⟨q + 1, by omega, by go_num, fun j hj hjq => by
    by_cases e1 : j = q
    ·subst e1; rw [← HX.out]; exact fun z => absurd z.1 (by omega)
    ·exact HF.out j hj (by omega), HB.out.alloc hsw _⟩
   case measure => simp [RowKit.intOf]; omega
end Go.Proofs.YteionhenpehogaaGreatDoor
