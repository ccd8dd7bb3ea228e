/- graph.mark: what is reached from the entities on a worklist of the call's own. -/
import Derived.Test.YtnkdcmloehandaaValid
namespace Go.Proofs.Ytnkdcmloehandaa
open Go.RowKit Plain

def ints (xs : List Nat) : List Value := xs.map fun x : Nat => Value.int .i64 (x : Int)
theorem ints_len (xs : List Nat) : (ints xs).length = xs.length := by simp [ints]
theorem ints_snoc (xs : List Nat) (x : Nat) : ints (xs ++ [x]) = ints xs ++ [.int .i64 (x : Int)] := by simp [ints]

theorem mz_len (n : Nat) (o : Nat → Bool) (len : Nat) : len ≤ mz n o len := by unfold mz; omega

/-- what the outer loop carries -/
structure MarkR (w0 w wr : World) (G : Nat) (Z : Nat → Nat → Int) (I : Nat → Prop) (v : Value) (o : Nat → Bool) (xs : List Nat) : Prop where
  below : Below w0.heap.size w0 wr
  size : w.heap.size < wr.heap.size
  out : wr.rowIs w.heap.size 4 G (fun i => .bool (o i))
  own : wr.ownsRow w0.heap.size 3 1 v xs.length (ints xs)
  st : Mk G Z I o xs
  bound : mz G o xs.length ≤ 400

structure MarkIn (w0 w wr : World) (G : Nat) (Z : Nat → Nat → Int) (I : Nat → Prop) (v : Value) (o : Nat → Bool) (xs : List Nat) (h e m : Nat) : Prop where
  below : Below w0.heap.size w0 wr
  size : w.heap.size < wr.heap.size
  out : wr.rowIs w.heap.size 4 G (fun i => .bool (o i))
  own : wr.ownsRow w0.heap.size 3 1 v xs.length (ints xs)
  st : MkIn G Z I o xs h e
  bound : mz G o xs.length + G ≤ m + e
  top : m ≤ 400

theorem markIn_push {w0 w wr w' : World} {G : Nat} {Z : Nat → Nat → Int} {I : Nat → Prop} {v v' : Value} {o : Nat → Bool} {xs : List Nat} {h e m : Nat} (k : MarkIn w0 w wr G Z I v o xs h e m) (hw : w0.heap.size ≤ w.heap.size) (he : e < G) (hz : 0 < Z h e)
    {ob : Obj} (hown : w'.ownsRow w0.heap.size 3 1 v' (xs.length + 1) (ints xs ++ [.int .i64 (e : Int)])) (hg : (wr.alloc ob).grownBy w' v.ownBlock) : MarkIn w0 w w' G Z I v' o (xs ++ [e]) h (e + 1) m := by
  have hsz := k.size
  refine ⟨(k.below.alloc (by omega) _).grown hg (by simp; omega) (fun j hj => (k.own.lt j hj).1), ?_, rowIs_grown (k.out.alloc _) (k.own.alloc _) hg (by decide), ?_, k.st.push he hz, ?_, k.top⟩
  · have := hg.size; simp at this; omega
  · rw [ints_snoc, List.length_append]; exact hown
  · have := k.bound; unfold mz at this ⊢; simp only [List.length_append, List.length_cons, List.length_nil]; omega

/-- what mark and reach hand back: a new row that holds just what is reached -/
def Reached (w0 w : World) (G : Nat) (Z : Nat → Nat → Int) (I : Nat → Prop) (e : Ending) (w' : World) : Prop :=
  ∃ o : Nat → Bool, e = .returned (.slice (some ⟨w.heap.size, 0, none⟩) G G) ∧ w'.rowIs w.heap.size 4 G (fun i => .bool (o i)) ∧ IsReach G Z I o ∧ Below w0.heap.size w0 w'

set_option maxHeartbeats 1000000 in
theorem mark_any {w0 w : World} {v u : Value} {G : Nat} {L : Nat → Nat} {Z : Nat → Nat → Int} {I : Nat → Prop} {xs : List Nat} (hv : Vld G L Z) (hb0 : Below w0.heap.size w0 w) (h : MatR w0 v G L Z)
    (hown : w.ownsRow w0.heap.size 3 1 u xs.length (ints xs)) (hmk : Mk G Z I (fun _ => false) xs) (hlen : xs.length ≤ 100) :
    Calls Try.prog 29 #[v, u] w (Reached w0 w G Z I) := by
  obtain ⟨a, b, o, c, A, B, O, C, rfl, l1, m1, s1, r1⟩ := h
  obtain ⟨g1, g2, g3, g4, g5⟩ := hv
  obtain rfl := s1 (by omega)
  have hws := hb0.size
  have hmake := run_make_row' (P := Try.prog) 26 4 (.bool false) 1 Try.underlying26 info4 rfl .i64 .i64 G (by omega) (by omega)
  obtain ⟨i0, hi, hz0, hz1, hz2⟩ := info_parts info3
  go_enter Try.func29, Try.ntmps29
  go_wp2
  clear hmake
  have start : MarkR w0 w (w.alloc (.cells (madeCells #[.bool false] G) 4)) G Z I u (fun _ => false) xs :=
    ⟨hb0.alloc hws _, by simp, World.rowIs_made w _ G 4, hown.alloc _, hmk, by have := mz_le (n := G) (o := fun _ => false) (len := xs.length); have : G * (G + 1) ≤ 12 * 13 := Nat.mul_le_mul g2 (by omega); omega⟩
  clear hown hmk hlen hb0
  have G3 := Lib.hid g3
  have G4 := Lib.hid g4
  clear g3 g4 g5
  go_loopg [1] (mz G (fun _ => false) xs.length) (fun g s wr => ∃ (q : Nat → Bool) (ys : List Nat), g = mz G q ys.length ∧ MarkR w0 w wr G Z I s q ys)
  case atStart => exact ⟨_, _, rfl, start⟩
  case round =>
    obtain ⟨q, ys, rfl, hm⟩ := hrel
    clear start
    have hys : ys.length ≤ 400 := by have := hm.bound; unfold mz at this; omega
    rcases hm.own.2 with ⟨rfl, hn0⟩ | ⟨g, cap, cur, rfl, hg, hh, hnc, hcm, hcs, htake⟩
    · have hn : ys = [] := List.eq_nil_of_length_eq_zero hn0
      subst hn
      clear hn0 r1
      go_wp2
      go_ret
      exact ⟨q, rfl, hm.out, hm.st.done, hm.below⟩
    clear htake hcs hh
    by_cases hne : ys = []
    · subst hne
      clear r1
      go_wp2
      go_ret
      exact ⟨q, rfl, hm.out, hm.st.done, hm.below⟩
    obtain ⟨zs, x, rfl⟩ : ∃ zs x, ys = zs ++ [x] := ⟨ys.dropLast, ys.getLast hne, (List.dropLast_concat_getLast hne).symm⟩
    have hxw := (hm.st.work x (by simp)).1
    have hown2 : wr.ownsRow w0.heap.size 3 1 (.slice (some ⟨g, 0, none⟩) zs.length cap) zs.length (ints zs) := by
      have := hm.own
      rw [ints_snoc, List.length_append] at this
      exact ownsRow_pop (by simp [ints]) this
    have hcell : wr.cell? ⟨g, zs.length, none⟩ = some (.int .i64 (x : Int)) := by
      have := hm.own.cellAt zs.length (by simp)
      rw [this, ints_snoc, List.getElem?_append_right (by simp [ints])]
      simp [ints]
    have hlen2 : (zs ++ [x]).length = zs.length + 1 := by simp
    have HM := Lib.hid hm
    have HO := Lib.hid hown2
    have hxG : (x : Int) < (G : Int) := by omega
    have y1 := hm.out.cell hxw
    have y2 := hm.out.frozen x
    rw [hlen2]
    rw [hlen2] at hnc hys
    have hcm' : cap ≤ 9223372036854775807 := by unfold maxLen at hcm; omega
    clear hcm hown2 hm hlen2 hne
    cases hq : q x
    · rw [hq] at y1
      obtain ⟨t1, t2, t3, t4, t5⟩ := r1 x hxw
      have hLx := G3.out x hxw
      rw [t4 (by omega)] at t1
      have x1 := keepc HM.out.below t1
      have x2 : wr.cell? ⟨w.heap.size, x, none⟩ = some (.bool false) := y1
      have hbw : b < w.heap.size := by have := World.block_lt_of_cell? _ _ t1; simp at this; omega
      have x3 : ∀ u, (wr.setCell ⟨w.heap.size, x, none⟩ u).cell? ⟨b, o + x, none⟩ = some (.slice (some ⟨B x, O x, none⟩) (L x) (C x)) := fun u => by
        rw [World.cell?_setCell_other _ _ _ _ (fun e => by have := congrArg Addr.block e; simp at this; omega)]; exact x1
      have hLz : (L x : Int) ≤ 12 := by omega
      have enter : MarkIn w0 w (wr.setCell ⟨w.heap.size, x, none⟩ (.bool true)) G Z I (.slice (some ⟨g, 0, none⟩) zs.length cap) (setB q x) zs x 0 (mz G q (zs.length + 1) - 1) := by
        have hm := HM.out
        refine ⟨hm.below.setCell hws _, by simpa using hm.size, (hm.out.set x _).congr (fun j _ => ?_), ?_, hm.st.enter, ?_, ?_⟩
        · unfold setB; by_cases e : j = x
          · subst e; simp
          · simp [e]
        · refine HO.out.kept (row := some w.heap.size) ⟨rfl, rfl, rfl, by simp [World.setCell], fun k _ hk => Below.heap_setCell _ _ _ _ (fun e => hk (by rw [e]))⟩ (.inr ?_)
          intro e
          simp [Value.ownBlock] at e
          obtain ⟨cs, hcs, _⟩ := hm.out
          rcases HO.out.2 with ⟨h1, _⟩ | ⟨g', _, _, h1, _, h2, _⟩
          · cases h1
          · cases h1
            rw [e, hcs] at h2
            simp at h2
        · have := mz_setB (len := zs.length) hxw hq
          have h2 : mz G q (zs.length + 1) = mz G q zs.length + 1 := by unfold mz; omega
          omega
        · have := hm.bound; simp at this; omega
      have HLx := Lib.hid hLx
      have HE := Lib.hid enter
      have H5 := Lib.hid t5
      have hbB : 0 < L x → B x < w0.heap.size := fun h0 => by have := World.block_lt_of_cell? _ _ (t5 0 h0); simpa using this
      clear hq t4 t5 t1 hLx enter r1
      go_wp2
      go_loopg [1, 38] G (fun g s i wi => ∃ (ys : List Nat) (e : Nat), e ≤ G ∧ g = G - e ∧ i = .int .i64 e ∧ MarkIn w0 w wi G Z I s (setB q x) ys x e (mz G q (zs.length + 1) - 1))
      case atStart => go_light; exact ⟨zs, 0, Nat.zero_le _, rfl, rfl, HE.out⟩
      case round =>
        obtain ⟨ks, e, he, rfl, rfl, hk⟩ := hrel
        by_cases heG : e < G
        · have hez : (e : Int) < (L x : Int) := by rw [HLx.out]; omega
          have z1 := keepc hk.below (H5.out e (by rw [HLx.out]; exact heG))
          have hkl : ks.length ≤ 412 := by have h1 := hk.bound; have h2 := hk.top; have h3 := mz_len G (setB q x) ks.length; omega
          by_cases hz : 0 < Z x e
          · have HK := Lib.hid hk
            have hown := hk.own
            have hsz := hk.size
            clear hk
            go_wp2_with (at_builtin; refine wpList_append_own _ rfl _ _ 32 rfl w0.heap.size 3 i0 (.int .i64 0) 1 8 Try.underlying32 hi hz0 hz1 hz2 rfl (by decide) _ _ _ rfl (hown.alloc _) ⟨wr.heap.size, 0, none⟩ 1 1 [.int .i64 (e : Int)] rfl rfl (cell_one_new _ _ _) (ints_oneCell .i64 [(e : Int)]) (by unfold maxLen; omega) (by omega) (by simp; omega) ?_)
            intro v' w1 hown' hgrow _
            have hk2 := markIn_push HK.out hws heG hz hown' hgrow
            clear hown' hgrow hown
            go_wp2
            go_roundg (G - (e + 1))
            case measure => go_light; omega
            case rel => go_light; exact ⟨_, e + 1, by omega, rfl, by simp, hk2⟩
          · go_wp2
            go_roundg (G - (e + 1))
            case measure => go_light; omega
            case rel => go_light; exact ⟨ks, e + 1, by omega, rfl, by simp, hk.below, hk.size, hk.out, hk.own, hk.st.pass (by omega), by have := hk.bound; omega, hk.top⟩
        · have hez : ¬ (e : Int) < (L x : Int) := by rw [HLx.out]; omega
          obtain rfl : e = G := by omega
          go_wp2
          go_roundg (mz e (setB q x) ks.length)
          case measure => go_light; have h1 := hk.bound; have h3 := mz_len e q (zs.length + 1); omega
          case rel => go_light; exact ⟨_, ks, rfl, hk.below, hk.size, hk.out, hk.own, hk.st.leave, by have := hk.bound; have h2 := hk.top; omega⟩
    · rw [hq] at y1
      have HQ := Lib.hid hq
      clear r1 hq
      go_wp2
      go_roundg (mz G q zs.length)
      case measure => go_light; unfold mz; simp
      case rel =>
        go_light
        have hm := HM.out
        exact ⟨q, zs, rfl, hm.below, hm.size, hm.out, HO.out, hm.st.skip HQ.out, by have := hm.bound; unfold mz at this ⊢; simp at this; omega⟩
end Go.Proofs.Ytnkdcmloehandaa
