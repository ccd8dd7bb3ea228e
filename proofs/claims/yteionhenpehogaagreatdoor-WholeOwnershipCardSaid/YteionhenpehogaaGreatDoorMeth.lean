import Derived.Test.YteionhenpehogaaGreatDoorRank
import Derived.Test.YteionhenpehogaaGreatDoorSet
import Derived.BigRegion
import Derived.Deep.RegionWith
import Derived.Deep.QuietTactic
import Derived.BigQuiet
namespace Go.Proofs.YteionhenpehogaaGreatDoor
open Go.RowKit Tally
def grp (v : Value) : Array Value := #[.string ⟨#[]⟩, .int .i64 0, .int .i64 0, .int .i64 0, .slice none 0 0, .int .i64 0, .int .i64 0, .int .i64 0, .int .i64 0, .int .i64 0, .int .i64 0, .int .i64 0, .int .i64 0, .int .i64 0, .int .i64 0, .int .i64 0, .int .i64 0, .int .i64 0, .int .i64 0, .int .i64 0, v]
def elist (jt : Nat → Bool) : Nat → List Value
 | 0 => []
 | q + 1 => elist jt q ++ [.string ⟨#[]⟩, .string ⟨#[]⟩, .slice none 0 0, .slice none 0 0, .bool (jt q)]
theorem elist_len (jt : Nat → Bool) : ∀ q, (elist jt q).length = q * 5
 | 0 => rfl
 | q + 1 => by unfold elist; rw [List.length_append, elist_len jt q]; simp; omega
theorem elist_get {jt : Nat → Bool} {i : Nat} : ∀ q, i < q → (elist jt q)[i * 5 + 4]? = some (.bool (jt i))
 | 0, h => absurd h (Nat.not_lt_zero _)
 | q + 1, h => by
  unfold elist
  by_cases e : i < q
  ·rw [List.getElem?_append_left (by rw [elist_len]; omega)]; exact elist_get q e
  ·obtain rfl : i = q := by omega
   rw [List.getElem?_append_right (by rw [elist_len]; omega), elist_len]
   simp
theorem infoE : (Tryz.prog.info? 130).map (fun i => (i.zero, i.size, i.bytes)) = some (some (.agg #[.string ⟨#[]⟩, .string ⟨#[]⟩, .slice none 0 0, .slice none 0 0, .bool false]), 5, 88) := by kernel_rfl
def EntR (w : World) (v : Value) (n : Nat) (jt : Nat → Bool) : Prop :=
 ∃ (a : Option Addr) (b o c : Nat), v = .slice a n c ∧ n ≤ c ∧ c ≤ 9223372036854775807 ∧ (0 < n → a = some ⟨b, o, none⟩) ∧ ∀ i, i < n → w.cell? ⟨b, o + i * 5 + 4, none⟩ = some (.bool (jt i))
theorem EntR.below {w w' : World} {v : Value} {n : Nat} {jt : Nat → Bool} (h : EntR w v n jt) (hb : Below w.heap.size w w') : EntR w' v n jt := by
 obtain ⟨a, b, o, c, h1, h2, h3, h4, h5⟩ := h
 exact ⟨a, b, o, c, h1, h2, h3, h4, fun i hi => keepc hb (h5 i hi)⟩
theorem entR_own {w : World} {base n : Nat} {T : TypeId} {v : Value} {jt : Nat → Bool} (h : w.ownsRow base T 5 v n (elist jt n)) : EntR w v n jt := by
 have hc := fun g => h.cells (g := g)
 rcases h.2 with ⟨rfl, h0⟩ | ⟨g, cap, cur, rfl, _, hh, hn, hm, hs, ht⟩
 ·exact ⟨none, 0, 0, 0, by rw [h0], by omega, by omega, fun q => by omega, fun i hi => by omega⟩
 ·refine ⟨_, g, 0, cap, rfl, by omega, by unfold maxLen at hm; omega, fun _ => rfl, fun i hi => ?_⟩
  have := hc g rfl _ _ (elist_get n hi)
  rw [add_pl] at this
  rw [show 0 + i * 5 + 4 = 0 + (i * 5 + 4) by omega]
  exact this
theorem EntR.setRow {w : World} {v : Value} {n c : Nat} {jt : Nat → Bool} {cs : Array Value} (h : EntR w v n jt) (hc : ∀ g, v.ownBlock = some g → g ≠ c) : EntR (w.setRow c cs) v n jt := by
 obtain ⟨a, b, o, cp, rfl, h2, h3, h4, h5⟩ := h
 refine ⟨a, b, o, cp, rfl, h2, h3, h4, fun i hi => ?_⟩
 rw [cell_setRow_other _ _ _ _ (hc b (by rw [h4 (by omega)]; rfl))]
 exact h5 i hi
theorem ownR_set {w : World} {base : Nat} {e : TypeId} {size : Nat} {v x : Value} {n c o : Nat} {xs : List Value} (h : w.ownsRow base e size v n xs) (hc : c < base) : (w.setCell ⟨c, o, none⟩ x).ownsRow base e size v n xs :=
 h.kept (row := some c) ⟨rfl, rfl, rfl, by simp, fun k _ hk => Below.heap_setCell _ ⟨c, o, none⟩ _ k (fun e => hk (by rw [e]))⟩ (by
  cases hv : v.ownBlock with
  | none => exact .inl rfl
  | some g =>
   refine .inr fun q => ?_
   have := (h.lt g hv).1
   injection q with q
   omega)
theorem blk5 {w : World} {g : Nat} {x y z u s : Value} {T : TypeId} (h : w.heap[g]? = some (.cells #[x, y, z, u, s] T (0, 0))) : ∀ j r, [x, y, z, u, s][j]? = some r → w.cell? ((⟨g, 0, none⟩ : Addr).add j) = some r := by
 intro j r hr
 rw [add_pl, Nat.zero_add, Lib.cell_of_heap h]
 simpa using hr
set_option maxRecDepth 100000 in
set_option maxHeartbeats 4000000 in
theorem joint_any {w : World} {v : Value} {n : Nat} {jt : Nat → Bool} (h : RowR w v n fun i => .bool (jt i)) (hn : n ≤ 8) :
  Calls Tryz.prog 21 #[v] w fun en w' => ∃ u, en = .returned (.agg (grp u)) ∧ EntR w' u n jt ∧ Below w.heap.size w w' := by
 obtain ⟨i0, hi, hz0, hz1, hz2⟩ := info_parts infoE
 obtain ⟨a, b, o, c, rfl, h1, h2, h3, h4⟩ := h
 have H4 := Lib.hid h4
 clear h4
 go_enter Tryz.func21, Tryz.ntmps21
 go_wp2
 obtain ⟨W0, hW0, hsz, hb0, q0, q1⟩ := alloc2 w (.cells (grp (.slice none 0 0)) 49) (.cells (grp (.slice none 0 0)) 49)
 simp only [grp] at hW0
 rw [← hW0]
 go_loopw [4] (fun i wr => ∃ (q : Nat) (u : Value), q ≤ n ∧ i = .int .i64 (q : Nat) ∧ Below w.heap.size w wr ∧ wr.heap[w.heap.size]? = some (.cells (grp (.slice none 0 0)) 49 (0, 0)) ∧ wr.heap[w.heap.size + 1]? = some (.cells (grp u) 49 (0, 0)) ∧ wr.ownsRow (w.heap.size + 1 + 1) 130 5 u q (elist jt q)) (fun i _ => n - (RowKit.intOf i).toNat)
 case atStart => exact ⟨0, _, Nat.zero_le _, rfl, hb0, q0, q1, World.ownsRow_nil _ _ _ _⟩
 case round =>
  obtain ⟨q, u, hq, rfl, hB, hg0, hg1, hown⟩ := hrel
  have c1 : wr.cell? ⟨w.heap.size + 1, 20, none⟩ = some u := by rw [Lib.cell_of_heap hg1]; rfl
  have f1 : wr.frozen? ⟨w.heap.size + 1, 20, none⟩ = false := by simp [World.frozen?, hg1]
  have hsw := hB.size
  have hlg : w.heap.size + 1 < wr.heap.size := (Array.getElem?_eq_some_iff.1 hg1).1
  have G0 := Lib.hid hg0
  have G1 := Lib.hid hg1
  have OW := Lib.hid hown
  have HB := Lib.hid hB
  clear hg0 hg1 hown hB
  by_cases hlt : q < n
  ·have hqi : (q : Int) < (n : Int) := by omega
   obtain rfl := h3 (by omega)
   have x1 := keepc HB.out (H4.out q hlt)
   obtain ⟨ua, uc, rfl⟩ : ∃ ua uc, u = .slice ua q uc := by obtain ⟨a, b, o, c, h1, _⟩ := entR_own OW.out; exact ⟨a, c, h1⟩
   go_wp2_with fail
   have HLS := Lib.hid (fun (w' : World) (hb : Below wr.heap.size wr w') => (keepc hb x1 : w'.cell? ⟨b, o + q, none⟩ = some (.bool (jt q))))
   have HD := Lib.hid (Below.drew (Below.refl wr.heap.size wr))
   have Yc1 := Lib.hid c1
   have Yf1 := Lib.hid f1
   have hbl : b < w.heap.size := World.block_lt_of_cell? _ _ (H4.out q hlt)
   clear c1 x1 f1
   refine wp_region_held_drew (S := fun w' => w'.cell? ⟨b, o + q, none⟩ = some (.bool (jt q))) (by kernel_rfl) ?_ (fun hHeld => ?_)
   ·exact HLS.out _ HD.out
   (try dsimp only at hHeld)
   refine wpAnyH_take (i := 0) (oi := (⟨some 11, .fieldAddr 49 (.tmp 3) 4, 0, "ref.go:49", #[], none⟩ : Oper)) (v := ?y1_1_v) rfl (by kernel_rfl) (by kernel_rfl) (by kernel_rfl) (fun _ _ _ h => h) (Or.inl ⟨by rfl, ?y1_1_h⟩) hHeld ?y1_1_r
   case y1_1_h => (intro w hSw; (try dsimp only at hSw); go_simp; all_goals with_reducible rfl)
   (try simp only [Act.put, List.setIfInBounds_toArray, List.set_cons_zero, List.set_cons_succ])
   refine wpAnyH_take (i := 2) (oi := (⟨some 13, .move (.tmp 0), 41, "ref.go:49", #[], none⟩ : Oper)) (v := ?y1_2_v) rfl (by kernel_rfl) (by kernel_rfl) (by kernel_rfl) (fun _ _ _ h => h) (Or.inl ⟨by rfl, ?y1_2_h⟩) hHeld ?y1_2_r
   case y1_2_h => (intro w hSw; (try dsimp only at hSw); go_simp; all_goals with_reducible rfl)
   (try simp only [Act.put, List.setIfInBounds_toArray, List.set_cons_zero, List.set_cons_succ])
   refine wpAnyH_take (i := 3) (oi := (⟨some 14, .move (.tmp 4), 3, "ref.go:49", #[], none⟩ : Oper)) (v := ?y1_3_v) rfl (by kernel_rfl) (by kernel_rfl) (by kernel_rfl) (fun _ _ _ h => h) (Or.inl ⟨by rfl, ?y1_3_h⟩) hHeld ?y1_3_r
   case y1_3_h => (intro w hSw; (try dsimp only at hSw); go_simp; all_goals with_reducible rfl)
   (try simp only [Act.put, List.setIfInBounds_toArray, List.set_cons_zero, List.set_cons_succ])
   refine wpAnyH_take (i := 4) (oi := (⟨some 15, .indexAddr 41 (.tmp 13) (.tmp 14), 0, "ref.go:49", #[⟨2, .data⟩, ⟨3, .data⟩], none⟩ : Oper)) (v := ?y1_4_v) rfl (by kernel_rfl) (by kernel_rfl) (by kernel_rfl) (fun _ _ _ h => h) (Or.inl ⟨by rfl, ?y1_4_h⟩) hHeld ?y1_4_r
   case y1_4_h => (intro w hSw; (try dsimp only at hSw); go_simp; all_goals with_reducible rfl)
   (try simp only [Act.put, List.setIfInBounds_toArray, List.set_cons_zero, List.set_cons_succ])
   refine wpAnyH_take (i := 5) (oi := (⟨some 16, .load 4 (.tmp 15), 4, "ref.go:49", #[⟨4, .data⟩], none⟩ : Oper)) (v := ?y1_5_v) rfl (by kernel_rfl) (by kernel_rfl) (by kernel_rfl) (fun _ _ _ h => h) (Or.inl ⟨by rfl, ?y1_5_h⟩) hHeld ?y1_5_r
   case y1_5_h => (intro w hSw; (try dsimp only at hSw); go_simp; all_goals with_reducible rfl)
   (try simp only [Act.put, List.setIfInBounds_toArray, List.set_cons_zero, List.set_cons_succ])
   refine wpAnyH_take (i := 6) (oi := (⟨some 17, .build 130 #[(4, .tmp 16)], 130, "ref.go:49", #[⟨5, .data⟩], none⟩ : Oper)) (v := ?y1_6_v) rfl (by kernel_rfl) (by kernel_rfl) (by kernel_rfl) (fun _ _ _ h => h) (Or.inl ⟨by rfl, ?y1_6_h⟩) hHeld ?y1_6_r
   case y1_6_h => (intro w hSw; (try dsimp only at hSw); go_simp; all_goals with_reducible rfl)
   (try simp only [Act.put, List.setIfInBounds_toArray, List.set_cons_zero, List.set_cons_succ])
   refine wpAnyH_ready (rs := [1, 7]) (by kernel_rfl) (by simp) ?_
   refine AllReadyH.cons (o := (⟨some 12, .load 47 (.tmp 11), 47, "ref.go:49", #[⟨0, .data⟩], none⟩ : Oper)) rfl (fun K hK => ?_) (AllReadyH.cons (o := (⟨some 18, .buildSlice 47 1 #[(0, .tmp 17)], 47, "ref.go:49", #[⟨6, .data⟩], none⟩ : Oper)) rfl (fun K hK => ?_) AllReadyH.nil)
   ·(have q1 := keepc HD.out Yc1.out; go_simp)
    first | refine hK.out _ _ ?_ (fun hHeld => ?_) | (go_wp2_with fail; refine hK.out _ _ ?_ (fun hHeld => ?_))
    ·exact HLS.out _ HD.out
    clear hK K
    (try dsimp only at hHeld)
    (try simp only [Act.put, List.setIfInBounds_toArray, List.set_cons_zero, List.set_cons_succ])
    refine wpAnyH_ready (rs := [7]) (by kernel_rfl) (by simp) ?_
    refine AllReadyH.cons (o := (⟨some 18, .buildSlice 47 1 #[(0, .tmp 17)], 47, "ref.go:49", #[⟨6, .data⟩], none⟩ : Oper)) rfl (fun K hK => ?_) AllReadyH.nil
    go_simp
    (obtain ⟨u7, hW, hs, hb, hx⟩ := alloc1_d wr (.cells #[.string ⟨#[]⟩, .string ⟨#[]⟩, .slice none 0 0, .slice none 0 0, .bool (jt q)] 130); rw [← hW]; have HZ7 := Lib.hid hb; have HK7 := Lib.hid hx; have HO7 := Lib.hid (ownR_below OW.out HZ7.out); have hz7 := HZ7.out.size; clear hW hs hb hx)
    first | refine hK.out _ _ ?_ (fun hHeld => ?_) | (go_wp2_with fail; refine hK.out _ _ ?_ (fun hHeld => ?_))
    ·exact HLS.out _ HZ7.out
    clear hK K
    (try dsimp only at hHeld)
    (try simp only [Act.put, List.setIfInBounds_toArray, List.set_cons_zero, List.set_cons_succ])
    refine wpAnyH_ready (rs := [8]) (by kernel_rfl) (by simp) ?_
    refine AllReadyH.cons (o := (⟨some 19, .call { callee := .builtin .append, args := #[.tmp 12, .tmp 18], argTypes := #[47, 47] }, 47, "ref.go:49", #[⟨1, .data⟩, ⟨7, .data⟩], none⟩ : Oper)) rfl (fun K hK => ?_) AllReadyH.nil
    (refine step_append_good (G := fun _ => True) _ rfl (.tmp 12) (.tmp 18) 47 rfl (w.heap.size + 1 + 1) 130 i0 (.agg #[.string ⟨#[]⟩, .string ⟨#[]⟩, .slice none 0 0, .slice none 0 0, .bool false]) 5 88 Tryz.underlying47 hi hz0 hz1 hz2 rfl (by decide) (.slice ua q uc) q (elist jt q) rfl ⟨HO7.out, fun _ _ _ _ _ => trivial⟩ ⟨wr.heap.size, 0, none⟩ 1 1 [.string ⟨#[]⟩, .string ⟨#[]⟩, .slice none 0 0, .slice none 0 0, .bool (jt q)] rfl rfl (blk5 HK7.out) (fun u hu => by simp at hu; rcases hu with rfl | rfl | rfl <;> rfl) (by unfold maxLen; omega) (by omega) (by omega) (fun _ _ => trivial) (fun _ _ => trivial) ?_; intro v8 u8 ho hg _; have HO8 := Lib.hid (show u8.ownsRow (w.heap.size + 1 + 1) 130 5 v8 (q + 1) (elist jt (q + 1)) from ho.own); have HG8 := Lib.hid hg; clear ho hg; obtain ⟨ga, gc, rfl⟩ := ownsRow_succ HO8.out; have HN8 := Lib.hid (fun (g : Nat) (hgl : g < w.heap.size + 1 + 1) => (fun e => by have := (HO7.out.lt g e.symm).1; omega : some g ≠ (Value.slice ua q uc).ownBlock)); have Y8 := Lib.hid (HG8.out.cell (HLS.out _ HZ7.out) (HN8.out b (by omega))))
    first | refine hK.out _ _ ?_ (fun hHeld => ?_) | (go_wp2_with fail; refine hK.out _ _ ?_ (fun hHeld => ?_))
    ·exact Y8.out
    clear hK K
    (try dsimp only at hHeld)
    (try simp only [Act.put, List.setIfInBounds_toArray, List.set_cons_zero, List.set_cons_succ])
    refine wpAnyH_take (i := 9) (oi := (⟨some 20, .fieldAddr 49 (.tmp 3) 4, 0, "ref.go:49", #[⟨0, .phase⟩, ⟨1, .phase⟩, ⟨2, .phase⟩, ⟨3, .phase⟩, ⟨4, .phase⟩, ⟨5, .phase⟩, ⟨6, .phase⟩, ⟨7, .phase⟩, ⟨8, .phase⟩], none⟩ : Oper)) (v := ?y1_7_v) rfl (by kernel_rfl) (by kernel_rfl) (by kernel_rfl) (fun _ _ _ h => h) (Or.inl ⟨by rfl, ?y1_7_h⟩) hHeld ?y1_7_r
    case y1_7_h => (intro w hSw; (try dsimp only at hSw); go_simp; all_goals with_reducible rfl)
    (try simp only [Act.put, List.setIfInBounds_toArray, List.set_cons_zero, List.set_cons_succ])
    refine wpAnyH_ready (rs := [10]) (by kernel_rfl) (by simp) ?_
    refine AllReadyH.cons (o := (⟨none, .store 47 (.tmp 20) (.tmp 19), 0, "ref.go:49", #[⟨9, .data⟩, ⟨8, .data⟩, ⟨8, .chain⟩, ⟨0, .phase⟩, ⟨1, .phase⟩, ⟨2, .phase⟩, ⟨3, .phase⟩, ⟨4, .phase⟩, ⟨5, .phase⟩, ⟨6, .phase⟩, ⟨7, .phase⟩, ⟨8, .phase⟩], none⟩ : Oper)) rfl (fun K hK => ?_) AllReadyH.nil
    (have s1 := HG8.out.cell (keepc HZ7.out Yc1.out) (HN8.out (w.heap.size + 1) (by omega)); have s2 := (World.frozen?_of_block (a := ⟨w.heap.size + 1, 20, none⟩) (HG8.out.block (w.heap.size + 1) (by omega) (HN8.out (w.heap.size + 1) (by omega)))).trans ((HZ7.out.frozen (p := ⟨w.heap.size + 1, 20, none⟩) hlg).trans Yf1.out); go_simp)
    first | refine hK.out _ _ ?_ (fun hHeld => ?_) | (go_wp2_with fail; refine hK.out _ _ ?_ (fun hHeld => ?_))
    ·exact (World.cell?_of_block (a := ⟨b, o + q, none⟩) (Below.heap_setCell _ ⟨w.heap.size + 1, 20, none⟩ _ _ (by show b ≠ w.heap.size + 1; omega))).trans Y8.out
    clear hK K
    (try dsimp only at hHeld)
    (try simp only [Act.put, List.setIfInBounds_toArray, List.set_cons_zero, List.set_cons_succ])
    refine wpAnyH_done (by kernel_rfl) ?_ _
    have hb8 : Below w.heap.size w u8 := (bt HB.out HZ7.out).grown HG8.out (by omega) (fun j hj => by have := (HO7.out.lt j hj).1; omega)
    have g0 := (Below.heap_setCell u8 ⟨w.heap.size + 1, 20, none⟩ (.slice (some ⟨ga, 0, none⟩) (q + 1) gc) w.heap.size (by show w.heap.size ≠ w.heap.size + 1; omega)).trans ((HG8.out.block w.heap.size (by omega) (HN8.out _ (by omega))).trans ((HZ7.out.block w.heap.size (by omega)).trans G0.out))
    have g1 : (u8.setCell ⟨w.heap.size + 1, 20, none⟩ (.slice (some ⟨ga, 0, none⟩) (q + 1) gc)).heap[w.heap.size + 1]? = some (.cells (grp (.slice (some ⟨ga, 0, none⟩) (q + 1) gc)) 49 (0, 0)) := Joins.block_setCell ((HG8.out.block (w.heap.size + 1) (by omega) (HN8.out _ (by omega))).trans ((HZ7.out.block (w.heap.size + 1) hlg).trans G1.out)) _
    have ho := ownR_set (o := 20) (x := .slice (some ⟨ga, 0, none⟩) (q + 1) gc) (c := w.heap.size + 1) HO8.out (by omega)
    have HG0 := Lib.hid g0
    have HG1 := Lib.hid g1
    have HO9 := Lib.hid ho
    have HB8 := Lib.hid (hb8.setCell (p := ⟨w.heap.size + 1, 20, none⟩) (by show w.heap.size ≤ w.heap.size + 1; omega) (.slice (some ⟨ga, 0, none⟩) (q + 1) gc))
    clear g0 g1 ho hb8
    go_wp2
    go_roundw
    case rel => exact ⟨q + 1, _, by omega, by go_num, HB8.out, HG0.out, HG1.out, HO9.out⟩
    case measure => (simp [RowKit.intOf]; omega)
   ·go_simp
    (obtain ⟨u7, hW, hs, hb, hx⟩ := alloc1_d wr (.cells #[.string ⟨#[]⟩, .string ⟨#[]⟩, .slice none 0 0, .slice none 0 0, .bool (jt q)] 130); rw [← hW]; have HZ7 := Lib.hid hb; have HK7 := Lib.hid hx; have HO7 := Lib.hid (ownR_below OW.out HZ7.out); have hz7 := HZ7.out.size; clear hW hs hb hx)
    first | refine hK.out _ _ ?_ (fun hHeld => ?_) | (go_wp2_with fail; refine hK.out _ _ ?_ (fun hHeld => ?_))
    ·exact HLS.out _ HZ7.out
    clear hK K
    (try dsimp only at hHeld)
    (try simp only [Act.put, List.setIfInBounds_toArray, List.set_cons_zero, List.set_cons_succ])
    refine wpAnyH_ready (rs := [1]) (by kernel_rfl) (by simp) ?_
    refine AllReadyH.cons (o := (⟨some 12, .load 47 (.tmp 11), 47, "ref.go:49", #[⟨0, .data⟩], none⟩ : Oper)) rfl (fun K hK => ?_) AllReadyH.nil
    (have q1 := keepc HZ7.out Yc1.out; go_simp)
    first | refine hK.out _ _ ?_ (fun hHeld => ?_) | (go_wp2_with fail; refine hK.out _ _ ?_ (fun hHeld => ?_))
    ·exact HLS.out _ HZ7.out
    clear hK K
    (try dsimp only at hHeld)
    (try simp only [Act.put, List.setIfInBounds_toArray, List.set_cons_zero, List.set_cons_succ])
    refine wpAnyH_ready (rs := [8]) (by kernel_rfl) (by simp) ?_
    refine AllReadyH.cons (o := (⟨some 19, .call { callee := .builtin .append, args := #[.tmp 12, .tmp 18], argTypes := #[47, 47] }, 47, "ref.go:49", #[⟨1, .data⟩, ⟨7, .data⟩], none⟩ : Oper)) rfl (fun K hK => ?_) AllReadyH.nil
    (refine step_append_good (G := fun _ => True) _ rfl (.tmp 12) (.tmp 18) 47 rfl (w.heap.size + 1 + 1) 130 i0 (.agg #[.string ⟨#[]⟩, .string ⟨#[]⟩, .slice none 0 0, .slice none 0 0, .bool false]) 5 88 Tryz.underlying47 hi hz0 hz1 hz2 rfl (by decide) (.slice ua q uc) q (elist jt q) rfl ⟨HO7.out, fun _ _ _ _ _ => trivial⟩ ⟨wr.heap.size, 0, none⟩ 1 1 [.string ⟨#[]⟩, .string ⟨#[]⟩, .slice none 0 0, .slice none 0 0, .bool (jt q)] rfl rfl (blk5 HK7.out) (fun u hu => by simp at hu; rcases hu with rfl | rfl | rfl <;> rfl) (by unfold maxLen; omega) (by omega) (by omega) (fun _ _ => trivial) (fun _ _ => trivial) ?_; intro v8 u8 ho hg _; have HO8 := Lib.hid (show u8.ownsRow (w.heap.size + 1 + 1) 130 5 v8 (q + 1) (elist jt (q + 1)) from ho.own); have HG8 := Lib.hid hg; clear ho hg; obtain ⟨ga, gc, rfl⟩ := ownsRow_succ HO8.out; have HN8 := Lib.hid (fun (g : Nat) (hgl : g < w.heap.size + 1 + 1) => (fun e => by have := (HO7.out.lt g e.symm).1; omega : some g ≠ (Value.slice ua q uc).ownBlock)); have Y8 := Lib.hid (HG8.out.cell (HLS.out _ HZ7.out) (HN8.out b (by omega))))
    first | refine hK.out _ _ ?_ (fun hHeld => ?_) | (go_wp2_with fail; refine hK.out _ _ ?_ (fun hHeld => ?_))
    ·exact Y8.out
    clear hK K
    (try dsimp only at hHeld)
    (try simp only [Act.put, List.setIfInBounds_toArray, List.set_cons_zero, List.set_cons_succ])
    refine wpAnyH_take (i := 9) (oi := (⟨some 20, .fieldAddr 49 (.tmp 3) 4, 0, "ref.go:49", #[⟨0, .phase⟩, ⟨1, .phase⟩, ⟨2, .phase⟩, ⟨3, .phase⟩, ⟨4, .phase⟩, ⟨5, .phase⟩, ⟨6, .phase⟩, ⟨7, .phase⟩, ⟨8, .phase⟩], none⟩ : Oper)) (v := ?y1_8_v) rfl (by kernel_rfl) (by kernel_rfl) (by kernel_rfl) (fun _ _ _ h => h) (Or.inl ⟨by rfl, ?y1_8_h⟩) hHeld ?y1_8_r
    case y1_8_h => (intro w hSw; (try dsimp only at hSw); go_simp; all_goals with_reducible rfl)
    (try simp only [Act.put, List.setIfInBounds_toArray, List.set_cons_zero, List.set_cons_succ])
    refine wpAnyH_ready (rs := [10]) (by kernel_rfl) (by simp) ?_
    refine AllReadyH.cons (o := (⟨none, .store 47 (.tmp 20) (.tmp 19), 0, "ref.go:49", #[⟨9, .data⟩, ⟨8, .data⟩, ⟨8, .chain⟩, ⟨0, .phase⟩, ⟨1, .phase⟩, ⟨2, .phase⟩, ⟨3, .phase⟩, ⟨4, .phase⟩, ⟨5, .phase⟩, ⟨6, .phase⟩, ⟨7, .phase⟩, ⟨8, .phase⟩], none⟩ : Oper)) rfl (fun K hK => ?_) AllReadyH.nil
    (have s1 := HG8.out.cell (keepc HZ7.out Yc1.out) (HN8.out (w.heap.size + 1) (by omega)); have s2 := (World.frozen?_of_block (a := ⟨w.heap.size + 1, 20, none⟩) (HG8.out.block (w.heap.size + 1) (by omega) (HN8.out (w.heap.size + 1) (by omega)))).trans ((HZ7.out.frozen (p := ⟨w.heap.size + 1, 20, none⟩) hlg).trans Yf1.out); go_simp)
    first | refine hK.out _ _ ?_ (fun hHeld => ?_) | (go_wp2_with fail; refine hK.out _ _ ?_ (fun hHeld => ?_))
    ·exact (World.cell?_of_block (a := ⟨b, o + q, none⟩) (Below.heap_setCell _ ⟨w.heap.size + 1, 20, none⟩ _ _ (by show b ≠ w.heap.size + 1; omega))).trans Y8.out
    clear hK K
    (try dsimp only at hHeld)
    (try simp only [Act.put, List.setIfInBounds_toArray, List.set_cons_zero, List.set_cons_succ])
    refine wpAnyH_done (by kernel_rfl) ?_ _
    have hb8 : Below w.heap.size w u8 := (bt HB.out HZ7.out).grown HG8.out (by omega) (fun j hj => by have := (HO7.out.lt j hj).1; omega)
    have g0 := (Below.heap_setCell u8 ⟨w.heap.size + 1, 20, none⟩ (.slice (some ⟨ga, 0, none⟩) (q + 1) gc) w.heap.size (by show w.heap.size ≠ w.heap.size + 1; omega)).trans ((HG8.out.block w.heap.size (by omega) (HN8.out _ (by omega))).trans ((HZ7.out.block w.heap.size (by omega)).trans G0.out))
    have g1 : (u8.setCell ⟨w.heap.size + 1, 20, none⟩ (.slice (some ⟨ga, 0, none⟩) (q + 1) gc)).heap[w.heap.size + 1]? = some (.cells (grp (.slice (some ⟨ga, 0, none⟩) (q + 1) gc)) 49 (0, 0)) := Joins.block_setCell ((HG8.out.block (w.heap.size + 1) (by omega) (HN8.out _ (by omega))).trans ((HZ7.out.block (w.heap.size + 1) hlg).trans G1.out)) _
    have ho := ownR_set (o := 20) (x := .slice (some ⟨ga, 0, none⟩) (q + 1) gc) (c := w.heap.size + 1) HO8.out (by omega)
    have HG0 := Lib.hid g0
    have HG1 := Lib.hid g1
    have HO9 := Lib.hid ho
    have HB8 := Lib.hid (hb8.setCell (p := ⟨w.heap.size + 1, 20, none⟩) (by show w.heap.size ≤ w.heap.size + 1; omega) (.slice (some ⟨ga, 0, none⟩) (q + 1) gc))
    clear g0 g1 ho hb8
    go_wp2
    go_roundw
    case rel => exact ⟨q + 1, _, by omega, by go_num, HB8.out, HG0.out, HG1.out, HO9.out⟩
    case measure => (simp [RowKit.intOf]; omega)
  ·obtain rfl : q = n := by omega
   obtain ⟨ua, uc, rfl⟩ : ∃ ua uc, u = .slice ua q uc := by obtain ⟨a, b, o, c, h1, _⟩ := entR_own OW.out; exact ⟨a, c, h1⟩
   go_wp2_with (first
    | (refine wpList_load_row rfl 49 (.tmp 3) rfl (w.heap.size + 1) rfl 49 (grp _) (0, 0) _ G1.out Tryz.underlying49 rfl (by kernel_rfl) ?_)
    | (refine wpList_store_row rfl 49 (.tmp 2) (.tmp 21) rfl w.heap.size (grp (.slice ua q uc)) rfl rfl 49 (grp (.slice none 0 0)) G0.out (by kernel_rfl) rfl (by simp [grp, Value.oneCell']) ?_))
   refine bodyPost_ret (results_cell_row rfl _ _ w.heap.size 49 (grp (.slice ua q uc)) (0, 0) _ rfl (setRow_heap _ _ _ _ _ _ G0.out) Tryz.underlying49 rfl (by kernel_rfl)) rfl ?_
   exact ⟨_, rfl, (entR_own OW.out).setRow (fun g hg => by have := (OW.out.lt g hg).1; omega), below_setRow HB.out (Nat.le_refl _) _⟩
end Go.Proofs.YteionhenpehogaaGreatDoor
namespace Go.Proofs.YteionhenpehogaaGreatDoor
open Go.RowKit Tally
theorem all_no {w : World} {u v : Value} {k N : Nat} {H : Hds} {day : Int} {jt : Nat → Bool} (hE : EntR w u N jt) (hH : HoldR w v k H) (hw : Hwf H k) {c : Int} (hc : c = 1 ∧ ¬ H.valid N k ∨ c = 2 ∧ H.valid N k ∧ ¬ goodDate day) :
  Calls Tryz.prog 24 #[.agg (grp u), v, .int .i64 day] w fun en w' => en = .returned (.tuple #[.slice none 0 0, .int .i64 c]) ∧ Below w.heap.size w w' := by
 obtain ⟨a, cp, rfl⟩ : ∃ a c, v = .slice a k c := by obtain ⟨a, b, o, c, h1, _⟩ := hH; exact ⟨a, c, h1⟩
 obtain ⟨ua, uc, rfl⟩ : ∃ a c, u = .slice a N c := by obtain ⟨a, b, o, c, h1, _⟩ := hE; exact ⟨a, c, h1⟩
 have hc2 : (c != 0) = true := bne_iff_ne.2 (by omega)
 have hx : (w.alloc (.cells (grp (.slice ua N uc)) 49)).cell? ⟨w.heap.size, 20, none⟩ = some (.slice ua N uc) := by rw [Lib.cell_of_heap (heap_alloc_new w _)]; rfl
 have HH := Lib.hid hH
 have HW := Lib.hid hw
 have HC := Lib.hid hc
 clear hH hw hc
 go_enter Tryz.func24, Tryz.ntmps24
 go_wp2_with fail
 have hb0 := allocs_below1 w (.cells (grp (.slice ua N uc)) 49)
 refine (ctl_no (HH.out.below hb0) HW.out HC.out).mono ?_
 rintro en w1 ⟨rfl, hb1⟩
 go_wp2
 go_ret2
 exact ⟨rfl, bt hb0 hb1⟩
set_option maxRecDepth 100000 in
set_option maxHeartbeats 4000000 in
theorem all_yes {w : World} {u v : Value} {k N : Nat} {H : Hds} {day : Int} {jt : Nat → Bool} (hE : EntR w u N jt) (hH : HoldR w v k H) (hw : Hwf H k) (hv : H.valid N k) (hd : goodDate day) :
  Calls Tryz.prog 24 #[.agg (grp u), v, .int .i64 day] w fun en w' => ∃ (B : Nat) (s : Nat → Bool), en = .returned (.tuple #[.slice (some ⟨B, 0, none⟩) N N, .int .i64 0]) ∧ w'.rowIs B 3 N (fun e => .int .i64 (mth N (fun h e => H.at h e day k) jt s e)) ∧ IsCtl N (fun h e => H.at h e day k) s ∧ Below w.heap.size w w' := by
 obtain ⟨a, cp, rfl⟩ : ∃ a c, v = .slice a k c := by obtain ⟨a, b, o, c, h1, _⟩ := hH; exact ⟨a, c, h1⟩
 obtain ⟨ua, ub, uo, uc, rfl, e1, e2, e3, e4⟩ := hE
 have hN1 : 1 ≤ N := by have := hv.1; omega
 have hN2 : N ≤ 12 := by have := hv.2.1; omega
 obtain rfl := e3 (by omega)
 have hmake := run_make_row' (P := Tryz.prog) 53 3 (.int .i64 0) 8 Tryz.underlying53 infoI rfl .i64 .i64 N (by omega) (by omega)
 have hx : (w.alloc (.cells (grp (.slice (some ⟨ub, uo, none⟩) N uc)) 49)).cell? ⟨w.heap.size, 20, none⟩ = some (.slice (some ⟨ub, uo, none⟩) N uc) := by rw [Lib.cell_of_heap (heap_alloc_new w _)]; rfl
 have HH := Lib.hid hH
 have HW := Lib.hid hw
 have HV := Lib.hid hv
 have HD := Lib.hid hd
 have E4 := Lib.hid e4
 clear hH hw hv hd e3 e4
 go_enter Tryz.func24, Tryz.ntmps24
 go_wp2_with fail
 obtain ⟨W0, hW0, hs0, hb0, q0⟩ := alloc1 w (.cells (grp (.slice (some ⟨ub, uo, none⟩) N uc)) 49)
 rw [← hW0] at hx ⊢
 have HB0 := Lib.hid hb0
 have HX0 := Lib.hid hx
 clear hW0 q0 hb0 hx
 refine (ctl_yes (HH.out.below HB0.out) HW.out HV.out HD.out).mono ?_
 rintro en w1 ⟨B1, s1, rfl, hr1, hc1, hb1⟩
 have HB1 := Lib.hid (bt HB0.out hb1)
 have HX1 := Lib.hid (keepc hb1 HX0.out)
 have HR1 := Lib.hid hr1
 have HC1 := Lib.hid hc1
 clear hr1 hc1 hb1
 go_wp2_with fail
 refine ((callsIn_wide (n := 6)).1 (votesAll_in (HH.out.below HB1.out) HW.out HV.out HD.out)).mono ?_
 rintro en w2 ⟨B2, s2, rfl, hr2, hc2, hb2⟩
 have HB2 := Lib.hid (bt HB1.out hb2)
 have HX2 := Lib.hid (keepc hb2 HX1.out)
 have HR2 := Lib.hid hr2
 have HR12 := Lib.hid (HR1.out.of_block (hb2.block _ HR1.out.lt))
 have HC2 := Lib.hid hc2
 clear hr2 hc2 hb2
 go_wp2
 clear hmake
 have hm : ∀ e, e < N → mth N (fun h e => H.at (h : Nat) (e : Nat) day k) jt s1 e = if s1 e = true then 3 else if vts N (fun h e => H.at (h : Nat) (e : Nat) day k) s2 e < 2000 then 0 else if jt e = true then 2 else 1 := fun e he => by
  unfold mth
  rw [vts_congr (s := s1) (t := s2) (HC1.out.unique HC2.out)]
 obtain ⟨M, hM⟩ : ∃ M, mth N (fun h e => H.at (h : Nat) (e : Nat) day k) jt s1 = M := ⟨_, rfl⟩
 have HMM := Lib.hid hM
 rw [hM] at hm
 obtain ⟨V, hV⟩ : ∃ V, vts N (fun h e => H.at (h : Nat) (e : Nat) day k) s2 = V := ⟨_, rfl⟩
 rw [hV] at hm HR2
 have HM := Lib.hid hm
 clear hm hM hV
 go_loopw [41] (fun i wr => ∃ e : Nat, e ≤ N ∧ i = .int .i64 (e : Nat) ∧ Below w2.heap.size w2 wr ∧ wr.rowIs w2.heap.size 3 N (fun j => .int .i64 (if j < e then M j else 0))) (fun i _ => N - (RowKit.intOf i).toNat)
 case atStart => exact ⟨0, Nat.zero_le _, rfl, (Below.refl _ _).alloc (Nat.le_refl _) _, (World.rowIs_made w2 _ N 3).congr fun j _ => by simp⟩
 case round =>
  obtain ⟨e, he, rfl, hBi, hrow⟩ := hrel
  by_cases heN : e < N
  ·have heI : (e : Int) < (N : Int) := by omega
   have x1 := keepc hBi (HR12.out.cell heN)
   have x2 := keepc hBi (HR2.out.cell heN)
   have x3 := keepc hBi (keepc HB2.out (E4.out e heN))
   have x4 := keepc hBi HX2.out
   have y1 := hrow.cell heN
   have y2 := hrow.frozen e
   have Y := Lib.hid hrow
   have BI := Lib.hid hBi
   clear hrow hBi
   have stp : ∀ m : Int, M e = m → (wr.setCell ⟨w2.heap.size, e, none⟩ (.int .i64 m)).rowIs w2.heap.size 3 N (fun j => .int .i64 (if j < e + 1 then M j else 0)) := fun m hm => (Y.out.set e _).congr fun j _ => by
    by_cases e1 : j = e
    ·subst e1; rw [if_pos rfl, if_pos (by omega), hm]
    ·rw [if_neg e1]
     by_cases e2 : j < e
     ·rw [if_pos e2, if_pos (by omega)]
     ·rw [if_neg e2, if_neg (by omega)]
   have ST := Lib.hid stp
   clear stp
   cases hs : s1 e
   ·by_cases hvv : V e < 2000
    ·have HMe := Lib.hid (show M e = 0 from by rw [HM.out e heN, hs, if_neg (by decide), if_pos hvv])
     clear HM
     rw [hs] at x1
     go_wp2
     go_roundw
     case rel => exact ⟨e + 1, by omega, by go_num, BI.out.setCell (p := ⟨w2.heap.size, e, none⟩) (Nat.le_refl _) _, ST.out _ HMe.out⟩
     case measure => simp [RowKit.intOf]; omega
    ·cases hj : jt e
     ·have HMe := Lib.hid (show M e = 1 from by rw [HM.out e heN, hs, if_neg (by decide), if_neg hvv, hj, if_neg (by decide)])
      clear HM
      rw [hs] at x1
      rw [hj] at x3
      go_wp2
      go_roundw
      case rel => exact ⟨e + 1, by omega, by go_num, BI.out.setCell (p := ⟨w2.heap.size, e, none⟩) (Nat.le_refl _) _, ST.out _ HMe.out⟩
      case measure => simp [RowKit.intOf]; omega
     ·have HMe := Lib.hid (show M e = 2 from by rw [HM.out e heN, hs, if_neg (by decide), if_neg hvv, hj, if_pos rfl])
      clear HM
      rw [hs] at x1
      rw [hj] at x3
      go_wp2
      go_roundw
      case rel => exact ⟨e + 1, by omega, by go_num, BI.out.setCell (p := ⟨w2.heap.size, e, none⟩) (Nat.le_refl _) _, ST.out _ HMe.out⟩
      case measure => simp [RowKit.intOf]; omega
   ·have HMe := Lib.hid (show M e = 3 from by rw [HM.out e heN, hs, if_pos rfl])
    clear HM
    rw [hs] at x1
    go_wp2
    go_roundw
    case rel => exact ⟨e + 1, by omega, by go_num, BI.out.setCell (p := ⟨w2.heap.size, e, none⟩) (Nat.le_refl _) _, ST.out _ HMe.out⟩
    case measure => simp [RowKit.intOf]; omega
  ·obtain rfl : e = N := by omega
   have Y := Lib.hid hrow
   have BI := Lib.hid hBi
   clear hrow hBi
   go_wp2
   go_ret2
   exact ⟨_, s1, rfl, Y.out.congr (fun j hj => by rw [if_pos hj, HMM.out]), HC1.out, HB2.out.trans (BI.out.mono HB2.out.size)⟩
end Go.Proofs.YteionhenpehogaaGreatDoor
