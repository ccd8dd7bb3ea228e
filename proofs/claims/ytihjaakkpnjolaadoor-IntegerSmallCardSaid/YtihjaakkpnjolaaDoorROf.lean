/- The reference's Of; the program's Small. -/
import Derived.Test.YtihjaakkpnjolaaDoorRAdd
import Derived.Test.YtihjaakkpnjolaaDoorOf
namespace Go.Proofs.YtihjaakkpnjolaaDoor
open Go.RowKit Tally

structure ROfI (n k : Nat) (L : List Nat) : Prop where
  lim : Lim 10000 L
  sum : val 10000 L + 10000 ^ L.length * k = n

theorem ROfI.few {n k : Nat} {L : List Nat} (h : ROfI n k L) (hk : 0 < k) (hn : n ≤ 9223372036854775808) : L.length < 5 := by
  rcases Nat.lt_or_ge L.length 5 with q | q
  · exact q
  · have h1 : 10000 ^ 5 ≤ 10000 ^ L.length := Nat.pow_le_pow_right (by decide) q
    have h2 : 10000 ^ L.length * 1 ≤ 10000 ^ L.length * k := Nat.mul_le_mul_left _ hk
    have h3 := h.sum
    have h4 : (10000 : Nat) ^ 5 = 100000000000000000000 := by decide
    omega
theorem ROfI.step {n k : Nat} {L : List Nat} (h : ROfI n k L) : ROfI n (k / 10000) (L ++ [k % 10000]) := by
  refine ⟨h.lim.append (Lim.single (Nat.mod_lt _ (by decide))), ?_⟩
  have := h.sum
  rw [val_snoc, List.length_append, List.length_singleton, pow_succ']
  have p := place_div 10000 (10000 ^ L.length) k
  omega

theorem tmod_neg {k : Nat} : (-(k : Int)).tmod 10000 = -((k % 10000 : Nat) : Int) := by
  rw [Int.neg_tmod]; rfl
theorem tdiv_neg {k : Nat} : (-(k : Int)).tdiv 10000 = -((k / 10000 : Nat) : Int) := by
  rw [Int.neg_tdiv]; rfl

set_option maxHeartbeats 2000000 in
set_option maxRecDepth 100000 in
theorem rof_any {w : World} {n : Int} (h1 : -9223372036854775808 ≤ n) (h2 : n ≤ 9223372036854775807) :
    Calls Tryd.prog 28 #[.int .i64 n] w (rGivesZ w n) := by
  obtain ⟨i0, hi, hz0, hz1, hz2⟩ := info_parts infoI
  obtain ⟨N, hN⟩ : ∃ N, n.natAbs = N := ⟨_, rfl⟩
  have HN := Lib.hid hN
  have hN2 : N ≤ 9223372036854775808 := by omega
  have HN2 := Lib.hid hN2
  have app : ∀ (wr w2 : World) (sv v' : Value) (L : List Nat) (z : Int) (u : Nat), z = (u : Int) → Below w.heap.size w wr → wr.heap[w.heap.size]? = some (.cells #[.bool false, .slice none 0 0] 28 (0, 0)) → wr.ownsRow (w.heap.size + 1) 3 1 sv L.length (numsOf .i64 L) → w2.ownsRow (w.heap.size + 1) 3 1 v' (L.length + 1) (numsOf .i64 L ++ [.int .i64 z]) → (wr.alloc (.cells #[.int .i64 z] 3)).grownBy w2 sv.ownBlock → w2.ownsRow (w.heap.size + 1) 3 1 v' (L ++ [u]).length (numsOf .i64 (L ++ [u])) ∧ Below w.heap.size w w2 ∧ w2.heap[w.heap.size]? = some (.cells #[.bool false, .slice none 0 0] 28 (0, 0)) := fun wr w2 sv v' L z u hz hb hr hown ho hg => by
    subst hz
    have hlt := (Array.getElem?_eq_some_iff.1 hr).1
    refine ⟨by rw [List.length_append]; exact owns_snoc ho, (hb.alloc hb.size _).grown hg (by simp; omega) (fun j hj => by have := (hown.lt j hj).1; omega), ?_⟩
    rw [hg.block w.heap.size (by simp; omega) (fun e => by have := (hown.lt w.heap.size e.symm).1; omega), Lib.alloc_old wr _ w.heap.size hlt]
    exact hr
  have APP := Lib.hid app
  clear hN app
  by_cases hn : n < 0
  · have HV := Lib.hid (show (if true = true then -(N : Int) else (N : Int)) = n by have := HN.out; simp; omega)
    have hd : decide (n < 0) = true := by simp [hn]
    go_enter Tryd.func28, Tryd.ntmps28
    go_wp2
    go_loopw [3, 4] (fun l u wr => ∃ (k : Nat) (L : List Nat) (sv : Value), sv = l ∧ u = .int .i64 (-(k : Int)) ∧ k ≤ 9223372036854775808 ∧ Hid (ROfI N k L) ∧ wr.ownsRow (w.heap.size + 1) 3 1 sv L.length (numsOf .i64 L) ∧ Below w.heap.size w wr ∧ Hid (wr.heap[w.heap.size]? = some (.cells #[.bool false, .slice none 0 0] 28 (0, 0)))) (fun _ u _ => (intOf u).natAbs)
    case atStart => exact ⟨N, [], _, rfl, int_eq (by have := HN.out; omega), hN2, Lib.hid ⟨fun x hx => by simp at hx, by simp⟩, World.ownsRow_nil _ _ _ _, (Below.refl _ _).alloc (Nat.le_refl _) _, Lib.hid (heap_alloc_new _ _)⟩
    case round =>
      obtain ⟨k, L, sv, rfl, rfl, hk2, HI, hown, hbr, HR⟩ := hrel
      have HB := Lib.hid hbr
      have hsz := hbr.size
      have hlt := (Array.getElem?_eq_some_iff.1 HR.out).1
      clear hbr
      by_cases hk0 : k = 0
      · subst hk0
        obtain ⟨a, c, rfl⟩ : ∃ a c, sv = .slice a L.length c := by
          rcases hown.2 with ⟨rfl, h0⟩ | ⟨g, cap, cur, rfl, _⟩
          · exact ⟨none, 0, by rw [h0]⟩
          · exact ⟨_, _, rfl⟩
        have hs : QR wr (.slice a L.length c) L := RowR.of_owns hown
        have HS := Lib.hid hs
        have hv : val 10000 L = N := by have := HI.out.sum; simpa using this
        have HVL := Lib.hid hv
        clear hown hs hv
        go_wp2_with fail
        refine (rsigned_gives HS.out HI.out.lim).mono ?_
        rintro e w5 ⟨n4, a4, k4, c4, rfl, hu4, hb4⟩
        have HU4 := Lib.hid hu4
        have HR4 := Lib.hid (blk_next HR.out hb4)
        clear hu4
        obtain ⟨d0, d1, e0, e1⟩ := res_facts HR4.out
        go_wp2
        try simp only [Exit.inBlock, Exit.then]
        refine bodyPost_ret (results_cell_row rfl _ _ w.heap.size 28 _ (0, 0) _ rfl (res_set HR4.out) Tryd.underlying28 rfl (by kernel_rfl)) rfl ?_
        have fit := HU4.out
        rw [HVL.out, HV.out] at fit
        exact ⟨n4, a4, k4, c4, rfl, fit.set2 HR4.out, held_set2 (bt HB.out hb4) (Nat.le_refl _)⟩
      · have hkz : ((-(k : Int)) != 0) = true := by simp; omega
        have hfew := HI.out.few (by omega) HN2.out
        have t1 := @tmod_neg k
        have t2 := @tdiv_neg k
        have hstep := HI.out.step
        have HST := Lib.hid hstep
        have hm : k % 10000 < 10000 := Nat.mod_lt _ (by decide)
        have hkd : k / 10000 < k := by omega
        obtain ⟨m, hmm⟩ : ∃ m, k % 10000 = m := ⟨_, rfl⟩
        obtain ⟨d, hdd⟩ : ∃ d, k / 10000 = d := ⟨_, rfl⟩
        rw [hmm] at t1 HST hm
        rw [hdd] at t2 HST hkd
        clear hstep hmm hdd
        by_cases hm0 : m = 0
        · subst hm0
          go_wp2_with (at_builtin; refine wpList_append_own _ rfl _ _ 26 rfl (w.heap.size + 1) 3 i0 (.int .i64 0) 1 8 Tryd.underlying26 hi hz0 hz1 hz2 rfl (by decide) _ _ _ rfl (hown.alloc _) ⟨wr.heap.size, 0, none⟩ 1 1 [.int .i64 0] rfl rfl (cell_one_new _ _ _) (by simp [Value.oneCell']) (by unfold maxLen; omega) (by omega) (by simp; omega) ?_)
          intro v' w2 ho hg _
          obtain ⟨g1, g2, g3⟩ := APP.out wr w2 sv v' L _ 0 rfl HB.out HR.out hown ho hg
          have G1 := Lib.hid g1
          have G2 := Lib.hid g2
          have G3 := Lib.hid g3
          clear ho hg g1 g2 g3 hown
          go_wp2
          go_roundw
          case rel => exact ⟨d, _, _, rfl, rfl, by omega, HST, G1.out, G2.out, G3⟩
          case measure => simp [intOf]; omega
        · have hmz : (-(m : Int)) < 0 := by omega
          go_wp2_with (at_builtin; refine wpList_append_own _ rfl _ _ 26 rfl (w.heap.size + 1) 3 i0 (.int .i64 0) 1 8 Tryd.underlying26 hi hz0 hz1 hz2 rfl (by decide) _ _ _ rfl (hown.alloc _) ⟨wr.heap.size, 0, none⟩ 1 1 [.int .i64 (m : Int)] rfl rfl (cell_one_new _ _ _) (by simp [Value.oneCell']) (by unfold maxLen; omega) (by omega) (by simp; omega) ?_)
          intro v' w2 ho hg _
          obtain ⟨g1, g2, g3⟩ := APP.out wr w2 sv v' L _ m rfl HB.out HR.out hown ho hg
          have G1 := Lib.hid g1
          have G2 := Lib.hid g2
          have G3 := Lib.hid g3
          clear ho hg g1 g2 g3 hown
          go_wp2
          go_roundw
          case rel => exact ⟨d, _, _, rfl, rfl, by omega, HST, G1.out, G2.out, G3⟩
          case measure => simp [intOf]; omega
  · have HV := Lib.hid (show (if false = true then -(N : Int) else (N : Int)) = n by have := HN.out; simp; omega)
    have hd : decide (n < 0) = false := by simp [hn]
    have hn0 : 0 ≤ n := by omega
    go_enter Tryd.func28, Tryd.ntmps28
    go_wp2
    go_loopw [3, 4] (fun l u wr => ∃ (k : Nat) (L : List Nat) (sv : Value), sv = l ∧ u = .int .i64 (k : Int) ∧ k ≤ 9223372036854775807 ∧ Hid (ROfI N k L) ∧ wr.ownsRow (w.heap.size + 1) 3 1 sv L.length (numsOf .i64 L) ∧ Below w.heap.size w wr ∧ Hid (wr.heap[w.heap.size]? = some (.cells #[.bool false, .slice none 0 0] 28 (0, 0)))) (fun _ u _ => (intOf u).natAbs)
    case atStart => exact ⟨N, [], _, rfl, int_eq (by have := HN.out; omega), by have := HN.out; omega, Lib.hid ⟨fun x hx => by simp at hx, by simp⟩, World.ownsRow_nil _ _ _ _, (Below.refl _ _).alloc (Nat.le_refl _) _, Lib.hid (heap_alloc_new _ _)⟩
    case round =>
      obtain ⟨k, L, sv, rfl, rfl, hk2, HI, hown, hbr, HR⟩ := hrel
      have HB := Lib.hid hbr
      have hsz := hbr.size
      have hlt := (Array.getElem?_eq_some_iff.1 HR.out).1
      clear hbr
      by_cases hk0 : k = 0
      · subst hk0
        obtain ⟨a, c, rfl⟩ : ∃ a c, sv = .slice a L.length c := by
          rcases hown.2 with ⟨rfl, h0⟩ | ⟨g, cap, cur, rfl, _⟩
          · exact ⟨none, 0, by rw [h0]⟩
          · exact ⟨_, _, rfl⟩
        have hs : QR wr (.slice a L.length c) L := RowR.of_owns hown
        have HS := Lib.hid hs
        have hv : val 10000 L = N := by have := HI.out.sum; simpa using this
        have HVL := Lib.hid hv
        clear hown hs hv
        go_wp2_with fail
        refine (rsigned_gives HS.out HI.out.lim).mono ?_
        rintro e w5 ⟨n4, a4, k4, c4, rfl, hu4, hb4⟩
        have HU4 := Lib.hid hu4
        have HR4 := Lib.hid (blk_next HR.out hb4)
        clear hu4
        obtain ⟨d0, d1, e0, e1⟩ := res_facts HR4.out
        go_wp2
        try simp only [Exit.inBlock, Exit.then]
        refine bodyPost_ret (results_cell_row rfl _ _ w.heap.size 28 _ (0, 0) _ rfl (res_set HR4.out) Tryd.underlying28 rfl (by kernel_rfl)) rfl ?_
        have fit := HU4.out
        rw [HVL.out, HV.out] at fit
        exact ⟨n4, a4, k4, c4, rfl, fit.set2 HR4.out, held_set2 (bt HB.out hb4) (Nat.le_refl _)⟩
      · have hkz : ((k : Int) != 0) = true := by simp; omega
        have hfew := HI.out.few (by omega) HN2.out
        have hem : (k : Int) % 10000 = ((k % 10000 : Nat) : Int) := by omega
        have HE := Lib.hid hem
        have hstep := HI.out.step
        have HST := Lib.hid hstep
        have hmz : ¬ (k : Int) % 10000 < 0 := by omega
        clear hem hstep
        go_wp2_with (at_builtin; refine wpList_append_own _ rfl _ _ 26 rfl (w.heap.size + 1) 3 i0 (.int .i64 0) 1 8 Tryd.underlying26 hi hz0 hz1 hz2 rfl (by decide) _ _ _ rfl (hown.alloc _) ⟨wr.heap.size, 0, none⟩ 1 1 [.int .i64 ((k : Int) % 10000)] rfl rfl (cell_one_new _ _ _) (by simp [Value.oneCell']) (by unfold maxLen; omega) (by omega) (by simp; omega) ?_)
        intro v' w2 ho hg _
        obtain ⟨g1, g2, g3⟩ := APP.out wr w2 sv v' L _ (k % 10000) HE.out HB.out HR.out hown ho hg
        have G1 := Lib.hid g1
        have G2 := Lib.hid g2
        have G3 := Lib.hid g3
        clear ho hg g1 g2 g3 hown
        go_wp2
        go_roundw
        case rel => exact ⟨k / 10000, _, _, rfl, by go_num, by omega, HST, G1.out, G2.out, G3⟩
        case measure => simp [intOf]; omega
end Go.Proofs.YtihjaakkpnjolaaDoor
