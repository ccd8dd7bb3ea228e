/- The program's Of: an int as an integer. -/
import Derived.Test.YtihjaakkpnjolaaDoorSub
namespace Go.Proofs.YtihjaakkpnjolaaDoor
open Go.RowKit Tally

/-- what has been split off: limbs, and what is left -/
structure OfI (n k : Nat) (L : List Nat) : Prop where
  lim : Lim 1000000000 L
  sum : val 1000000000 L + 1000000000 ^ L.length * k = n
  last : k = 0 → Canon 1000000000 L

theorem OfI.start (n : Nat) : OfI n n [] := ⟨fun x hx => by simp at hx, by simp, fun h => canon_nil _⟩
theorem OfI.few {n k : Nat} {L : List Nat} (h : OfI n k L) (hk : 0 < k) (hn : n ≤ 9223372036854775808) : L.length < 3 := by
  rcases Nat.lt_or_ge L.length 3 with q | q
  · exact q
  · have h1 : 1000000000 ^ 3 ≤ 1000000000 ^ L.length := Nat.pow_le_pow_right (by decide) q
    have h2 : 1000000000 ^ L.length * 1 ≤ 1000000000 ^ L.length * k := Nat.mul_le_mul_left _ hk
    have h3 := h.sum
    have h4 : (1000000000 : Nat) ^ 3 = 1000000000000000000000000000 := by decide
    omega
theorem OfI.step {n k : Nat} {L : List Nat} (h : OfI n k L) (hk : 0 < k) : OfI n (k / 1000000000) (L ++ [k % 1000000000]) := by
  refine ⟨h.lim.append (Lim.single (Nat.mod_lt _ (by decide))), ?_, fun h0 => ⟨h.lim.append (Lim.single (Nat.mod_lt _ (by decide))), fun _ => ?_⟩⟩
  · have := h.sum
    rw [val_snoc, List.length_append, List.length_singleton, pow_succ']
    have p := place_div 1000000000 (1000000000 ^ L.length) k
    omega
  · simp; omega

theorem of_fit {w : World} {n : Int} {L : List Nat} {s : Value} {N : Nat} (h : OfI N 0 L) (hN : n.natAbs = N) (hs : LR w s L) : IntR w (.agg #[.bool (decide (n < 0)), s]) n := by
  have hv := h.sum
  simp at hv
  refine ⟨_, s, L, rfl, hs, h.last rfl, ?_, ?_⟩
  · intro hd e
    subst e
    simp at hv hd
    omega
  · rw [hv]
    by_cases hn : n < 0
    · simp [hn]; omega
    · simp [hn]; omega

theorem wrap_neg {n : Int} {N : Nat} (hn : n < 0) (h1 : -9223372036854775808 ≤ n) (hN : n.natAbs = N) : IntKind.u64.wrap (-IntKind.u64.wrap n) = (N : Int) := by
  simp [IntKind.wrap, IntKind.bits, IntKind.signed]
  omega

set_option maxHeartbeats 1000000 in
set_option maxRecDepth 100000 in
theorem of_any {w : World} {n : Int} (h1 : -9223372036854775808 ≤ n) (h2 : n ≤ 9223372036854775807) :
    Calls Tryd.prog 26 #[.int .i64 n] w (GivesZ w n) := by
  obtain ⟨i0, hi, hz0, hz1, hz2⟩ := info_parts infoU
  obtain ⟨N, hN⟩ : ∃ N, n.natAbs = N := ⟨_, rfl⟩
  have HN := Lib.hid hN
  have hN2 : N ≤ 9223372036854775808 := by omega
  have HN2 := Lib.hid hN2
  clear hN
  by_cases hn : n < 0
  · have HD := Lib.hid (show decide (n < 0) = true by simp [hn])
    go_enter Tryd.func26, Tryd.ntmps26
    go_wp2
    go_loopw [3, 4] (fun u s wr => ∃ (k : Nat) (L : List Nat) (sv : Value), sv = s ∧ u = .int .u64 k ∧ k ≤ 9223372036854775808 ∧ OfI N k L ∧ wr.ownsRow (w.heap.size + 1) 108 1 s L.length (numsOf .u32 L) ∧ Below w.heap.size w wr ∧ wr.heap[w.heap.size]? = some (.cells #[.bool false, .slice none 0 0] 25 (0, 0))) (fun u _ _ => (intOf u).toNat)
    case atStart => exact ⟨N, [], _, rfl, int_eq (wrap_neg hn h1 HN.out), by omega, OfI.start _, World.ownsRow_nil _ _ _ _, (Below.refl _ _).alloc (Nat.le_refl _) _, heap_alloc_new _ _⟩
    case round =>
      obtain ⟨k, L, s, rfl, rfl, hk2, hI, hown, hbr, hres⟩ := hrel
      have HI := Lib.hid hI
      have HB := Lib.hid hbr
      have HR := Lib.hid hres
      have hsz := hbr.size
      have hrs : w.heap.size < wr.heap.size := (Array.getElem?_eq_some_iff.1 hres).1
      clear hI hbr hres
      by_cases hk0 : k = 0
      · subst hk0
        obtain ⟨a, c, rfl⟩ : ∃ a c, s = .slice a L.length c := by
          rcases hown.2 with ⟨rfl, h0⟩ | ⟨g, cap, cur, rfl, _⟩
          · exact ⟨none, 0, by rw [h0]⟩
          · exact ⟨_, _, rfl⟩
        have hs : LR wr (.slice a L.length c) L := RowR.of_owns hown
        have HS := Lib.hid (of_fit HI.out HN.out hs)
        clear hown hs
        obtain ⟨d0, d1, e0, e1⟩ := res_facts HR.out
        go_wp2
        try simp only [Exit.inBlock, Exit.then]
        refine bodyPost_ret (results_cell_row rfl _ _ w.heap.size 25 _ (0, 0) _ rfl (res_set HR.out) Tryd.underlying25 rfl (by kernel_rfl)) rfl ?_
        have fit := HS.out.set2 (x := .bool (decide (n < 0))) (y := .slice a L.length c) HR.out
        rw [HD.out] at fit
        try rw [HD.out]
        exact ⟨_, a, L.length, c, rfl, fit, held_set2 HB.out (Nat.le_refl _)⟩
      · have hkz : (0 : Int) < (k : Int) := by omega
        have hfew := HI.out.few (by omega) HN2.out
        have hem : (k : Int) % 1000000000 = ((k % 1000000000 : Nat) : Int) := by omega
        have hlm : k % 1000000000 < 1000000000 := Nat.mod_lt _ (by decide)
        have HE := Lib.hid hem
        clear hem
        go_wp2_with (at_builtin; refine wpList_append_own _ rfl _ _ 23 rfl (w.heap.size + 1) 108 i0 (.int .u32 0) 1 4 Tryd.underlying23 hi hz0 hz1 hz2 rfl (by decide) _ _ _ rfl (hown.alloc _) ⟨wr.heap.size, 0, none⟩ 1 1 [.int .u32 ((k : Int) % 1000000000)] rfl rfl (cell_one_new _ _ _) (by simp [Value.oneCell']) (by unfold maxLen; omega) (by omega) (by simp; omega) ?_)
        intro v' w2 hown' hgrow _
        rw [HE.out] at hown'
        have ho2 : w2.ownsRow (w.heap.size + 1) 108 1 v' (L ++ [k % 1000000000]).length (numsOf .u32 (L ++ [k % 1000000000])) := by rw [List.length_append]; exact owns_snoc hown'
        have hb2 : Below w.heap.size w w2 := (HB.out.alloc (by omega) _).grown hgrow (by simp; omega) (fun j hj => by have := (hown.lt j hj).1; omega)
        have hr2 : w2.heap[w.heap.size]? = some (.cells #[.bool false, .slice none 0 0] 25 (0, 0)) := by
          rw [hgrow.block w.heap.size (by simp; omega) (fun e => by have := (hown.lt w.heap.size e.symm).1; omega), Lib.alloc_old wr _ w.heap.size hrs]
          exact HR.out
        have HO2 := Lib.hid ho2
        have HB2 := Lib.hid hb2
        have HR2 := Lib.hid hr2
        clear hown' hgrow hown ho2 hb2 hr2
        go_wp2
        go_roundw
        case rel => exact ⟨k / 1000000000, L ++ [k % 1000000000], _, rfl, by go_num, by omega, HI.out.step (by omega), HO2.out, HB2.out, HR2.out⟩
        case measure => simp [intOf]; omega
  · have HD := Lib.hid (show decide (n < 0) = false by simp [hn])
    have hn0 : 0 ≤ n := by omega
    go_enter Tryd.func26, Tryd.ntmps26
    go_wp2
    go_loopw [3, 4] (fun u s wr => ∃ (k : Nat) (L : List Nat) (sv : Value), sv = s ∧ u = .int .u64 k ∧ k ≤ 9223372036854775808 ∧ OfI N k L ∧ wr.ownsRow (w.heap.size + 1) 108 1 s L.length (numsOf .u32 L) ∧ Below w.heap.size w wr ∧ wr.heap[w.heap.size]? = some (.cells #[.bool false, .slice none 0 0] 25 (0, 0))) (fun u _ _ => (intOf u).toNat)
    case atStart => exact ⟨N, [], _, rfl, int_eq (by have := HN.out; omega), by omega, OfI.start _, World.ownsRow_nil _ _ _ _, (Below.refl _ _).alloc (Nat.le_refl _) _, heap_alloc_new _ _⟩
    case round =>
      obtain ⟨k, L, s, rfl, rfl, hk2, hI, hown, hbr, hres⟩ := hrel
      have HI := Lib.hid hI
      have HB := Lib.hid hbr
      have HR := Lib.hid hres
      have hsz := hbr.size
      have hrs : w.heap.size < wr.heap.size := (Array.getElem?_eq_some_iff.1 hres).1
      clear hI hbr hres
      by_cases hk0 : k = 0
      · subst hk0
        obtain ⟨a, c, rfl⟩ : ∃ a c, s = .slice a L.length c := by
          rcases hown.2 with ⟨rfl, h0⟩ | ⟨g, cap, cur, rfl, _⟩
          · exact ⟨none, 0, by rw [h0]⟩
          · exact ⟨_, _, rfl⟩
        have hs : LR wr (.slice a L.length c) L := RowR.of_owns hown
        have HS := Lib.hid (of_fit HI.out HN.out hs)
        clear hown hs
        obtain ⟨d0, d1, e0, e1⟩ := res_facts HR.out
        go_wp2
        try simp only [Exit.inBlock, Exit.then]
        refine bodyPost_ret (results_cell_row rfl _ _ w.heap.size 25 _ (0, 0) _ rfl (res_set HR.out) Tryd.underlying25 rfl (by kernel_rfl)) rfl ?_
        have fit := HS.out.set2 (x := .bool (decide (n < 0))) (y := .slice a L.length c) HR.out
        rw [HD.out] at fit
        try rw [HD.out]
        exact ⟨_, a, L.length, c, rfl, fit, held_set2 HB.out (Nat.le_refl _)⟩
      · have hkz : (0 : Int) < (k : Int) := by omega
        have hfew := HI.out.few (by omega) HN2.out
        have hem : (k : Int) % 1000000000 = ((k % 1000000000 : Nat) : Int) := by omega
        have hlm : k % 1000000000 < 1000000000 := Nat.mod_lt _ (by decide)
        have HE := Lib.hid hem
        clear hem
        go_wp2_with (at_builtin; refine wpList_append_own _ rfl _ _ 23 rfl (w.heap.size + 1) 108 i0 (.int .u32 0) 1 4 Tryd.underlying23 hi hz0 hz1 hz2 rfl (by decide) _ _ _ rfl (hown.alloc _) ⟨wr.heap.size, 0, none⟩ 1 1 [.int .u32 ((k : Int) % 1000000000)] rfl rfl (cell_one_new _ _ _) (by simp [Value.oneCell']) (by unfold maxLen; omega) (by omega) (by simp; omega) ?_)
        intro v' w2 hown' hgrow _
        rw [HE.out] at hown'
        have ho2 : w2.ownsRow (w.heap.size + 1) 108 1 v' (L ++ [k % 1000000000]).length (numsOf .u32 (L ++ [k % 1000000000])) := by rw [List.length_append]; exact owns_snoc hown'
        have hb2 : Below w.heap.size w w2 := (HB.out.alloc (by omega) _).grown hgrow (by simp; omega) (fun j hj => by have := (hown.lt j hj).1; omega)
        have hr2 : w2.heap[w.heap.size]? = some (.cells #[.bool false, .slice none 0 0] 25 (0, 0)) := by
          rw [hgrow.block w.heap.size (by simp; omega) (fun e => by have := (hown.lt w.heap.size e.symm).1; omega), Lib.alloc_old wr _ w.heap.size hrs]
          exact HR.out
        have HO2 := Lib.hid ho2
        have HB2 := Lib.hid hb2
        have HR2 := Lib.hid hr2
        clear hown' hgrow hown ho2 hb2 hr2
        go_wp2
        go_roundw
        case rel => exact ⟨k / 1000000000, L ++ [k % 1000000000], _, rfl, by go_num, by omega, HI.out.step (by omega), HO2.out, HB2.out, HR2.out⟩
        case measure => simp [intOf]; omega
end Go.Proofs.YtihjaakkpnjolaaDoor
