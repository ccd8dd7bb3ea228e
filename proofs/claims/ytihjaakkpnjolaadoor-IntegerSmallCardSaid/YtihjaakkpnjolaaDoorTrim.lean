/- The program's trim and signed: limbs without zeros at the end, and the integer that they make with a sign. -/
import Derived.Test.YtihjaakkpnjolaaDoorMem
namespace Go.Proofs.YtihjaakkpnjolaaDoor
open Go.RowKit Tally

theorem take_step {l : List Nat} {k : Nat} (hk : k < l.length) (h0 : l.getD k 0 = 0) : trimZ (l.take (k + 1)) = trimZ (l.take k) := by
  have e : l[k] = 0 := by simpa [List.getD, List.getElem?_eq_getElem hk] using h0
  rw [List.take_succ_eq_append_getElem hk, e, trimZ_snoc_zero]

theorem take_stop {l : List Nat} {k : Nat} (hk : k < l.length) (h0 : l.getD k 0 ≠ 0) : trimZ (l.take (k + 1)) = l.take (k + 1) := by
  have e : l[k] ≠ 0 := by simpa [List.getD, List.getElem?_eq_getElem hk] using h0
  rw [List.take_succ_eq_append_getElem hk, trimZ_snoc _ _ e]

theorem LR.take {w : World} {a : Option Addr} {b o c : Nat} {l : List Nat} {k : Nat} (hk : k ≤ l.length) (hlc : l.length ≤ c) (hm : c ≤ 9223372036854775807)
    (hs : 0 < k → a = some ⟨b, o, none⟩) (hr : ∀ i, i < l.length → w.cell? ⟨b, o + i, none⟩ = some (.int .u32 (l.getD i 0 : Nat))) : LR w (.slice a k c) (l.take k) := by
  have hlen : (l.take k).length = k := by rw [List.length_take]; omega
  refine ⟨a, b, o, c, by rw [hlen], by omega, hm, fun h => hs (by omega), fun i hi => ?_⟩
  rw [hr i (by omega)]
  have : (l.take k).getD i 0 = l.getD i 0 := by
    simp [List.getD, show i < k by omega]
  show some (Value.int .u32 (l.getD i 0 : Nat)) = some (Value.int .u32 ((l.take k).getD i 0 : Nat))
  rw [this]

theorem LR.cut {w : World} {a : Option Addr} {n c k : Nat} {l : List Nat} (h : LR w (.slice a n c) l) (hk : k ≤ l.length) : LR w (.slice a k c) (l.take k) := by
  obtain ⟨a', b, o, c', hv, h1, h2, h3, h4⟩ := h
  injection hv with e1 e2 e3
  subst e1 e2 e3
  exact LR.take hk h1 h2 (fun h => h3 (by omega)) h4

set_option maxHeartbeats 800000 in
theorem trim_any {w : World} {v : Value} {l : List Nat} (h : LR w v l) :
    Calls Tryd.prog 85 #[v] w fun e w' => ∃ u, e = .returned u ∧ (∀ w0, LR w0 v l → LR w0 u (trimZ l)) ∧ Below w.heap.size w w' := by
  obtain ⟨a, b, o, c, rfl, hlc, hm, hs, hr⟩ := h
  have hz : trimZ l = trimZ (l.take l.length) := by rw [List.take_length]
  generalize hn : l.length = n at *
  replace hz := Lib.hid hz
  go_enter Tryd.func85, Tryd.ntmps85
  go_wp2
  go_loopw [0] (fun i wr => ∃ k : Nat, k ≤ n ∧ i = .slice a k c ∧ trimZ (l.take k) = trimZ l ∧ Below w.heap.size w wr) (fun i _ => match i with | .slice _ k _ => k | _ => 0)
  case atStart => exact ⟨n, Nat.le_refl _, rfl, Eq.symm hz, Below.refl _ _⟩
  case round =>
    obtain ⟨k, hk, rfl, ht, hb⟩ := hrel
    by_cases hk0 : k = 0
    · subst hk0
      go_wp2
      go_ret
      refine ⟨_, rfl, fun w0 q0 => ?_, hb⟩
      rw [← ht]
      exact q0.cut (by omega)
    · obtain ⟨k, rfl⟩ : ∃ j, k = j + 1 := ⟨k - 1, by omega⟩
      obtain rfl := hs (by omega)
      have t1 : wr.cell? ⟨b, o + k, none⟩ = some (.int .u32 (l.getD k 0 : Nat)) := by rw [hb.cell (p := ⟨b, o + k, none⟩) (World.block_lt_of_cell? _ _ (hr k (by omega)))]; exact hr k (by omega)
      have hkz : (0 : Int) < ((k + 1 : Nat) : Int) := by omega
      have hi0 : ((k + 1 : Nat) : Int) - 1 = (k : Int) := by omega
      obtain ⟨x, hx⟩ : ∃ x, l.getD k 0 = x := ⟨_, rfl⟩
      rw [hx] at t1
      have go : ∀ i, i < l.length → wr.cell? ⟨b, o + i, none⟩ = some (.int .u32 (l.getD i 0 : Nat)) := fun i hi => by
        rw [hb.cell (p := ⟨b, o + i, none⟩) (World.block_lt_of_cell? _ _ (hr i (by omega)))]; exact hr i (by omega)
      replace go := Lib.hid go
      clear hr
      by_cases h0 : x = 0
      · subst h0
        replace t1 : wr.cell? ⟨b, o + k, none⟩ = some (.int .u32 0) := t1
        replace hx := Lib.hid hx
        go_wp2
        refine ⟨⟨k, by omega, by first | rfl | go_num, by rw [← ht, take_step (by omega) hx], hb⟩, ?_⟩
        simp
      · have hx0 : ((x : Int) == 0) = false := by simp; omega
        replace hx := Lib.hid hx
        go_wp2
        go_ret
        refine ⟨_, rfl, fun w0 q0 => ?_, hb⟩
        rw [← ht, take_stop (by omega) (by rw [hx]; exact h0)]
        exact q0.cut (by omega)
end Go.Proofs.YtihjaakkpnjolaaDoor
