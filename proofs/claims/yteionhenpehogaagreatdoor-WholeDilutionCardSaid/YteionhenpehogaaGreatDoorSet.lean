import Derived.Test.YteionhenpehogaaGreatDoorRHold
import Derived.Test.YteionhenpehogaaGreatDoorPlainDil
namespace Go.Proofs.YteionhenpehogaaGreatDoor
open Go.RowKit Go.Maps Tally
def hcell (H : Hds) (j : Nat) : Value := if j % 4 = 0 then .int .i64 (H.ho (j / 4)) else if j % 4 = 1 then .int .i64 (H.en (j / 4)) else if j % 4 = 2 then .int .i64 (H.da (j / 4)) else .int .i64 (H.sh (j / 4))
theorem hcell0 (H : Hds) (i : Nat) : hcell H (i * 4) = .int .i64 (H.ho i) := by
 unfold hcell
 rw [if_pos (by omega), show i * 4 / 4 = i by omega]
theorem hcell1 (H : Hds) (i : Nat) : hcell H (i * 4 + 1) = .int .i64 (H.en i) := by
 unfold hcell
 rw [if_neg (by omega), if_pos (by omega), show (i * 4 + 1) / 4 = i by omega]
theorem hcell2 (H : Hds) (i : Nat) : hcell H (i * 4 + 2) = .int .i64 (H.da i) := by
 unfold hcell
 rw [if_neg (by omega), if_neg (by omega), if_pos (by omega), show (i * 4 + 2) / 4 = i by omega]
theorem hcell3 (H : Hds) (i : Nat) : hcell H (i * 4 + 3) = .int .i64 (H.sh i) := by
 unfold hcell
 rw [if_neg (by omega), if_neg (by omega), if_neg (by omega), show (i * 4 + 3) / 4 = i by omega]
theorem hcell_int (H : Hds) (j : Nat) : (hcell H j).oneCell' = true := by
 unfold hcell
 split
 ·rfl
 ·split
  ·rfl
  ·split <;> rfl
def hlist (H : Hds) (k : Nat) : List Value := (List.range (k * 4)).map (hcell H)
theorem hlist_len (H : Hds) (k : Nat) : (hlist H k).length = k * 4 := by simp [hlist]
theorem hlist_get {H : Hds} {k j : Nat} (h : j < k * 4) : (hlist H k)[j]? = some (hcell H j) := by simp [hlist, h]
theorem hlist_get' {H : Hds} {k j : Nat} {u : Value} (h : (hlist H k)[j]? = some u) : j < k * 4 ∧ u = hcell H j := by
 by_cases hi : j < k * 4
 ·rw [hlist_get hi] at h; exact ⟨hi, (Option.some.inj h).symm⟩
 ·rw [List.getElem?_eq_none (by rw [hlist_len]; omega)] at h; cases h
theorem hlist_one (H : Hds) (k : Nat) : ∀ u ∈ hlist H k, u.oneCell' = true := by
 intro u hu
 simp only [hlist, List.mem_map] at hu
 obtain ⟨j, _, rfl⟩ := hu
 exact hcell_int H j
theorem hlist_snoc (H : Hds) (k : Nat) : hlist H k ++ [.int .i64 (H.ho k), .int .i64 (H.en k), .int .i64 (H.da k), .int .i64 (H.sh k)] = hlist H (k + 1) := by
 have e : (k + 1) * 4 = k * 4 + 1 + 1 + 1 + 1 := by omega
 unfold hlist
 rw [e]
 simp only [List.range_succ, List.map_append, List.map_cons, List.map_nil, List.append_assoc, List.cons_append, List.nil_append]
 rw [show k * 4 + 1 + 1 = k * 4 + 2 by omega, show k * 4 + 2 + 1 = k * 4 + 3 by omega, hcell0, hcell1, hcell2, hcell3]
def reSh (H : Hds) (i : Nat) (s : Int) : Hds := ⟨H.ho, H.en, fun j => if j = i then s else H.sh j, H.da⟩
theorem hlist_set {H : Hds} {k i : Nat} {x y z s : Int} (hx : x = H.ho i) (hy : y = H.en i) (hz : z = H.da i) :
  ((((hlist H k).set (i * 4) (.int .i64 x)).set (i * 4 + 1) (.int .i64 y)).set (i * 4 + 2) (.int .i64 z)).set (i * 4 + 3) (.int .i64 s) = hlist (reSh H i s) k := by
 subst hx hy hz
 apply List.ext_getElem?
 intro j
 by_cases hj : j < k * 4
 ·rw [hlist_get hj]
  by_cases e3 : i * 4 + 3 = j
  ·subst e3
   rw [List.getElem?_set_self (by simp [hlist_len]; omega), hcell3]
   show _ = some (Value.int .i64 (if i = i then s else H.sh i))
   rw [if_pos rfl]
  rw [List.getElem?_set_ne e3]
  by_cases e2 : i * 4 + 2 = j
  ·subst e2
   rw [List.getElem?_set_self (by simp [hlist_len]; omega), hcell2]
   rfl
  rw [List.getElem?_set_ne e2]
  by_cases e1 : i * 4 + 1 = j
  ·subst e1
   rw [List.getElem?_set_self (by simp [hlist_len]; omega), hcell1]
   rfl
  rw [List.getElem?_set_ne e1]
  by_cases e0 : i * 4 = j
  ·subst e0
   rw [List.getElem?_set_self (by simp [hlist_len]; omega), hcell0]
   rfl
  rw [List.getElem?_set_ne e0, hlist_get hj]
  unfold hcell
  show _ = some (if j % 4 = 0 then _ else if j % 4 = 1 then _ else if j % 4 = 2 then _ else Value.int .i64 (if j / 4 = i then s else H.sh (j / 4)))
  by_cases q0 : j % 4 = 0
  ·rw [if_pos q0, if_pos q0]; rfl
  rw [if_neg q0, if_neg q0]
  by_cases q1 : j % 4 = 1
  ·rw [if_pos q1, if_pos q1]; rfl
  rw [if_neg q1, if_neg q1]
  by_cases q2 : j % 4 = 2
  ·rw [if_pos q2, if_pos q2]; rfl
  rw [if_neg q2, if_neg q2, if_neg (show ¬ j / 4 = i by omega)]
 ·rw [List.getElem?_eq_none (by simp [hlist_len]; omega), List.getElem?_eq_none (by simp [hlist_len]; omega)]
theorem add_pl (b o i : Nat) : (⟨b, o, none⟩ : Addr).add i = ⟨b, o + i, none⟩ := by simp [Addr.add]
theorem holdR_own {w : World} {base k : Nat} {T : TypeId} {v : Value} {H : Hds} (h : w.ownsRow base T 4 v k (hlist H k)) (hk : k ≤ 1000000) : HoldR w v k H := by
 have hc := fun g => h.cells (g := g)
 rcases h.2 with ⟨rfl, h0⟩ | ⟨g, cap, cur, rfl, _, hh, hn, hm, hs, ht⟩
 ·exact ⟨none, 0, 0, 0, by rw [h0], by omega, by omega, hk, fun q => by omega, fun i hi => by omega⟩
 ·have key : ∀ j, j < k * 4 → w.cell? ⟨g, j, none⟩ = some (hcell H j) := fun j hj => by
   have := hc g rfl j _ (hlist_get hj)
   rwa [add_pl, Nat.zero_add] at this
  refine ⟨_, g, 0, cap, rfl, by omega, by unfold maxLen at hm; omega, hk, fun _ => rfl, fun i hi => ?_⟩
  rw [Nat.zero_add]
  exact ⟨by rw [key _ (by omega), hcell0], by rw [key _ (by omega), hcell1], by rw [key _ (by omega), hcell2], by rw [key _ (by omega), hcell3]⟩
theorem holdR_src {w : World} {b o k : Nat} {H : Hds} (h : ∀ i, i < k → w.cell? ⟨b, o + i * 4, none⟩ = some (.int .i64 (H.ho i)) ∧ w.cell? ⟨b, o + i * 4 + 1, none⟩ = some (.int .i64 (H.en i)) ∧ w.cell? ⟨b, o + i * 4 + 2, none⟩ = some (.int .i64 (H.da i)) ∧ w.cell? ⟨b, o + i * 4 + 3, none⟩ = some (.int .i64 (H.sh i))) :
  ∀ j u, (hlist H k)[j]? = some u → w.cell? ⟨b, o + j, none⟩ = some u := by
 intro j u hu
 obtain ⟨hj, rfl⟩ := hlist_get' hu
 obtain ⟨q0, q1, q2, q3⟩ := h (j / 4) (by omega)
 have e : j = j / 4 * 4 + j % 4 := by omega
 have hr : j % 4 = 0 ∨ j % 4 = 1 ∨ j % 4 = 2 ∨ j % 4 = 3 := by omega
 rcases hr with r | r | r | r
 ·rw [show o + j = o + j / 4 * 4 by omega, q0, ← hcell0, show j / 4 * 4 = j by omega]
 ·rw [show o + j = o + j / 4 * 4 + 1 by omega, q1, ← hcell1, show j / 4 * 4 + 1 = j by omega]
 ·rw [show o + j = o + j / 4 * 4 + 2 by omega, q2, ← hcell2, show j / 4 * 4 + 2 = j by omega]
 ·rw [show o + j = o + j / 4 * 4 + 3 by omega, q3, ← hcell3, show j / 4 * 4 + 3 = j by omega]
theorem infoH : (Tryz.prog.info? 24).map (fun i => (i.zero, i.size, i.bytes)) = some (some (.agg #[.int .i64 0, .int .i64 0, .int .i64 0, .int .i64 0]), 4, 32) := by kernel_rfl
theorem new4 (w : World) (x y z u : Value) (T : TypeId) : ∀ j s, [x, y, z, u][j]? = some s → (w.alloc (.cells #[x, y, z, u] T)).cell? ((⟨w.heap.size, 0, none⟩ : Addr).add j) = some s := by
 intro j s hs
 rw [add_pl, Nat.zero_add, Lib.cell_of_heap (heap_alloc_new w _)]
 simpa using hs
set_option maxRecDepth 100000 in
set_option maxHeartbeats 4000000 in
theorem cloneH_any {w : World} {v : Value} {k : Nat} {H : Hds} (hH : HoldR w v k H) (hk : k ≤ 1000) :
  Calls Tryz.prog 68 #[v] w fun en w' => ∃ v', en = .returned v' ∧ w'.ownsRow w.heap.size 24 4 v' k (hlist H k) ∧ Below w.heap.size w w' := by
 obtain ⟨i0, hi, hz0, hz1, hz2⟩ := info_parts infoH
 obtain ⟨a, b, o, c, rfl, h1, h2, h3, h4, h5⟩ := hH
 have H5 := Lib.hid (holdR_src h5)
 clear h5
 cases a with
 | none =>
  obtain rfl : k = 0 := by
   rcases Nat.eq_zero_or_pos k with q | q
   ·exact q
   ·exact absurd (h4 q) (by simp)
  have hnil : ∀ w : World, (binOp .eql 22 (.slice none 0 c) (.slice none 0 0)).run Tryz.prog w = .ok (.bool true) w := fun _ => rfl
  go_enter Tryz.func68, Tryz.ntmps68
  go_wp2
  go_ret
  exact ⟨_, rfl, World.ownsRow_nil _ _ _ _, Below.refl _ _⟩
 | some ad =>
  have HAD := Lib.hid (show 0 < k → ad = ⟨b, o, none⟩ from fun q => Option.some.inj (h4 q))
  clear h4
  have hnil : ∀ w : World, (binOp .eql 22 (.slice (some ad) k c) (.slice none 0 0)).run Tryz.prog w = .ok (.bool false) w := fun _ => rfl
  go_enter Tryz.func68, Tryz.ntmps68
  go_wp2_with (at_builtin; refine wpList_append_own _ rfl _ _ 22 rfl w.heap.size 24 i0 (.agg #[.int .i64 0, .int .i64 0, .int .i64 0, .int .i64 0]) 4 32 Tryz.underlying22 hi hz0 hz1 hz2 rfl (by decide) _ _ _ rfl (World.ownsRow_lit w #[] 0 (Nat.le_refl _) (by decide) rfl) ad k c (hlist H k) rfl (hlist_len H k) (fun j u hj => by
   have hp : 0 < k := by have := (hlist_get' hj).1; omega
   rw [HAD.out hp, add_pl]
   exact keepc (Below.alloc (Below.refl _ _) (Nat.le_refl _) _) (H5.out j u hj)) (hlist_one H k) (by unfold maxLen; omega) (by omega) (by simp) ?_; intro v1 w1 hown1 hg1 _)
  have HO1 := Lib.hid (show w1.ownsRow w.heap.size 24 4 v1 k (hlist H k) from by simpa using hown1)
  have HB1 := Lib.hid (show Below w.heap.size w w1 from (Below.alloc (Below.refl w.heap.size w) (Nat.le_refl _) _).grown hg1 (by simp) (fun j hj => by
   have hj1 : (Value.slice (some ⟨w.heap.size, 0, none⟩) 0 0).ownBlock = some j := hj
   have hj2 : w.heap.size = j := by simpa [Value.ownBlock] using hj1
   omega))
  clear hown1 hg1
  go_wp2
  go_ret
  exact ⟨_, rfl, HO1.out, HB1.out⟩
set_option maxRecDepth 100000 in
set_option maxHeartbeats 4000000 in
theorem set1_any {w : World} {H : Hds} {i k B : Nat} {T : TypeId} (hB : w.heap[B]? = some (.cells #[.int .i64 (H.ho k), .int .i64 (H.en k), .int .i64 (H.da k), .int .i64 (H.sh k)] T (0, 0))) :
  Calls Tryz.prog 70 #[.agg #[.int .i64 (H.ho i), .int .i64 (H.en i), .int .i64 (H.da i), .int .i64 (H.sh i)], .pointer (some ⟨B, 0, none⟩)] w fun en w' => en = .returned (.bool (decide (H.same i k))) ∧ Below w.heap.size w w' := by
 have hb := allocs_below1 w (.cells #[.int .i64 (H.ho i), .int .i64 (H.en i), .int .i64 (H.da i), .int .i64 (H.sh i)] 24)
 obtain ⟨c0, c1, c2, c3⟩ := cells4 (blk_next hB hb)
 clear hb hB
 by_cases p1 : H.ho i = H.ho k
 rotate_left
 ·have HNO := Lib.hid (decide_eq_false (fun q => p1 q.1 : ¬ H.same i k))
  have p1b : (H.ho i == H.ho k) = false := by rw [beq_eq_false_iff_ne]; exact p1
  go_enter Tryz.func70, Tryz.ntmps70
  go_wp2
  go_ret
  exact ⟨by rw [HNO.out] <;> rfl, allocs_below1 _ _⟩
 have p1b : (H.ho i == H.ho k) = true := by rw [p1]; exact beq_self_eq_true _
 have P1 := Lib.hid p1
 clear p1
 by_cases p2 : H.en i = H.en k
 rotate_left
 ·have HNO := Lib.hid (decide_eq_false (fun q => p2 q.2.1 : ¬ H.same i k))
  have p2b : (H.en i == H.en k) = false := by rw [beq_eq_false_iff_ne]; exact p2
  go_enter Tryz.func70, Tryz.ntmps70
  go_wp2
  go_ret
  exact ⟨by rw [HNO.out] <;> rfl, allocs_below1 _ _⟩
 have p2b : (H.en i == H.en k) = true := by rw [p2]; exact beq_self_eq_true _
 have P2 := Lib.hid p2
 clear p2
 by_cases p3 : H.da i = H.da k
 rotate_left
 ·have HNO := Lib.hid (decide_eq_false (fun q => p3 q.2.2 : ¬ H.same i k))
  have p3b : (H.da i == H.da k) = false := by rw [beq_eq_false_iff_ne]; exact p3
  go_enter Tryz.func70, Tryz.ntmps70
  go_wp2
  go_ret
  exact ⟨by rw [HNO.out] <;> rfl, allocs_below1 _ _⟩
 have p3b : (H.da i == H.da k) = true := by rw [p3]; exact beq_self_eq_true _
 have HNO := Lib.hid (decide_eq_true (show H.same i k from ⟨P1.out, P2.out, p3⟩))
 clear p3
 go_enter Tryz.func70, Tryz.ntmps70
 go_wp2
 go_ret
 exact ⟨by rw [HNO.out] <;> rfl, allocs_below1 _ _⟩
theorem set1_yes {w : World} {H : Hds} {i k B : Nat} {T : TypeId} (h : H.same i k) (hB : w.heap[B]? = some (.cells #[.int .i64 (H.ho k), .int .i64 (H.en k), .int .i64 (H.da k), .int .i64 (H.sh k)] T (0, 0))) :
  Calls Tryz.prog 70 #[.agg #[.int .i64 (H.ho i), .int .i64 (H.en i), .int .i64 (H.da i), .int .i64 (H.sh i)], .pointer (some ⟨B, 0, none⟩)] w fun en w' => en = .returned (.bool true) ∧ Below w.heap.size w w' := by
 have := set1_any (i := i) hB
 rwa [decide_eq_true h] at this
theorem set1_no {w : World} {H : Hds} {i k B : Nat} {T : TypeId} (h : ¬ H.same i k) (hB : w.heap[B]? = some (.cells #[.int .i64 (H.ho k), .int .i64 (H.en k), .int .i64 (H.da k), .int .i64 (H.sh k)] T (0, 0))) :
  Calls Tryz.prog 70 #[.agg #[.int .i64 (H.ho i), .int .i64 (H.en i), .int .i64 (H.da i), .int .i64 (H.sh i)], .pointer (some ⟨B, 0, none⟩)] w fun en w' => en = .returned (.bool false) ∧ Below w.heap.size w w' := by
 have := set1_any (i := i) hB
 rwa [decide_eq_false h] at this
def GivesIx (w : World) (H : Hds) (k : Nat) (e : Ending) (w' : World) : Prop :=
 ∃ r : Option Nat, e = .returned (.int .i64 (bIx r)) ∧ (r = none → ∀ i, i < k → ¬ H.same i k) ∧ (∀ i, r = some i → i < k ∧ H.same i k) ∧ Below w.heap.size w w'
set_option maxRecDepth 100000 in
set_option maxHeartbeats 4000000 in
theorem indexH_any {w : World} {v : Value} {k B : Nat} {H : Hds} {T : TypeId} (hH : HoldR w v k H) (hB : w.heap[B]? = some (.cells #[.int .i64 (H.ho k), .int .i64 (H.en k), .int .i64 (H.da k), .int .i64 (H.sh k)] T (0, 0))) :
  Calls Tryz.prog 69 #[v, .func (.func 70) #[] #[.pointer (some ⟨B, 0, none⟩)]] w (GivesIx w H k) := by
 obtain ⟨a, b, o, c, rfl, h1, h2, h3, h4, h5⟩ := hH
 have H5 := Lib.hid h5
 have HBB := Lib.hid hB
 clear h5 hB
 go_enter Tryz.func69, Tryz.ntmps69
 go_wp2_with fail
 go_loopw [8] (fun i wr => ∃ q : Nat, q ≤ k ∧ i = .int .i64 q ∧ (∀ j, j < q → ¬ H.same j k) ∧ Below w.heap.size w wr) (fun i _ => k - (RowKit.intOf i).toNat)
 case atStart => exact ⟨0, Nat.zero_le _, rfl, fun j hj => absurd hj (Nat.not_lt_zero _), Below.refl _ _⟩
 case round =>
  obtain ⟨q, hq, rfl, hf, hb⟩ := hrel
  have HF := Lib.hid hf
  have HB := Lib.hid hb
  have HBR := Lib.hid (blk_next HBB.out hb)
  clear hf hb
  by_cases hlt : q < k
  case neg =>
   obtain rfl : q = k := by omega
   go_wp2
   go_ret
   exact ⟨none, rfl, fun _ => HF.out, fun i h => (by cases h), HB.out⟩
  have hqi : (q : Int) < (k : Int) := by omega
  obtain rfl := h4 (by omega)
  obtain ⟨x0, x1, x2, x3⟩ := H5.out q hlt
  have c0 := keepc HB.out x0
  have c1 := keepc HB.out x1
  have c2 := keepc HB.out x2
  have c3 := keepc HB.out x3
  clear x0 x1 x2 x3
  by_cases hs : H.same q k
  ·have HS := Lib.hid hs
   clear hs
   go_wp2_with (go_at_call 70; (with_reducible refine (set1_yes HS.out HBR.out).mono ?_); rintro en w1 ⟨rfl, hb1⟩; have HB1 := Lib.hid (bt HB.out hb1); clear hb1)
   go_ret
   exact ⟨some q, rfl, fun h => (by cases h), fun i h => by cases h; exact ⟨hlt, HS.out⟩, HB1.out⟩
  ·have HS := Lib.hid hs
   have HF2 := Lib.hid (show ∀ j, j < q + 1 → ¬ H.same j k from fun j hj => by
    by_cases z : j = q
    ·subst z; exact HS.out
    ·exact HF.out j (by omega))
   clear hs
   go_wp2_with (go_at_call 70; (with_reducible refine (set1_no HS.out HBR.out).mono ?_); rintro en w1 ⟨rfl, hb1⟩; have HB1 := Lib.hid (bt HB.out hb1); clear hb1)
   go_roundw
   case rel => exact ⟨q + 1, by omega, by go_num, HF2.out, HB1.out⟩
   case measure => simp [RowKit.intOf]; omega
def GivesSet (w : World) (n : Int) (H : Hds) (k : Nat) (e : Ending) (w' : World) : Prop :=
 (∃ c : Int, e = .returned (.tuple #[.slice none 0 0, .int .i64 c]) ∧ c ≠ 0 ∧ Below w.heap.size w w') ∨
 (∃ (a : Option Addr) (c k2 : Nat) (H2 : Hds), e = .returned (.tuple #[.slice a k2 c, .int .i64 0]) ∧ HoldR w' (.slice a k2 c) k2 H2 ∧ Hwf H2 k2 ∧ H2.valid n k2 ∧ (∀ hh ee day, H.ho k ≠ hh → H2.at hh ee day k2 = H.at hh ee day k) ∧ k2 ≤ 31 ∧ Below w.heap.size w w')
set_option maxRecDepth 100000 in
set_option maxHeartbeats 8000000 in
theorem set_any {w : World} {v : Value} {k : Nat} {n : Int} {H : Hds} (hH : HoldR w v k H) (hw : Hwf H (k + 1)) (hk : k ≤ 30) :
  Calls Tryz.prog 17 #[.int .i64 n, v, .agg #[.int .i64 (H.ho k), .int .i64 (H.en k), .int .i64 (H.da k), .int .i64 (H.sh k)]] w (GivesSet w n H k) := by
 obtain ⟨i0, hi, hz0, hz1, hz2⟩ := info_parts infoH
 obtain ⟨a, c, rfl⟩ : ∃ a c, v = .slice a k c := by obtain ⟨a, b, o, c, h1, _⟩ := hH; exact ⟨a, c, h1⟩
 have HH := Lib.hid hH
 have HW := Lib.hid hw
 have HWk := Lib.hid (show Hwf H k from fun i hi => hw i (by omega))
 clear hH hw
 go_enter Tryz.func17, Tryz.ntmps17
 go_wp2_with fail
 obtain ⟨W1, hW, hs, hb, b0⟩ := alloc1 w (.cells #[.int .i64 (H.ho k), .int .i64 (H.en k), .int .i64 (H.da k), .int .i64 (H.sh k)] 24)
 rw [← hW]
 have HX := Lib.hid b0
 have HB := Lib.hid hb
 have HH1 := Lib.hid (HH.out.below hb)
 clear hW hs hb b0 HH
 by_cases hv : H.valid n k
 case neg =>
  have HV := Lib.hid (show (false = true) ↔ H.valid n k from ⟨fun h => (by cases h), fun h => absurd h hv⟩)
  clear hv
  refine (validH_any HH1.out HWk.out HV.out).mono ?_
  rintro en w1 ⟨rfl, hb1⟩
  go_wp2
  go_ret2
  exact Or.inl ⟨1, rfl, by decide, bt HB.out hb1⟩
 have HV := Lib.hid (show (true = true) ↔ H.valid n k from ⟨fun _ => hv, fun _ => rfl⟩)
 clear hv
 refine (validH_any HH1.out HWk.out HV.out).mono ?_
 rintro en w1 ⟨rfl, hb1⟩
 have HX1 := Lib.hid (blk_next HX.out hb1)
 have HB1 := Lib.hid (bt HB.out hb1)
 have HH2 := Lib.hid (HH1.out.below hb1)
 obtain ⟨c0, c1, c2, c3⟩ := cells4 HX1.out
 clear hb1 HX HB HH1
 by_cases hp : H.proper n k
 case neg =>
  have HP := Lib.hid hp
  clear hp
  go_wp2_with (go_at_call 67; (with_reducible refine (proper_any (i := k)).mono ?_); rintro en w2 ⟨rfl, hb2⟩; rw [decide_eq_false HP.out]; have HB2 := Lib.hid (bt HB1.out hb2); clear hb2)
  go_ret2
  exact Or.inl ⟨1, rfl, by decide, HB2.out⟩
 have HP := Lib.hid hp
 clear hp
 go_wp2_with (go_at_call 67; (with_reducible refine (proper_any (i := k)).mono ?_); rintro en w2 ⟨rfl, hb2⟩; rw [decide_eq_true HP.out]; have HB2 := Lib.hid (bt HB1.out hb2); have HX2 := Lib.hid (blk_next HX1.out hb2); have HH3 := Lib.hid (HH2.out.below hb2); clear hb2 c0 c1 c2 c3)
 refine (cloneH_any HH3.out (by omega)).mono ?_
 rintro en w3 ⟨v3, rfl, ho3, hb3⟩
 have HO3 := Lib.hid ho3
 have HB3 := Lib.hid (bt HB2.out hb3)
 have HX3 := Lib.hid (blk_next HX2.out hb3)
 obtain ⟨a3, c3, rfl⟩ : ∃ a3 c3, v3 = .slice a3 k c3 := by obtain ⟨a, b, o, c, h1, _⟩ := holdR_own ho3 (by omega); exact ⟨a, c, h1⟩
 have hs3 := HB2.out.size
 have hs4 := hb3.size
 clear ho3 hb3 HB2 HX2 HH2 HH3
 go_wp2_with fail
 refine (indexH_any (holdR_own HO3.out (by omega)) HX3.out).mono ?_
 rintro en w4 ⟨r, rfl, hn, hr, hb4⟩
 have HO4 := Lib.hid (ownR_below HO3.out hb4)
 have HB4 := Lib.hid (bt HB3.out hb4)
 have HX4 := Lib.hid (blk_next HX3.out hb4)
 have HR := Lib.hid hr
 have hs5 := hb4.size
 obtain ⟨x0, x1, x2, x3⟩ := cells4 HX4.out
 clear hn hr hb4 HO3 HB3 HX3
 cases r with
 | none =>
  simp only [bIx]
  have hk31 : k + 1 ≤ 31 := by omega
  go_wp2_with (at_builtin; refine wpList_append_own _ rfl _ _ 22 rfl w2.heap.size 24 i0 (.agg #[.int .i64 0, .int .i64 0, .int .i64 0, .int .i64 0]) 4 32 Tryz.underlying22 hi hz0 hz1 hz2 rfl (by decide) _ _ _ rfl (HO4.out.alloc _) ⟨_, 0, none⟩ 1 1 [.int .i64 (H.ho k), .int .i64 (H.en k), .int .i64 (H.da k), .int .i64 (H.sh k)] rfl rfl (new4 _ _ _ _ _ _) (fun u hu => by simp at hu; rcases hu with rfl | rfl | rfl | rfl <;> rfl) (by unfold maxLen; omega) (by omega) (by simp; omega) ?_; intro v5 w5 hown5 hg5 _)
  have HO5 := Lib.hid (show w5.ownsRow w2.heap.size 24 4 v5 (k + 1) (hlist H (k + 1)) from by rw [← hlist_snoc]; exact hown5)
  have HB5 := Lib.hid (show Below w.heap.size w w5 from (HB4.out.alloc HB4.out.size (.cells #[.int .i64 (H.ho k), .int .i64 (H.en k), .int .i64 (H.da k), .int .i64 (H.sh k)] 24)).grown hg5 (by have := HB4.out.size; simp; omega) (fun j hj => by have := (HO4.out.lt j hj).1; omega))
  obtain ⟨a5, c5, rfl⟩ : ∃ a5 c5, v5 = .slice a5 (k + 1) c5 := by obtain ⟨a, b, o, c, h1, _⟩ := holdR_own HO5.out (by omega); exact ⟨a, c, h1⟩
  clear hown5 hg5 x0 x1 x2 x3
  have hlen : ¬ (200 : Int) < ((k + 1 : Nat) : Int) := by omega
  have hlen2 : ¬ (200 : Int) < (k : Int) + 1 := by omega
  go_wp2_with fail
  have HR9 := Lib.hid (holdR_own HO5.out (by omega))
  have HF9 := Lib.hid (show Hwf H (k + 1) from HW.out)
  have HB9 := Lib.hid HB5.out
  have HAT := Lib.hid (show ∀ hh ee day, H.ho k ≠ hh → (H).at hh ee day (k + 1) = H.at hh ee day k from fun hh ee day hne => at_more (H := H) (H' := H) (fun i _ => ⟨rfl, rfl, rfl, rfl⟩) hne)
  by_cases hv2 : (H).valid n (k + 1)
  ·have HV2 := Lib.hid (show (true = true) ↔ (H).valid n (k + 1) from ⟨fun _ => hv2, fun _ => rfl⟩)
   have HV3 := Lib.hid hv2
   clear hv2
   go_wp2_with (go_at_call 66; refine (validH_any HR9.out HF9.out HV2.out).mono ?_; rintro en w9 ⟨rfl, hb9⟩)
   go_ret2
   exact Or.inr ⟨_, _, (k + 1), H, rfl, HR9.out.below hb9, HF9.out, HV3.out, HAT.out, by omega, bt HB9.out hb9⟩
  ·have HV2 := Lib.hid (show (false = true) ↔ (H).valid n (k + 1) from ⟨fun h => (by cases h), fun h => absurd h hv2⟩)
   clear hv2
   go_wp2_with (go_at_call 66; refine (validH_any HR9.out HF9.out HV2.out).mono ?_; rintro en w9 ⟨rfl, hb9⟩)
   go_ret2
   exact Or.inl ⟨18, rfl, by decide, bt HB9.out hb9⟩
 | some i =>
  simp only [bIx]
  obtain ⟨hik, hsm⟩ := HR.out i rfl
  have HSM := Lib.hid hsm
  have hii : (i : Int) < (k : Int) := by omega
  have hi0 : ¬ (i : Int) < 0 := by omega
  obtain ⟨g, cg, hsl, hgb, hgl⟩ := HO4.out.form (by omega)
  injection hsl with e1 _ e3
  subst e1
  subst e3
  have y0 := HO4.out.cellAt (i * 4) (by omega)
  have y1 := HO4.out.cellAt (i * 4 + 1) (by omega)
  have y2 := HO4.out.cellAt (i * 4 + 2) (by omega)
  have y3 := HO4.out.cellAt (i * 4 + 3) (by omega)
  rw [hlist_get (by omega)] at y0 y1 y2 y3
  have z0 := HO4.out.frozenAt (i * 4)
  have z1 := HO4.out.frozenAt (i * 4 + 1)
  have z2 := HO4.out.frozenAt (i * 4 + 2)
  have z3 := HO4.out.frozenAt (i * 4 + 3)
  obtain ⟨s0, _⟩ := HO4.out.stored (i * 4) (.int .i64 (H.ho k))
  obtain ⟨s1, _⟩ := s0.stored (i * 4 + 1) (.int .i64 (H.en k))
  obtain ⟨s2, _⟩ := s1.stored (i * 4 + 2) (.int .i64 (H.da k))
  obtain ⟨s3, _⟩ := s2.stored (i * 4 + 3) (.int .i64 (H.sh k))
  rw [hlist_set hsm.1.symm hsm.2.1.symm hsm.2.2.symm] at s3
  obtain ⟨W9, hW9⟩ : ∃ W9, W9 = (((w4.setCell ⟨g, i * 4, none⟩ (.int .i64 (H.ho k))).setCell ⟨g, i * 4 + 1, none⟩ (.int .i64 (H.en k))).setCell ⟨g, i * 4 + 2, none⟩ (.int .i64 (H.da k))).setCell ⟨g, i * 4 + 3, none⟩ (.int .i64 (H.sh k)) := ⟨_, rfl⟩
  have HO5 := Lib.hid (show W9.ownsRow w2.heap.size 24 4 (.slice (some ⟨g, 0, none⟩) k c3) k (hlist (reSh H i (H.sh k)) k) from by rw [hW9]; exact s3)
  have hwg : w.heap.size ≤ g := by omega
  have HB5 := Lib.hid (show Below w.heap.size w W9 from by rw [hW9]; exact (((HB4.out.setCell (p := ⟨g, i * 4, none⟩) hwg _).setCell (p := ⟨g, i * 4 + 1, none⟩) hwg _).setCell (p := ⟨g, i * 4 + 2, none⟩) hwg _).setCell (p := ⟨g, i * 4 + 3, none⟩) hwg _)
  have HW9 := Lib.hid hW9.symm
  clear s0 s1 s2 s3 hsm hW9
  have hlen : ¬ (200 : Int) < (k : Int) := by omega
  go_wp2_with fail
  rw [HW9.out]
  have HR9 := Lib.hid (holdR_own HO5.out (by omega))
  have HF9 := Lib.hid (show Hwf (reSh H i (H.sh k)) k from fun j hj => by
   have h1 := HWk.out j hj
   have h2 := HW.out k (by omega)
   refine ⟨h1.1, h1.2.1, h1.2.2.1, ?_⟩
   show (Lit.int .i64 (if j = i then H.sh k else H.sh j)).wf = true
   by_cases z : j = i
   ·rw [if_pos z]; exact h2.2.2.2
   ·rw [if_neg z]; exact h1.2.2.2)
  have HB9 := Lib.hid HB5.out
  have HAT := Lib.hid (show ∀ hh ee day, H.ho k ≠ hh → ((reSh H i (H.sh k))).at hh ee day k = H.at hh ee day k from fun hh ee day hne => at_set (i0 := i) (H := H) rfl rfl rfl (fun j hj => if_neg hj) (by rw [HSM.out.1]; exact hne))
  by_cases hv2 : ((reSh H i (H.sh k))).valid n k
  ·have HV2 := Lib.hid (show (true = true) ↔ ((reSh H i (H.sh k))).valid n k from ⟨fun _ => hv2, fun _ => rfl⟩)
   have HV3 := Lib.hid hv2
   clear hv2
   go_wp2_with (go_at_call 66; refine (validH_any HR9.out HF9.out HV2.out).mono ?_; rintro en w9 ⟨rfl, hb9⟩)
   go_ret2
   exact Or.inr ⟨_, _, k, (reSh H i (H.sh k)), rfl, HR9.out.below hb9, HF9.out, HV3.out, HAT.out, by omega, bt HB9.out hb9⟩
  ·have HV2 := Lib.hid (show (false = true) ↔ ((reSh H i (H.sh k))).valid n k from ⟨fun h => (by cases h), fun h => absurd h hv2⟩)
   clear hv2
   go_wp2_with (go_at_call 66; refine (validH_any HR9.out HF9.out HV2.out).mono ?_; rintro en w9 ⟨rfl, hb9⟩)
   go_ret2
   exact Or.inl ⟨18, rfl, by decide, bt HB9.out hb9⟩
end Go.Proofs.YteionhenpehogaaGreatDoor
