import Derived.Test.YteionhenpehogaaGreatDoorReachZ
import Derived.Test.YteionhenpehogaaGreatDoorLinR
import Derived.Laws.OwnMore
import Derived.Deep.AppendLies
import Derived.Deep.Onto
import Derived.BigRegion
import Derived.Deep.QuietTactic
import Derived.BigQuiet
import Derived.Deep.RegionWith
namespace Go.Proofs.YteionhenpehogaaGreatDoor
open Go.RowKit Go.Maps Tally
theorem rdate_any (d : Int) {w : World} : Calls Tryz.prog 105 #[.int .i64 d] w fun en w' => en = .returned (.bool (decide (goodDate d))) ∧ w' = w := by
 unfold goodDate
 by_cases h1 : -25567 ≤ d
 ·by_cases h2 : d ≤ 84005
  ·rw [decide_eq_true (⟨h1, h2⟩ : -25567 ≤ d ∧ d ≤ 84005)]
   go_enter Tryz.func105, Tryz.ntmps105
   go_wp2
   go_ret
   exact ⟨rfl, rfl⟩
  ·rw [decide_eq_false (fun q => h2 q.2 : ¬ (-25567 ≤ d ∧ d ≤ 84005))]
   go_enter Tryz.func105, Tryz.ntmps105
   go_wp2
   go_ret
   exact ⟨rfl, rfl⟩
 ·rw [decide_eq_false (fun q => h1 q.1 : ¬ (-25567 ≤ d ∧ d ≤ 84005))]
  go_enter Tryz.func105, Tryz.ntmps105
  go_wp2
  go_ret
  exact ⟨rfl, rfl⟩
theorem rdate_yes {w : World} {d : Int} (h : goodDate d) : Calls Tryz.prog 105 #[.int .i64 d] w fun en w' => en = .returned (.bool true) ∧ w' = w := by
 have := rdate_any d (w := w)
 rwa [decide_eq_true h] at this
theorem rdate_no {w : World} {d : Int} (h : ¬ goodDate d) : Calls Tryz.prog 105 #[.int .i64 d] w fun en w' => en = .returned (.bool false) ∧ w' = w := by
 have := rdate_any d (w := w)
 rwa [decide_eq_false h] at this
def bIx : Option Nat → Int
 | none => -1
 | some i => i
theorem best_hit_none {H : Hds} {h e day : Int} {q : Nat} (hh : H.hits h e day q) (hb : H.best h e day q = none) : H.best h e day (q + 1) = some q := by
 unfold Hds.best; rw [if_pos hh, hb]
theorem best_hit_up {H : Hds} {h e day : Int} {q i : Nat} (hh : H.hits h e day q) (hb : H.best h e day q = some i) (hl : H.da i < H.da q) : H.best h e day (q + 1) = some q := by
 unfold Hds.best; rw [if_pos hh, hb]; exact if_pos hl
theorem best_hit_no {H : Hds} {h e day : Int} {q i : Nat} (hh : H.hits h e day q) (hb : H.best h e day q = some i) (hl : ¬ H.da i < H.da q) : H.best h e day (q + 1) = some i := by
 unfold Hds.best; rw [if_pos hh, hb]; exact if_neg hl
theorem best_miss {H : Hds} {h e day : Int} {q : Nat} (hh : ¬ H.hits h e day q) : H.best h e day (q + 1) = H.best h e day q := by
 rw [show H.best h e day (q + 1) = _ from by unfold Hds.best; exact if_neg hh]
set_option maxRecDepth 100000 in
set_option maxHeartbeats 4000000 in
theorem rat_at {w : World} {v : Value} {k : Nat} {H : Hds} {h e day : Int} (hH : HoldR w v k H) :
  Calls Tryz.prog 19 #[v, .int .i64 h, .int .i64 e, .int .i64 day] w fun en w' => en = .returned (.int .i64 (H.at h e day k)) ∧ Below w.heap.size w w' := by
 obtain ⟨a, b, o, c, rfl, h1, h2, h3, h4, h5⟩ := hH
 have H5 := Lib.hid h5
 clear h5
 go_enter Tryz.func19, Tryz.ntmps19
 go_wp2_with fail
 go_loopw [9, 10] (fun b i wr => ∃ q : Nat, q ≤ k ∧ i = .int .i64 q ∧ b = .int .i64 (bIx (H.best h e day q)) ∧ Below w.heap.size w wr) (fun _ i _ => k - (RowKit.intOf i).toNat)
 case atStart => exact ⟨0, Nat.zero_le _, rfl, rfl, Below.refl _ _⟩
 case round =>
  obtain ⟨q, hq, rfl, rfl, hb⟩ := hrel
  have HB := Lib.hid hb
  clear hb
  by_cases hlt : q < k
  ·have hqi : (q : Int) < (k : Int) := by omega
   obtain rfl := h4 (by omega)
   obtain ⟨x0, x1, x2, x3⟩ := H5.out q hlt
   have c0 := keepc HB.out x0
   have c1 := keepc HB.out x1
   have c2 := keepc HB.out x2
   clear x0 x1 x2 x3
   by_cases e1 : H.ho q = h
   rotate_left
   ·have HM := Lib.hid (best_miss (H := H) (h := h) (e := e) (day := day) (q := q) fun z => e1 z.1)
    have e1b : (H.ho q == h) = false := by rw [beq_eq_false_iff_ne]; exact e1
    go_wp2_with fail
    go_quiet (fail)
    go_wp2
    go_roundw
    case rel => exact ⟨q + 1, by omega, by go_num, by rw [HM.out], Below.drewN' HB.out _⟩
    case measure => (simp [RowKit.intOf]; omega)
   by_cases e2 : H.en q = e
   rotate_left
   ·have HM := Lib.hid (best_miss (H := H) (h := h) (e := e) (day := day) (q := q) fun z => e2 z.2.1)
    have e2b : (H.en q == e) = false := by rw [beq_eq_false_iff_ne]; exact e2
    have e1b : (H.ho q == h) = true := by rw [e1]; exact beq_self_eq_true _
    go_wp2_with fail
    go_quiet (fail)
    go_wp2
    go_roundw
    case rel => exact ⟨q + 1, by omega, by go_num, by rw [HM.out], Below.drewN' HB.out _⟩
    case measure => (simp [RowKit.intOf]; omega)
   by_cases e3 : H.da q ≤ day
   rotate_left
   ·have HM := Lib.hid (best_miss (H := H) (h := h) (e := e) (day := day) (q := q) fun z => e3 z.2.2)
    have e3d : decide (H.da q ≤ day) = false := decide_eq_false e3
    have e3l : day < H.da q := by omega
    have e1b : (H.ho q == h) = true := by rw [e1]; exact beq_self_eq_true _
    have e2b : (H.en q == e) = true := by rw [e2]; exact beq_self_eq_true _
    go_wp2_with fail
    go_quiet (fail)
    go_wp2
    go_roundw
    case rel => exact ⟨q + 1, by omega, by go_num, by rw [HM.out], Below.drewN' HB.out _⟩
    case measure => (simp [RowKit.intOf]; omega)
   have e1b : (H.ho q == h) = true := by rw [e1]; exact beq_self_eq_true _
   have e2b : (H.en q == e) = true := by rw [e2]; exact beq_self_eq_true _
   have HHIT := Lib.hid (show H.hits h e day q from ⟨e1, e2, e3⟩)
   cases hb : H.best h e day q with
   | none =>
    have HM := Lib.hid (best_hit_none HHIT.out hb)
    clear hb e1 e2
    simp only [bIx]
    go_wp2_with fail
    go_quiet (fail)
    go_wp2
    go_roundw
    case rel => exact ⟨q + 1, by omega, by go_num, by rw [HM.out]; try rfl, Below.drewN' HB.out _⟩
    case measure => (simp [RowKit.intOf]; omega)
   | some i =>
    obtain ⟨hi, _⟩ := best_some hb
    obtain ⟨_, _, y2, _⟩ := H5.out i (by omega)
    have d2 := keepc HB.out y2
    have hik : (i : Int) < (k : Int) := by omega
    have hi0 : ¬ (i : Int) < 0 := by omega
    have hi1 : decide ((i : Int) < 0) = false := decide_eq_false hi0
    have hi2 : (0 : Int) ≤ (i : Int) := by omega
    clear y2
    by_cases hl : H.da i < H.da q
    ·have HM := Lib.hid (best_hit_up HHIT.out hb hl)
     clear hb e1 e2
     simp only [bIx]
     go_wp2_with fail
     go_quiet (fail)
     go_wp2
     go_roundw
     case rel => exact ⟨q + 1, by omega, by go_num, by rw [HM.out]; try rfl, Below.drewN' HB.out _⟩
     case measure => (simp [RowKit.intOf]; omega)
    ·have HM := Lib.hid (best_hit_no HHIT.out hb hl)
     have hld : decide (H.da i < H.da q) = false := decide_eq_false hl
     have hll : H.da q ≤ H.da i := by omega
     clear hb e1 e2
     simp only [bIx]
     go_wp2_with fail
     go_quiet (fail)
     go_wp2
     go_roundw
     case rel => exact ⟨q + 1, by omega, by go_num, by rw [HM.out]; try rfl, Below.drewN' HB.out _⟩
     case measure => (simp [RowKit.intOf]; omega)
  ·obtain rfl : q = k := by omega
   cases hb : H.best h e day q with
   | none =>
    have HM := Lib.hid (show H.at h e day q = 0 from by rw [at_best, hb]; rfl)
    clear hb
    simp only [bIx]
    go_wp2
    go_ret
    exact ⟨by rw [HM.out] <;> rfl, HB.out⟩
   | some i =>
    obtain ⟨hi, _⟩ := best_some hb
    obtain rfl := h4 (by omega)
    obtain ⟨_, _, _, y3⟩ := H5.out i (by omega)
    have d3 := keepc HB.out y3
    have hik : (i : Int) < (q : Int) := by omega
    have hi0 : ¬ (i : Int) < 0 := by omega
    have HM := Lib.hid (show H.at h e day q = H.sh i from by rw [at_best, hb]; rfl)
    clear hb y3
    simp only [bIx]
    go_wp2
    go_ret
    exact ⟨by rw [HM.out] <;> rfl, HB.out⟩
set_option maxRecDepth 100000 in
set_option maxHeartbeats 4000000 in
theorem rfirst_any {w : World} {v : Value} {k i : Nat} {H : Hds} {b : Bool} (hH : HoldR w v k H) (hi : i < k) (hb : b = true ↔ H.first i) :
  Calls Tryz.prog 166 #[v, .int .i64 i] w fun en w' => en = .returned (.bool b) ∧ Below w.heap.size w w' := by
 obtain ⟨a, b', o, c, rfl, h1, h2, h3, h4, h5⟩ := hH
 have H5 := Lib.hid h5
 have HBB := Lib.hid hb
 clear h5 hb
 obtain rfl := h4 (by omega)
 have hii : (i : Int) < (k : Int) := by omega
 go_enter Tryz.func166, Tryz.ntmps166
 go_wp2_with fail
 go_loopw [5] (fun j wr => ∃ q : Nat, q ≤ i ∧ j = .int .i64 q ∧ (∀ j, j < q → H.ho j ≠ H.ho i) ∧ Below w.heap.size w wr) (fun j _ => i - (RowKit.intOf j).toNat)
 case atStart => exact ⟨0, Nat.zero_le _, rfl, fun j hj => absurd hj (Nat.not_lt_zero _), Below.refl _ _⟩
 case round =>
  obtain ⟨q, hq, rfl, hf, hb⟩ := hrel
  have HF := Lib.hid hf
  have HB := Lib.hid hb
  clear hf hb
  by_cases hlt : q < i
  ·have hqi : (q : Int) < (i : Int) := by omega
   have hqk : (q : Int) < (k : Int) := by omega
   obtain ⟨x0, _, _, _⟩ := H5.out q (by omega)
   obtain ⟨y0, _, _, _⟩ := H5.out i hi
   have c0 := keepc HB.out x0
   have d0 := keepc HB.out y0
   clear x0 y0
   by_cases e1 : H.ho q = H.ho i
   ·have hno : b = false := by cases b; rfl; exact absurd e1 (HBB.out.1 rfl q hlt)
    have HN := Lib.hid hno
    have e1b : (H.ho q == H.ho i) = true := by rw [e1]; exact beq_self_eq_true _
    clear hno e1
    go_wp2_with fail
    go_quiet (fail)
    go_wp2
    go_ret
    exact ⟨by rw [HN.out] <;> rfl, Below.drewN' HB.out _⟩
   ·have e1b : (H.ho q == H.ho i) = false := by rw [beq_eq_false_iff_ne]; exact e1
    have HF2 := Lib.hid (show ∀ j, j < q + 1 → H.ho j ≠ H.ho i from fun j hj => by
     by_cases z : j = q
     ·subst z; exact e1
     ·exact HF.out j (by omega))
    go_wp2_with fail
    go_quiet (fail)
    go_wp2
    go_roundw
    case rel => exact ⟨q + 1, by omega, by go_num, HF2.out, Below.drewN' HB.out _⟩
    case measure => (simp [RowKit.intOf]; omega)
  ·obtain rfl : q = i := by omega
   have HN := Lib.hid (HBB.out.2 HF.out)
   go_wp2
   go_ret
   exact ⟨by rw [HN.out] <;> rfl, HB.out⟩
theorem isum_step {n : Nat} {f : Nat → Int} : isum (n + 1) f = isum n f + f n := rfl
set_option maxRecDepth 100000 in
set_option maxHeartbeats 4000000 in
theorem rtotal_any {w : World} {v : Value} {k N : Nat} {H : Hds} {e day : Int} (hH : HoldR w v k H) (hs : ∀ i, i < k → 0 ≤ H.sh i ∧ H.sh i ≤ 10000) (hh : ∀ i, i < k → 0 ≤ H.ho i ∧ H.ho i < N) (hk : k ≤ 1000) :
  Calls Tryz.prog 147 #[v, .int .i64 e, .int .i64 day] w fun en w' => en = .returned (.int .i64 (H.tot N e day k)) ∧ Below w.heap.size w w' := by
 classical
 have HH := Lib.hid hH
 obtain ⟨a, b, o, c, rfl, h1, h2, h3, h4, h5⟩ := hH
 have H5 := Lib.hid h5
 have HR := Lib.hid (fun (z : Int) => at_range (H := H) (h := z) (e := e) (day := day) (k := k) hs)
 have HT := Lib.hid (show isum k (fun i => if H.first i then H.at (H.ho i) e day k else 0) = H.tot N e day k from by rw [first_sum (F := fun z => H.at z e day k) hh (Nat.le_refl _), tot_occur])
 have HBD := Lib.hid (fun (q : Nat) => isum_range (n := q) (c := 10000) (f := fun i => if H.first i then H.at (H.ho i) e day k else 0) fun i _ => by
  by_cases z : H.first i
  ·rw [if_pos z]; exact HR.out _
  ·rw [if_neg z]; exact ⟨Int.le_refl _, by decide⟩)
 clear h5 hs hh
 go_enter Tryz.func147, Tryz.ntmps147
 go_wp2_with fail
 go_loopw [7, 8] (fun s i wr => ∃ (q : Nat) (sm : Int), q ≤ k ∧ i = .int .i64 q ∧ s = .int .i64 sm ∧ sm = isum q (fun i => if H.first i then H.at (H.ho i) e day k else 0) ∧ Below w.heap.size w wr) (fun _ i _ => k - (RowKit.intOf i).toNat)
 case atStart => exact ⟨0, 0, Nat.zero_le _, rfl, rfl, rfl, Below.refl _ _⟩
 case round =>
  obtain ⟨q, sm, hq, rfl, rfl, hsm, hb⟩ := hrel
  have HB := Lib.hid hb
  have HHr := Lib.hid (HH.out.below hb)
  clear hb
  have hbd := HBD.out q
  rw [← hsm] at hbd
  have HSM := Lib.hid hsm
  clear hsm
  by_cases hlt : q < k
  ·have hqi : (q : Int) < (k : Int) := by omega
   obtain rfl := h4 (by omega)
   obtain ⟨x0, _, _, _⟩ := H5.out q hlt
   have hat := HR.out (H.ho q)
   have hcap : (q : Int) * 10000 ≤ 10000000 := by omega
   by_cases hf : H.first q
   ·have HX := Lib.hid (show sm + H.at (H.ho q) e day k = isum (q + 1) (fun i => if H.first i then H.at (H.ho i) e day k else 0) from by rw [isum_step, if_pos hf, HSM.out])
    have HF := Lib.hid (show true = true ↔ H.first q from ⟨fun _ => hf, fun _ => rfl⟩)
    clear hf
    go_wp2_with (first
     | (go_at_call 166; (with_reducible refine (rfirst_any (b := true) HHr.out hlt HF.out).mono ?_); rintro en w1 ⟨rfl, hb1⟩; have HB1 := Lib.hid (bt HB.out hb1); have HH1 := Lib.hid (HHr.out.below hb1); have c0 := keepc HB1.out x0; clear hb1)
     | (go_at_call 19; (with_reducible refine (rat_at HH1.out).mono ?_); rintro en w2 ⟨rfl, hb2⟩; have HB2 := Lib.hid (bt HB1.out hb2); clear hb2))
    go_roundw
    case rel => exact ⟨q + 1, _, by omega, by go_num, by go_num, HX.out, HB2.out⟩
    case measure => simp [RowKit.intOf]; omega
   ·have HX := Lib.hid (show sm = isum (q + 1) (fun i => if H.first i then H.at (H.ho i) e day k else 0) from by rw [isum_step, if_neg hf, HSM.out, Int.add_zero])
    have HF := Lib.hid (show false = true ↔ H.first q from ⟨fun z => (by cases z), fun z => absurd z hf⟩)
    clear hf
    go_wp2_with (go_at_call 166; (with_reducible refine (rfirst_any (b := false) HHr.out hlt HF.out).mono ?_); rintro en w1 ⟨rfl, hb1⟩; have HB2 := Lib.hid (bt HB.out hb1); clear hb1)
    go_roundw
    case rel => exact ⟨q + 1, _, by omega, by go_num, rfl, HX.out, HB2.out⟩
    case measure => simp [RowKit.intOf]; omega
  ·obtain rfl : q = k := by omega
   have HE := Lib.hid (HSM.out.trans HT.out)
   go_wp2
   go_ret
   exact ⟨by rw [HE.out] <;> rfl, HB.out⟩
set_option maxRecDepth 100000 in
set_option maxHeartbeats 4000000 in
theorem rsame_any {w : World} {H : Hds} {i j : Nat} :
  Calls Tryz.prog 146 #[.agg #[.int .i64 (H.ho i), .int .i64 (H.en i), .int .i64 (H.da i), .int .i64 (H.sh i)], .agg #[.int .i64 (H.ho j), .int .i64 (H.en j), .int .i64 (H.da j), .int .i64 (H.sh j)]] w fun en w' => en = .returned (.bool (decide (H.same i j))) ∧ Below w.heap.size w w' := by
 by_cases p1 : H.ho i = H.ho j
 rotate_left
 ·have HNO := Lib.hid (decide_eq_false (fun q => p1 q.1 : ¬ H.same i j))
  have p1b : (H.ho i == H.ho j) = false := by rw [beq_eq_false_iff_ne]; exact p1
  go_enter Tryz.func146, Tryz.ntmps146
  go_wp2
  go_ret
  exact ⟨by rw [HNO.out] <;> rfl, allocs_below2 _ _ _⟩
 have p1b : (H.ho i == H.ho j) = true := by rw [p1]; exact beq_self_eq_true _
 have P1 := Lib.hid p1
 clear p1
 by_cases p2 : H.en i = H.en j
 rotate_left
 ·have HNO := Lib.hid (decide_eq_false (fun q => p2 q.2.1 : ¬ H.same i j))
  have p2b : (H.en i == H.en j) = false := by rw [beq_eq_false_iff_ne]; exact p2
  go_enter Tryz.func146, Tryz.ntmps146
  go_wp2
  go_ret
  exact ⟨by rw [HNO.out] <;> rfl, allocs_below2 _ _ _⟩
 have p2b : (H.en i == H.en j) = true := by rw [p2]; exact beq_self_eq_true _
 have P2 := Lib.hid p2
 clear p2
 by_cases p3 : H.da i = H.da j
 rotate_left
 ·have HNO := Lib.hid (decide_eq_false (fun q => p3 q.2.2 : ¬ H.same i j))
  have p3b : (H.da i == H.da j) = false := by rw [beq_eq_false_iff_ne]; exact p3
  go_enter Tryz.func146, Tryz.ntmps146
  go_wp2
  go_ret
  exact ⟨by rw [HNO.out] <;> rfl, allocs_below2 _ _ _⟩
 have p3b : (H.da i == H.da j) = true := by rw [p3]; exact beq_self_eq_true _
 have HNO := Lib.hid (decide_eq_true (show H.same i j from ⟨P1.out, P2.out, p3⟩))
 clear p3
 go_enter Tryz.func146, Tryz.ntmps146
 go_wp2
 go_ret
 exact ⟨by rw [HNO.out] <;> rfl, allocs_below2 _ _ _⟩
theorem rsame_yes {w : World} {H : Hds} {i j : Nat} (h : H.same i j) :
  Calls Tryz.prog 146 #[.agg #[.int .i64 (H.ho i), .int .i64 (H.en i), .int .i64 (H.da i), .int .i64 (H.sh i)], .agg #[.int .i64 (H.ho j), .int .i64 (H.en j), .int .i64 (H.da j), .int .i64 (H.sh j)]] w fun en w' => en = .returned (.bool true) ∧ Below w.heap.size w w' := by
 have := rsame_any (w := w) (H := H) (i := i) (j := j)
 rwa [decide_eq_true h] at this
theorem rsame_no {w : World} {H : Hds} {i j : Nat} (h : ¬ H.same i j) :
  Calls Tryz.prog 146 #[.agg #[.int .i64 (H.ho i), .int .i64 (H.en i), .int .i64 (H.da i), .int .i64 (H.sh i)], .agg #[.int .i64 (H.ho j), .int .i64 (H.en j), .int .i64 (H.da j), .int .i64 (H.sh j)]] w fun en w' => en = .returned (.bool false) ∧ Below w.heap.size w w' := by
 have := rsame_any (w := w) (H := H) (i := i) (j := j)
 rwa [decide_eq_false h] at this
set_option maxRecDepth 100000 in
set_option maxHeartbeats 4000000 in
theorem rproper_any {w : World} {H : Hds} {i : Nat} {n : Int} :
  Calls Tryz.prog 145 #[.int .i64 n, .agg #[.int .i64 (H.ho i), .int .i64 (H.en i), .int .i64 (H.da i), .int .i64 (H.sh i)]] w fun en w' => en = .returned (.bool (decide (H.proper n i))) ∧ Below w.heap.size w w' := by
 by_cases p0 : 0 ≤ H.ho i
 rotate_left
 ·have HNO := Lib.hid (decide_eq_false (fun q => p0 q.1 : ¬ H.proper n i))
  go_enter Tryz.func145, Tryz.ntmps145
  go_wp2
  go_ret
  exact ⟨by rw [HNO.out] <;> rfl, allocs_below1 _ _⟩
 by_cases p1 : H.ho i < n
 rotate_left
 ·have HNO := Lib.hid (decide_eq_false (fun q => p1 q.2.1 : ¬ H.proper n i))
  go_enter Tryz.func145, Tryz.ntmps145
  go_wp2
  go_ret
  exact ⟨by rw [HNO.out] <;> rfl, allocs_below1 _ _⟩
 by_cases p2 : 0 ≤ H.en i
 rotate_left
 ·have HNO := Lib.hid (decide_eq_false (fun q => p2 q.2.2.1 : ¬ H.proper n i))
  go_enter Tryz.func145, Tryz.ntmps145
  go_wp2
  go_ret
  exact ⟨by rw [HNO.out] <;> rfl, allocs_below1 _ _⟩
 by_cases p3 : H.en i < n
 rotate_left
 ·have HNO := Lib.hid (decide_eq_false (fun q => p3 q.2.2.2.1 : ¬ H.proper n i))
  go_enter Tryz.func145, Tryz.ntmps145
  go_wp2
  go_ret
  exact ⟨by rw [HNO.out] <;> rfl, allocs_below1 _ _⟩
 by_cases p4 : H.ho i ≠ H.en i
 rotate_left
 ·have HNO := Lib.hid (decide_eq_false (fun q => p4 q.2.2.2.2.1 : ¬ H.proper n i))
  have p4e : H.ho i = H.en i := Classical.not_not.1 p4
  have p4b : (H.ho i != H.en i) = false := by rw [p4e]; exact bne_self_eq_false _
  have p4c : (H.ho i == H.en i) = true := by rw [p4e]; exact beq_self_eq_true _
  have P4 := Lib.hid p4e
  clear p4 p4e
  go_enter Tryz.func145, Tryz.ntmps145
  go_wp2
  go_ret
  exact ⟨by rw [HNO.out] <;> rfl, allocs_below1 _ _⟩
 have p4b : (H.ho i != H.en i) = true := bne_iff_ne.2 p4
 have p4c : (H.ho i == H.en i) = false := by rw [beq_eq_false_iff_ne]; exact p4
 by_cases p5 : goodDate (H.da i)
 rotate_left
 ·have HNO := Lib.hid (decide_eq_false (fun q => p5 q.2.2.2.2.2.1 : ¬ H.proper n i))
  have P5 := Lib.hid p5
  clear p5
  go_enter Tryz.func145, Tryz.ntmps145
  go_wp2_with (go_at_call 105; (with_reducible refine (rdate_no P5.out).mono ?_); rintro en w1 ⟨rfl, rfl⟩)
  go_ret
  exact ⟨by rw [HNO.out] <;> rfl, allocs_below1 _ _⟩
 have P5 := Lib.hid p5
 clear p5
 by_cases p6 : 0 ≤ H.sh i
 rotate_left
 ·have HNO := Lib.hid (decide_eq_false (fun q => p6 q.2.2.2.2.2.2.1 : ¬ H.proper n i))
  go_enter Tryz.func145, Tryz.ntmps145
  go_wp2_with (go_at_call 105; (with_reducible refine (rdate_yes P5.out).mono ?_); rintro en w1 ⟨rfl, rfl⟩)
  go_ret
  exact ⟨by rw [HNO.out] <;> rfl, allocs_below1 _ _⟩
 by_cases p7 : H.sh i ≤ 10000
 rotate_left
 ·have HNO := Lib.hid (decide_eq_false (fun q => p7 q.2.2.2.2.2.2.2 : ¬ H.proper n i))
  have p7b : decide (H.sh i ≤ 10000) = false := decide_eq_false p7
  have p7c : (10000 : Int) < H.sh i := by omega
  go_enter Tryz.func145, Tryz.ntmps145
  go_wp2_with (go_at_call 105; (with_reducible refine (rdate_yes P5.out).mono ?_); rintro en w1 ⟨rfl, rfl⟩)
  go_ret
  exact ⟨by rw [HNO.out] <;> rfl, allocs_below1 _ _⟩
 have HNO := Lib.hid (decide_eq_true (show H.proper n i from ⟨p0, p1, p2, p3, p4, P5.out, p6, p7⟩))
 have p7b : decide (H.sh i ≤ 10000) = true := decide_eq_true p7
 go_enter Tryz.func145, Tryz.ntmps145
 go_wp2_with (go_at_call 105; (with_reducible refine (rdate_yes P5.out).mono ?_); rintro en w1 ⟨rfl, rfl⟩)
 go_ret
 exact ⟨by rw [HNO.out] <;> rfl, allocs_below1 _ _⟩
theorem rproper_yes {w : World} {H : Hds} {i : Nat} {n : Int} (h : H.proper n i) :
  Calls Tryz.prog 145 #[.int .i64 n, .agg #[.int .i64 (H.ho i), .int .i64 (H.en i), .int .i64 (H.da i), .int .i64 (H.sh i)]] w fun en w' => en = .returned (.bool true) ∧ Below w.heap.size w w' := by
 have := rproper_any (w := w) (H := H) (i := i) (n := n)
 rwa [decide_eq_true h] at this
theorem rproper_no {w : World} {H : Hds} {i : Nat} {n : Int} (h : ¬ H.proper n i) :
  Calls Tryz.prog 145 #[.int .i64 n, .agg #[.int .i64 (H.ho i), .int .i64 (H.en i), .int .i64 (H.da i), .int .i64 (H.sh i)]] w fun en w' => en = .returned (.bool false) ∧ Below w.heap.size w w' := by
 have := rproper_any (w := w) (H := H) (i := i) (n := n)
 rwa [decide_eq_false h] at this
set_option maxRecDepth 100000 in
set_option maxHeartbeats 4000000 in
theorem rvalidH_any {w : World} {v : Value} {k : Nat} {H : Hds} {n : Int} {b : Bool} (hH : HoldR w v k H) (hb : b = true ↔ H.valid n k) :
  Calls Tryz.prog 104 #[.int .i64 n, v] w fun en w' => en = .returned (.bool b) ∧ Below w.heap.size w w' := by
 obtain ⟨a, bb, o, c, rfl, h1, h2, h3, h4, h5⟩ := id hH
 have HH := Lib.hid hH
 have H5 := Lib.hid h5
 have HBV := Lib.hid hb
 clear hH h5 hb
 by_cases n1 : n < 1
 ·have hno : b = false := by cases b; rfl; exact absurd (HBV.out.1 rfl).1 (by omega)
  have HN := Lib.hid hno
  clear hno
  go_enter Tryz.func104, Tryz.ntmps104
  go_wp2
  go_ret
  exact ⟨by rw [HN.out] <;> rfl, Below.refl _ _⟩
 by_cases n2 : 12 < n
 ·have hno : b = false := by cases b; rfl; exact absurd (HBV.out.1 rfl).2.1 (by omega)
  have HN := Lib.hid hno
  clear hno
  go_enter Tryz.func104, Tryz.ntmps104
  go_wp2
  go_ret
  exact ⟨by rw [HN.out] <;> rfl, Below.refl _ _⟩
 by_cases n3 : 200 < (k : Int)
 ·have hno : b = false := by cases b; rfl; exact absurd (HBV.out.1 rfl).2.2.1 (by omega)
  have HN := Lib.hid hno
  clear hno
  go_enter Tryz.func104, Tryz.ntmps104
  go_wp2
  go_ret
  exact ⟨by rw [HN.out] <;> rfl, Below.refl _ _⟩
 go_enter Tryz.func104, Tryz.ntmps104
 go_wp2_with fail
 go_loopw [5] (fun i wr => ∃ q : Nat, q ≤ k ∧ i = .int .i64 q ∧ H.fine n q ∧ Below w.heap.size w wr) (fun i _ => k - (RowKit.intOf i).toNat)
 case atStart => exact ⟨0, Nat.zero_le _, rfl, Hds.fine.start, Below.refl _ _⟩
 case round =>
  obtain ⟨q, hq, rfl, hf, hb⟩ := hrel
  have HF := Lib.hid hf
  have HB := Lib.hid hb
  clear hf hb
  by_cases hlt : q < k
  ·have hqi : (q : Int) < (k : Int) := by omega
   obtain rfl := h4 (by omega)
   obtain ⟨x0, x1, x2, x3⟩ := H5.out q hlt
   have c0 := keepc HB.out x0
   have c1 := keepc HB.out x1
   have c2 := keepc HB.out x2
   have c3 := keepc HB.out x3
   clear x0 x1 x2 x3
   by_cases hp : H.proper n q
   rotate_left
   ·have hno : b = false := by
     cases b
     ·rfl
     ·exact absurd (HBV.out.1 rfl) (not_valid_proper hlt hp)
    have HN := Lib.hid hno
    have HP := Lib.hid hp
    clear hno hp
    go_wp2_with (go_at_call 145; (with_reducible refine (rproper_no HP.out).mono ?_); rintro en w2 ⟨rfl, hb2⟩)
    go_ret
    exact ⟨by rw [HN.out] <;> rfl, bt HB.out hb2⟩
   have HP := Lib.hid hp
   clear hp
   go_wp2_with (go_at_call 145; (with_reducible refine (rproper_yes HP.out).mono ?_); rintro en w1 ⟨rfl, hb1⟩)
   have HB1 := Lib.hid (bt HB.out hb1)
   have e0 := keepc hb1 c0
   have e1 := keepc hb1 c1
   have e2 := keepc hb1 c2
   have e3 := keepc hb1 c3
   clear c0 c1 c2 c3 hb1
   have HE := Lib.hid (⟨e0, e1, e2, e3⟩ : w1.cell? ⟨bb, o + q * 4, none⟩ = some (.int .i64 (H.ho q)) ∧ w1.cell? ⟨bb, o + q * 4 + 1, none⟩ = some (.int .i64 (H.en q)) ∧ w1.cell? ⟨bb, o + q * 4 + 2, none⟩ = some (.int .i64 (H.da q)) ∧ w1.cell? ⟨bb, o + q * 4 + 3, none⟩ = some (.int .i64 (H.sh q)))
   clear e0 e1 e2 e3 HB
   go_loopw [6] (fun i wr => ∃ j : Nat, j ≤ q ∧ i = .int .i64 j ∧ (∀ x, x < j → ¬ H.same x q) ∧ Below w1.heap.size w1 wr) (fun i _ => q - (RowKit.intOf i).toNat)
   case atStart => exact ⟨0, Nat.zero_le _, rfl, fun x hx => absurd hx (Nat.not_lt_zero _), Below.refl _ _⟩
   case round =>
    obtain ⟨j, hj, rfl, hns, hb⟩ := hrel
    have HNS := Lib.hid hns
    have HB2 := Lib.hid hb
    clear hns hb
    by_cases hjl : j < q
    ·have hjq : (j : Int) < (q : Int) := by omega
     have hjk : (j : Int) < (k : Int) := by omega
     obtain ⟨e0, e1, e2, e3⟩ := HE.out
     have c0 := keepc HB2.out e0
     have c1 := keepc HB2.out e1
     have c2 := keepc HB2.out e2
     have c3 := keepc HB2.out e3
     obtain ⟨x0, x1, x2, x3⟩ := H5.out j (by omega)
     have d0 := keepc (bt HB1.out HB2.out) x0
     have d1 := keepc (bt HB1.out HB2.out) x1
     have d2 := keepc (bt HB1.out HB2.out) x2
     have d3 := keepc (bt HB1.out HB2.out) x3
     clear x0 x1 x2 x3 e0 e1 e2 e3
     by_cases hsm : H.same j q
     ·have hno : b = false := by
       cases b
       ·rfl
       ·exact absurd (HBV.out.1 rfl) (not_valid_same hlt hjl hsm)
      have HN := Lib.hid hno
      have HSM := Lib.hid hsm
      clear hno hsm
      go_wp2_with fail
      have HL := Lib.hid (fun (w' : World) (hb : Below wr.heap.size wr w') => (⟨hb, keepc hb d0, keepc hb d1, keepc hb d2, keepc hb d3, keepc hb c0, keepc hb c1, keepc hb c2, keepc hb c3⟩ : Below wr.heap.size wr w' ∧ w'.cell? ⟨bb, o + j * 4, none⟩ = some (.int .i64 (H.ho j)) ∧ w'.cell? ⟨bb, o + j * 4 + 1, none⟩ = some (.int .i64 (H.en j)) ∧ w'.cell? ⟨bb, o + j * 4 + 2, none⟩ = some (.int .i64 (H.da j)) ∧ w'.cell? ⟨bb, o + j * 4 + 3, none⟩ = some (.int .i64 (H.sh j)) ∧ w'.cell? ⟨bb, o + q * 4, none⟩ = some (.int .i64 (H.ho q)) ∧ w'.cell? ⟨bb, o + q * 4 + 1, none⟩ = some (.int .i64 (H.en q)) ∧ w'.cell? ⟨bb, o + q * 4 + 2, none⟩ = some (.int .i64 (H.da q)) ∧ w'.cell? ⟨bb, o + q * 4 + 3, none⟩ = some (.int .i64 (H.sh q))))
      have HS := Lib.hid (Below.refl wr.heap.size wr)
      clear c0 c1 c2 c3 d0 d1 d2 d3
      go_region_held3 (fun w' => Below wr.heap.size wr w' ∧ w'.cell? ⟨bb, o + j * 4, none⟩ = some (.int .i64 (H.ho j)) ∧ w'.cell? ⟨bb, o + j * 4 + 1, none⟩ = some (.int .i64 (H.en j)) ∧ w'.cell? ⟨bb, o + j * 4 + 2, none⟩ = some (.int .i64 (H.da j)) ∧ w'.cell? ⟨bb, o + j * 4 + 3, none⟩ = some (.int .i64 (H.sh j)) ∧ w'.cell? ⟨bb, o + q * 4, none⟩ = some (.int .i64 (H.ho q)) ∧ w'.cell? ⟨bb, o + q * 4 + 1, none⟩ = some (.int .i64 (H.en q)) ∧ w'.cell? ⟨bb, o + q * 4 + 2, none⟩ = some (.int .i64 (H.da q)) ∧ w'.cell? ⟨bb, o + q * 4 + 3, none⟩ = some (.int .i64 (H.sh q)))
       (first | assumption | with_reducible exact HL.out _ (Below.drew HS.out) | with_reducible exact HL.out _ (bt (Below.drew HS.out) (by assumption)))
       (first | (go_at_call 146; (with_reducible refine (rsame_yes HSM.out).mono ?_); rintro en w2 ⟨rfl, hb2⟩))
      have HBE := Lib.hid (bt HB1.out (bt HB2.out (bt (Below.drew HS.out) hb2)))
      clear hb2 HS HL
      go_wp2
      go_ret
      exact ⟨by rw [HN.out] <;> rfl, HBE.out⟩
     ·have HSM := Lib.hid hsm
      clear hsm
      have HN2 := Lib.hid (show ∀ x, x < j + 1 → ¬ H.same x q from fun x hx => by
       by_cases z : x = j
       ·subst z; exact HSM.out
       ·exact HNS.out x (by omega))
      go_wp2_with fail
      have HL := Lib.hid (fun (w' : World) (hb : Below wr.heap.size wr w') => (⟨hb, keepc hb d0, keepc hb d1, keepc hb d2, keepc hb d3, keepc hb c0, keepc hb c1, keepc hb c2, keepc hb c3⟩ : Below wr.heap.size wr w' ∧ w'.cell? ⟨bb, o + j * 4, none⟩ = some (.int .i64 (H.ho j)) ∧ w'.cell? ⟨bb, o + j * 4 + 1, none⟩ = some (.int .i64 (H.en j)) ∧ w'.cell? ⟨bb, o + j * 4 + 2, none⟩ = some (.int .i64 (H.da j)) ∧ w'.cell? ⟨bb, o + j * 4 + 3, none⟩ = some (.int .i64 (H.sh j)) ∧ w'.cell? ⟨bb, o + q * 4, none⟩ = some (.int .i64 (H.ho q)) ∧ w'.cell? ⟨bb, o + q * 4 + 1, none⟩ = some (.int .i64 (H.en q)) ∧ w'.cell? ⟨bb, o + q * 4 + 2, none⟩ = some (.int .i64 (H.da q)) ∧ w'.cell? ⟨bb, o + q * 4 + 3, none⟩ = some (.int .i64 (H.sh q))))
      have HS := Lib.hid (Below.refl wr.heap.size wr)
      clear c0 c1 c2 c3 d0 d1 d2 d3
      go_region_held3 (fun w' => Below wr.heap.size wr w' ∧ w'.cell? ⟨bb, o + j * 4, none⟩ = some (.int .i64 (H.ho j)) ∧ w'.cell? ⟨bb, o + j * 4 + 1, none⟩ = some (.int .i64 (H.en j)) ∧ w'.cell? ⟨bb, o + j * 4 + 2, none⟩ = some (.int .i64 (H.da j)) ∧ w'.cell? ⟨bb, o + j * 4 + 3, none⟩ = some (.int .i64 (H.sh j)) ∧ w'.cell? ⟨bb, o + q * 4, none⟩ = some (.int .i64 (H.ho q)) ∧ w'.cell? ⟨bb, o + q * 4 + 1, none⟩ = some (.int .i64 (H.en q)) ∧ w'.cell? ⟨bb, o + q * 4 + 2, none⟩ = some (.int .i64 (H.da q)) ∧ w'.cell? ⟨bb, o + q * 4 + 3, none⟩ = some (.int .i64 (H.sh q)))
       (first | assumption | with_reducible exact HL.out _ (Below.drew HS.out) | with_reducible exact HL.out _ (bt (Below.drew HS.out) (by assumption)))
       (first | (go_at_call 146; (with_reducible refine (rsame_no HSM.out).mono ?_); rintro en w2 ⟨rfl, hb2⟩))
      have HBE := Lib.hid (bt HB2.out (bt (Below.drew HS.out) hb2))
      clear hb2 HS HL
      go_wp2
      go_roundw
      case rel => exact ⟨j + 1, by omega, by go_num, HN2.out, HBE.out⟩
      case measure => simp [RowKit.intOf]; omega
    ·obtain rfl : j = q := by omega
     have HF2 := Lib.hid (HF.out.succ HP.out HNS.out)
     have HBE := Lib.hid (bt HB1.out HB2.out)
     go_wp2
     go_roundw
     case rel => exact ⟨j + 1, by omega, by go_num, HF2.out, HBE.out⟩
     case measure => simp [RowKit.intOf]; omega
  ·obtain rfl : q = k := by omega
   obtain ⟨N, hN⟩ : ∃ N : Nat, n = N := ⟨n.toNat, by omega⟩
   subst hN
   have HS := Lib.hid HF.out.sh
   have HO := Lib.hid (show ∀ i, i < q → 0 ≤ H.ho i ∧ H.ho i < (N : Int) from fun i hi => HF.out.ho i hi)
   have hq200 : q ≤ 1000 := by omega
   go_wp2_with fail
   go_loopw [7] (fun i wr => ∃ d : Nat, d ≤ q ∧ i = .int .i64 d ∧ (∀ j, j < d → H.tot N (H.en j) (H.da j) q ≤ 10000) ∧ Below w.heap.size w wr) (fun i _ => q - (RowKit.intOf i).toNat)
   case atStart => exact ⟨0, Nat.zero_le _, rfl, fun j hj => absurd hj (Nat.not_lt_zero _), HB.out⟩
   case round =>
    obtain ⟨d, hd, rfl, ht, hb⟩ := hrel
    have HT := Lib.hid ht
    have HB2 := Lib.hid hb
    clear ht hb
    by_cases hdl : d < q
    ·have hdi : (d : Int) < (q : Int) := by omega
     obtain rfl := h4 (by omega)
     obtain ⟨x0, x1, x2, x3⟩ := H5.out d hdl
     have c1 := keepc HB2.out x1
     have c2 := keepc HB2.out x2
     have HH2 := Lib.hid (HH.out.below HB2.out)
     clear x0 x1 x2 x3
     have HL := Lib.hid (fun (w' : World) (hb : Below wr.heap.size wr w') => (⟨keepc hb c1, keepc hb c2⟩ : w'.cell? ⟨bb, o + d * 4 + 1, none⟩ = some (.int .i64 (H.en d)) ∧ w'.cell? ⟨bb, o + d * 4 + 2, none⟩ = some (.int .i64 (H.da d))))
     have HS0 := Lib.hid (Below.refl wr.heap.size wr)
     clear c1 c2
     obtain ⟨T, hT⟩ : ∃ T, H.tot N (H.en d) (H.da d) q = T := ⟨_, rfl⟩
     have HTT := Lib.hid hT
     clear hT
     by_cases hbig : 10000 < T
     ·have hno : b = false := by
       cases b
       ·rfl
       ·exact absurd (HBV.out.1 rfl) (not_valid_tot (n := (N : Int)) (by rw [Int.toNat_natCast, HTT.out]; exact hbig))
      have HN := Lib.hid hno
      clear hno
      go_wp2_with fail
      go_region_held3 (fun w' => w'.cell? ⟨bb, o + d * 4 + 1, none⟩ = some (.int .i64 (H.en d)) ∧ w'.cell? ⟨bb, o + d * 4 + 2, none⟩ = some (.int .i64 (H.da d)))
       (first | assumption | with_reducible exact HL.out _ (Below.drew HS0.out) | with_reducible exact HL.out _ (bt (Below.drew HS0.out) (by assumption)))
       (first | (go_at_call 147; (with_reducible refine (rtotal_any (N := N) (HH2.out.below (Below.drew HS0.out)) HS.out HO.out hq200).mono ?_); rintro en w2 ⟨rfl, hb2⟩; rw [HTT.out]))
      have HBE := Lib.hid (bt HB2.out (bt (Below.drew HS0.out) hb2))
      clear HS0 HL hb2
      go_wp2
      go_ret
      exact ⟨by rw [HN.out] <;> rfl, HBE.out⟩
     ·have HN2 := Lib.hid (show ∀ x, x < d + 1 → H.tot N (H.en x) (H.da x) q ≤ 10000 from fun x hx => by
       by_cases z : x = d
       ·subst z; rw [HTT.out]; omega
       ·exact HT.out x (by omega))
      go_wp2_with fail
      go_region_held3 (fun w' => w'.cell? ⟨bb, o + d * 4 + 1, none⟩ = some (.int .i64 (H.en d)) ∧ w'.cell? ⟨bb, o + d * 4 + 2, none⟩ = some (.int .i64 (H.da d)))
       (first | assumption | with_reducible exact HL.out _ (Below.drew HS0.out) | with_reducible exact HL.out _ (bt (Below.drew HS0.out) (by assumption)))
       (first | (go_at_call 147; (with_reducible refine (rtotal_any (N := N) (HH2.out.below (Below.drew HS0.out)) HS.out HO.out hq200).mono ?_); rintro en w2 ⟨rfl, hb2⟩; rw [HTT.out]))
      have HBE := Lib.hid (bt HB2.out (bt (Below.drew HS0.out) hb2))
      clear HS0 HL hb2
      go_wp2
      go_roundw
      case rel => exact ⟨d + 1, by omega, by go_num, HN2.out, HBE.out⟩
      case measure => simp [RowKit.intOf]; omega
    ·obtain rfl : d = q := by omega
     have hyes : b = true := by
      refine HBV.out.2 (valid_own (by omega) (by omega) (by omega) HF.out fun i hi => ?_)
      have h := HT.out i hi
      rwa [Int.toNat_natCast]
     have HY := Lib.hid hyes
     clear hyes
     go_wp2
     go_ret
     exact ⟨by rw [HY.out] <;> rfl, HB2.out⟩
set_option maxRecDepth 100000 in
set_option maxHeartbeats 4000000 in
theorem rmatrix_no1 {w : World} {v : Value} {k : Nat} {H : Hds} {n day : Int} (hH : HoldR w v k H) (hv : ¬ H.valid n k) :
  Calls Tryz.prog 58 #[.int .i64 n, v, .int .i64 day] w fun en w' => en = .returned (.tuple #[.slice none 0 0, .int .i64 1]) ∧ Below w.heap.size w w' := by
 obtain ⟨a, c, rfl⟩ : ∃ a c, v = .slice a k c := by obtain ⟨a, b, o, c, h1, _⟩ := hH; exact ⟨a, c, h1⟩
 have HV := Lib.hid (show (false = true) ↔ H.valid n k from ⟨fun h => (by cases h), fun h => absurd h hv⟩)
 have HH := Lib.hid hH
 clear hH hv
 go_enter Tryz.func58, Tryz.ntmps58
 go_wp2_with (go_at_call 104; refine (rvalidH_any HH.out HV.out).mono ?_; rintro en w1 ⟨rfl, hb⟩)
 go_ret2
 exact ⟨rfl, hb⟩
theorem rmatrix_no2 {w : World} {v : Value} {k : Nat} {H : Hds} {n day : Int} (hH : HoldR w v k H) (hv : H.valid n k) (hd : ¬ goodDate day) :
  Calls Tryz.prog 58 #[.int .i64 n, v, .int .i64 day] w fun en w' => en = .returned (.tuple #[.slice none 0 0, .int .i64 2]) ∧ Below w.heap.size w w' := by
 obtain ⟨a, c, rfl⟩ : ∃ a c, v = .slice a k c := by obtain ⟨a, b, o, c, h1, _⟩ := hH; exact ⟨a, c, h1⟩
 have HV := Lib.hid (show (true = true) ↔ H.valid n k from ⟨fun _ => hv, fun _ => rfl⟩)
 have HH := Lib.hid hH
 have HD := Lib.hid hd
 clear hH hv hd
 go_enter Tryz.func58, Tryz.ntmps58
 go_wp2_with (first
  | (go_at_call 104; refine (rvalidH_any HH.out HV.out).mono ?_; rintro en w1 ⟨rfl, hb⟩)
  | (go_at_call 105; refine (rdate_no HD.out).mono ?_; rintro en w2 ⟨rfl, rfl⟩))
 go_ret2
 exact ⟨rfl, hb⟩
def irow (f : Nat → Int) (n : Nat) : List Value := (List.range n).map fun j => Value.int .i64 (f j)
theorem irow_len (f : Nat → Int) (n : Nat) : (irow f n).length = n := by simp [irow]
theorem irow_snoc (f : Nat → Int) (n : Nat) : irow f (n + 1) = irow f n ++ [.int .i64 (f n)] := by simp [irow, List.range_succ]
theorem irow_get {f : Nat → Int} {n i : Nat} (h : i < n) : (irow f n)[i]? = some (.int .i64 (f i)) := by simp [irow, h]
theorem ownR_below {w w' : World} {base : Nat} {e : TypeId} {size : Nat} {v : Value} {n : Nat} {xs : List Value} (h : w.ownsRow base e size v n xs) (hb : Below w.heap.size w w') : w'.ownsRow base e size v n xs :=
 h.kept (row := none) ⟨hb.os, hb.tape, hb.output, hb.size, fun k hk _ => hb.block k hk⟩ (by cases hv : v.ownBlock <;> simp)
structure BuildO (B : Nat) (w : World) (v : Value) (V : List Value) (k N : Nat) (Z : Nat → Nat → Int) : Prop where
 len : V.length = k
 own : OwnV w B 53 1 v k V
 row : ∀ i u, V[i]? = some u → w.ownsRow B 3 1 u N (irow (Z i) N)
 apart : ∀ (i j : Nat) (u x : Value) (g : Nat), V[i]? = some u → V[j]? = some x → u.ownBlock = some g → x.ownBlock = some g → i = j
theorem BuildO.start (B : Nat) (w : World) (N : Nat) (Z : Nat → Nat → Int) : BuildO B w (.slice none 0 0) [] 0 N Z := ⟨rfl, OwnV.nil _ _ _ _, fun i u h => by simp at h, fun i j u x g h => by simp at h⟩
theorem BuildO.below {B : Nat} {w w' : World} {v : Value} {V : List Value} {k N : Nat} {Z : Nat → Nat → Int} (h : BuildO B w v V k N Z) (hb : Below w.heap.size w w') : BuildO B w' v V k N Z :=
 ⟨h.len, h.own.below hb, fun i u hu => ownR_below (h.row i u hu) hb, h.apart⟩
theorem BuildO.toI {B : Nat} {w : World} {v : Value} {V : List Value} {k N : Nat} {Z : Nat → Nat → Int} (h : BuildO B w v V k N Z) : BuildI B w v V k N Z :=
 ⟨h.len, h.own, fun i u hu => (rowR_of_owns (h.row i u hu)).congr fun j hj => by rw [List.getD_eq_getElem?_getD, irow_get hj]; rfl⟩
theorem BuildO.matz {B : Nat} {w : World} {a : Option Addr} {c : Nat} {V : List Value} {N : Nat} {Z : Nat → Nat → Int} (h : BuildO B w (.slice a N c) V N N Z) : MatZ w (.slice a N c) N N Z := by
 obtain ⟨a', c', e, hm⟩ := h.toI.mat
 injection e with e1 e2 e3
 subst e1
 subst e3
 exact hm
theorem BuildO.push {B C : Nat} {w w' : World} {v v' u : Value} {V : List Value} {k N : Nat} {Z : Nat → Nat → Int} (h : BuildO B w v V k N Z) (ho : OwnV w' B 53 1 v' (k + 1) (V ++ [u])) (hg : w.grownBy w' v.ownBlock)
  (hu : w.ownsRow C 3 1 u N (irow (Z k) N)) (hBC : B ≤ C) (hlt : ∀ (i : Nat) (x : Value) (g : Nat), V[i]? = some x → x.ownBlock = some g → g < C) : BuildO B w' v' (V ++ [u]) (k + 1) N Z := by
 have hkeep : ∀ {b : Nat} {x : Value} {f : Nat → Int}, w.ownsRow b 3 1 x N (irow f N) → w'.ownsRow b 3 1 x N (irow f N) := fun hx => hx.kept hg (by
  rename_i x _
  cases hv : x.ownBlock with
  | none => exact .inl rfl
  | some g => exact .inr fun e => own_apart hx h.own.own (by decide) g hv e.symm)
 have key : ∀ (i : Nat) (x : Value), (V ++ [u])[i]? = some x → (i < k ∧ V[i]? = some x) ∨ (i = k ∧ x = u) := by
  intro i x hx
  by_cases e : i < V.length
  ·rw [List.getElem?_append_left e] at hx
   exact .inl ⟨by have := h.len; omega, hx⟩
  ·rw [List.getElem?_append_right (by omega)] at hx
   have e1 : i = k := by
    have := (List.getElem?_eq_some_iff.1 hx).1
    have := h.len
    simp at *
    omega
   subst e1
   rw [h.len, Nat.sub_self] at hx
   exact .inr ⟨rfl, by simpa using hx.symm⟩
 refine ⟨by simp [h.len], ho, fun i x hx => ?_, fun i j x y g hi hj hx hy => ?_⟩
 ·rcases key i x hx with ⟨_, q⟩ | ⟨rfl, rfl⟩
  ·exact hkeep (h.row i x q)
  ·exact (hkeep hu).mono hBC
 ·rcases key i x hi with ⟨i1, q⟩ | ⟨i1, rfl⟩
  ·rcases key j y hj with ⟨j1, q2⟩ | ⟨j1, rfl⟩
   ·exact h.apart i j x y g q q2 hx hy
   ·have a1 := hlt i x g q hx
    have a2 := (hu.lt g hy).1
    omega
  ·rcases key j y hj with ⟨j1, q2⟩ | ⟨j1, rfl⟩
   ·have a1 := hlt j y g q2 hy
    have a2 := (hu.lt g hx).1
    omega
   ·omega
set_option maxRecDepth 100000 in
set_option maxHeartbeats 4000000 in
theorem rmatrix_yes {w : World} {v : Value} {k N : Nat} {H : Hds} {day : Int} (hH : HoldR w v k H) (hv : H.valid N k) (hd : goodDate day) :
  Calls Tryz.prog 58 #[.int .i64 N, v, .int .i64 day] w fun en w' => ∃ a c V, en = .returned (.tuple #[.slice a N c, .int .i64 0]) ∧ BuildO w.heap.size w' (.slice a N c) V N N (fun h e => H.at h e day k) ∧ Below w.heap.size w w' := by
 obtain ⟨i0, hi, hz0, hz1, hz2⟩ := info_parts infoSI
 obtain ⟨j0, hj, hy0, hy1, hy2⟩ := info_parts infoN
 obtain ⟨a, c, rfl⟩ : ∃ a c, v = .slice a k c := by obtain ⟨a, b, o, c, h1, _⟩ := hH; exact ⟨a, c, h1⟩
 have HV := Lib.hid (show (true = true) ↔ H.valid N k from ⟨fun _ => hv, fun _ => rfl⟩)
 have hN1 : 1 ≤ N := by have := hv.1; omega
 have hN2 : N ≤ 12 := by have := hv.2.1; omega
 have HH := Lib.hid hH
 have HD := Lib.hid hd
 clear hH hv hd
 go_enter Tryz.func58, Tryz.ntmps58
 go_wp2_with (first
  | (go_at_call 104; refine (rvalidH_any HH.out HV.out).mono ?_; rintro en w1 ⟨rfl, hb⟩)
  | (go_at_call 105; refine (rdate_yes HD.out).mono ?_; rintro en w2 ⟨rfl, rfl⟩))
 have HB := Lib.hid hb
 clear hb
 go_loopw [8, 9] (fun s i wr => ∃ (h : Nat) (V : List Value), h ≤ N ∧ i = .int .i64 h ∧ BuildO w.heap.size wr s V h N (fun h e => H.at h e day k) ∧ Below w.heap.size w wr) (fun _ i _ => N - (RowKit.intOf i).toNat)
 case atStart => exact ⟨0, [], Nat.zero_le _, rfl, BuildO.start _ _ _ _, HB.out⟩
 case round =>
  obtain ⟨h, V, hh, rfl, hbi, hb⟩ := hrel
  obtain ⟨wo, hwo⟩ : ∃ wo, wo = wr := ⟨_, rfl⟩
  subst hwo
  have HBI := Lib.hid hbi
  have HB1 := Lib.hid hb
  clear hbi hb
  by_cases hlt : h < N
  ·have hhi : (h : Int) < (N : Int) := by omega
   go_wp2_with fail
   go_loopw [10, 11] (fun s i ws => ∃ e : Nat, e ≤ N ∧ i = .int .i64 e ∧ ws.ownsRow wo.heap.size 3 1 s e (irow (fun j => H.at h j day k) e) ∧ Below wo.heap.size wo ws) (fun _ i _ => N - (RowKit.intOf i).toNat)
   case atStart => exact ⟨0, Nat.zero_le _, rfl, World.ownsRow_nil _ _ _ _, Below.refl _ _⟩
   case round =>
    obtain ⟨e, he, rfl, hown, hb⟩ := hrel
    have HO := Lib.hid hown
    have HB2 := Lib.hid hb
    clear hown hb
    by_cases hel : e < N
    ·have hei : (e : Int) < (N : Int) := by omega
     have HH2 := Lib.hid ((HH.out.below HB1.out).below HB2.out)
     have hsz := HB2.out.size
     go_wp2_with (first
      | (go_at_call 19; (with_reducible refine (rat_at HH2.out).mono ?_); rintro en w3 ⟨rfl, hb3⟩; have HB3 := Lib.hid (bt HB2.out hb3); have HO3 := Lib.hid (ownR_below HO.out hb3); have hsz3 := HB3.out.size; clear hb3)
      | (at_builtin; refine wpList_append_own _ rfl _ _ 53 rfl wo.heap.size 3 j0 (.int .i64 0) 1 8 Tryz.underlying53 hj hy0 hy1 hy2 rfl (by decide) _ _ _ rfl (HO3.out.alloc _) ⟨_, 0, none⟩ 1 1 [.int .i64 (H.at h e day k)] rfl rfl (cell_one_new _ _ _) (ints_oneCell .i64 [H.at h e day k]) (by unfold maxLen; omega) (by omega) (by simp; omega) ?_; intro v5 w5 hown5 hg5 _))
     have HK := Lib.hid (show w5.ownsRow wo.heap.size 3 1 v5 (e + 1) (irow (fun j => H.at h j day k) (e + 1)) from by rw [irow_snoc]; exact hown5)
     have HB4 := Lib.hid ((HB3.out.alloc hsz3 (.cells #[.int .i64 (H.at h e day k)] 3)).grown hg5 (by simp; omega) (fun j hj => (HO3.out.lt j hj).1))
     clear hown5 hg5
     go_roundw
     case rel => exact ⟨e + 1, by omega, by go_num, HK.out, HB4.out⟩
     case measure => simp [RowKit.intOf]; omega
    ·obtain rfl : e = N := by omega
     obtain ⟨g, cp, rfl, hgb1, hgb2⟩ := HO.out.form (by omega)
     have hsz := HB2.out.size
     have hsz1 := HB1.out.size
     have hsz0 := HB.out.size
     have HB5 := Lib.hid (HB2.out.alloc hsz (.cells #[.slice (some ⟨g, 0, none⟩) e cp] 53))
     have HOB := Lib.hid (HBI.out.below HB5.out)
     have HR5 := Lib.hid (HO.out.alloc (.cells #[.slice (some ⟨g, 0, none⟩) e cp] 53))
     have HLT := Lib.hid (fun (i : Nat) (x : Value) (g : Nat) (h1 : V[i]? = some x) (h2 : x.ownBlock = some g) => ((HBI.out.row i x h1).lt g h2).2)
     have hle5 : w.heap.size ≤ (wr.alloc (.cells #[.slice (some ⟨g, 0, none⟩) e cp] 53)).heap.size := by simp; omega
     go_wp2_with (at_builtin; refine wpList_append_free _ rfl _ _ 101 rfl w.heap.size 53 i0 (.slice none 0 0) 1 24 Tryz.underlying101 hi hz0 hz1 hz2 rfl (by decide) _ _ _ rfl HOB.out.own ⟨_, 0, none⟩ 1 1 [.slice _ e _] rfl rfl (cell_one_new _ _ _) (fun u hu => by obtain rfl := List.mem_singleton.1 hu; rfl) (by unfold maxLen; omega) (by omega) hle5 (fun u hu K x e => by obtain rfl := List.mem_singleton.1 hu; cases e) (fun u hu K x e => by subst e; simp [Value.cells] at hu) ?_; intro v5 w5 ho5 hg5 hnil5)
     go_roundw
     case rel => exact ⟨h + 1, _, by omega, by go_num, HOB.out.push ho5 hg5 HR5.out (by omega) HLT.out, (bt HB1.out HB5.out).grown hg5 hle5 (fun j hj => (HOB.out.own.own.lt j hj).1)⟩
     case measure => simp [RowKit.intOf]; omega
  ·obtain rfl : h = N := by omega
   obtain ⟨a', c', rfl⟩ : ∃ a c, u8 = .slice a h c := by obtain ⟨a, c, q, _⟩ := HBI.out.toI.mat; exact ⟨a, c, q⟩
   go_wp2_with fail
   go_ret2
   exact ⟨a', c', V, rfl, HBI.out, HB1.out⟩
end Go.Proofs.YteionhenpehogaaGreatDoor
