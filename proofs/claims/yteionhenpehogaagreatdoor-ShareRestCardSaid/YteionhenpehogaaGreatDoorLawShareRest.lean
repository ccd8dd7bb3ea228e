/- share.Rest and ShareRest walked. -/
import Derived.Test.YteionhenpehogaaGreatDoorAwakeZ
import Derived.Test.YteionhenpehogaaGreatDoorRRatI
import Derived.BigRegion
import Derived.Deep.RegionWith
import Derived.Deep.DeepCutAuto
namespace Go.Proofs.YteionhenpehogaaGreatDoor
open Go.RowKit Tally

theorem rg_unitR {N : Nat} (h : 1 ≤ N) : Rg N (1 : Rat) := Rg.of (fw_mono (show Fw 1 1 by constructor <;> decide) h)

set_option maxRecDepth 100000 in
set_option maxHeartbeats 4000000 in
theorem rest_any {w : World} {v : Value} {n M : Nat} {f : Nat → Rat} (h : RatsR w v n f) (hf : ∀ i, i < n → Rg M (f i)) (hM0 : 5 ≤ M) (hM : 2 * M + 2 ≤ 999999999990) (hn : n ≤ 1000) :
    Calls Tryz.prog 56 #[v] w fun e w' => ∃ a c, e = .returned (.slice a n c) ∧ RatsR w' (.slice a n c) n (fun i => 1 - f i) ∧ Below w.heap.size w w' := by
  obtain ⟨ti2, hi2, hz20, hz21, hz22⟩ := info_parts infoQ4
  obtain ⟨a, c, rfl⟩ := h.shape
  obtain ⟨h1, h2, b, o, h3, h4⟩ := h.parts
  have H3 := Lib.hid h3
  have H4 := Lib.hid h4
  have HF := Lib.hid hf
  clear h h3 h4 hf
  go_enter Tryz.func56, Tryz.ntmps56
  go_wp2_with fail
  go_loopw [3, 8] (fun sl i wr => ∃ (k : Nat) (Ls : List Num) (sv : Value), sv = sl ∧ i = .int .i64 k ∧ k ≤ n ∧ BuildN w.heap.size wr sl Ls k (fun i => 1 - f i) ∧ Below w.heap.size w wr) (fun _ i _ => n - (RowKit.intOf i).toNat)
  case atStart => exact ⟨0, [], _, rfl, rfl, by omega, BuildN.start _ _ _, Below.refl _ _⟩
  case round =>
    obtain ⟨k, Ls, sl, rfl, rfl, hk, hbn, hbr⟩ := hrel
    have HN := Lib.hid hbn
    have HB := Lib.hid hbr
    clear hbn hbr
    by_cases hkn : k = n
    · obtain rfl : n = k := hkn.symm
      obtain ⟨a', c', rfl, hrr⟩ := HN.out.rats
      have HRR := Lib.hid hrr
      clear hrr
      go_wp2
      go_ret
      exact ⟨a', c', rfl, HRR.out, HB.out⟩
    have hkl : k < n := by omega
    have hki : (k : Int) < (n : Int) := by omega
    obtain rfl := H3.out (by omega)
    obtain ⟨x, hx4, hxq⟩ := H4.out k hkl
    obtain ⟨x0, x1, x2, x3⟩ := hx4.at HB.out
    have HX := Lib.hid (show RatR wr (.agg #[.bool x.n1, .slice x.a1 x.k1 x.c1, .bool x.n2, .slice x.a2 x.k2 x.c2]) (f k) from RatR.below hxq HB.out)
    have hlen := HN.out.len
    clear hx4 hxq
    go_wp2_with fail
    obtain ⟨w1, hW, hs1, hb1, b1⟩ := alloc1 wr (.cells #[.bool x.n1, .slice x.a1 x.k1 x.c1, .bool x.n2, .slice x.a2 x.k2 x.c2] 37)
    rw [← hW]
    have HX1 := Lib.hid (HX.out.below hb1)
    have HNL0 := Lib.hid HN.out.lt
    have HN1 := Lib.hid (HN.out.below hb1)
    have HB1 := Lib.hid (bt HB.out hb1)
    obtain ⟨⟨p0, p1, p2, p3⟩, _⟩ := res4_facts b1
    have hbx : wr.heap.size < w1.heap.size := by omega
    clear hW hs1 hb1 b1 HX HN HB x0 x1 x2 x3
    go_wp2_with fail
    have HLS := Lib.hid (fun (w' : World) (hb : Below w1.heap.size w1 w') => (⟨keepc hb p0, keepc hb p1, keepc hb p2, keepc hb p3⟩ : w'.cell? ⟨wr.heap.size, 0, none⟩ = some (.bool x.n1) ∧ w'.cell? ⟨wr.heap.size, 1, none⟩ = some (.slice x.a1 x.k1 x.c1) ∧ w'.cell? ⟨wr.heap.size, 2, none⟩ = some (.bool x.n2) ∧ w'.cell? ⟨wr.heap.size, 3, none⟩ = some (.slice x.a2 x.k2 x.c2)))
    have HD := Lib.hid (Below.drew (Below.refl w1.heap.size w1))
    clear p0 p1 p2 p3
    have HNLT := Lib.hid (fun (g : Nat) (hg : sl.ownBlock = some g) => (show g < wr.heap.size from HNL0.out g hg))
    refine wp_region_held_drew (S := fun w' => w'.cell? ⟨wr.heap.size, 0, none⟩ = some (.bool x.n1) ∧ w'.cell? ⟨wr.heap.size, 1, none⟩ = some (.slice x.a1 x.k1 x.c1) ∧ w'.cell? ⟨wr.heap.size, 2, none⟩ = some (.bool x.n2) ∧ w'.cell? ⟨wr.heap.size, 3, none⟩ = some (.slice x.a2 x.k2 x.c2)) (by kernel_rfl) ?_ (fun hHeld => ?_)
    · exact HLS.out _ HD.out
    (try dsimp only at hHeld)
    refine wpAnyH_take (i := 0) (oi := ({ dst := some 12, op := Op.move (Operand.tmp 3), type := 26, pos := "share.go:130", after := #[], guard := none } : Oper)) (v := ?y1_1_v) rfl (by kernel_rfl) (by kernel_rfl) (by kernel_rfl) (fun _ _ _ h => h) (Or.inl ⟨by rfl, ?y1_1_h⟩) hHeld ?y1_1_r
    case y1_1_h => (intro w hSw; (try dsimp only at hSw); go_simp; all_goals with_reducible rfl)
    (try simp only [Act.put, List.setIfInBounds_toArray, List.set_cons_zero, List.set_cons_succ])
    refine wpAnyH_take (i := 2) (oi := ({ dst := some 14, op := Op.load 37 (Operand.tmp 5), type := 37, pos := "share.go:130", after := #[], guard := none } : Oper)) (v := ?y1_2_v) rfl (by kernel_rfl) (by kernel_rfl) (by kernel_rfl) (fun _ _ _ h => h) (Or.inl ⟨by rfl, ?y1_2_h⟩) hHeld ?y1_2_r
    case y1_2_h => (intro w hSw; (try dsimp only at hSw); go_simp; all_goals with_reducible rfl)
    (try simp only [Act.put, List.setIfInBounds_toArray, List.set_cons_zero, List.set_cons_succ])
    refine wpAnyH_ready (rs := [1]) (by kernel_rfl) (by simp) ?_
    refine AllReadyH.cons (o := ({ dst := some 13, op := Op.call { callee := Callee.value (Operand.func 64), args := #[Operand.const (Value.int IntKind.i64 10000)], argTypes := #[3] }, type := 37, pos := "share.go:130", after := #[], guard := none } : Oper)) rfl (fun K hK => ?_) AllReadyH.nil
    go_simp
    (go_at_call 64; (with_reducible refine (part_any (n := 10000) (by decide) (by decide)).mono ?_); rintro en u1 ⟨n1, an1, kn1, cn1, n2, an2, kn2, cn2, rfl, hx, hb⟩; have HN1X := Lib.hid (show RatR u1 (.agg #[.bool n1, .slice an1 kn1 cn1, .bool n2, .slice an2 kn2 cn2]) 1 from by have := hx; rw [part_one] at this; exact this); have HZ1 := Lib.hid (bt HD.out hb); clear hx hb)
    first | refine hK.out _ _ ?_ (fun hHeld => ?_) | (go_wp2_with fail; refine hK.out _ _ ?_ (fun hHeld => ?_))
    · exact HLS.out _ HZ1.out
    clear hK K
    (try dsimp only at hHeld)
    (try simp only [Act.put, List.setIfInBounds_toArray, List.set_cons_zero, List.set_cons_succ])
    refine wpAnyH_ready (rs := [3]) (by kernel_rfl) (by simp) ?_
    refine AllReadyH.cons (o := ({ dst := some 15, op := Op.call { callee := Callee.value (Operand.func 103), args := #[Operand.tmp 13, Operand.tmp 14], argTypes := #[37, 37] }, type := 37, pos := "share.go:130", after := #[{ on := 1, ground := Ground.data }, { on := 2, ground := Ground.data }, { on := 1, ground := Ground.chain }], guard := none } : Oper)) rfl (fun K hK => ?_) AllReadyH.nil
    go_simp
    (go_at_call 103; (with_reducible refine (sub_r (N := M) HN1X.out (HX1.out.below HZ1.out) (rg_unitR (by omega)) (HF.out k hkl) (by omega)).mono ?_); rintro en u3 ⟨m1, am1, km1, cm1, m2, am2, km2, cm2, rfl, hx, hb⟩; have HM3X := Lib.hid (show RatN u3 ⟨m1, am1, km1, cm1, m2, am2, km2, cm2⟩ (1 - f k) from hx); have HZ3 := Lib.hid (bt HZ1.out hb); clear hx hb)
    first | refine hK.out _ _ ?_ (fun hHeld => ?_) | (go_wp2_with fail; refine hK.out _ _ ?_ (fun hHeld => ?_))
    · exact HLS.out _ HZ3.out
    clear hK K
    (try dsimp only at hHeld)
    (try simp only [Act.put, List.setIfInBounds_toArray, List.set_cons_zero, List.set_cons_succ])
    refine wpAnyH_ready (rs := [4]) (by kernel_rfl) (by simp) ?_
    refine AllReadyH.cons (o := ({ dst := some 16, op := Op.buildSlice 26 1 #[(0, Operand.tmp 15)], type := 26, pos := "share.go:130", after := #[{ on := 3, ground := Ground.data }], guard := none } : Oper)) rfl (fun K hK => ?_) AllReadyH.nil
    go_simp
    (obtain ⟨u4, hW, hs, hb, hx⟩ := alloc1 u3 (.cells #[.bool m1, .slice am1 km1 cm1, .bool m2, .slice am2 km2 cm2] 37); rw [← hW]; have HZ4 := Lib.hid (bt HZ3.out hb); have HK4 := Lib.hid hx; have HM4X := Lib.hid (show RatN u4 ⟨m1, am1, km1, cm1, m2, am2, km2, cm2⟩ (1 - f k) from RatR.below HM3X.out hb); have HN4 := Lib.hid (HN1.out.below HZ4.out); have HB4 := Lib.hid (bt HB1.out HZ4.out); have hz4 := HB4.out.size; clear hW hs hb hx)
    first | refine hK.out _ _ ?_ (fun hHeld => ?_) | (go_wp2_with fail; refine hK.out _ _ ?_ (fun hHeld => ?_))
    · exact HLS.out _ HZ4.out
    clear hK K
    (try dsimp only at hHeld)
    (try simp only [Act.put, List.setIfInBounds_toArray, List.set_cons_zero, List.set_cons_succ])
    refine wpAnyH_ready (rs := [5]) (by kernel_rfl) (by simp) ?_
    refine AllReadyH.cons (o := ({ dst := some 17, op := Op.call { callee := Callee.builtin Builtin.append, args := #[Operand.tmp 12, Operand.tmp 16], argTypes := #[26, 26] }, type := 26, pos := "share.go:130", after := #[{ on := 0, ground := Ground.data }, { on := 4, ground := Ground.data }, { on := 3, ground := Ground.chain }], guard := none } : Oper)) rfl (fun K hK => ?_) AllReadyH.nil
    (refine step_append_good (G := notInt) _ rfl (.tmp 12) (.tmp 16) 26 rfl w.heap.size 37 ti2 (.agg #[.bool false, .slice none 0 0, .bool false, .slice none 0 0]) 4 64 Tryz.underlying26 hi2 hz20 hz21 hz22 rfl (by decide) sl Ls.length (flat Ls) rfl HN4.out.own.good ⟨u3.heap.size, 0, none⟩ 1 1 (flat [⟨m1, am1, km1, cm1, m2, am2, km2, cm2⟩]) rfl rfl (row_cells (x := ⟨m1, am1, km1, cm1, m2, am2, km2, cm2⟩) HK4.out) (fun u hu => (flat_one u hu).1) (by unfold maxLen; omega) (by omega) hz4 (fun u hu => (flat_one u hu).2) zero_notInt ?_; intro v5 u5 ho hg _; have HN5 := Lib.hid (BuildN.snoc HN4.out ho.noInts hg HM4X.out); have HZ5 := Lib.hid (fun (i : Nat) (u : Value) (hc : u4.cell? ⟨wr.heap.size, i, none⟩ = some u) => hg.cell hc (fun e => by have := HNLT.out wr.heap.size e.symm; omega)); have HB5 := Lib.hid (grown_below HB4.out HN4.out.own.own hg (Nat.le_refl _) hz4); clear ho hg)
    first | refine hK.out _ _ ?_ (fun hHeld => ?_) | (go_wp2_with fail; refine hK.out _ _ ?_ (fun hHeld => ?_))
    · (obtain ⟨q0, q1, q2, q3⟩ := HLS.out _ HZ4.out; exact ⟨HZ5.out _ _ q0, HZ5.out _ _ q1, HZ5.out _ _ q2, HZ5.out _ _ q3⟩)
    clear hK K
    (try dsimp only at hHeld)
    (try simp only [Act.put, List.setIfInBounds_toArray, List.set_cons_zero, List.set_cons_succ])
    refine wpAnyH_take (i := 6) (oi := ({ dst := some 3, op := Op.assign (Operand.tmp 17), type := 26, pos := "share.go:130", after := #[{ on := 5, ground := Ground.data }, { on := 5, ground := Ground.chain }, { on := 0, ground := Ground.phase }, { on := 1, ground := Ground.phase }, { on := 2, ground := Ground.phase }, { on := 3, ground := Ground.phase }, { on := 4, ground := Ground.phase }, { on := 5, ground := Ground.phase }], guard := none } : Oper)) (v := ?y1_3_v) rfl (by kernel_rfl) (by kernel_rfl) (by kernel_rfl) (fun _ _ _ h => h) (Or.inl ⟨by rfl, ?y1_3_h⟩) hHeld ?y1_3_r
    case y1_3_h => (intro w hSw; (try dsimp only at hSw); go_simp; all_goals with_reducible rfl)
    (try simp only [Act.put, List.setIfInBounds_toArray, List.set_cons_zero, List.set_cons_succ])
    refine wpAnyH_done (by kernel_rfl) ?_ _
    go_wp2
    go_roundw
    case rel => exact ⟨k + 1, _, _, rfl, by go_num, by omega, HN5.out, HB5.out⟩
    case measure => (simp [RowKit.intOf]; omega)

theorem rnum1 (w : World) {v : Value} (h : RRatR w v (((1 : Int)) : Rat)) : RRatR w v 1 := h.as rfl
theorem rBuildN.cong {B : Nat} {w : World} {v : Value} {L : List Num} {k : Nat} {f g : Nat → Rat} (h : rBuildN B w v L k f) (e : ∀ i, i < k → f i = g i) : rBuildN B w v L k g := ⟨h.len, h.own, h.num.congr (fun i hi => e i (by have := h.len; omega))⟩
theorem rBuildN.side {B : Nat} {w w' : World} {v : Value} {L : List Num} {k : Nat} {f : Nat → Rat} {row : Option Nat} (h : rBuildN B w v L k f) (hg : w.grownBy w' row) (hne : ∀ g, v.ownBlock = some g → row ≠ some g) (hn : ∀ g, row = some g → NoInt w g) : rBuildN B w' v L k f :=
  ⟨h.len, h.own.side hg hne, h.num.grown hg hn⟩
theorem own_ne_blk {w : World} {base : Nat} {e T : TypeId} {size n g h : Nat} {v : Value} {xs : List Value} {cs : Array Value} {fr : Nat × Nat} (ho : w.ownsRow base e size v n xs) (hg : v.ownBlock = some g) (hh : w.heap[h]? = some (.cells cs T fr)) (hne : e ≠ T) : g ≠ h := by
  rcases ho.2 with ⟨rfl, _⟩ | ⟨g', cap, cur, rfl, _, hc, _⟩
  · simp [Value.ownBlock] at hg
  · simp only [Value.ownBlock, Option.some.injEq] at hg
    subst hg
    intro q
    subst q
    rw [hc] at hh
    injection hh with hh
    injection hh with h1 h2 h3
    exact hne h2
/-- what Of gives, with its code -/
def ofQ (n d : Int) : Rat := if d = 0 then 0 else Rat.divInt n d
def ofC (d : Int) : Int := if d = 0 then 10 else 0
theorem of_all {w : World} {n d : Int} (h1 : -9223372036854775808 ≤ n ∧ n ≤ 9223372036854775807) (h2 : -9223372036854775808 ≤ d ∧ d ≤ 9223372036854775807) :
    Calls Tryz.prog 26 #[.int .i64 n, .int .i64 d] w (GivesRE w (ofQ n d) (ofC d)) := by
  unfold ofQ ofC
  by_cases e : d = 0
  · subst e; rw [if_pos rfl, if_pos rfl]; exact ratof_zero h1.1 h1.2
  · rw [if_neg e, if_neg e]; exact of_r h1.1 h1.2 h2.1 h2.2 e
theorem rof_all {w : World} {n d : Int} (h1 : -9223372036854775808 ≤ n ∧ n ≤ 9223372036854775807) (h2 : -9223372036854775808 ≤ d ∧ d ≤ 9223372036854775807) :
    Calls Tryz.prog 53 #[.int .i64 n, .int .i64 d] w (rGivesRE w (ofQ n d) (ofC d)) := by
  unfold ofQ ofC
  by_cases e : d = 0
  · subst e; rw [if_pos rfl, if_pos rfl]; exact rratof_zero h1.1 h1.2
  · rw [if_neg e, if_neg e]; exact (rratof_any h1.1 h1.2 h2.1 h2.2 e).mono fun _ _ h => h.plain
theorem ofQ_rg {n d : Int} (h1 : -9223372036854775808 ≤ n ∧ n ≤ 9223372036854775807) (h2 : -9223372036854775808 ≤ d ∧ d ≤ 9223372036854775807) : Rg 20 (ofQ n d) := by
  unfold ofQ
  by_cases e : d = 0
  · rw [if_pos e]; exact Rg.of (fw_zero 19)
  · rw [if_neg e]
    exact Rg.of (fw_divInt (N := 20) e (by omega) (by omega))
/-- pairs of numbers -/
def PairsR (w : World) (v : Value) (k : Nat) (z : Nat → Int × Int) : Prop :=
  ∃ (a : Option Addr) (b o c : Nat), v = .slice a k c ∧ k ≤ c ∧ c ≤ 9223372036854775807 ∧ (0 < k → a = some ⟨b, o, none⟩) ∧
    ∀ i, i < k → w.cell? ⟨b, o + i * 2, none⟩ = some (.int .i64 (z i).1) ∧ w.cell? ⟨b, o + i * 2 + 1, none⟩ = some (.int .i64 (z i).2) ∧ (-9223372036854775808 ≤ (z i).1 ∧ (z i).1 ≤ 9223372036854775807) ∧ (-9223372036854775808 ≤ (z i).2 ∧ (z i).2 ≤ 9223372036854775807)
/-- a pointer to a block, not older than B, that holds a number of the reference -/
def rBlkR (B : Nat) (T : TypeId) (q : Rat) (s : Value) (w : World) : Prop :=
  ∃ (g : Nat) (n1 : Bool) (a1 : Option Addr) (k1 c1 : Nat) (n2 : Bool) (a2 : Option Addr) (k2 c2 : Nat), s = .pointer (some ⟨g, 0, none⟩) ∧ w.heap[g]? = some (.cells #[.bool n1, .slice a1 k1 c1, .bool n2, .slice a2 k2 c2] T (0, 0)) ∧ RRatR w (.agg #[.bool n1, .slice a1 k1 c1, .bool n2, .slice a2 k2 c2]) q ∧ B ≤ g
def BlkR' (B : Nat) (T : TypeId) (q : Rat) (s : Value) (w : World) : Prop :=
  ∃ (g : Nat) (n1 : Bool) (a1 : Option Addr) (k1 c1 : Nat) (n2 : Bool) (a2 : Option Addr) (k2 c2 : Nat), s = .pointer (some ⟨g, 0, none⟩) ∧ w.heap[g]? = some (.cells #[.bool n1, .slice a1 k1 c1, .bool n2, .slice a2 k2 c2] T (0, 0)) ∧ RatR w (.agg #[.bool n1, .slice a1 k1 c1, .bool n2, .slice a2 k2 c2]) q ∧ B ≤ g

set_option maxHeartbeats 8000000 in
set_option maxRecDepth 100000 in
theorem lawRest_any {w : World} {v : Value} {n : Nat} {z : Nat → Int × Int} (h : PairsR w v n z) (ht : Tab w) :
    Calls Tryz.prog 10 #[v] w fun e w' => e = .returned (.bool true) ∧ Below w.heap.size w w' := by
  obtain ⟨ti2, hi2, hz20, hz21, hz22⟩ := info_parts infoQ4
  obtain ⟨ti3, hi3, hz30, hz31, hz32⟩ := info_parts rinfoQ
  obtain ⟨a, b, o, c, rfl, h2, h3, h4, h5⟩ := h
  have H5 := Lib.hid h5
  have HT := Lib.hid ht
  clear h5 ht
  go_enter Tryz.func10, Tryz.ntmps10
  go_wp2_with fail
  refine (sawake_any HT.out).mono ?_
  rintro en w1 ⟨rfl, hb⟩
  have HB1 := Lib.hid hb
  clear hb
  by_cases hf : n ≤ 20
  case neg =>
    have hfi : ¬ (n : Int) ≤ 20 := by omega
    have hfj : (20 : Int) < (n : Int) := by omega
    go_wp2
    go_ret
    exact ⟨rfl, HB1.out⟩
  have hfi : ¬ (20 : Int) < (n : Int) := by omega
  go_wp2_with fail
  go_loopw [3, 4, 5] (fun sx sw i wr => ∃ (e k : Nat) (f : Nat → Rat) (L KL : List Num) (xv wv : Value), xv = sx ∧ wv = sw ∧ i = .int .i64 e ∧ e ≤ n ∧ k ≤ e ∧ BuildN w.heap.size wr xv L k f ∧ rBuildN w.heap.size wr wv KL k (fun i => 1 - f i) ∧ (∀ i, i < k → Rg 20 (f i)) ∧ Below w.heap.size w wr) (fun _ _ i _ => n - (RowKit.intOf i).toNat)
  case atStart => exact ⟨0, 0, fun _ => 0, [], [], _, _, rfl, rfl, rfl, Nat.zero_le _, Nat.le_refl _, BuildN.start _ _ _, rBuildN.start _ _ _, fun i hi => absurd hi (Nat.not_lt_zero _), HB1.out⟩
  case round =>
    clear HB1
    obtain ⟨e, k, f, L, KL, xv, wv, rfl, rfl, rfl, he, hk, hbx, hbw, hrg, hb⟩ := hrel
    have HXB := Lib.hid hbx
    have HWB := Lib.hid hbw
    have HRG := Lib.hid hrg
    have HB := Lib.hid hb
    clear hbx hbw hrg hb
    by_cases hen : e < n
    case neg =>
      obtain rfl : e = n := by omega
      obtain ⟨ax, cx, rfl, hrx⟩ := HXB.out.rats
      obtain ⟨aw, cw, rfl, hrw⟩ := HWB.out.rats
      have HRX := Lib.hid hrx
      have HRW := Lib.hid hrw
      clear hrx hrw HXB HWB
      go_wp2_with fail
      refine (rest_any HRX.out (M := 20) HRG.out (by decide) (by decide) (by omega)).mono ?_
      rintro en w2 ⟨ar, cr, rfl, hr, hb2⟩
      have HR2 := Lib.hid hr
      have HRW2 := Lib.hid (HRW.out.below hb2)
      have HB2 := Lib.hid (bt HB.out hb2)
      have HT2 := Lib.hid (HT.out.below HB2.out)
      clear hr hb2
      go_wp2_with fail
      refine (ssame_yes (N := 41) HR2.out HRW2.out (fun i hi => Rg.sub (rg_unitR (by omega)) (HRG.out i hi)) (by decide) HT2.out).mono ?_
      rintro en w3 ⟨rfl, hb3⟩
      have HB3 := Lib.hid (bt HB2.out hb3)
      clear hb3
      go_wp2
      go_ret
      exact ⟨rfl, HB3.out⟩
    have hei : (e : Int) < (n : Int) := by omega
    obtain rfl := h4 (by omega)
    obtain ⟨x1, x2, hn, hd⟩ := H5.out e hen
    obtain ⟨N, hN⟩ : ∃ N, (z e).1 = N := ⟨_, rfl⟩
    obtain ⟨D, hD⟩ : ∃ D, (z e).2 = D := ⟨_, rfl⟩
    rw [hN] at x1 hn
    rw [hD] at x2 hd
    clear hN hD
    have HC1 := Lib.hid x1
    have HC2 := Lib.hid x2
    have HN := Lib.hid hn
    have HD := Lib.hid hd
    clear x1 x2 hn hd
    go_wp2_with fail
    go_cut [6, 7] (fun s6 s7 wx => s7 = .int .i64 (ofC D) ∧ BlkR' wr.heap.size 37 (ofQ N D) s6 wx ∧ Below wr.heap.size wr wx)
    case first =>
      have HLS := Lib.hid (fun (w' : World) (hb : Below wr.heap.size wr w') => (⟨keepc (bt HB.out hb) HC1.out, keepc (bt HB.out hb) HC2.out⟩ : w'.cell? ⟨b, o + e * 2, none⟩ = some (.int .i64 N) ∧ w'.cell? ⟨b, o + e * 2 + 1, none⟩ = some (.int .i64 D)))
      have HDR := Lib.hid (Below.drew (Below.refl wr.heap.size wr))
      refine wp_region_held_drew (S := fun w' => w'.cell? ⟨b, o + e * 2, none⟩ = some (.int .i64 N) ∧ w'.cell? ⟨b, o + e * 2 + 1, none⟩ = some (.int .i64 D)) (by kernel_rfl) ?_ (fun hHeld => ?_)
      · exact HLS.out _ HDR.out
      (try dsimp only at hHeld)
      refine wpAnyH_take (i := 0) (oi := ({ dst := some 22, op := Op.move (Operand.tmp 0), type := 104, pos := "law.go:100", after := #[], guard := none } : Oper)) (v := ?y2_1_v) rfl (by kernel_rfl) (by kernel_rfl) (by kernel_rfl) (fun _ _ _ h => h) (Or.inl ⟨by rfl, ?y2_1_h⟩) hHeld ?y2_1_r
      case y2_1_h => (intro w hSw; (try dsimp only at hSw); go_simp; all_goals with_reducible rfl)
      (try simp only [Act.put, List.setIfInBounds_toArray, List.set_cons_zero, List.set_cons_succ])
      refine wpAnyH_take (i := 1) (oi := ({ dst := some 23, op := Op.move (Operand.tmp 5), type := 3, pos := "law.go:100", after := #[], guard := none } : Oper)) (v := ?y2_2_v) rfl (by kernel_rfl) (by kernel_rfl) (by kernel_rfl) (fun _ _ _ h => h) (Or.inl ⟨by rfl, ?y2_2_h⟩) hHeld ?y2_2_r
      case y2_2_h => (intro w hSw; (try dsimp only at hSw); go_simp; all_goals with_reducible rfl)
      (try simp only [Act.put, List.setIfInBounds_toArray, List.set_cons_zero, List.set_cons_succ])
      refine wpAnyH_take (i := 2) (oi := ({ dst := some 24, op := Op.indexAddr 104 (Operand.tmp 22) (Operand.tmp 23), type := 0, pos := "law.go:100", after := #[{ on := 0, ground := Ground.data }, { on := 1, ground := Ground.data }], guard := none } : Oper)) (v := ?y2_3_v) rfl (by kernel_rfl) (by kernel_rfl) (by kernel_rfl) (fun _ _ _ h => h) (Or.inl ⟨by rfl, ?y2_3_h⟩) hHeld ?y2_3_r
      case y2_3_h => (intro w hSw; (try dsimp only at hSw); go_simp; all_goals with_reducible rfl)
      (try simp only [Act.put, List.setIfInBounds_toArray, List.set_cons_zero, List.set_cons_succ])
      refine wpAnyH_take (i := 3) (oi := ({ dst := some 25, op := Op.indexAddr 105 (Operand.tmp 24) (Operand.const (Value.int IntKind.i64 0)), type := 0, pos := "law.go:100", after := #[{ on := 2, ground := Ground.data }], guard := none } : Oper)) (v := ?y2_4_v) rfl (by kernel_rfl) (by kernel_rfl) (by kernel_rfl) (fun _ _ _ h => h) (Or.inl ⟨by rfl, ?y2_4_h⟩) hHeld ?y2_4_r
      case y2_4_h => (intro w hSw; (try dsimp only at hSw); go_simp; all_goals with_reducible rfl)
      (try simp only [Act.put, List.setIfInBounds_toArray, List.set_cons_zero, List.set_cons_succ])
      refine wpAnyH_take (i := 4) (oi := ({ dst := some 26, op := Op.load 3 (Operand.tmp 25), type := 3, pos := "law.go:100", after := #[{ on := 3, ground := Ground.data }], guard := none } : Oper)) (v := ?y2_5_v) rfl (by kernel_rfl) (by kernel_rfl) (by kernel_rfl) (fun _ _ _ h => h) (Or.inl ⟨by rfl, ?y2_5_h⟩) hHeld ?y2_5_r
      case y2_5_h => (intro w hSw; (try dsimp only at hSw); go_simp; all_goals with_reducible rfl)
      (try simp only [Act.put, List.setIfInBounds_toArray, List.set_cons_zero, List.set_cons_succ])
      refine wpAnyH_take (i := 5) (oi := ({ dst := some 27, op := Op.move (Operand.tmp 0), type := 104, pos := "law.go:100", after := #[], guard := none } : Oper)) (v := ?y2_6_v) rfl (by kernel_rfl) (by kernel_rfl) (by kernel_rfl) (fun _ _ _ h => h) (Or.inl ⟨by rfl, ?y2_6_h⟩) hHeld ?y2_6_r
      case y2_6_h => (intro w hSw; (try dsimp only at hSw); go_simp; all_goals with_reducible rfl)
      (try simp only [Act.put, List.setIfInBounds_toArray, List.set_cons_zero, List.set_cons_succ])
      refine wpAnyH_take (i := 6) (oi := ({ dst := some 28, op := Op.move (Operand.tmp 5), type := 3, pos := "law.go:100", after := #[], guard := none } : Oper)) (v := ?y2_7_v) rfl (by kernel_rfl) (by kernel_rfl) (by kernel_rfl) (fun _ _ _ h => h) (Or.inl ⟨by rfl, ?y2_7_h⟩) hHeld ?y2_7_r
      case y2_7_h => (intro w hSw; (try dsimp only at hSw); go_simp; all_goals with_reducible rfl)
      (try simp only [Act.put, List.setIfInBounds_toArray, List.set_cons_zero, List.set_cons_succ])
      refine wpAnyH_take (i := 7) (oi := ({ dst := some 29, op := Op.indexAddr 104 (Operand.tmp 27) (Operand.tmp 28), type := 0, pos := "law.go:100", after := #[{ on := 5, ground := Ground.data }, { on := 6, ground := Ground.data }], guard := none } : Oper)) (v := ?y2_8_v) rfl (by kernel_rfl) (by kernel_rfl) (by kernel_rfl) (fun _ _ _ h => h) (Or.inl ⟨by rfl, ?y2_8_h⟩) hHeld ?y2_8_r
      case y2_8_h => (intro w hSw; (try dsimp only at hSw); go_simp; all_goals with_reducible rfl)
      (try simp only [Act.put, List.setIfInBounds_toArray, List.set_cons_zero, List.set_cons_succ])
      refine wpAnyH_take (i := 8) (oi := ({ dst := some 30, op := Op.indexAddr 105 (Operand.tmp 29) (Operand.const (Value.int IntKind.i64 1)), type := 0, pos := "law.go:100", after := #[{ on := 7, ground := Ground.data }], guard := none } : Oper)) (v := ?y2_9_v) rfl (by kernel_rfl) (by kernel_rfl) (by kernel_rfl) (fun _ _ _ h => h) (Or.inl ⟨by rfl, ?y2_9_h⟩) hHeld ?y2_9_r
      case y2_9_h => (intro w hSw; (try dsimp only at hSw); go_simp; all_goals with_reducible rfl)
      (try simp only [Act.put, List.setIfInBounds_toArray, List.set_cons_zero, List.set_cons_succ])
      refine wpAnyH_take (i := 9) (oi := ({ dst := some 31, op := Op.load 3 (Operand.tmp 30), type := 3, pos := "law.go:100", after := #[{ on := 8, ground := Ground.data }], guard := none } : Oper)) (v := ?y2_10_v) rfl (by kernel_rfl) (by kernel_rfl) (by kernel_rfl) (fun _ _ _ h => h) (Or.inl ⟨by rfl, ?y2_10_h⟩) hHeld ?y2_10_r
      case y2_10_h => (intro w hSw; (try dsimp only at hSw); go_simp; all_goals with_reducible rfl)
      (try simp only [Act.put, List.setIfInBounds_toArray, List.set_cons_zero, List.set_cons_succ])
      refine wpAnyH_ready (rs := [10, 14]) (by kernel_rfl) (by simp) ?_
      refine AllReadyH.cons (o := ({ dst := some 32, op := Op.call { callee := Callee.value (Operand.func 26), args := #[Operand.tmp 26, Operand.tmp 31], argTypes := #[3, 3] }, type := 57, pos := "law.go:100", after := #[{ on := 4, ground := Ground.data }, { on := 9, ground := Ground.data }], guard := none } : Oper)) rfl (fun K hK => ?_) (AllReadyH.cons (o := ({ dst := some 6, op := Op.alloc 37, type := 0, pos := "law.go:100", after := #[], guard := none } : Oper)) rfl (fun K hK => ?_) AllReadyH.nil)
      · go_simp
        (go_at_call 26; (with_reducible refine (of_all HN.out HD.out).mono ?_); rintro en u10 ⟨m1, b1, j1, d1, m2, b2, j2, d2, rfl, hx, hb⟩; have HXX := Lib.hid hx; have HZ10 := Lib.hid (bt HDR.out hb); clear hx hb)
        first | refine hK.out _ _ ?_ (fun hHeld => ?_) | (go_wp2_with fail; refine hK.out _ _ ?_ (fun hHeld => ?_))
        · exact HLS.out _ HZ10.out
        clear hK K
        (try dsimp only at hHeld)
        (try simp only [Act.put, List.setIfInBounds_toArray, List.set_cons_zero, List.set_cons_succ])
        refine wpAnyH_take (i := 11) (oi := ({ dst := some 21, op := Op.move (Operand.tmp 32), type := 57, pos := "law.go:100", after := #[{ on := 10, ground := Ground.data }], guard := none } : Oper)) (v := ?y2_11_v) rfl (by kernel_rfl) (by kernel_rfl) (by kernel_rfl) (fun _ _ _ h => h) (Or.inl ⟨by rfl, ?y2_11_h⟩) hHeld ?y2_11_r
        case y2_11_h => (intro w hSw; (try dsimp only at hSw); go_simp; all_goals with_reducible rfl)
        (try simp only [Act.put, List.setIfInBounds_toArray, List.set_cons_zero, List.set_cons_succ])
        refine wpAnyH_take (i := 12) (oi := ({ dst := some 33, op := Op.extract (Operand.tmp 21) 0, type := 37, pos := "law.go:100", after := #[{ on := 11, ground := Ground.data }], guard := none } : Oper)) (v := ?y2_12_v) rfl (by kernel_rfl) (by kernel_rfl) (by kernel_rfl) (fun _ _ _ h => h) (Or.inl ⟨by rfl, ?y2_12_h⟩) hHeld ?y2_12_r
        case y2_12_h => (intro w hSw; (try dsimp only at hSw); go_simp; all_goals with_reducible rfl)
        (try simp only [Act.put, List.setIfInBounds_toArray, List.set_cons_zero, List.set_cons_succ])
        refine wpAnyH_take (i := 13) (oi := ({ dst := some 34, op := Op.extract (Operand.tmp 21) 1, type := 27, pos := "law.go:100", after := #[{ on := 11, ground := Ground.data }, { on := 15, ground := Ground.gcOnly Departure.lateStores }], guard := none } : Oper)) (v := ?y2_13_v) rfl (by kernel_rfl) (by kernel_rfl) (by kernel_rfl) (fun _ _ _ h => h) (Or.inl ⟨by rfl, ?y2_13_h⟩) hHeld ?y2_13_r
        case y2_13_h => (intro w hSw; (try dsimp only at hSw); go_simp; all_goals with_reducible rfl)
        (try simp only [Act.put, List.setIfInBounds_toArray, List.set_cons_zero, List.set_cons_succ])
        refine wpAnyH_ready (rs := [14]) (by kernel_rfl) (by simp) ?_
        refine AllReadyH.cons (o := ({ dst := some 6, op := Op.alloc 37, type := 0, pos := "law.go:100", after := #[], guard := none } : Oper)) rfl (fun K hK => ?_) AllReadyH.nil
        go_simp
        (obtain ⟨u14, hW, hs, hb, hx⟩ := alloc1 u10 (.cells #[.bool false, .slice none 0 0, .bool false, .slice none 0 0] 37); rw [← hW]; have HZ14 := Lib.hid (bt HZ10.out hb); have HA14 := Lib.hid hx; have HXX4 := Lib.hid (HXX.out.below hb); have hz14 := HZ10.out.size; clear hW hs hb hx)
        first | refine hK.out _ _ ?_ (fun hHeld => ?_) | (go_wp2_with fail; refine hK.out _ _ ?_ (fun hHeld => ?_))
        · exact HLS.out _ HZ14.out
        clear hK K
        (try dsimp only at hHeld)
        (try simp only [Act.put, List.setIfInBounds_toArray, List.set_cons_zero, List.set_cons_succ])
        refine wpAnyH_ready (rs := [15]) (by kernel_rfl) (by simp) ?_
        refine AllReadyH.cons (o := ({ dst := none, op := Op.store 37 (Operand.tmp 6) (Operand.tmp 33), type := 0, pos := "law.go:100", after := #[{ on := 14, ground := Ground.data }, { on := 12, ground := Ground.data }, { on := 10, ground := Ground.chain }, { on := 0, ground := Ground.phase }, { on := 1, ground := Ground.phase }, { on := 2, ground := Ground.phase }, { on := 3, ground := Ground.phase }, { on := 4, ground := Ground.phase }, { on := 5, ground := Ground.phase }, { on := 6, ground := Ground.phase }, { on := 7, ground := Ground.phase }, { on := 8, ground := Ground.phase }, { on := 9, ground := Ground.phase }, { on := 10, ground := Ground.phase }, { on := 11, ground := Ground.phase }, { on := 12, ground := Ground.phase }, { on := 13, ground := Ground.textOnly Departure.lateStores }, { on := 14, ground := Ground.phase }], guard := none } : Oper)) rfl (fun K hK => ?_) AllReadyH.nil
        (obtain ⟨⟨d0_, d1_, d2_, d3_⟩, e0_, e1_, e2_, e3_⟩ := res4_facts HA14.out; go_simp)
        first | refine hK.out _ _ ?_ (fun hHeld => ?_) | (go_wp2_with fail; refine hK.out _ _ ?_ (fun hHeld => ?_))
        · exact HLS.out _ (held_set4 HZ14.out hz14)
        clear hK K
        (try dsimp only at hHeld)
        (try simp only [Act.put, List.setIfInBounds_toArray, List.set_cons_zero, List.set_cons_succ])
        refine wpAnyH_take (i := 16) (oi := ({ dst := some 7, op := Op.assign (Operand.tmp 34), type := 27, pos := "law.go:100", after := #[{ on := 13, ground := Ground.data }, { on := 15, ground := Ground.chain }, { on := 0, ground := Ground.phase }, { on := 1, ground := Ground.phase }, { on := 2, ground := Ground.phase }, { on := 3, ground := Ground.phase }, { on := 4, ground := Ground.phase }, { on := 5, ground := Ground.phase }, { on := 6, ground := Ground.phase }, { on := 7, ground := Ground.phase }, { on := 8, ground := Ground.phase }, { on := 9, ground := Ground.phase }, { on := 10, ground := Ground.phase }, { on := 11, ground := Ground.phase }, { on := 12, ground := Ground.phase }, { on := 13, ground := Ground.phase }, { on := 14, ground := Ground.phase }, { on := 15, ground := Ground.phase }], guard := none } : Oper)) (v := ?y2_14_v) rfl (by kernel_rfl) (by kernel_rfl) (by kernel_rfl) (fun _ _ _ h => h) (Or.inl ⟨by rfl, ?y2_14_h⟩) hHeld ?y2_14_r
        case y2_14_h => (intro w hSw; (try dsimp only at hSw); go_simp; all_goals with_reducible rfl)
        (try simp only [Act.put, List.setIfInBounds_toArray, List.set_cons_zero, List.set_cons_succ])
        refine wpAnyH_done (by kernel_rfl) ?_ _
        go_wp2_with fail
        go_meet
        exact ⟨rfl, ⟨_, m1, b1, j1, d1, m2, b2, j2, d2, rfl, res4_set HA14.out, HXX4.out.stay set4_stay (noInt_one (noInt4 HA14.out)), hz14⟩, held_set4 HZ14.out hz14⟩
      · go_simp
        (obtain ⟨u14, hW, hs, hb, hx⟩ := alloc1_d wr (.cells #[.bool false, .slice none 0 0, .bool false, .slice none 0 0] 37); rw [← hW]; have HZ14 := Lib.hid (hb); have HA14 := Lib.hid hx; clear hW hs hb hx)
        first | refine hK.out _ _ ?_ (fun hHeld => ?_) | (go_wp2_with fail; refine hK.out _ _ ?_ (fun hHeld => ?_))
        · exact HLS.out _ HZ14.out
        clear hK K
        (try dsimp only at hHeld)
        (try simp only [Act.put, List.setIfInBounds_toArray, List.set_cons_zero, List.set_cons_succ])
        refine wpAnyH_ready (rs := [10]) (by kernel_rfl) (by simp) ?_
        refine AllReadyH.cons (o := ({ dst := some 32, op := Op.call { callee := Callee.value (Operand.func 26), args := #[Operand.tmp 26, Operand.tmp 31], argTypes := #[3, 3] }, type := 57, pos := "law.go:100", after := #[{ on := 4, ground := Ground.data }, { on := 9, ground := Ground.data }], guard := none } : Oper)) rfl (fun K hK => ?_) AllReadyH.nil
        go_simp
        (go_at_call 26; (with_reducible refine (of_all HN.out HD.out).mono ?_); rintro en u10 ⟨m1, b1, j1, d1, m2, b2, j2, d2, rfl, hx, hb⟩; have HXX := Lib.hid hx; have HZ10 := Lib.hid (bt HZ14.out hb); have HA10 := Lib.hid (blk_next HA14.out hb); clear hx hb)
        first | refine hK.out _ _ ?_ (fun hHeld => ?_) | (go_wp2_with fail; refine hK.out _ _ ?_ (fun hHeld => ?_))
        · exact HLS.out _ HZ10.out
        clear hK K
        (try dsimp only at hHeld)
        (try simp only [Act.put, List.setIfInBounds_toArray, List.set_cons_zero, List.set_cons_succ])
        refine wpAnyH_take (i := 11) (oi := ({ dst := some 21, op := Op.move (Operand.tmp 32), type := 57, pos := "law.go:100", after := #[{ on := 10, ground := Ground.data }], guard := none } : Oper)) (v := ?y2_15_v) rfl (by kernel_rfl) (by kernel_rfl) (by kernel_rfl) (fun _ _ _ h => h) (Or.inl ⟨by rfl, ?y2_15_h⟩) hHeld ?y2_15_r
        case y2_15_h => (intro w hSw; (try dsimp only at hSw); go_simp; all_goals with_reducible rfl)
        (try simp only [Act.put, List.setIfInBounds_toArray, List.set_cons_zero, List.set_cons_succ])
        refine wpAnyH_take (i := 12) (oi := ({ dst := some 33, op := Op.extract (Operand.tmp 21) 0, type := 37, pos := "law.go:100", after := #[{ on := 11, ground := Ground.data }], guard := none } : Oper)) (v := ?y2_16_v) rfl (by kernel_rfl) (by kernel_rfl) (by kernel_rfl) (fun _ _ _ h => h) (Or.inl ⟨by rfl, ?y2_16_h⟩) hHeld ?y2_16_r
        case y2_16_h => (intro w hSw; (try dsimp only at hSw); go_simp; all_goals with_reducible rfl)
        (try simp only [Act.put, List.setIfInBounds_toArray, List.set_cons_zero, List.set_cons_succ])
        refine wpAnyH_take (i := 13) (oi := ({ dst := some 34, op := Op.extract (Operand.tmp 21) 1, type := 27, pos := "law.go:100", after := #[{ on := 11, ground := Ground.data }, { on := 15, ground := Ground.gcOnly Departure.lateStores }], guard := none } : Oper)) (v := ?y2_17_v) rfl (by kernel_rfl) (by kernel_rfl) (by kernel_rfl) (fun _ _ _ h => h) (Or.inl ⟨by rfl, ?y2_17_h⟩) hHeld ?y2_17_r
        case y2_17_h => (intro w hSw; (try dsimp only at hSw); go_simp; all_goals with_reducible rfl)
        (try simp only [Act.put, List.setIfInBounds_toArray, List.set_cons_zero, List.set_cons_succ])
        refine wpAnyH_ready (rs := [15]) (by kernel_rfl) (by simp) ?_
        refine AllReadyH.cons (o := ({ dst := none, op := Op.store 37 (Operand.tmp 6) (Operand.tmp 33), type := 0, pos := "law.go:100", after := #[{ on := 14, ground := Ground.data }, { on := 12, ground := Ground.data }, { on := 10, ground := Ground.chain }, { on := 0, ground := Ground.phase }, { on := 1, ground := Ground.phase }, { on := 2, ground := Ground.phase }, { on := 3, ground := Ground.phase }, { on := 4, ground := Ground.phase }, { on := 5, ground := Ground.phase }, { on := 6, ground := Ground.phase }, { on := 7, ground := Ground.phase }, { on := 8, ground := Ground.phase }, { on := 9, ground := Ground.phase }, { on := 10, ground := Ground.phase }, { on := 11, ground := Ground.phase }, { on := 12, ground := Ground.phase }, { on := 13, ground := Ground.textOnly Departure.lateStores }, { on := 14, ground := Ground.phase }], guard := none } : Oper)) rfl (fun K hK => ?_) AllReadyH.nil
        (obtain ⟨⟨d0_, d1_, d2_, d3_⟩, e0_, e1_, e2_, e3_⟩ := res4_facts HA10.out; go_simp)
        first | refine hK.out _ _ ?_ (fun hHeld => ?_) | (go_wp2_with fail; refine hK.out _ _ ?_ (fun hHeld => ?_))
        · exact HLS.out _ (held_set4 HZ10.out (Nat.le_refl _))
        clear hK K
        (try dsimp only at hHeld)
        (try simp only [Act.put, List.setIfInBounds_toArray, List.set_cons_zero, List.set_cons_succ])
        refine wpAnyH_take (i := 16) (oi := ({ dst := some 7, op := Op.assign (Operand.tmp 34), type := 27, pos := "law.go:100", after := #[{ on := 13, ground := Ground.data }, { on := 15, ground := Ground.chain }, { on := 0, ground := Ground.phase }, { on := 1, ground := Ground.phase }, { on := 2, ground := Ground.phase }, { on := 3, ground := Ground.phase }, { on := 4, ground := Ground.phase }, { on := 5, ground := Ground.phase }, { on := 6, ground := Ground.phase }, { on := 7, ground := Ground.phase }, { on := 8, ground := Ground.phase }, { on := 9, ground := Ground.phase }, { on := 10, ground := Ground.phase }, { on := 11, ground := Ground.phase }, { on := 12, ground := Ground.phase }, { on := 13, ground := Ground.phase }, { on := 14, ground := Ground.phase }, { on := 15, ground := Ground.phase }], guard := none } : Oper)) (v := ?y2_18_v) rfl (by kernel_rfl) (by kernel_rfl) (by kernel_rfl) (fun _ _ _ h => h) (Or.inl ⟨by rfl, ?y2_18_h⟩) hHeld ?y2_18_r
        case y2_18_h => (intro w hSw; (try dsimp only at hSw); go_simp; all_goals with_reducible rfl)
        (try simp only [Act.put, List.setIfInBounds_toArray, List.set_cons_zero, List.set_cons_succ])
        refine wpAnyH_done (by kernel_rfl) ?_ _
        go_wp2_with fail
        go_meet
        exact ⟨rfl, ⟨_, m1, b1, j1, d1, m2, b2, j2, d2, rfl, res4_set HA10.out, HXX.out.stay set4_stay (noInt_one (noInt4 HA10.out)), (Nat.le_refl _)⟩, held_set4 HZ10.out (Nat.le_refl _)⟩
    case rest =>
    obtain ⟨rfl, ⟨g6, n1, a1, k1, c1, n2, a2, k2, c2, rfl, hg6, hx6, hgb⟩, hbc⟩ := hcut
    rename World => wp
    have HG6 := Lib.hid hg6
    have HX6 := Lib.hid hx6
    have HBP := Lib.hid hbc
    have HXB2 := Lib.hid (HXB.out.below hbc)
    have HWB2 := Lib.hid (HWB.out.below hbc)
    have HB2 := Lib.hid (bt HB.out hbc)
    have hgb6 := hgb
    have HXLT := Lib.hid (show ∀ g, xv.ownBlock = some g → g < wr.heap.size from fun g hg => (HXB.out.own.own.lt g hg).2)
    have HWLT := Lib.hid (show ∀ g, wv.ownBlock = some g → g < wr.heap.size from fun g hg => (HWB.out.own.own.lt g hg).2)
    have hwp := HBP.out.size
    clear hg6 hx6 hbc hgb
    go_wp2_with fail
    go_cut [8, 9] (fun s8 s9 wx => s9 = .int .i64 (ofC D) ∧ rBlkR wp.heap.size 86 (ofQ N D) s8 wx ∧ Below wp.heap.size wp wx)
    case first =>
      have HLS := Lib.hid (fun (w' : World) (hb : Below wp.heap.size wp w') => (⟨keepc (bt HB2.out hb) HC1.out, keepc (bt HB2.out hb) HC2.out⟩ : w'.cell? ⟨b, o + e * 2, none⟩ = some (.int .i64 N) ∧ w'.cell? ⟨b, o + e * 2 + 1, none⟩ = some (.int .i64 D)))
      have HDR := Lib.hid (Below.drew (Below.refl wp.heap.size wp))
      refine wp_region_held_drew (S := fun w' => w'.cell? ⟨b, o + e * 2, none⟩ = some (.int .i64 N) ∧ w'.cell? ⟨b, o + e * 2 + 1, none⟩ = some (.int .i64 D)) (by kernel_rfl) ?_ (fun hHeld => ?_)
      · exact HLS.out _ HDR.out
      (try dsimp only at hHeld)
      refine wpAnyH_take (i := 0) (oi := ({ dst := some 36, op := Op.move (Operand.tmp 0), type := 104, pos := "law.go:101", after := #[], guard := none } : Oper)) (v := ?y3_1_v) rfl (by kernel_rfl) (by kernel_rfl) (by kernel_rfl) (fun _ _ _ h => h) (Or.inl ⟨by rfl, ?y3_1_h⟩) hHeld ?y3_1_r
      case y3_1_h => (intro w hSw; (try dsimp only at hSw); go_simp; all_goals with_reducible rfl)
      (try simp only [Act.put, List.setIfInBounds_toArray, List.set_cons_zero, List.set_cons_succ])
      refine wpAnyH_take (i := 1) (oi := ({ dst := some 37, op := Op.move (Operand.tmp 5), type := 3, pos := "law.go:101", after := #[], guard := none } : Oper)) (v := ?y3_2_v) rfl (by kernel_rfl) (by kernel_rfl) (by kernel_rfl) (fun _ _ _ h => h) (Or.inl ⟨by rfl, ?y3_2_h⟩) hHeld ?y3_2_r
      case y3_2_h => (intro w hSw; (try dsimp only at hSw); go_simp; all_goals with_reducible rfl)
      (try simp only [Act.put, List.setIfInBounds_toArray, List.set_cons_zero, List.set_cons_succ])
      refine wpAnyH_take (i := 2) (oi := ({ dst := some 38, op := Op.indexAddr 104 (Operand.tmp 36) (Operand.tmp 37), type := 0, pos := "law.go:101", after := #[{ on := 0, ground := Ground.data }, { on := 1, ground := Ground.data }], guard := none } : Oper)) (v := ?y3_3_v) rfl (by kernel_rfl) (by kernel_rfl) (by kernel_rfl) (fun _ _ _ h => h) (Or.inl ⟨by rfl, ?y3_3_h⟩) hHeld ?y3_3_r
      case y3_3_h => (intro w hSw; (try dsimp only at hSw); go_simp; all_goals with_reducible rfl)
      (try simp only [Act.put, List.setIfInBounds_toArray, List.set_cons_zero, List.set_cons_succ])
      refine wpAnyH_take (i := 3) (oi := ({ dst := some 39, op := Op.indexAddr 105 (Operand.tmp 38) (Operand.const (Value.int IntKind.i64 0)), type := 0, pos := "law.go:101", after := #[{ on := 2, ground := Ground.data }], guard := none } : Oper)) (v := ?y3_4_v) rfl (by kernel_rfl) (by kernel_rfl) (by kernel_rfl) (fun _ _ _ h => h) (Or.inl ⟨by rfl, ?y3_4_h⟩) hHeld ?y3_4_r
      case y3_4_h => (intro w hSw; (try dsimp only at hSw); go_simp; all_goals with_reducible rfl)
      (try simp only [Act.put, List.setIfInBounds_toArray, List.set_cons_zero, List.set_cons_succ])
      refine wpAnyH_take (i := 4) (oi := ({ dst := some 40, op := Op.load 3 (Operand.tmp 39), type := 3, pos := "law.go:101", after := #[{ on := 3, ground := Ground.data }], guard := none } : Oper)) (v := ?y3_5_v) rfl (by kernel_rfl) (by kernel_rfl) (by kernel_rfl) (fun _ _ _ h => h) (Or.inl ⟨by rfl, ?y3_5_h⟩) hHeld ?y3_5_r
      case y3_5_h => (intro w hSw; (try dsimp only at hSw); go_simp; all_goals with_reducible rfl)
      (try simp only [Act.put, List.setIfInBounds_toArray, List.set_cons_zero, List.set_cons_succ])
      refine wpAnyH_take (i := 5) (oi := ({ dst := some 41, op := Op.move (Operand.tmp 0), type := 104, pos := "law.go:101", after := #[], guard := none } : Oper)) (v := ?y3_6_v) rfl (by kernel_rfl) (by kernel_rfl) (by kernel_rfl) (fun _ _ _ h => h) (Or.inl ⟨by rfl, ?y3_6_h⟩) hHeld ?y3_6_r
      case y3_6_h => (intro w hSw; (try dsimp only at hSw); go_simp; all_goals with_reducible rfl)
      (try simp only [Act.put, List.setIfInBounds_toArray, List.set_cons_zero, List.set_cons_succ])
      refine wpAnyH_take (i := 6) (oi := ({ dst := some 42, op := Op.move (Operand.tmp 5), type := 3, pos := "law.go:101", after := #[], guard := none } : Oper)) (v := ?y3_7_v) rfl (by kernel_rfl) (by kernel_rfl) (by kernel_rfl) (fun _ _ _ h => h) (Or.inl ⟨by rfl, ?y3_7_h⟩) hHeld ?y3_7_r
      case y3_7_h => (intro w hSw; (try dsimp only at hSw); go_simp; all_goals with_reducible rfl)
      (try simp only [Act.put, List.setIfInBounds_toArray, List.set_cons_zero, List.set_cons_succ])
      refine wpAnyH_take (i := 7) (oi := ({ dst := some 43, op := Op.indexAddr 104 (Operand.tmp 41) (Operand.tmp 42), type := 0, pos := "law.go:101", after := #[{ on := 5, ground := Ground.data }, { on := 6, ground := Ground.data }], guard := none } : Oper)) (v := ?y3_8_v) rfl (by kernel_rfl) (by kernel_rfl) (by kernel_rfl) (fun _ _ _ h => h) (Or.inl ⟨by rfl, ?y3_8_h⟩) hHeld ?y3_8_r
      case y3_8_h => (intro w hSw; (try dsimp only at hSw); go_simp; all_goals with_reducible rfl)
      (try simp only [Act.put, List.setIfInBounds_toArray, List.set_cons_zero, List.set_cons_succ])
      refine wpAnyH_take (i := 8) (oi := ({ dst := some 44, op := Op.indexAddr 105 (Operand.tmp 43) (Operand.const (Value.int IntKind.i64 1)), type := 0, pos := "law.go:101", after := #[{ on := 7, ground := Ground.data }], guard := none } : Oper)) (v := ?y3_9_v) rfl (by kernel_rfl) (by kernel_rfl) (by kernel_rfl) (fun _ _ _ h => h) (Or.inl ⟨by rfl, ?y3_9_h⟩) hHeld ?y3_9_r
      case y3_9_h => (intro w hSw; (try dsimp only at hSw); go_simp; all_goals with_reducible rfl)
      (try simp only [Act.put, List.setIfInBounds_toArray, List.set_cons_zero, List.set_cons_succ])
      refine wpAnyH_take (i := 9) (oi := ({ dst := some 45, op := Op.load 3 (Operand.tmp 44), type := 3, pos := "law.go:101", after := #[{ on := 8, ground := Ground.data }], guard := none } : Oper)) (v := ?y3_10_v) rfl (by kernel_rfl) (by kernel_rfl) (by kernel_rfl) (fun _ _ _ h => h) (Or.inl ⟨by rfl, ?y3_10_h⟩) hHeld ?y3_10_r
      case y3_10_h => (intro w hSw; (try dsimp only at hSw); go_simp; all_goals with_reducible rfl)
      (try simp only [Act.put, List.setIfInBounds_toArray, List.set_cons_zero, List.set_cons_succ])
      refine wpAnyH_ready (rs := [10, 14]) (by kernel_rfl) (by simp) ?_
      refine AllReadyH.cons (o := ({ dst := some 46, op := Op.call { callee := Callee.value (Operand.func 53), args := #[Operand.tmp 40, Operand.tmp 45], argTypes := #[3, 3] }, type := 87, pos := "law.go:101", after := #[{ on := 4, ground := Ground.data }, { on := 9, ground := Ground.data }], guard := none } : Oper)) rfl (fun K hK => ?_) (AllReadyH.cons (o := ({ dst := some 8, op := Op.alloc 86, type := 0, pos := "law.go:101", after := #[], guard := none } : Oper)) rfl (fun K hK => ?_) AllReadyH.nil)
      · go_simp
        (go_at_call 53; (with_reducible refine (rof_all HN.out HD.out).mono ?_); rintro en u10 ⟨m1, b1, j1, d1, m2, b2, j2, d2, rfl, hx, hb⟩; have HXX := Lib.hid hx; have HZ10 := Lib.hid (bt HDR.out hb); clear hx hb)
        first | refine hK.out _ _ ?_ (fun hHeld => ?_) | (go_wp2_with fail; refine hK.out _ _ ?_ (fun hHeld => ?_))
        · exact HLS.out _ HZ10.out
        clear hK K
        (try dsimp only at hHeld)
        (try simp only [Act.put, List.setIfInBounds_toArray, List.set_cons_zero, List.set_cons_succ])
        refine wpAnyH_take (i := 11) (oi := ({ dst := some 35, op := Op.move (Operand.tmp 46), type := 87, pos := "law.go:101", after := #[{ on := 10, ground := Ground.data }], guard := none } : Oper)) (v := ?y3_11_v) rfl (by kernel_rfl) (by kernel_rfl) (by kernel_rfl) (fun _ _ _ h => h) (Or.inl ⟨by rfl, ?y3_11_h⟩) hHeld ?y3_11_r
        case y3_11_h => (intro w hSw; (try dsimp only at hSw); go_simp; all_goals with_reducible rfl)
        (try simp only [Act.put, List.setIfInBounds_toArray, List.set_cons_zero, List.set_cons_succ])
        refine wpAnyH_take (i := 12) (oi := ({ dst := some 47, op := Op.extract (Operand.tmp 35) 0, type := 86, pos := "law.go:101", after := #[{ on := 11, ground := Ground.data }], guard := none } : Oper)) (v := ?y3_12_v) rfl (by kernel_rfl) (by kernel_rfl) (by kernel_rfl) (fun _ _ _ h => h) (Or.inl ⟨by rfl, ?y3_12_h⟩) hHeld ?y3_12_r
        case y3_12_h => (intro w hSw; (try dsimp only at hSw); go_simp; all_goals with_reducible rfl)
        (try simp only [Act.put, List.setIfInBounds_toArray, List.set_cons_zero, List.set_cons_succ])
        refine wpAnyH_take (i := 13) (oi := ({ dst := some 48, op := Op.extract (Operand.tmp 35) 1, type := 27, pos := "law.go:101", after := #[{ on := 11, ground := Ground.data }, { on := 15, ground := Ground.gcOnly Departure.lateStores }], guard := none } : Oper)) (v := ?y3_13_v) rfl (by kernel_rfl) (by kernel_rfl) (by kernel_rfl) (fun _ _ _ h => h) (Or.inl ⟨by rfl, ?y3_13_h⟩) hHeld ?y3_13_r
        case y3_13_h => (intro w hSw; (try dsimp only at hSw); go_simp; all_goals with_reducible rfl)
        (try simp only [Act.put, List.setIfInBounds_toArray, List.set_cons_zero, List.set_cons_succ])
        refine wpAnyH_ready (rs := [14]) (by kernel_rfl) (by simp) ?_
        refine AllReadyH.cons (o := ({ dst := some 8, op := Op.alloc 86, type := 0, pos := "law.go:101", after := #[], guard := none } : Oper)) rfl (fun K hK => ?_) AllReadyH.nil
        go_simp
        (obtain ⟨u14, hW, hs, hb, hx⟩ := alloc1 u10 (.cells #[.bool false, .slice none 0 0, .bool false, .slice none 0 0] 86); rw [← hW]; have HZ14 := Lib.hid (bt HZ10.out hb); have HA14 := Lib.hid hx; have HXX4 := Lib.hid (HXX.out.below hb); have hz14 := HZ10.out.size; clear hW hs hb hx)
        first | refine hK.out _ _ ?_ (fun hHeld => ?_) | (go_wp2_with fail; refine hK.out _ _ ?_ (fun hHeld => ?_))
        · exact HLS.out _ HZ14.out
        clear hK K
        (try dsimp only at hHeld)
        (try simp only [Act.put, List.setIfInBounds_toArray, List.set_cons_zero, List.set_cons_succ])
        refine wpAnyH_ready (rs := [15]) (by kernel_rfl) (by simp) ?_
        refine AllReadyH.cons (o := ({ dst := none, op := Op.store 86 (Operand.tmp 8) (Operand.tmp 47), type := 0, pos := "law.go:101", after := #[{ on := 14, ground := Ground.data }, { on := 12, ground := Ground.data }, { on := 10, ground := Ground.chain }, { on := 0, ground := Ground.phase }, { on := 1, ground := Ground.phase }, { on := 2, ground := Ground.phase }, { on := 3, ground := Ground.phase }, { on := 4, ground := Ground.phase }, { on := 5, ground := Ground.phase }, { on := 6, ground := Ground.phase }, { on := 7, ground := Ground.phase }, { on := 8, ground := Ground.phase }, { on := 9, ground := Ground.phase }, { on := 10, ground := Ground.phase }, { on := 11, ground := Ground.phase }, { on := 12, ground := Ground.phase }, { on := 13, ground := Ground.textOnly Departure.lateStores }, { on := 14, ground := Ground.phase }], guard := none } : Oper)) rfl (fun K hK => ?_) AllReadyH.nil
        (obtain ⟨⟨d0_, d1_, d2_, d3_⟩, e0_, e1_, e2_, e3_⟩ := res4_facts HA14.out; go_simp)
        first | refine hK.out _ _ ?_ (fun hHeld => ?_) | (go_wp2_with fail; refine hK.out _ _ ?_ (fun hHeld => ?_))
        · exact HLS.out _ (held_set4 HZ14.out hz14)
        clear hK K
        (try dsimp only at hHeld)
        (try simp only [Act.put, List.setIfInBounds_toArray, List.set_cons_zero, List.set_cons_succ])
        refine wpAnyH_take (i := 16) (oi := ({ dst := some 9, op := Op.assign (Operand.tmp 48), type := 27, pos := "law.go:101", after := #[{ on := 13, ground := Ground.data }, { on := 15, ground := Ground.chain }, { on := 0, ground := Ground.phase }, { on := 1, ground := Ground.phase }, { on := 2, ground := Ground.phase }, { on := 3, ground := Ground.phase }, { on := 4, ground := Ground.phase }, { on := 5, ground := Ground.phase }, { on := 6, ground := Ground.phase }, { on := 7, ground := Ground.phase }, { on := 8, ground := Ground.phase }, { on := 9, ground := Ground.phase }, { on := 10, ground := Ground.phase }, { on := 11, ground := Ground.phase }, { on := 12, ground := Ground.phase }, { on := 13, ground := Ground.phase }, { on := 14, ground := Ground.phase }, { on := 15, ground := Ground.phase }], guard := none } : Oper)) (v := ?y3_14_v) rfl (by kernel_rfl) (by kernel_rfl) (by kernel_rfl) (fun _ _ _ h => h) (Or.inl ⟨by rfl, ?y3_14_h⟩) hHeld ?y3_14_r
        case y3_14_h => (intro w hSw; (try dsimp only at hSw); go_simp; all_goals with_reducible rfl)
        (try simp only [Act.put, List.setIfInBounds_toArray, List.set_cons_zero, List.set_cons_succ])
        refine wpAnyH_done (by kernel_rfl) ?_ _
        go_wp2_with fail
        go_meet
        exact ⟨rfl, ⟨_, m1, b1, j1, d1, m2, b2, j2, d2, rfl, res4_set HA14.out, HXX4.out.stay set4_stay (noInt_one (noInt4 HA14.out)), hz14⟩, held_set4 HZ14.out hz14⟩
      · go_simp
        (obtain ⟨u14, hW, hs, hb, hx⟩ := alloc1_d wp (.cells #[.bool false, .slice none 0 0, .bool false, .slice none 0 0] 86); rw [← hW]; have HZ14 := Lib.hid (hb); have HA14 := Lib.hid hx; clear hW hs hb hx)
        first | refine hK.out _ _ ?_ (fun hHeld => ?_) | (go_wp2_with fail; refine hK.out _ _ ?_ (fun hHeld => ?_))
        · exact HLS.out _ HZ14.out
        clear hK K
        (try dsimp only at hHeld)
        (try simp only [Act.put, List.setIfInBounds_toArray, List.set_cons_zero, List.set_cons_succ])
        refine wpAnyH_ready (rs := [10]) (by kernel_rfl) (by simp) ?_
        refine AllReadyH.cons (o := ({ dst := some 46, op := Op.call { callee := Callee.value (Operand.func 53), args := #[Operand.tmp 40, Operand.tmp 45], argTypes := #[3, 3] }, type := 87, pos := "law.go:101", after := #[{ on := 4, ground := Ground.data }, { on := 9, ground := Ground.data }], guard := none } : Oper)) rfl (fun K hK => ?_) AllReadyH.nil
        go_simp
        (go_at_call 53; (with_reducible refine (rof_all HN.out HD.out).mono ?_); rintro en u10 ⟨m1, b1, j1, d1, m2, b2, j2, d2, rfl, hx, hb⟩; have HXX := Lib.hid hx; have HZ10 := Lib.hid (bt HZ14.out hb); have HA10 := Lib.hid (blk_next HA14.out hb); clear hx hb)
        first | refine hK.out _ _ ?_ (fun hHeld => ?_) | (go_wp2_with fail; refine hK.out _ _ ?_ (fun hHeld => ?_))
        · exact HLS.out _ HZ10.out
        clear hK K
        (try dsimp only at hHeld)
        (try simp only [Act.put, List.setIfInBounds_toArray, List.set_cons_zero, List.set_cons_succ])
        refine wpAnyH_take (i := 11) (oi := ({ dst := some 35, op := Op.move (Operand.tmp 46), type := 87, pos := "law.go:101", after := #[{ on := 10, ground := Ground.data }], guard := none } : Oper)) (v := ?y3_15_v) rfl (by kernel_rfl) (by kernel_rfl) (by kernel_rfl) (fun _ _ _ h => h) (Or.inl ⟨by rfl, ?y3_15_h⟩) hHeld ?y3_15_r
        case y3_15_h => (intro w hSw; (try dsimp only at hSw); go_simp; all_goals with_reducible rfl)
        (try simp only [Act.put, List.setIfInBounds_toArray, List.set_cons_zero, List.set_cons_succ])
        refine wpAnyH_take (i := 12) (oi := ({ dst := some 47, op := Op.extract (Operand.tmp 35) 0, type := 86, pos := "law.go:101", after := #[{ on := 11, ground := Ground.data }], guard := none } : Oper)) (v := ?y3_16_v) rfl (by kernel_rfl) (by kernel_rfl) (by kernel_rfl) (fun _ _ _ h => h) (Or.inl ⟨by rfl, ?y3_16_h⟩) hHeld ?y3_16_r
        case y3_16_h => (intro w hSw; (try dsimp only at hSw); go_simp; all_goals with_reducible rfl)
        (try simp only [Act.put, List.setIfInBounds_toArray, List.set_cons_zero, List.set_cons_succ])
        refine wpAnyH_take (i := 13) (oi := ({ dst := some 48, op := Op.extract (Operand.tmp 35) 1, type := 27, pos := "law.go:101", after := #[{ on := 11, ground := Ground.data }, { on := 15, ground := Ground.gcOnly Departure.lateStores }], guard := none } : Oper)) (v := ?y3_17_v) rfl (by kernel_rfl) (by kernel_rfl) (by kernel_rfl) (fun _ _ _ h => h) (Or.inl ⟨by rfl, ?y3_17_h⟩) hHeld ?y3_17_r
        case y3_17_h => (intro w hSw; (try dsimp only at hSw); go_simp; all_goals with_reducible rfl)
        (try simp only [Act.put, List.setIfInBounds_toArray, List.set_cons_zero, List.set_cons_succ])
        refine wpAnyH_ready (rs := [15]) (by kernel_rfl) (by simp) ?_
        refine AllReadyH.cons (o := ({ dst := none, op := Op.store 86 (Operand.tmp 8) (Operand.tmp 47), type := 0, pos := "law.go:101", after := #[{ on := 14, ground := Ground.data }, { on := 12, ground := Ground.data }, { on := 10, ground := Ground.chain }, { on := 0, ground := Ground.phase }, { on := 1, ground := Ground.phase }, { on := 2, ground := Ground.phase }, { on := 3, ground := Ground.phase }, { on := 4, ground := Ground.phase }, { on := 5, ground := Ground.phase }, { on := 6, ground := Ground.phase }, { on := 7, ground := Ground.phase }, { on := 8, ground := Ground.phase }, { on := 9, ground := Ground.phase }, { on := 10, ground := Ground.phase }, { on := 11, ground := Ground.phase }, { on := 12, ground := Ground.phase }, { on := 13, ground := Ground.textOnly Departure.lateStores }, { on := 14, ground := Ground.phase }], guard := none } : Oper)) rfl (fun K hK => ?_) AllReadyH.nil
        (obtain ⟨⟨d0_, d1_, d2_, d3_⟩, e0_, e1_, e2_, e3_⟩ := res4_facts HA10.out; go_simp)
        first | refine hK.out _ _ ?_ (fun hHeld => ?_) | (go_wp2_with fail; refine hK.out _ _ ?_ (fun hHeld => ?_))
        · exact HLS.out _ (held_set4 HZ10.out (Nat.le_refl _))
        clear hK K
        (try dsimp only at hHeld)
        (try simp only [Act.put, List.setIfInBounds_toArray, List.set_cons_zero, List.set_cons_succ])
        refine wpAnyH_take (i := 16) (oi := ({ dst := some 9, op := Op.assign (Operand.tmp 48), type := 27, pos := "law.go:101", after := #[{ on := 13, ground := Ground.data }, { on := 15, ground := Ground.chain }, { on := 0, ground := Ground.phase }, { on := 1, ground := Ground.phase }, { on := 2, ground := Ground.phase }, { on := 3, ground := Ground.phase }, { on := 4, ground := Ground.phase }, { on := 5, ground := Ground.phase }, { on := 6, ground := Ground.phase }, { on := 7, ground := Ground.phase }, { on := 8, ground := Ground.phase }, { on := 9, ground := Ground.phase }, { on := 10, ground := Ground.phase }, { on := 11, ground := Ground.phase }, { on := 12, ground := Ground.phase }, { on := 13, ground := Ground.phase }, { on := 14, ground := Ground.phase }, { on := 15, ground := Ground.phase }], guard := none } : Oper)) (v := ?y3_18_v) rfl (by kernel_rfl) (by kernel_rfl) (by kernel_rfl) (fun _ _ _ h => h) (Or.inl ⟨by rfl, ?y3_18_h⟩) hHeld ?y3_18_r
        case y3_18_h => (intro w hSw; (try dsimp only at hSw); go_simp; all_goals with_reducible rfl)
        (try simp only [Act.put, List.setIfInBounds_toArray, List.set_cons_zero, List.set_cons_succ])
        refine wpAnyH_done (by kernel_rfl) ?_ _
        go_wp2_with fail
        go_meet
        exact ⟨rfl, ⟨_, m1, b1, j1, d1, m2, b2, j2, d2, rfl, res4_set HA10.out, HXX.out.stay set4_stay (noInt_one (noInt4 HA10.out)), (Nat.le_refl _)⟩, held_set4 HZ10.out (Nat.le_refl _)⟩
    case rest =>
    obtain ⟨rfl, ⟨g8, n3, a3, k3, c3, n4, a4, k4, c4, rfl, hg8, hx8, hgb⟩, hbc⟩ := hcut
    have HG8 := Lib.hid hg8
    have HX8 := Lib.hid hx8
    have HG6b := Lib.hid (blk_next HG6.out hbc)
    have HX6b := Lib.hid (HX6.out.below hbc)
    have HXB3 := Lib.hid (HXB2.out.below hbc)
    have HWB3 := Lib.hid (HWB2.out.below hbc)
    have HB3 := Lib.hid (bt HB2.out hbc)
    clear hg8 hx8 hbc HG6 HX6 HXB2 HWB2 HB2 HXB HWB HBP
    by_cases hd0 : D = 0
    · have hc : ofC D = 10 := if_pos hd0
      rw [hc]
      go_wp2
      go_roundw
      case rel => exact ⟨e + 1, k, f, L, KL, _, _, rfl, rfl, by go_num, by omega, by omega, HXB3.out, HWB3.out, HRG.out, HB3.out⟩
      case measure => simp [RowKit.intOf]; omega
    · have hc : ofC D = 0 := if_neg hd0
      rw [hc]
      have HQR := Lib.hid (ofQ_rg HN.out HD.out)
      obtain ⟨q, hq⟩ : ∃ q, ofQ N D = q := ⟨_, rfl⟩
      rw [hq] at HX8 HX6b HQR
      clear hc hd0 hq HN HD
      obtain ⟨⟨p0, p1, p2, p3⟩, _⟩ := res4_facts HG6b.out
      obtain ⟨⟨q0, q1, q2, q3⟩, _⟩ := res4_facts HG8.out
      have hxl := HXB3.out.len
      have hwl := HWB3.out.len
      go_wp2_with fail
      have HLS := Lib.hid (fun (w' : World) (hb : ∀ (g i : Nat) (u : Value), g = g6 ∨ g = g8 → wc.cell? ⟨g, i, none⟩ = some u → w'.cell? ⟨g, i, none⟩ = some u) => (⟨hb _ _ _ (.inl rfl) p0, hb _ _ _ (.inl rfl) p1, hb _ _ _ (.inl rfl) p2, hb _ _ _ (.inl rfl) p3, hb _ _ _ (.inr rfl) q0, hb _ _ _ (.inr rfl) q1, hb _ _ _ (.inr rfl) q2, hb _ _ _ (.inr rfl) q3⟩ : w'.cell? ⟨g6, 0, none⟩ = some (.bool n1) ∧ w'.cell? ⟨g6, 1, none⟩ = some (.slice a1 k1 c1) ∧ w'.cell? ⟨g6, 2, none⟩ = some (.bool n2) ∧ w'.cell? ⟨g6, 3, none⟩ = some (.slice a2 k2 c2) ∧ w'.cell? ⟨g8, 0, none⟩ = some (.bool n3) ∧ w'.cell? ⟨g8, 1, none⟩ = some (.slice a3 k3 c3) ∧ w'.cell? ⟨g8, 2, none⟩ = some (.bool n4) ∧ w'.cell? ⟨g8, 3, none⟩ = some (.slice a4 k4 c4)))
      have H6 := Lib.hid HG6b.out
      have hl6 := (Array.getElem?_eq_some_iff.1 HG6b.out).1
      have hl8 := (Array.getElem?_eq_some_iff.1 HG8.out).1
      have HNX := Lib.hid (show ∀ g, xv.ownBlock = some g → g ≠ g6 ∧ g ≠ g8 from fun g hg => by have := HXLT.out g hg; omega)
      have HNW := Lib.hid (show ∀ g, wv.ownBlock = some g → g ≠ g6 ∧ g ≠ g8 from fun g hg => by have := HWLT.out g hg; omega)
      have HK0 := Lib.hid (show ∀ (g i : Nat) (u : Value), g = g6 ∨ g = g8 → wc.cell? ⟨g, i, none⟩ = some u → wc.drew.cell? ⟨g, i, none⟩ = some u from fun g i u _ h => h)
      clear p0 p1 p2 p3 q0 q1 q2 q3
      refine wp_region_held_drew (S := fun w' => w'.cell? ⟨g6, 0, none⟩ = some (.bool n1) ∧ w'.cell? ⟨g6, 1, none⟩ = some (.slice a1 k1 c1) ∧ w'.cell? ⟨g6, 2, none⟩ = some (.bool n2) ∧ w'.cell? ⟨g6, 3, none⟩ = some (.slice a2 k2 c2) ∧ w'.cell? ⟨g8, 0, none⟩ = some (.bool n3) ∧ w'.cell? ⟨g8, 1, none⟩ = some (.slice a3 k3 c3) ∧ w'.cell? ⟨g8, 2, none⟩ = some (.bool n4) ∧ w'.cell? ⟨g8, 3, none⟩ = some (.slice a4 k4 c4)) (by kernel_rfl) ?_ (fun hHeld => ?_)
      · exact HLS.out _ HK0.out
      (try dsimp only at hHeld)
      refine wpAnyH_take (i := 0) (oi := ({ dst := some 54, op := Op.move (Operand.tmp 3), type := 26, pos := "law.go:106", after := #[], guard := none } : Oper)) (v := ?y4_1_v) rfl (by kernel_rfl) (by kernel_rfl) (by kernel_rfl) (fun _ _ _ h => h) (Or.inl ⟨by rfl, ?y4_1_h⟩) hHeld ?y4_1_r
      case y4_1_h => (intro w hSw; (try dsimp only at hSw); go_simp; all_goals with_reducible rfl)
      (try simp only [Act.put, List.setIfInBounds_toArray, List.set_cons_zero, List.set_cons_succ])
      refine wpAnyH_take (i := 1) (oi := ({ dst := some 55, op := Op.load 37 (Operand.tmp 6), type := 37, pos := "law.go:106", after := #[], guard := none } : Oper)) (v := ?y4_2_v) rfl (by kernel_rfl) (by kernel_rfl) (by kernel_rfl) (fun _ _ _ h => h) (Or.inl ⟨by rfl, ?y4_2_h⟩) hHeld ?y4_2_r
      case y4_2_h => (intro w hSw; (try dsimp only at hSw); go_simp; all_goals with_reducible rfl)
      (try simp only [Act.put, List.setIfInBounds_toArray, List.set_cons_zero, List.set_cons_succ])
      refine wpAnyH_take (i := 4) (oi := ({ dst := some 58, op := Op.move (Operand.tmp 4), type := 76, pos := "law.go:106", after := #[], guard := none } : Oper)) (v := ?y4_3_v) rfl (by kernel_rfl) (by kernel_rfl) (by kernel_rfl) (fun _ _ _ h => h) (Or.inl ⟨by rfl, ?y4_3_h⟩) hHeld ?y4_3_r
      case y4_3_h => (intro w hSw; (try dsimp only at hSw); go_simp; all_goals with_reducible rfl)
      (try simp only [Act.put, List.setIfInBounds_toArray, List.set_cons_zero, List.set_cons_succ])
      refine wpAnyH_take (i := 6) (oi := ({ dst := some 60, op := Op.load 86 (Operand.tmp 8), type := 86, pos := "law.go:106", after := #[], guard := none } : Oper)) (v := ?y4_4_v) rfl (by kernel_rfl) (by kernel_rfl) (by kernel_rfl) (fun _ _ _ h => h) (Or.inl ⟨by rfl, ?y4_4_h⟩) hHeld ?y4_4_r
      case y4_4_h => (intro w hSw; (try dsimp only at hSw); go_simp; all_goals with_reducible rfl)
      (try simp only [Act.put, List.setIfInBounds_toArray, List.set_cons_zero, List.set_cons_succ])
      refine wpAnyH_ready (rs := [2]) (by kernel_rfl) (by simp) ?_
      refine AllReadyH.cons (o := ({ dst := some 56, op := Op.buildSlice 26 1 #[(0, Operand.tmp 55)], type := 26, pos := "law.go:106", after := #[{ on := 1, ground := Ground.data }], guard := none } : Oper)) rfl (fun K hK => ?_) AllReadyH.nil
      go_simp
      (obtain ⟨u2, hW, hs, hb, hx⟩ := alloc1_d wc (.cells #[.bool n1, .slice a1 k1 c1, .bool n2, .slice a2 k2 c2] 37); rw [← hW]; have HK2 := Lib.hid (show ∀ (g i : Nat) (u : Value), g = g6 ∨ g = g8 → wc.cell? ⟨g, i, none⟩ = some u → u2.cell? ⟨g, i, none⟩ = some u from fun g i u hg h => keepc hb h); have HA2 := Lib.hid hx; have HXB4 := Lib.hid (HXB3.out.below hb); have HWB4 := Lib.hid (HWB3.out.below hb); have HX64 := Lib.hid (show RatN u2 ⟨n1, a1, k1, c1, n2, a2, k2, c2⟩ q from RatR.below HX6b.out hb); have HX84 := Lib.hid (HX8.out.below hb); have HB4 := Lib.hid (bt HB3.out hb); have hz4 := HB4.out.size; have hy4 := hb.size; clear hW hs hb hx)
      first | refine hK.out _ _ ?_ (fun hHeld => ?_) | (go_wp2_with fail; refine hK.out _ _ ?_ (fun hHeld => ?_))
      · exact HLS.out _ HK2.out
      clear hK K
      (try dsimp only at hHeld)
      (try simp only [Act.put, List.setIfInBounds_toArray, List.set_cons_zero, List.set_cons_succ])
      refine wpAnyH_ready (rs := [3]) (by kernel_rfl) (by simp) ?_
      refine AllReadyH.cons (o := ({ dst := some 57, op := Op.call { callee := Callee.builtin Builtin.append, args := #[Operand.tmp 54, Operand.tmp 56], argTypes := #[26, 26] }, type := 26, pos := "law.go:106", after := #[{ on := 0, ground := Ground.data }, { on := 2, ground := Ground.data }], guard := none } : Oper)) rfl (fun K hK => ?_) AllReadyH.nil
      (refine step_append_good (G := notInt) _ rfl (.tmp 54) (.tmp 56) 26 rfl w.heap.size 37 ti2 (.agg #[.bool false, .slice none 0 0, .bool false, .slice none 0 0]) 4 64 Tryz.underlying26 hi2 hz20 hz21 hz22 rfl (by decide) xv L.length (flat L) rfl HXB4.out.own.good ⟨wc.heap.size, 0, none⟩ 1 1 (flat [⟨n1, a1, k1, c1, n2, a2, k2, c2⟩]) rfl rfl (row_cells (x := ⟨n1, a1, k1, c1, n2, a2, k2, c2⟩) HA2.out) (fun u hu => (flat_one u hu).1) (by unfold maxLen; omega) (by omega) hz4 (fun u hu => (flat_one u hu).2) zero_notInt ?_; intro v3 u3 ho hg _; have HXB5 := Lib.hid (BuildN.snoc (f := fun i => if i = k then q else f i) (HXB4.out.cong (fun i hi => (if_neg (by omega)).symm)) ho.noInts hg (show RatN u2 _ (if k = k then q else f k) from by rw [if_pos rfl]; exact HX64.out)); have HWB5 := Lib.hid (rBuildN.side HWB4.out hg (own_apart HWB4.out.own.own HXB4.out.own.own (by decide)) HXB4.out.own.free); have HX85 := Lib.hid (RRatR.grown HX84.out hg HXB4.out.own.free); have HK3 := Lib.hid (show ∀ (g i : Nat) (u : Value), g = g6 ∨ g = g8 → wc.cell? ⟨g, i, none⟩ = some u → u3.cell? ⟨g, i, none⟩ = some u from fun g i u hg_ h => hg.cell (HK2.out g i u hg_ h) (fun e => by have := HNX.out g e.symm; omega)); have HB5 := Lib.hid (grown_below HB4.out HXB4.out.own.own hg (Nat.le_refl _) hz4); clear ho hg)
      first | refine hK.out _ _ ?_ (fun hHeld => ?_) | (go_wp2_with fail; refine hK.out _ _ ?_ (fun hHeld => ?_))
      · exact HLS.out _ HK3.out
      clear hK K
      (try dsimp only at hHeld)
      (try simp only [Act.put, List.setIfInBounds_toArray, List.set_cons_zero, List.set_cons_succ])
      refine wpAnyH_ready (rs := [5]) (by kernel_rfl) (by simp) ?_
      refine AllReadyH.cons (o := ({ dst := some 59, op := Op.call { callee := Callee.value (Operand.func 55), args := #[Operand.const (Value.int IntKind.i64 1)], argTypes := #[3] }, type := 86, pos := "law.go:106", after := #[{ on := 3, ground := Ground.chain }], guard := none } : Oper)) rfl (fun K hK => ?_) AllReadyH.nil
      go_simp
      (go_at_call 55; (with_reducible refine ((rint_any (n := 1) (by decide) (by decide)).mono fun _ _ h => h.plain).mono ?_); rintro en u5 ⟨m1, b1, j1, d1, m2, b2, j2, d2, rfl, hx, hb⟩; have HI5 := Lib.hid (rnum1 _ hx); have HK5 := Lib.hid (show ∀ (g i : Nat) (u : Value), g = g6 ∨ g = g8 → wc.cell? ⟨g, i, none⟩ = some u → u5.cell? ⟨g, i, none⟩ = some u from fun g i u hg h => keepc hb (HK3.out g i u hg h)); have HXB6 := Lib.hid (HXB5.out.below hb); have HWB6 := Lib.hid (HWB5.out.below hb); have HX86 := Lib.hid (HX85.out.below hb); have HB6 := Lib.hid (bt HB5.out hb); clear hx hb)
      first | refine hK.out _ _ ?_ (fun hHeld => ?_) | (go_wp2_with fail; refine hK.out _ _ ?_ (fun hHeld => ?_))
      · exact HLS.out _ HK5.out
      clear hK K
      (try dsimp only at hHeld)
      (try simp only [Act.put, List.setIfInBounds_toArray, List.set_cons_zero, List.set_cons_succ])
      refine wpAnyH_ready (rs := [7]) (by kernel_rfl) (by simp) ?_
      refine AllReadyH.cons (o := ({ dst := some 61, op := Op.call { callee := Callee.value (Operand.func 54), args := #[Operand.tmp 59, Operand.tmp 60], argTypes := #[86, 86] }, type := 86, pos := "law.go:106", after := #[{ on := 5, ground := Ground.data }, { on := 6, ground := Ground.data }, { on := 5, ground := Ground.chain }], guard := none } : Oper)) rfl (fun K hK => ?_) AllReadyH.nil
      go_simp
      (go_at_call 54; (with_reducible refine ((rratsub_any (N := 20) HI5.out HX86.out (rg_unitR (by omega)) HQR.out (by omega)).mono fun _ _ h => h.plain).mono ?_); rintro en u7 ⟨t1, t2, t3, t4, t5, t6, t7, t8, rfl, hx, hb⟩; have HI7 := Lib.hid (show rRatN u7 ⟨t1, t2, t3, t4, t5, t6, t7, t8⟩ (1 - q) from hx); have HK7 := Lib.hid (show ∀ (g i : Nat) (u : Value), g = g6 ∨ g = g8 → wc.cell? ⟨g, i, none⟩ = some u → u7.cell? ⟨g, i, none⟩ = some u from fun g i u hg h => keepc hb (HK5.out g i u hg h)); have HXB7 := Lib.hid (HXB6.out.below hb); have HWB7 := Lib.hid (HWB6.out.below hb); have HB7 := Lib.hid (bt HB6.out hb); clear hx hb)
      first | refine hK.out _ _ ?_ (fun hHeld => ?_) | (go_wp2_with fail; refine hK.out _ _ ?_ (fun hHeld => ?_))
      · exact HLS.out _ HK7.out
      clear hK K
      (try dsimp only at hHeld)
      (try simp only [Act.put, List.setIfInBounds_toArray, List.set_cons_zero, List.set_cons_succ])
      refine wpAnyH_ready (rs := [8]) (by kernel_rfl) (by simp) ?_
      refine AllReadyH.cons (o := ({ dst := some 62, op := Op.buildSlice 76 1 #[(0, Operand.tmp 61)], type := 76, pos := "law.go:106", after := #[{ on := 7, ground := Ground.data }], guard := none } : Oper)) rfl (fun K hK => ?_) AllReadyH.nil
      go_simp
      (obtain ⟨u8, hW, hs, hb, hx⟩ := alloc1 u7 (.cells #[.bool t1, .slice t2 t3 t4, .bool t5, .slice t6 t7 t8] 86); rw [← hW]; have HK8 := Lib.hid (show ∀ (g i : Nat) (u : Value), g = g6 ∨ g = g8 → wc.cell? ⟨g, i, none⟩ = some u → u8.cell? ⟨g, i, none⟩ = some u from fun g i u hg h => keepc hb (HK7.out g i u hg h)); have HA8 := Lib.hid hx; have HXB8 := Lib.hid (HXB7.out.below hb); have HWB8 := Lib.hid (HWB7.out.below hb); have HI8 := Lib.hid (show rRatN u8 ⟨t1, t2, t3, t4, t5, t6, t7, t8⟩ (1 - q) from RRatR.below HI7.out hb); have HB8 := Lib.hid (bt HB7.out hb); have hz8 := HB8.out.size; clear hW hs hb hx)
      first | refine hK.out _ _ ?_ (fun hHeld => ?_) | (go_wp2_with fail; refine hK.out _ _ ?_ (fun hHeld => ?_))
      · exact HLS.out _ HK8.out
      clear hK K
      (try dsimp only at hHeld)
      (try simp only [Act.put, List.setIfInBounds_toArray, List.set_cons_zero, List.set_cons_succ])
      refine wpAnyH_ready (rs := [9]) (by kernel_rfl) (by simp) ?_
      refine AllReadyH.cons (o := ({ dst := some 63, op := Op.call { callee := Callee.builtin Builtin.append, args := #[Operand.tmp 58, Operand.tmp 62], argTypes := #[76, 76] }, type := 76, pos := "law.go:106", after := #[{ on := 4, ground := Ground.data }, { on := 8, ground := Ground.data }, { on := 7, ground := Ground.chain }], guard := none } : Oper)) rfl (fun K hK => ?_) AllReadyH.nil
      (refine step_append_good (G := notInt) _ rfl (.tmp 58) (.tmp 62) 76 rfl w.heap.size 86 ti3 (.agg #[.bool false, .slice none 0 0, .bool false, .slice none 0 0]) 4 64 Tryz.underlying76 hi3 hz30 hz31 hz32 rfl (by decide) wv KL.length (flat KL) rfl HWB8.out.own.good ⟨u7.heap.size, 0, none⟩ 1 1 (flat [⟨t1, t2, t3, t4, t5, t6, t7, t8⟩]) rfl rfl (row_cells (x := ⟨t1, t2, t3, t4, t5, t6, t7, t8⟩) HA8.out) (fun u hu => (flat_one u hu).1) (by unfold maxLen; omega) (by omega) hz8 (fun u hu => (flat_one u hu).2) zero_notInt ?_; intro v9 u9 ho hg _; have HWB9 := Lib.hid (rBuildN.snoc (f := fun i => 1 - (if i = k then q else f i)) (rBuildN.cong HWB8.out (fun i hi => by rw [if_neg (show ¬ i = k by omega)])) ho.noInts hg (show rRatN u8 _ (1 - (if k = k then q else f k)) from by rw [if_pos rfl]; exact HI8.out)); have HXB9 := Lib.hid (BuildN.side HXB8.out hg (own_apart HXB8.out.own.own HWB8.out.own.own (by decide)) HWB8.out.own.free); have HK9 := Lib.hid (show ∀ (g i : Nat) (u : Value), g = g6 ∨ g = g8 → wc.cell? ⟨g, i, none⟩ = some u → u9.cell? ⟨g, i, none⟩ = some u from fun g i u hg_ h => hg.cell (HK8.out g i u hg_ h) (fun e => by have := HNW.out g e.symm; omega)); have HB9 := Lib.hid (grown_below HB8.out HWB8.out.own.own hg (Nat.le_refl _) hz8); clear ho hg)
      first | refine hK.out _ _ ?_ (fun hHeld => ?_) | (go_wp2_with fail; refine hK.out _ _ ?_ (fun hHeld => ?_))
      · exact HLS.out _ HK9.out
      clear hK K
      (try dsimp only at hHeld)
      (try simp only [Act.put, List.setIfInBounds_toArray, List.set_cons_zero, List.set_cons_succ])
      refine wpAnyH_take (i := 10) (oi := ({ dst := some 3, op := Op.assign (Operand.tmp 57), type := 26, pos := "law.go:106", after := #[{ on := 3, ground := Ground.data }, { on := 9, ground := Ground.chain }, { on := 0, ground := Ground.phase }, { on := 1, ground := Ground.phase }, { on := 2, ground := Ground.phase }, { on := 3, ground := Ground.phase }, { on := 4, ground := Ground.textOnly Departure.lateStores }, { on := 5, ground := Ground.textOnly Departure.lateStoresUnsure }, { on := 6, ground := Ground.textOnly Departure.lateStores }, { on := 7, ground := Ground.textOnly Departure.lateStoresUnsure }, { on := 8, ground := Ground.textOnly Departure.lateStores }, { on := 9, ground := Ground.textOnly Departure.lateStoresUnsure }], guard := none } : Oper)) (v := ?y4_5_v) rfl (by kernel_rfl) (by kernel_rfl) (by kernel_rfl) (fun _ _ _ h => h) (Or.inl ⟨by rfl, ?y4_5_h⟩) hHeld ?y4_5_r
      case y4_5_h => (intro w hSw; (try dsimp only at hSw); go_simp; all_goals with_reducible rfl)
      (try simp only [Act.put, List.setIfInBounds_toArray, List.set_cons_zero, List.set_cons_succ])
      refine wpAnyH_take (i := 11) (oi := ({ dst := some 4, op := Op.assign (Operand.tmp 63), type := 76, pos := "law.go:106", after := #[{ on := 9, ground := Ground.data }, { on := 10, ground := Ground.chain }, { on := 0, ground := Ground.phase }, { on := 1, ground := Ground.phase }, { on := 2, ground := Ground.phase }, { on := 3, ground := Ground.phase }, { on := 4, ground := Ground.phase }, { on := 5, ground := Ground.phase }, { on := 6, ground := Ground.phase }, { on := 7, ground := Ground.phase }, { on := 8, ground := Ground.phase }, { on := 9, ground := Ground.phase }, { on := 10, ground := Ground.phase }], guard := none } : Oper)) (v := ?y4_6_v) rfl (by kernel_rfl) (by kernel_rfl) (by kernel_rfl) (fun _ _ _ h => h) (Or.inl ⟨by rfl, ?y4_6_h⟩) hHeld ?y4_6_r
      case y4_6_h => (intro w hSw; (try dsimp only at hSw); go_simp; all_goals with_reducible rfl)
      (try simp only [Act.put, List.setIfInBounds_toArray, List.set_cons_zero, List.set_cons_succ])
      refine wpAnyH_done (by kernel_rfl) ?_ _
      go_wp2
      go_roundw
      case rel => exact ⟨e + 1, k + 1, _, _, _, _, _, rfl, rfl, by go_num, by omega, by omega, HXB9.out, HWB9.out, fun i hi => by
        by_cases y : i = k
        · rw [if_pos y]; exact HQR.out
        · rw [if_neg y]; exact HRG.out i (by omega), HB9.out⟩
      case measure => (simp [RowKit.intOf]; omega)
end Go.Proofs.YteionhenpehogaaGreatDoor
