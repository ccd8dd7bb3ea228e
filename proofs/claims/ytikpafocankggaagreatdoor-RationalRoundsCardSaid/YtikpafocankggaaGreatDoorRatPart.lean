/- The program's coprime, and a part of the text of a number. -/
import Derived.Test.YtikpafocankggaaGreatDoorLong
namespace Go.Proofs.YtikpafocankggaaGreatDoor
open Go.RowKit Tally Go.Lib
theorem lval_dg {N : Nat} {l : List UInt8} (h : ∀ c ∈ bodyOf l, isDigit c) (hl : l.length ≤ N) : Dg N (lval l) := by
 have h1 := body_length l
 have h2 := all_dg h (N := N) (by omega)
 unfold lval
 split
 ·exact h2.neg
 ·exact h2
theorem bool_noInt {w : World} {g : Nat} {b : Bool} {T : TypeId} (h : w.heap[g]? = some (.cells #[.bool b] T (0, 0))) : NoInt w g := by
 intro o K x e
 rw [Lib.cell_of_heap h] at e
 match o, e with
 | 0, e => simp at e
 | j + 1, e => simp at e
set_option maxHeartbeats 2000000 in
set_option maxRecDepth 100000 in
theorem coprime_any {w : World} (s t : ByteArray) (hs : s.size ≤ 5000) (ht : t.size ≤ 5000) (hd : ∀ c ∈ bodyOf s.data.toList, isDigit c) (he : ∀ c ∈ bodyOf t.data.toList, isDigit c) :
  Calls Tryz.prog 56 #[.string s, .string t] w (fun e w' => e = .returned (.bool (decide ((lval s.data.toList).gcd (lval t.data.toList) = 1))) ∧ Below w.heap.size w w') := by
 have D1 := lval_dg (N := 5000) hd (by rw [bs_len]; exact hs)
 have D2 := lval_dg (N := 5000) he (by rw [bs_len]; exact ht)
 have d1 := hd
 have d2 := he
 have HD1 := hid hd
 have HD2 := hid he
 clear hd he d1 d2
 obtain ⟨x, hx⟩ : ∃ x, (lval s.data.toList).gcd (lval t.data.toList) = x := ⟨_, rfl⟩
 rw [hx]
 have HX := hid hx
 clear hx
 go_enter Tryz.func56, Tryz.ntmps56
 go_wp2_with fail
 have HBI := hid (Below.refl w.heap.size w)
 have HB := hid HBI.out
 clear HBI
 (with_reducible refine (long_any s hs HD1.out).mono ?_)
 rintro e w1 ⟨n_1, a_1, k_1, c_1, rfl, hu_1, hb⟩
 replace HB := hid (bt HB.out hb)
 have HA := hid hu_1
 clear hu_1
 clear hb
 go_wp2_with fail
 (with_reducible refine (long_any t ht HD2.out).mono ?_)
 rintro e w2 ⟨n_2, a_2, k_2, c_2, rfl, hu_2, hb⟩
 replace HB := hid (bt HB.out hb)
 replace HA := hid (HA.out.below hb)
 have HB1 := hid hu_2
 clear hu_2
 clear hb
 go_wp2_with fail
 (with_reducible refine (gcd_any HA.out HB1.out D1 D2 (by omega)).mono ?_)
 rintro e w3 ⟨n_3, a_3, k_3, c_3, rfl, hu_3, hb⟩
 replace HB := hid (bt HB.out hb)
 replace HA := hid (HA.out.below hb)
 replace HB1 := hid (HB1.out.below hb)
 have HG := hid hu_3
 clear hu_3
 clear hb
 replace HG := hid (HG.out.as (show _ = ((x : Nat) : Int) from congrArg (fun n : Nat => (n : Int)) HX.out))
 go_wp2_with fail
 (with_reducible refine (of_any (n := 1) (by decide) (by decide)).mono ?_)
 rintro e w4 ⟨n_4, a_4, k_4, c_4, rfl, hu_4, hb⟩
 replace HB := hid (bt HB.out hb)
 replace HA := hid (HA.out.below hb)
 replace HB1 := hid (HB1.out.below hb)
 replace HG := hid (HG.out.below hb)
 have HONE := hid hu_4
 clear hu_4
 clear hb
 go_wp2_with fail
 (with_reducible refine (cmp_any HG.out HONE.out).mono ?_)
 rintro e w5 ⟨rfl, hb⟩
 replace HB := hid (bt HB.out hb)
 replace HA := hid (HA.out.below hb)
 replace HB1 := hid (HB1.out.below hb)
 replace HG := hid (HG.out.below hb)
 replace HONE := hid (HONE.out.below hb)
 clear hb
 by_cases hx1 : x = 1
 ·subst hx1
  rw [show ((1 : Nat) : Int) - 1 = 0 from rfl, show Int.sign 0 = 0 from rfl]
  go_wp2
  go_ret
  exact ⟨rfl, HB.out⟩
 ·obtain ⟨sg, hsg⟩ : ∃ sg, ((x : Int) - 1).sign = sg := ⟨_, rfl⟩
  have hsg0 : (sg == 0) = false := by
     rw [beq_eq_false_iff_ne, ← hsg]
     intro e
     have := Int.sign_eq_zero_iff_zero.1 e
     omega
  rw [hsg]
  have hdf := decide_eq_false hx1
  clear hsg hx1
  go_wp2
  go_ret
  exact ⟨by rw [hdf]; rfl, HB.out⟩
def GivesPart (w : World) (s : ByteArray) (g : Nat) (b : Bool) (e : Ending) (w' : World) : Prop :=
 ∃ (n : Bool) (a : Option Addr) (k c : Nat), e = .returned (.tuple #[.agg #[.bool n, .slice a k c], .bool (decide (pcode s.data.toList ≠ 3))]) ∧
  IntR w' (.agg #[.bool n, .slice a k c]) (pval s.data.toList) ∧ Stay g (g + 1) w w' ∧ w'.heap[g]? = some (.cells #[.bool (b || decide (pcode s.data.toList = 6))] 4 (0, 0))
theorem Stay.set_new {lo hi g k : Nat} {a w : World} (h : Stay lo hi a w) (hg : a.heap.size ≤ g) (v : Value) : Stay lo hi a (w.setCell ⟨g, k, none⟩ v) :=
 have b := Below.setCell (B := g) (Below.refl g w) (p := ⟨g, k, none⟩) (Nat.le_refl _) v
 ⟨b.os.trans h.os, b.tape.trans h.tape, b.output.trans h.output, Nat.le_trans h.size b.size, fun i hi hn => by rw [Below.heap_setCell _ _ _ _ (show i ≠ g by omega)]; exact h.block i hi hn⟩
theorem Stay.alloc {lo hi : Nat} {a w : World} (h : Stay lo hi a w) (o : Obj) : Stay lo hi a (w.alloc o) := h.next (allocs_below1 w o)
theorem part_end {w w2 : World} {g : Nat} {b x : Bool} {n : Bool} {a : Option Addr} {k cp : Nat} {z : Int} (hu : IntR w2 (.agg #[.bool n, .slice a k cp]) z) (hb : Below w.heap.size w w2)
  (hR : w2.heap[w.heap.size]? = some (.cells #[.bool false, .slice none 0 0] 25 (0, 0))) (hg : w2.heap[g]? = some (.cells #[.bool b] 4 (0, 0))) (hlt : g < w.heap.size) (o : Obj) :
  ((((w2.setCell ⟨g, 0, none⟩ (.bool x)).setCell ⟨w.heap.size, 0, none⟩ (.bool n)).setCell ⟨w.heap.size, 1, none⟩ (.slice a k cp)).alloc o).heap[w.heap.size]? = some (.cells #[.bool n, .slice a k cp] 25 (0, 0)) ∧
  IntR ((((w2.setCell ⟨g, 0, none⟩ (.bool x)).setCell ⟨w.heap.size, 0, none⟩ (.bool n)).setCell ⟨w.heap.size, 1, none⟩ (.slice a k cp)).alloc o) (.agg #[.bool n, .slice a k cp]) z ∧
  Stay g (g + 1) w ((((w2.setCell ⟨g, 0, none⟩ (.bool x)).setCell ⟨w.heap.size, 0, none⟩ (.bool n)).setCell ⟨w.heap.size, 1, none⟩ (.slice a k cp)).alloc o) ∧
  ((((w2.setCell ⟨g, 0, none⟩ (.bool x)).setCell ⟨w.heap.size, 0, none⟩ (.bool n)).setCell ⟨w.heap.size, 1, none⟩ (.slice a k cp)).alloc o).heap[g]? = some (.cells #[.bool x] 4 (0, 0)) := by
 have l2 : w.heap.size < w2.heap.size := (Array.getElem?_eq_some_iff.1 hR).1
 have s1 : Stay g (g + 1) w2 (w2.setCell ⟨g, 0, none⟩ (.bool x)) := (Stay.refl _ _ _).setCell (Nat.le_refl _) (Nat.lt_succ_self _) 0 _
 have n1 := noInt_one (bool_noInt hg)
 have r1 := (s1.block w.heap.size l2 (by omega)).trans hR
 have g1 : (w2.setCell ⟨g, 0, none⟩ (.bool x)).heap[g]? = some (.cells #[.bool x] 4 (0, 0)) := Joins.block_setCell hg (.bool x)
 have u1 := hu.stay s1 n1
 have t1 : Stay g (g + 1) w (w2.setCell ⟨g, 0, none⟩ (.bool x)) := ((Stay.refl _ _ _).next hb).setCell (Nat.le_refl _) (Nat.lt_succ_self _) 0 _
 generalize w2.setCell ⟨g, 0, none⟩ (.bool x) = V1 at *
 have s2 : Stay w.heap.size (w.heap.size + 1) V1 ((V1.setCell ⟨w.heap.size, 0, none⟩ (.bool n)).setCell ⟨w.heap.size, 1, none⟩ (.slice a k cp)) := set2_stay
 have n2 := noInt_one (noInt2 r1)
 have r2 := res_set (x' := .bool n) (y' := .slice a k cp) r1
 have g2 := (s2.block g (Array.getElem?_eq_some_iff.1 g1).1 (by omega)).trans g1
 have hal := allocs_below1 ((V1.setCell ⟨w.heap.size, 0, none⟩ (.bool n)).setCell ⟨w.heap.size, 1, none⟩ (.slice a k cp)) o
 exact ⟨blk_next r2 hal, (u1.stay s2 n2).below hal, ((t1.set_new (Nat.le_refl _) _).set_new (Nat.le_refl _) _).next hal, blk_next g2 hal⟩
set_option maxHeartbeats 2000000 in
set_option maxRecDepth 100000 in
theorem part_any {w : World} (s : ByteArray) (g : Nat) (b : Bool) (hs : s.size ≤ 9223372036854775807) (hg : w.heap[g]? = some (.cells #[.bool b] 4 (0, 0))) :
  Calls Tryz.prog 53 #[.string s, .pointer (some ⟨g, 0, none⟩)] w (GivesPart w s g b) := by
 obtain ⟨c, hc⟩ : ∃ c, pcode s.data.toList = c := ⟨_, rfl⟩
 have h3 := pcode_three s.data.toList
 have HC := hid hc
 rw [hc] at h3
 clear hc
 have hlt : g < w.heap.size := (Array.getElem?_eq_some_iff.1 hg).1
 have HG := hid hg
 clear hg
 go_enter Tryz.func53, Tryz.ntmps53
 go_wp2_with fail
 obtain ⟨W1, hW, hs1, hb, b0⟩ := alloc1 w (.cells #[.bool false, .slice none 0 0] 25)
 rw [← hW]
 have HB := hid hb
 have BR := hid b0
 replace HG := hid (blk_next HG.out hb)
 clear hW hs1 hb b0
 (with_reducible refine (parse_any s hs).mono ?_)
 rintro e w2 ⟨n, a, k, cp, rfl, hu, hb⟩
 have HU := hid hu
 replace HB := hid (bt HB.out hb)
 replace BR := hid (blk_next BR.out hb)
 replace HG := hid (blk_next HG.out hb)
 clear hu hb
 rw [HC.out]
 have lt1 : g < w2.heap.size := (Array.getElem?_eq_some_iff.1 HG.out).1
 have lt2 : w.heap.size < w2.heap.size := (Array.getElem?_eq_some_iff.1 BR.out).1
 have hgc : w2.cell? ⟨g, 0, none⟩ = some (.bool b) := by rw [Lib.cell_of_heap HG.out]; rfl
 have hgf : w2.frozen? ⟨g, 0, none⟩ = false := Lib.frozen_of_heap HG.out 0
 obtain ⟨c0, c1, f0, f1⟩ := res_facts BR.out
 have hne : w.heap.size ≠ g := by omega
 have hne2 : g ≠ w.heap.size := by omega
 rcases h3 with rfl | rfl | rfl
 all_goals cases b
 all_goals
  go_wp2
  try simp only [Exit.inBlock, Exit.then]
  have FF := fun (x : Bool) o => part_end (x := x) HU.out HB.out BR.out HG.out hlt o
  refine bodyPost_ret (results_cell_slot rfl _ _ w.heap.size 25 _ (0, 0) _ (.bool _) rfl rfl (FF _ _).1 Tryz.underlying25 rfl (by kernel_rfl)) rfl ?_
  exact ⟨n, a, k, cp, by rw [HC.out]; rfl, (FF _ _).2.1, (FF _ _).2.2.1, by rw [HC.out]; exact (FF _ _).2.2.2⟩
end Go.Proofs.YtikpafocankggaaGreatDoor
