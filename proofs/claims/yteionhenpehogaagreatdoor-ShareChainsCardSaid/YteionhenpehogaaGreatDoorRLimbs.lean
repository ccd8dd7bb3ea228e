import Derived.Test.YteionhenpehogaaGreatDoorLimbs
import Derived.Test.YteionhenpehogaaGreatDoorInts
import Derived.Lib.Builder
import Derived.Lib.SmallJoins
import Derived.IntWalk
namespace Go.Proofs.YteionhenpehogaaGreatDoor
open Go.RowKit Tally
theorem QR.take {w : World} {a : Option Addr} {b o c : Nat} {l : List Nat} {k : Nat} (hk : k ≤ l.length) (hlc : l.length ≤ c) (hm : c ≤ 9223372036854775807)
  (hs : 0 < k → a = some ⟨b, o, none⟩) (hr : ∀ i, i < l.length → w.cell? ⟨b, o + i, none⟩ = some (.int .i64 (l.getD i 0 : Nat))) : QR w (.slice a k c) (l.take k) := by
 have hlen : (l.take k).length = k := by rw [List.length_take]; omega
 refine ⟨a, b, o, c, by rw [hlen], by omega, hm, fun h => hs (by omega), fun i hi => ?_⟩
 rw [hr i (by omega)]
 have : (l.take k).getD i 0 = l.getD i 0 := by
  simp [List.getD, show i < k by omega]
 show some (Value.int .i64 (l.getD i 0 : Nat)) = some (Value.int .i64 ((l.take k).getD i 0 : Nat))
 rw [this]
theorem QR.cut {w : World} {a : Option Addr} {n c k : Nat} {l : List Nat} (h : QR w (.slice a n c) l) (hk : k ≤ l.length) : QR w (.slice a k c) (l.take k) := by
 obtain ⟨a', b, o, c', hv, h1, h2, h3, h4⟩ := h
 injection hv with e1 e2 e3
 subst e1 e2 e3
 exact QR.take hk h1 h2 (fun h => h3 (by omega)) h4
set_option maxHeartbeats 800000 in
theorem rtrim_any {w : World} {v : Value} {l : List Nat} (h : QR w v l) :
  Calls Tryz.prog 165 #[v] w fun e w' => ∃ u, e = .returned u ∧ (∀ w0, QR w0 v l → QR w0 u (trimZ l)) ∧ Below w.heap.size w w' := by
 obtain ⟨a, b, o, c, rfl, hlc, hm, hs, hr⟩ := h
 have hz : trimZ l = trimZ (l.take l.length) := by rw [List.take_length]
 generalize hn : l.length = n at *
 replace hz := Lib.hid hz
 go_enter Tryz.func165, Tryz.ntmps165
 go_wp2
 go_loopw [0] (fun i wr => ∃ k : Nat, k ≤ n ∧ i = .slice a k c ∧ trimZ (l.take k) = trimZ l ∧ Below w.heap.size w wr) (fun i _ => match i with | .slice _ k _ => k | _ => 0)
 case atStart => exact ⟨n, Nat.le_refl _, rfl, Eq.symm hz, Below.refl _ _⟩
 case round =>
  obtain ⟨k, hk, rfl, ht, hb⟩ := hrel
  by_cases hk0 : k = 0
  ·subst hk0
   go_wp2
   go_ret
   refine ⟨_, rfl, fun w0 q0 => ?_, hb⟩
   rw [← ht]
   exact q0.cut (by omega)
  ·obtain ⟨k, rfl⟩ : ∃ j, k = j + 1 := ⟨k - 1, by omega⟩
   obtain rfl := hs (by omega)
   have t1 : wr.cell? ⟨b, o + k, none⟩ = some (.int .i64 (l.getD k 0 : Nat)) := by rw [hb.cell (p := ⟨b, o + k, none⟩) (World.block_lt_of_cell? _ _ (hr k (by omega)))]; exact hr k (by omega)
   have hkz : (0 : Int) < ((k + 1 : Nat) : Int) := by omega
   have hi0 : ((k + 1 : Nat) : Int) - 1 = (k : Int) := by omega
   obtain ⟨x, hx⟩ : ∃ x, l.getD k 0 = x := ⟨_, rfl⟩
   rw [hx] at t1
   have go : ∀ i, i < l.length → wr.cell? ⟨b, o + i, none⟩ = some (.int .i64 (l.getD i 0 : Nat)) := fun i hi => by
    rw [hb.cell (p := ⟨b, o + i, none⟩) (World.block_lt_of_cell? _ _ (hr i (by omega)))]; exact hr i (by omega)
   replace go := Lib.hid go
   clear hr
   by_cases h0 : x = 0
   ·subst h0
    replace t1 : wr.cell? ⟨b, o + k, none⟩ = some (.int .i64 0) := t1
    replace hx := Lib.hid hx
    go_wp2
    refine ⟨⟨k, by omega, by first | rfl | go_num, by rw [← ht, take_step (by omega) hx], hb⟩, ?_⟩
    simp
   ·have hx0 : ((x : Int) == 0) = false := by simp; omega
    replace hx := Lib.hid hx
    go_wp2
    go_ret
    refine ⟨_, rfl, fun w0 q0 => ?_, hb⟩
    rw [← ht, take_stop (by omega) (by rw [hx]; exact h0)]
    exact q0.cut (by omega)
end Go.Proofs.YteionhenpehogaaGreatDoor
namespace Go.Proofs.YteionhenpehogaaGreatDoor
open Go.RowKit Tally
theorem refR_of {w : World} {neg : Bool} {u : Value} {l : List Nat} (hl : ∀ x ∈ l, x < 10000) (hu : QR w u (trimZ l)) :
  RefR w (.agg #[.bool (neg && decide (0 < ((trimZ l).length : Int))), u]) (if neg then -(val 10000 l : Int) else val 10000 l) := by
 have hc := canon_trimZ 10000 l hl
 refine ⟨_, u, trimZ l, rfl, hu, hc, ?_, ?_⟩
 ·intro h e
  rw [e] at h
  simp at h
 ·rw [val_trimZ]
  by_cases h0 : trimZ l = []
  ·have hv : val 10000 l = 0 := by rw [← val_trimZ, h0]; rfl
   rw [h0, hv]
   simp
  ·have : (0 : Int) < ((trimZ l).length : Int) := by have := List.length_pos_iff.2 h0; omega
   rw [decide_eq_true this, Bool.and_true]
set_option maxHeartbeats 800000 in
theorem rsigned_any {w : World} {v : Value} {l : List Nat} {neg : Bool} (h : QR w v l) (hl : ∀ x ∈ l, x < 10000) :
  Calls Tryz.prog 144 #[.bool neg, v] w fun e w' => ∃ u, e = .returned u ∧ RefR w' u (if neg then -(val 10000 l : Int) else val 10000 l) ∧ Below w.heap.size w w' := by
 go_enter Tryz.func144, Tryz.ntmps144
 go_wp2_with fail
 refine (rtrim_any (h.below ?hb)).mono ?_
 case hb => exact (Below.refl _ _).alloc (Nat.le_refl _) _
 rintro e w1 ⟨u, rfl, hu, hb⟩
 replace hu := hu w h
 have hbw : Below w.heap.size w w1 := ((Below.refl _ w).alloc (Nat.le_refl _) _).trans (hb.mono (by simp))
 obtain ⟨a, b, o, c, rfl, hlc, hm, hs, hr⟩ := id hu
 replace hr := Lib.hid hr
 have hg : w1.heap[w.heap.size]? = (w.alloc (.cells #[.bool false, .slice none 0 0] 84)).heap[w.heap.size]? := hb.block _ (by simp)
 rw [heap_alloc_new] at hg
 have c0 : w1.cell? ⟨w.heap.size, 0, none⟩ = some (.bool false) := by rw [Lib.cell_of_heap hg]; rfl
 have c1 : w1.cell? ⟨w.heap.size, 1, none⟩ = some (.slice none 0 0) := by rw [Lib.cell_of_heap hg]; rfl
 have f0 : w1.frozen? ⟨w.heap.size, 0, none⟩ = false := Lib.frozen_of_heap hg 0
 have f1 : w1.frozen? ⟨w.heap.size, 1, none⟩ = false := Lib.frozen_of_heap hg 1
 have fit := refR_of (neg := neg) hl hu
 clear hu h
 generalize (trimZ l).length = n at *
 replace fit := Lib.hid fit
 have fin : ∀ x, Below w.heap.size w ((w1.setCell ⟨w.heap.size, 0, none⟩ x).setCell ⟨w.heap.size, 1, none⟩ (.slice a n c)) := fun x => (hbw.setCell (p := ⟨w.heap.size, 0, none⟩) (Nat.le_refl _) _).setCell (p := ⟨w.heap.size, 1, none⟩) (Nat.le_refl _) _
 replace fin := Lib.hid fin
 have hh : ∀ x, ((w1.setCell ⟨w.heap.size, 0, none⟩ x).setCell ⟨w.heap.size, 1, none⟩ (.slice a n c)).heap[w.heap.size]? = some (.cells #[x, .slice a n c] 84 (0, 0)) := fun x => Joins.block_setCell (Joins.block_setCell hg x) _
 replace hh := Lib.hid hh
 by_cases h0 : (0 : Int) < (n : Int)
 ·rw [decide_eq_true h0] at fit
  cases neg
  ·go_wp2
   try simp only [Exit.inBlock, Exit.then]
   refine bodyPost_ret (results_cell_row rfl _ _ w.heap.size 84 _ (0, 0) _ rfl (hh _) Tryz.underlying84 rfl (by kernel_rfl)) rfl ?_
   exact ⟨_, rfl, RefR.below fit (fin _), fin _⟩
  ·go_wp2
   try simp only [Exit.inBlock, Exit.then]
   refine bodyPost_ret (results_cell_row rfl _ _ w.heap.size 84 _ (0, 0) _ rfl (hh _) Tryz.underlying84 rfl (by kernel_rfl)) rfl ?_
   have e : decide (0 < n) = true := by simp; omega
   exact ⟨_, rfl, by rw [e]; exact RefR.below fit (fin _), fin _⟩
 ·rw [decide_eq_false h0] at fit
  cases neg
  ·go_wp2
   try simp only [Exit.inBlock, Exit.then]
   refine bodyPost_ret (results_cell_row rfl _ _ w.heap.size 84 _ (0, 0) _ rfl (hh _) Tryz.underlying84 rfl (by kernel_rfl)) rfl ?_
   exact ⟨_, rfl, RefR.below fit (fin _), fin _⟩
  ·go_wp2
   try simp only [Exit.inBlock, Exit.then]
   refine bodyPost_ret (results_cell_row rfl _ _ w.heap.size 84 _ (0, 0) _ rfl (hh _) Tryz.underlying84 rfl (by kernel_rfl)) rfl ?_
   have e : decide (0 < n) = false := by simp; omega
   exact ⟨_, rfl, by rw [e]; exact RefR.below fit (fin _), fin _⟩
end Go.Proofs.YteionhenpehogaaGreatDoor
namespace Go.Proofs.YteionhenpehogaaGreatDoor
open Go.RowKit Tally
structure RValI (w : World) (g len T P c q : Nat) (L : List Nat) : Prop where
 own : Own .i64 3 w g L
 len : L.length = len
 lim : Lim 10000 L
 sum : val 10000 L + P * c = T
 zero : ∀ p, q ≤ p → L.getD p 0 = 0
def GivesQC (w : World) (n : Nat) (e : Ending) (w' : World) : Prop :=
 ∃ u l, e = .returned u ∧ QR w' u l ∧ Canon 10000 l ∧ val 10000 l = n ∧ Below w.heap.size w w'
theorem GivesQC.plain {w w' : World} {n : Nat} {e : Ending} (h : GivesQC w n e w') : GivesQ w n e w' := by
 obtain ⟨u, l, h1, h2, h3, h4, h5⟩ := h
 exact ⟨u, l, h1, h2, h3.1, h4, h5⟩
theorem getD_set_ne {L : List Nat} {i p x : Nat} (h : i ≠ p) : (L.set i x).getD p 0 = L.getD p 0 := by
 simp [List.getD, List.getElem?_set_ne h]
section
variable {w : World} {g len T P c x y i k q : Nat} {L b : List Nat}
theorem RValI.mul (h : RValI w g len (T + 10000 ^ i * (x * val 10000 (b.take k))) (10000 ^ (i + k)) c q L) (hk : i + k < len) (hq : i + k < q) {z : Int} {o : Nat} (ho : L.getD (i + k) 0 = o) (hy : b.getD k 0 = y) (hz : z = (((x * y + o + c) % 10000 : Nat) : Int)) :
  RValI (w.setCell ⟨g, i + k, none⟩ (.int .i64 z)) g len (T + 10000 ^ i * (x * val 10000 (b.take (k + 1)))) (10000 ^ (i + (k + 1))) ((x * y + o + c) / 10000) q (L.set (i + k) ((x * y + o + c) % 10000)) := by
 subst hz ho hy
 exact ⟨h.own.set _ _, by simp [h.len], h.lim.set (Nat.mod_lt _ (by decide)) _, times_step (by rw [h.len]; exact hk) h.sum, fun p hp => by rw [getD_set_ne (by omega)]; exact h.zero p hp⟩
theorem RValI.drew (h : RValI w g len T P c q L) (n : Nat) : RValI (w.drewN n) g len T P c q L := ⟨h.own, h.len, h.lim, h.sum, h.zero⟩
theorem RValI.carry (h : RValI w g len T (10000 ^ k) c k L) (hk : k < len) (hc : c < 10000) : RValI (w.setCell ⟨g, k, none⟩ (.int .i64 (c : Nat))) g len T 0 0 (k + 1) (L.set k c) := by
 have e := val_set_getD 10000 L k c (by rw [h.len]; exact hk)
 rw [h.zero k (Nat.le_refl _)] at e
 have hs := h.sum
 exact ⟨h.own.set _ _, by simp [h.len], h.lim.set hc _, by omega, fun p hp => by rw [getD_set_ne (by omega)]; exact h.zero p (by omega)⟩
end
theorem rprod_bound {x y : Nat} (hx : x < 10000) (hy : y < 10000) : 0 ≤ (x : Int) * (y : Int) ∧ (x : Int) * (y : Int) ≤ 99980001 := by
 have h : x * y ≤ 9999 * 9999 := Nat.mul_le_mul (by omega) (by omega)
 constructor
 ·exact Int.mul_nonneg (by omega) (by omega)
 ·have := Int.natCast_mul x y
  omega
theorem rcast_mod {x y o c : Nat} : ((o : Int) + (x : Int) * (y : Int) + (c : Int)) % 10000 = (((x * y + o + c) % 10000 : Nat) : Int) := by
 have := Int.natCast_mul x y
 omega
theorem rcast_div {x y o c : Nat} : ((o : Int) + (x : Int) * (y : Int) + (c : Int)) / 10000 = (((x * y + o + c) / 10000 : Nat) : Int) := by
 have := Int.natCast_mul x y
 omega
theorem rmul_carry {x y o c : Nat} (hx : x < 10000) (hy : y < 10000) (ho : o < 10000) (hc : c < 10000) : (x * y + o + c) / 10000 < 10000 := by
 have h : x * y ≤ 9999 * 9999 := Nat.mul_le_mul (by omega) (by omega)
 omega
theorem Own.qlimbs {w : World} {g n : Nat} {l : List Nat} (h : Own .i64 3 w g l) (hn : l.length = n) (hm : n ≤ 9223372036854775807) : QR w (.slice (some ⟨g, 0, none⟩) n n) l := by
 subst hn; exact h.all rfl (Nat.le_refl _) hm
set_option maxHeartbeats 2000000 in
set_option maxRecDepth 100000 in
theorem rmul_canon {w : World} {va vb : Value} {a b : List Nat} (ha : QR w va a) (hb : QR w vb b) (la : Lim 10000 a) (lb : Lim 10000 b)
  (na : a.length ≤ 1000000000000) (nb : b.length ≤ 1000000000000) :
  Calls Tryz.prog 162 #[va, vb] w (GivesQC w (val 10000 a * val 10000 b)) := by
 obtain ⟨T, hT⟩ : ∃ T, val 10000 a * val 10000 b = T := ⟨_, rfl⟩
 rw [hT]
 obtain ⟨i0, hi, hz0, hz1, hz2⟩ := info_parts infoI
 obtain ⟨p, b1, o1, c1, rfl, l1, m1, s1, r1⟩ := ha
 obtain ⟨q, b2, o2, c2, rfl, l2, m2, s2, r2⟩ := hb
 obtain ⟨n, hn⟩ : ∃ n, a.length = n := ⟨_, rfl⟩
 obtain ⟨m, hm⟩ : ∃ m, b.length = m := ⟨_, rfl⟩
 have HN := Lib.hid hn
 have HM := Lib.hid hm
 have R1 := Lib.hid r1
 have R2 := Lib.hid r2
 have LA := Lib.hid la
 have LB := Lib.hid lb
 have HT := Lib.hid hT
 rw [hn] at l1 s1 R1 na ⊢
 rw [hm] at l2 s2 R2 nb ⊢
 clear r1 r2 hn hm hT la lb
 have hmk := fun W : World => run_make (P := Tryz.prog) (w := W) 53 3 i0 (.int .i64 0) Tryz.underlying53 hi hz0 .i64 .i64 ((n : Int) + (m : Int)) ((n : Int) + (m : Int)) (by omega) (by omega) (by rw [hz2]; omega) (by omega)
 have e1 : ((n : Int) + (m : Int)).toNat = n + m := by omega
 simp only [hz1, e1, Nat.mul_one, show (Value.int IntKind.i64 0).cells = #[Value.int IntKind.i64 0] from rfl] at hmk
 clear e1
 have hO := Lib.hid (Own.made (K := .i64) (t := 3) w (n + m))
 have hbO := Lib.hid ((Below.refl w.heap.size w).alloc (Nat.le_refl _) (.cells (madeCells #[.int .i64 0] (n + m)) 3))
 go_enter Tryz.func162, Tryz.ntmps162
 go_wp2
 clear hmk
 go_loopw [6] (fun i wr => ∃ (k : Nat) (L : List Nat), k ≤ n ∧ i = .int .i64 k ∧ RValI wr w.heap.size (n + m) (val 10000 (a.take k) * val 10000 b) 0 0 (k + m) L ∧ Below w.heap.size w wr) (fun i _ => n - (intOf i).toNat)
 case atStart => exact ⟨0, _, Nat.zero_le _, rfl, ⟨hO.out, by simp, Lim.zeros (by decide) _, by rw [val_zeros]; simp, fun p _ => by
  by_cases hp : p < n + m
  ·rw [getD_eq (by simpa using hp)]; simp
  ·exact getD_out (by simp; omega)⟩, hbO.out⟩
 case round =>
  obtain ⟨i, L, hk, rfl, hI, hbr⟩ := hrel
  obtain ⟨wo, rfl⟩ : ∃ wo : World, wo = wr := ⟨_, rfl⟩
  have HI := Lib.hid hI
  have HB := Lib.hid hbr
  clear hI hbr
  by_cases hin : i < n
  ·have hinz : (i : Int) < (n : Int) := by omega
   obtain rfl := s1 (by omega)
   have bx := LA.out.getD (by decide) i
   obtain ⟨x, hx⟩ : ∃ x, a.getD i 0 = x := ⟨_, rfl⟩
   have HX := Lib.hid hx
   rw [hx] at bx
   clear hx
   go_wp2
   go_loopw [7, 8] (fun c j wr => ∃ (k cc : Nat) (L : List Nat), k ≤ m ∧ j = .int .i64 k ∧ c = .int .i64 cc ∧ cc < 10000 ∧ RValI wr w.heap.size (n + m) (val 10000 (a.take i) * val 10000 b + 10000 ^ i * (x * val 10000 (b.take k))) (10000 ^ (i + k)) cc (i + m) L ∧ Below w.heap.size w wr) (fun _ j _ => m - (intOf j).toNat)
   case atStart => exact ⟨0, 0, L, Nat.zero_le _, rfl, rfl, by omega, ⟨HI.out.own, HI.out.len, HI.out.lim, by have := HI.out.sum; simpa using this, HI.out.zero⟩, HB.out⟩
   case round =>
    obtain ⟨k, cc, L2, hk2, rfl, rfl, hcc, hI2, hbr2⟩ := hrel
    have HI2 := Lib.hid hI2
    have HB2 := Lib.hid hbr2
    clear hI2 hbr2
    by_cases hkm : k < m
    ·have hkmz : (k : Int) < (m : Int) := by omega
     obtain rfl := s2 (by omega)
     have t1 := keepc HB2.out (R1.out i hin)
     simp only [HX.out] at t1
     have t2 := keepc HB2.out (R2.out k hkm)
     have by' := LB.out.getD (by decide) k
     have t3 := HI2.out.own.cell (i := i + k) (by rw [HI2.out.len]; omega)
     have bo := HI2.out.lim.getD (by decide) (i + k)
     have f1 := HI2.out.own.frozen (i + k)
     obtain ⟨y, hy⟩ : ∃ y, b.getD k 0 = y := ⟨_, rfl⟩
     obtain ⟨o, ho⟩ : ∃ o, L2.getD (i + k) 0 = o := ⟨_, rfl⟩
     simp only [hy] at t2 by'
     simp only [ho] at t3 bo
     have HY := Lib.hid hy
     have HOO := Lib.hid ho
     clear hy ho
     obtain ⟨pb0, pb1⟩ := rprod_bound bx by'
     have mc := rmul_carry bx by' bo hcc
     have w1 : IntKind.i64.wrap ((i : Int) + (k : Int)) = (i : Int) + (k : Int) := IntWalk.i64_in _ (by omega)
     have w2 : IntKind.i64.wrap ((x : Int) * (y : Int)) = (x : Int) * (y : Int) := IntWalk.i64_in _ (by omega)
     have w3 : IntKind.i64.wrap ((o : Int) + (x : Int) * (y : Int)) = (o : Int) + (x : Int) * (y : Int) := IntWalk.i64_in _ (by omega)
     have w4 : IntKind.i64.wrap ((o : Int) + (x : Int) * (y : Int) + (cc : Int)) = (o : Int) + (x : Int) * (y : Int) + (cc : Int) := IntWalk.i64_in _ (by omega)
     have u1 : (0 : Int) ≤ (i : Int) + (k : Int) := by omega
     have u2 : ((i : Int) + (k : Int)).toNat = i + k := by omega
     have u3 : ((i : Int) + (k : Int)) < (((n + m : Nat)) : Int) := by omega
     have u4 : (i : Int) < (n : Int) := by omega
     have u5 : (0 : Int) ≤ (i : Int) := by omega
     have u6 : (0 : Int) ≤ (k : Int) := by omega
     have u7 : (i : Int) + (k : Int) < (n : Int) + (m : Int) := by omega
     have ur : i + k < n + m := by omega
     go_wp2_with fail
     go_quiet (fail)
     clear w1 w2 w3 w4 u2
     go_wp2
     go_roundw
     case rel => exact ⟨k + 1, (x * y + o + cc) / 10000, _, by omega, by go_num, int_eq rcast_div, mc, (HI2.out.drew _).mul ur (by omega) HOO.out HY.out rcast_mod, (Below.drewN' HB2.out _).setCell (Nat.le_refl _) _⟩
     case measure => simp [intOf]; omega
    ·obtain rfl : k = m := by omega
     have hS : RValI wr w.heap.size (n + k) (val 10000 (a.take (i + 1)) * val 10000 b) (10000 ^ (i + k)) cc (i + k) L2 := by
      have := HI2.out.sum
      have eb : b.take k = b := List.take_of_length_le (by rw [HM.out]; omega)
      rw [eb, ← HX.out, rows_step] at this
      exact ⟨HI2.out.own, HI2.out.len, HI2.out.lim, this, HI2.out.zero⟩
     have hS2 := hS.carry (by omega) hcc
     have f1 := HI2.out.own.frozen (i + k)
     have t3 := HI2.out.own.cell (i := i + k) (by rw [HI2.out.len]; omega)
     have HS := Lib.hid hS2
     clear hS hS2
     go_wp2
     go_roundw
     case rel => exact ⟨i + 1, _, by omega, by go_num, by have := HS.out; rw [show i + k + 1 = i + 1 + k by omega] at this; exact this, HB2.out.setCell (Nat.le_refl _) _⟩
     case measure => simp [intOf]; omega
  ·obtain rfl : i = n := by omega
   have hq := HI.out.own.qlimbs HI.out.len (by omega)
   have HQ := Lib.hid hq
   clear hq
   go_wp2_with fail
   refine (rtrim_any HQ.out).mono ?_
   rintro e w2 ⟨u, rfl, hu, hb⟩
   have e := HI.out.sum
   rw [List.take_of_length_le (by rw [HN.out]; omega), HT.out] at e
   have hfin := (hu _ HQ.out).below hb
   have HF := Lib.hid hfin
   have E := Lib.hid e
   clear hu hfin e
   go_wp2
   go_ret
   exact ⟨u, trimZ L, rfl, HF.out, canon_trimZ 10000 L HI.out.lim, by rw [val_trimZ]; simpa using E.out, bt HB.out hb⟩
theorem rmul_limbs {w : World} {va vb : Value} {a b : List Nat} (ha : QR w va a) (hb : QR w vb b) (la : Lim 10000 a) (lb : Lim 10000 b)
  (na : a.length ≤ 1000000000000) (nb : b.length ≤ 1000000000000) :
  Calls Tryz.prog 162 #[va, vb] w (GivesQ w (val 10000 a * val 10000 b)) := (rmul_canon ha hb la lb na nb).mono fun _ _ h => h.plain
end Go.Proofs.YteionhenpehogaaGreatDoor
namespace Go.Proofs.YteionhenpehogaaGreatDoor
open Go.RowKit Tally
theorem RefR.parts {w : World} {v : Value} {z : Int} (h : RefR w v z) : ∃ (neg : Bool) (s : Value) (l : List Nat), v = .agg #[.bool neg, s] ∧ QR w s l ∧ Canon 10000 l ∧ (neg = true → l ≠ []) ∧ z = (if neg then -(val 10000 l : Int) else val 10000 l) ∧ z.natAbs = val 10000 l := by
 obtain ⟨neg, s, l, h1, h2, h3, h4, h5⟩ := h
 exact ⟨neg, s, l, h1, h2, h3, h4, h5, abs_of h5⟩
theorem RefR.few {N : Nat} {l : List Nat} {z : Int} (hc : Canon 10000 l) (hz : z.natAbs = val 10000 l) (hd : Dg N z) : l.length ≤ N + 1 :=
 Canon.few (k := 4) (by decide) hc hz hd
def rGivesZ (w : World) (z : Int) (e : Ending) (w' : World) : Prop :=
 ∃ (n : Bool) (a : Option Addr) (k c : Nat), e = .returned (.agg #[.bool n, .slice a k c]) ∧ RefR w' (.agg #[.bool n, .slice a k c]) z ∧ Below w.heap.size w w'
theorem RefR.shape {w : World} {v : Value} {z : Int} (h : RefR w v z) : ∃ (n : Bool) (a : Option Addr) (k c : Nat), v = .agg #[.bool n, .slice a k c] := by
 obtain ⟨neg, s, l, rfl, ⟨a, b, o, c, rfl, _⟩, _⟩ := h
 exact ⟨neg, a, l.length, c, rfl⟩
theorem rsigned_gives {w : World} {v : Value} {l : List Nat} {neg : Bool} (h : QR w v l) (hl : Lim 10000 l) :
  Calls Tryz.prog 144 #[.bool neg, v] w (rGivesZ w (if neg then -(val 10000 l : Int) else val 10000 l)) :=
 (rsigned_any (neg := neg) h hl).mono fun e w' ⟨u, he, hu, hb⟩ => by
  obtain ⟨n, a, k, c, rfl⟩ := hu.shape
  exact ⟨n, a, k, c, he, hu, hb⟩
theorem RefR.set2 {w : World} {v : Value} {z : Int} {r : Nat} {b : Bool} {p : Option Addr} {k c : Nat} {x y : Value} {T : TypeId} (h : RefR w v z)
  (hr : w.heap[r]? = some (.cells #[.bool b, .slice p k c] T (0, 0))) : RefR ((w.setCell ⟨r, 0, none⟩ x).setCell ⟨r, 1, none⟩ y) v z := by
 obtain ⟨neg, s, l, h1, h2, h3⟩ := h
 exact ⟨neg, s, l, h1, RowR.set2 (f := fun i => (l.getD i 0 : Nat)) h2 hr, h3⟩
set_option maxHeartbeats 1000000 in
theorem rmul_any {w : World} {v u : Value} {x y : Int} {N : Nat} (h : RefR w v x) (k : RefR w u y) (hx : Dg N x) (hy : Dg N y) (hN : N ≤ 999999999990) :
  Calls Tryz.prog 135 #[v, u] w (rGivesZ w (x * y)) := by
 obtain ⟨n1, s1, l1, rfl, lr1, c1, g1, z1, a1⟩ := h.parts
 obtain ⟨n2, s2, l2, rfl, lr2, c2, g2, z2, a2⟩ := k.parts
 have f1 := RefR.few c1 a1 hx
 have f2 := RefR.few c2 a2 hy
 have LA : Lim 10000 l1 := c1.1
 have LB : Lim 10000 l2 := c2.1
 have fin : (if (!(n1 == n2)) = true then -((val 10000 l1 * val 10000 l2 : Nat) : Int) else (val 10000 l1 * val 10000 l2 : Nat)) = x * y := by
  subst z1 z2; cases n1 <;> cases n2 <;> simp [Int.natCast_mul, Int.mul_neg, Int.neg_mul]
 have FIN := Lib.hid fin
 clear h k z1 z2 g1 g2 a1 a2 fin hx hy
 have BF := Lib.hid (box2_facts w n1 n2 s1 s2 84)
 go_enter Tryz.func135, Tryz.ntmps135
 go_wp2_with fail
 revert BF
 generalize (((w.alloc (.cells #[.bool n1, s1] 84)).alloc (.cells #[.bool n2, s2] 84)).alloc (.cells #[.bool false, .slice none 0 0] 84)) = W
 intro BF
 have HQ := Lib.hid BF.out.1
 have HG := Lib.hid BF.out.2.2.2.2.2.2
 have HBW := Lib.hid (show w.heap.size + 1 + 1 ≤ W.heap.size by have := BF.out.2.1; omega)
 have HL := Lib.hid (fun (w' : World) (hb : Below (w.heap.size + 1 + 1) W w') => (⟨hb, (hb.cell (p := ⟨w.heap.size, 0, none⟩) (show w.heap.size < w.heap.size + 1 + 1 by omega)).trans BF.out.2.2.1, (hb.cell (p := ⟨w.heap.size, 1, none⟩) (show w.heap.size < w.heap.size + 1 + 1 by omega)).trans BF.out.2.2.2.1, (hb.cell (p := ⟨w.heap.size + 1, 0, none⟩) (show w.heap.size + 1 < w.heap.size + 1 + 1 by omega)).trans BF.out.2.2.2.2.1, (hb.cell (p := ⟨w.heap.size + 1, 1, none⟩) (show w.heap.size + 1 < w.heap.size + 1 + 1 by omega)).trans BF.out.2.2.2.2.2.1⟩ : Below (w.heap.size + 1 + 1) W w' ∧ w'.cell? ⟨w.heap.size, 0, none⟩ = some (.bool n1) ∧ w'.cell? ⟨w.heap.size, 1, none⟩ = some s1 ∧ w'.cell? ⟨w.heap.size + 1, 0, none⟩ = some (.bool n2) ∧ w'.cell? ⟨w.heap.size + 1, 1, none⟩ = some s2))
 have HW0 := Lib.hid (fun (w' : World) (hs : Below (w.heap.size + 1 + 1) W w' ∧ w'.cell? ⟨w.heap.size, 0, none⟩ = some (.bool n1) ∧ w'.cell? ⟨w.heap.size, 1, none⟩ = some s1 ∧ w'.cell? ⟨w.heap.size + 1, 0, none⟩ = some (.bool n2) ∧ w'.cell? ⟨w.heap.size + 1, 1, none⟩ = some s2) => HQ.out.trans (hs.1.mono (show w.heap.size ≤ w.heap.size + 1 + 1 by omega)))
 obtain ⟨w0, hw0⟩ : ∃ w0 : World, w0 = W := ⟨_, rfl⟩
 have HB0 : Hid (Below (w.heap.size + 1 + 1) W w0) := by rw [hw0]; exact Lib.hid (Below.refl _ _)
 have HG0 := Lib.hid (show w0.heap[w.heap.size + 1 + 1]? = some (.cells #[.bool false, .slice none 0 0] 84 (0, 0)) by rw [hw0]; exact HG.out)
 rw [← hw0]
 clear hw0
 go_region_held3 (fun w' => Below (w.heap.size + 1 + 1) W w' ∧ w'.cell? ⟨w.heap.size, 0, none⟩ = some (.bool n1) ∧ w'.cell? ⟨w.heap.size, 1, none⟩ = some s1 ∧ w'.cell? ⟨w.heap.size + 1, 0, none⟩ = some (.bool n2) ∧ w'.cell? ⟨w.heap.size + 1, 1, none⟩ = some s2)
  (first | exact HL.out _ (Below.drew HB0.out) | exact HL.out _ (held_next (And.left (by assumption)) HBW.out (by assumption)) | exact HL.out _ (held_set2 (And.left (by assumption)) (Nat.le_refl _)))
  (first | (go_at_call 162; (with_reducible refine (rmul_limbs (lr1.below (HW0.out _ (by assumption))) (lr2.below (HW0.out _ (by assumption))) LA LB (by omega) (by omega)).mono ?_); rintro e w1 ⟨u3, l3, rfl, hr3, hl3, hv3, hb3⟩; have HX3 := Lib.hid hr3; have HV3 := Lib.hid hv3; have HR3 := Lib.hid (blk_next (w := w0.drew) HG0.out hb3); clear hr3 hv3) | (go_at_call 144; (with_reducible refine (rsigned_gives HX3.out hl3).mono ?_); rintro e w2 ⟨n4, a4, k4, c4, rfl, hu4, hb4⟩; have HU4 := Lib.hid hu4; have HR4 := Lib.hid (blk_next HR3.out hb4); clear hu4; obtain ⟨d0, d1, e0, e1⟩ := res_facts HR4.out))
 go_wp2
 try simp only [Exit.inBlock, Exit.then]
 refine bodyPost_ret (results_cell_row rfl _ _ (w.heap.size + 1 + 1) 84 _ (0, 0) _ rfl (res_set HR4.out) Tryz.underlying84 rfl (by kernel_rfl)) rfl ?_
 have fit := HU4.out
 rw [HV3.out, FIN.out] at fit
 exact ⟨n4, a4, k4, c4, rfl, fit.set2 HR4.out, held_set2 (bt (bt (bt (HQ.out.trans (HB0.out.mono (show w.heap.size ≤ w.heap.size + 1 + 1 by omega))) (Below.drew (Below.refl _ _))) hb3) hb4) (by omega)⟩
end Go.Proofs.YteionhenpehogaaGreatDoor
namespace Go.Proofs.YteionhenpehogaaGreatDoor
open Go.RowKit Tally
set_option maxHeartbeats 800000 in
theorem rcompare_any {w : World} {va vb : Value} {a b : List Nat} (ha : QR w va a) (hb : QR w vb b) (ca : Canon 10000 a) (cb : Canon 10000 b) :
  Calls Tryz.prog 160 #[va, vb] w fun e w' => e = .returned (.int .i64 (cmpN (val 10000 a) (val 10000 b))) ∧ Below w.heap.size w w' := by
 obtain ⟨p, b1, o1, c1, rfl, l1, m1, s1, r1⟩ := ha
 obtain ⟨q, b2, o2, c2, rfl, l2, m2, s2, r2⟩ := hb
 rcases Nat.lt_trichotomy a.length b.length with h | h | h
 ·have e := cmpN_lt (Canon.lt_of_length (B := 10000) (by decide) ca.1 cb h)
  rw [e]
  have hz : (a.length : Int) < (b.length : Int) := by omega
  have hne : ((a.length : Int) != (b.length : Int)) = true := by simp; omega
  clear r1 r2 e
  go_enter Tryz.func160, Tryz.ntmps160
  go_wp2
  go_ret
  exact ⟨rfl, Below.refl _ _⟩
 ·have R1 := Lib.hid r1
  have R2 := Lib.hid r2
  have H := Lib.hid h
  have CA := Lib.hid ca
  have CB := Lib.hid cb
  have hne : ((a.length : Int) != (b.length : Int)) = false := by simp; omega
  obtain ⟨n, hn⟩ : ∃ n, a.length = n := ⟨_, rfl⟩
  have hn2 : b.length = n := by omega
  have HN := Lib.hid hn
  have HN2 := Lib.hid hn2
  rw [hn] at l1 s1 R1 hne ⊢
  rw [hn2] at l2 s2 R2 hne ⊢
  clear r1 r2 h ca cb hn hn2
  go_enter Tryz.func160, Tryz.ntmps160
  go_wp2
  go_loopw [5] (fun i wr => ∃ (k : Nat) (z : Int), Hid (z = (k : Int) - 1) ∧ k ≤ n ∧ i = .int .i64 z ∧ Hid (a.drop k = b.drop k) ∧ Below w.heap.size w wr) (fun i _ => (intOf i + 1).toNat)
  case atStart => exact ⟨n, _, rfl, Nat.le_refl _, rfl, Lib.hid (by rw [List.drop_of_length_le (Nat.le_of_eq HN.out), List.drop_of_length_le (Nat.le_of_eq HN2.out)]), Below.refl _ _⟩
  case round =>
   obtain ⟨k, z, hz, hk, rfl, hd, hbr⟩ := hrel
   by_cases hk0 : k = 0
   ·subst hk0
    obtain rfl : z = -1 := by have := hz.out; omega
    go_wp2
    go_ret
    have e : a = b := by have := hd.out; simpa using this
    exact ⟨ret_int (by rw [e]; exact (cmpN_eq rfl).symm), hbr⟩
   ·obtain ⟨j, rfl⟩ : ∃ j, k = j + 1 := ⟨k - 1, by omega⟩
    obtain rfl : z = (j : Int) := by have := hz.out; omega
    obtain rfl := s1 (by omega)
    obtain rfl := s2 (by omega)
    have t1 := keepc hbr (R1.out j (by omega))
    have t2 := keepc hbr (R2.out j (by omega))
    obtain ⟨x, hx⟩ : ∃ x, a.getD j 0 = x := ⟨_, rfl⟩
    obtain ⟨y, hy⟩ : ∃ y, b.getD j 0 = y := ⟨_, rfl⟩
    simp only [hx] at t1
    simp only [hy] at t2
    have HX := Lib.hid hx
    have HY := Lib.hid hy
    clear hx hy
    have hj0 : (0 : Int) ≤ (j : Int) := by omega
    have hj1 : (j : Int) < (n : Int) := by omega
    have HB := Lib.hid hbr
    clear hbr
    by_cases hxy : x = y
    ·have hb1 : decide ((x : Int) < (y : Int)) = false := by simp; omega
     have hb2 : decide ((y : Int) < (x : Int)) = false := by simp; omega
     have hb3 : ¬ (x : Int) < (y : Int) := by omega
     have hb4 : ¬ (y : Int) < (x : Int) := by omega
     go_wp2
     go_quiet (fail)
     go_wp2
     go_quiet (fail)
     go_wp2
     refine ⟨⟨j, _, rfl, by omega, rfl, Lib.hid ?_, Below.drewN' HB.out _⟩, ?_⟩
     ·exact drop_all_eq (by have := HN.out; omega) H.out hd.out (by rw [HX.out, HY.out, hxy])
     ·simp [intOf]
    ·have fin : ∀ l m : List Nat, Lim 10000 l → l.drop (j + 1) = m.drop (j + 1) → j < l.length → j < m.length → l.getD j 0 < m.getD j 0 → val 10000 l < val 10000 m := fun l m hl hdd h1 h2 h3 => by
      rw [getD_eq h1, getD_eq h2] at h3
      exact val_lt_of_place 10000 l m j h1 h2 hl hdd h3
     have F1 := Lib.hid (fin a b CA.out.1 hd.out (by have := HN.out; omega) (by have := HN2.out; omega))
     have F2 := Lib.hid (fin b a CB.out.1 hd.out.symm (by have := HN2.out; omega) (by have := HN.out; omega))
     clear fin
     rcases Nat.lt_or_ge x y with hlt | hlt
     ·have hlz : (x : Int) < (y : Int) := by omega
      go_wp2
      go_quiet (fail)
      go_wp2
      go_ret
      exact ⟨ret_int (cmpN_lt (F1.out (by rw [HX.out, HY.out]; exact hlt))).symm, Below.drewN' HB.out _⟩
     ·have hlz : ¬ (x : Int) < (y : Int) := by omega
      have hlz2 : (y : Int) < (x : Int) := by omega
      have hld : decide ((x : Int) < (y : Int)) = false := by simp; omega
      have hld2 : decide ((y : Int) < (x : Int)) = true := by simp; omega
      go_wp2
      go_quiet (fail)
      go_wp2
      go_quiet (fail)
      go_wp2
      go_ret
      exact ⟨ret_int (cmpN_gt (F2.out (by rw [HX.out, HY.out]; omega))).symm, Below.drewN' (Below.drewN' HB.out _) _⟩
 ·have e := cmpN_gt (Canon.lt_of_length (B := 10000) (by decide) cb.1 ca h)
  rw [e]
  have hz : ¬ (a.length : Int) < (b.length : Int) := by omega
  have hne : ((a.length : Int) != (b.length : Int)) = true := by simp; omega
  clear r1 r2 e
  go_enter Tryz.func160, Tryz.ntmps160
  go_wp2
  go_ret
  exact ⟨rfl, Below.refl _ _⟩
structure RAddI (a b : List Nat) (k c : Nat) (L : List Nat) : Prop where
 len : L.length = k
 lim : Lim 10000 L
 sum : val 10000 L + 10000 ^ k * c = val 10000 (a.take k) + val 10000 (b.take k)
theorem RAddI.step {a b L : List Nat} {k c x y : Nat} (h : RAddI a b k c L) (hx : a.getD k 0 = x) (hy : b.getD k 0 = y) :
  RAddI a b (k + 1) ((c + x + y) / 10000) (L ++ [(c + x + y) % 10000]) := by
 subst hx hy
 refine ⟨by simp [h.len], h.lim.append (Lim.single (Nat.mod_lt _ (by decide))), ?_⟩
 have hs := h.sum
 have p := place_div 10000 (10000 ^ k) (c + a.getD k 0 + b.getD k 0)
 rw [val_snoc, h.len, val_take_getD, val_take_getD, pow_succ']
 generalize (c + a.getD k 0 + b.getD k 0) % 10000 = m at *
 generalize (c + a.getD k 0 + b.getD k 0) / 10000 = d at *
 grind
theorem RAddI.done {a b L : List Nat} {k : Nat} (h : RAddI a b k 0 L) (ha : a.length ≤ k) (hb : b.length ≤ k) : val 10000 L = val 10000 a + val 10000 b := by
 have := h.sum
 rw [List.take_of_length_le ha, List.take_of_length_le hb] at this
 simpa using this
set_option maxHeartbeats 2000000 in
set_option maxRecDepth 100000 in
theorem radd_limbs {w : World} {va vb : Value} {a b : List Nat} (ha : QR w va a) (hb : QR w vb b) (la : Lim 10000 a) (lb : Lim 10000 b)
  (na : a.length ≤ 1000000000000) (nb : b.length ≤ 1000000000000) :
  Calls Tryz.prog 159 #[va, vb] w (GivesQ w (val 10000 a + val 10000 b)) := by
 obtain ⟨T, hT⟩ : ∃ T, val 10000 a + val 10000 b = T := ⟨_, rfl⟩
 rw [hT]
 obtain ⟨i0, hi, hz0, hz1, hz2⟩ := info_parts infoI
 obtain ⟨p, b1, o1, c1, rfl, l1, m1, s1, r1⟩ := ha
 obtain ⟨q, b2, o2, c2, rfl, l2, m2, s2, r2⟩ := hb
 obtain ⟨n, hn⟩ : ∃ n, a.length = n := ⟨_, rfl⟩
 obtain ⟨m, hm⟩ : ∃ m, b.length = m := ⟨_, rfl⟩
 have HN := Lib.hid hn
 have HM := Lib.hid hm
 have R1 := Lib.hid r1
 have R2 := Lib.hid r2
 have LA := Lib.hid la
 have LB := Lib.hid lb
 have HT := Lib.hid hT
 rw [hn] at l1 s1 R1 na ⊢
 rw [hm] at l2 s2 R2 nb ⊢
 clear r1 r2 hn hm hT la lb
 go_enter Tryz.func159, Tryz.ntmps159
 go_wp2
 go_loopw [5, 6, 7] (fun l c i wr => ∃ (k cc : Nat) (L : List Nat) (sv : Value), sv = l ∧ i = .int .i64 k ∧ c = .int .i64 cc ∧ cc ≤ 1 ∧ k ≤ n + m + 1 ∧ ((n ≤ k ∧ m ≤ k) → cc = 0 ∨ k ≤ n ∨ k ≤ m) ∧ Hid (RAddI a b k cc L) ∧ wr.ownsRow w.heap.size 3 1 sv L.length (numsOf .i64 L) ∧ Below w.heap.size w wr) (fun _ _ i _ => n + m + 2 - (intOf i).toNat)
 case atStart => exact ⟨0, 0, [], _, rfl, rfl, rfl, by omega, by omega, fun _ => .inl rfl, Lib.hid ⟨rfl, fun x hx => by simp at hx, by simp⟩, World.ownsRow_nil _ _ _ _, Below.refl _ _⟩
 case round =>
  obtain ⟨k, cc, L, sv, rfl, rfl, rfl, hcc, hk, hex, HI, hown, hbr⟩ := hrel
  have HB := Lib.hid hbr
  have hsz := hbr.size
  have hlen : L.length = k := HI.out.len
  have hLk : L.length ≤ 3000000000000 := by omega
  clear hbr hlen
  have bx := LA.out.getD (by decide) k
  have by' := LB.out.getD (by decide) k
  obtain ⟨x, hx⟩ : ∃ x, a.getD k 0 = x := ⟨_, rfl⟩
  obtain ⟨y, hy⟩ : ∃ y, b.getD k 0 = y := ⟨_, rfl⟩
  rw [hx] at bx
  rw [hy] at by'
  have HX := Lib.hid hx
  have HY := Lib.hid hy
  have xo : n ≤ k → x = 0 := fun q => by rw [← HX.out]; exact getD_out (by rw [HN.out]; exact q)
  have yo : m ≤ k → y = 0 := fun q => by rw [← HY.out]; exact getD_out (by rw [HM.out]; exact q)
  have XO := Lib.hid xo
  have YO := Lib.hid yo
  clear hx hy xo yo
  have hmod : ((cc : Int) + (x : Int) + (y : Int)) % 10000 = (((cc + x + y) % 10000 : Nat) : Int) := by omega
  have HMD := Lib.hid hmod
  clear hmod
  have hstep := HI.out.step HX.out HY.out
  have HSTEP := Lib.hid hstep
  clear hstep
  have nxt : ∀ (v' : Value) (w2 : World) (z : Int), z = (((cc + x + y) % 10000 : Nat) : Int) → w2.ownsRow w.heap.size 3 1 v' (L.length + 1) (numsOf .i64 L ++ [.int .i64 z]) → (wr.alloc (.cells #[.int .i64 z] 3)).grownBy w2 sv.ownBlock → w2.ownsRow w.heap.size 3 1 v' (L ++ [(cc + x + y) % 10000]).length (numsOf .i64 (L ++ [(cc + x + y) % 10000])) ∧ Below w.heap.size w w2 := fun v' w2 z hz ho hg => by
   subst hz
   exact ⟨by rw [List.length_append]; exact owns_snoc ho, (HB.out.alloc hsz _).grown hg (by simp; omega) (fun j hj => (hown.lt j hj).1)⟩
  have NXT := Lib.hid nxt
  clear nxt
  by_cases hkn : k < n
  ·obtain rfl := s1 (by omega)
   have t1 := keepc HB.out (R1.out k hkn)
   simp only [HX.out] at t1
   have knz : (k : Int) < (n : Int) := by omega
   by_cases hkm : k < m
   ·obtain rfl := s2 (by omega)
    have t2 := keepc HB.out (R2.out k hkm)
    simp only [HY.out] at t2
    have kmz : (k : Int) < (m : Int) := by omega
    go_wp2_with (at_builtin; refine wpList_append_own _ rfl _ _ 53 rfl w.heap.size 3 i0 (.int .i64 0) 1 8 Tryz.underlying53 hi hz0 hz1 hz2 rfl (by decide) _ _ _ rfl (hown.alloc _) ⟨wr.heap.size, 0, none⟩ 1 1 [.int .i64 (((cc : Int) + (x : Int) + (y : Int)) % 10000)] rfl rfl (cell_one_new _ _ _) (by simp [Value.oneCell']) (by unfold maxLen; omega) (by omega) (by simp; omega) ?_)
    intro v' w2 ho hg _
    obtain ⟨g1, g2⟩ := NXT.out v' w2 _ HMD.out ho hg
    have G1 := Lib.hid g1
    have G2 := Lib.hid g2
    clear ho hg g1 g2 hown
    go_wp2
    go_roundw
    case rel => exact ⟨k + 1, (cc + x + y) / 10000, _, _, rfl, by go_num, by go_num, by omega, by omega, fun _ => by omega, HSTEP, G1.out, G2.out⟩
    case measure => simp [intOf]; omega
   ·have kmz : ¬ (k : Int) < (m : Int) := by omega
    obtain rfl : y = 0 := YO.out (by omega)
    go_wp2_with (at_builtin; refine wpList_append_own _ rfl _ _ 53 rfl w.heap.size 3 i0 (.int .i64 0) 1 8 Tryz.underlying53 hi hz0 hz1 hz2 rfl (by decide) _ _ _ rfl (hown.alloc _) ⟨wr.heap.size, 0, none⟩ 1 1 [.int .i64 (((cc : Int) + (x : Int)) % 10000)] rfl rfl (cell_one_new _ _ _) (by simp [Value.oneCell']) (by unfold maxLen; omega) (by omega) (by simp; omega) ?_)
    intro v' w2 ho hg _
    obtain ⟨g1, g2⟩ := NXT.out v' w2 _ (by omega) ho hg
    have G1 := Lib.hid g1
    have G2 := Lib.hid g2
    clear ho hg g1 g2 hown
    go_wp2
    go_roundw
    case rel => exact ⟨k + 1, (cc + x + 0) / 10000, _, _, rfl, by go_num, by go_num, by omega, by omega, fun _ => by omega, HSTEP, G1.out, G2.out⟩
    case measure => simp [intOf]; omega
  ·have knz : ¬ (k : Int) < (n : Int) := by omega
   obtain rfl : x = 0 := XO.out (by omega)
   by_cases hkm : k < m
   ·obtain rfl := s2 (by omega)
    have t2 := keepc HB.out (R2.out k hkm)
    simp only [HY.out] at t2
    have kmz : (k : Int) < (m : Int) := by omega
    go_wp2_with (at_builtin; refine wpList_append_own _ rfl _ _ 53 rfl w.heap.size 3 i0 (.int .i64 0) 1 8 Tryz.underlying53 hi hz0 hz1 hz2 rfl (by decide) _ _ _ rfl (hown.alloc _) ⟨wr.heap.size, 0, none⟩ 1 1 [.int .i64 (((cc : Int) + (y : Int)) % 10000)] rfl rfl (cell_one_new _ _ _) (by simp [Value.oneCell']) (by unfold maxLen; omega) (by omega) (by simp; omega) ?_)
    intro v' w2 ho hg _
    obtain ⟨g1, g2⟩ := NXT.out v' w2 _ (by omega) ho hg
    have G1 := Lib.hid g1
    have G2 := Lib.hid g2
    clear ho hg g1 g2 hown
    go_wp2
    go_roundw
    case rel => exact ⟨k + 1, (cc + 0 + y) / 10000, _, _, rfl, by go_num, by go_num, by omega, by omega, fun _ => by omega, HSTEP, G1.out, G2.out⟩
    case measure => simp [intOf]; omega
   ·have kmz : ¬ (k : Int) < (m : Int) := by omega
    obtain rfl : y = 0 := YO.out (by omega)
    by_cases hc0 : cc = 0
    ·subst hc0
     have hq : QR wr sv L := RowR.of_owns hown
     have HQ := Lib.hid hq
     clear hq
     obtain ⟨ad, cp, rfl⟩ : ∃ ad cp, sv = .slice ad L.length cp := by
      rcases hown.2 with ⟨rfl, h0⟩ | ⟨g, cap, cur, rfl, _⟩
      ·exact ⟨none, 0, by rw [h0]⟩
      ·exact ⟨_, _, rfl⟩
     clear hown
     go_wp2
     go_ret
     exact ⟨_, L, rfl, HQ.out, HI.out.lim, by rw [HI.out.done (by rw [HN.out]; omega) (by rw [HM.out]; omega), HT.out], HB.out⟩
    ·have ccz : (0 : Int) < (cc : Int) := by omega
     go_wp2_with (at_builtin; refine wpList_append_own _ rfl _ _ 53 rfl w.heap.size 3 i0 (.int .i64 0) 1 8 Tryz.underlying53 hi hz0 hz1 hz2 rfl (by decide) _ _ _ rfl (hown.alloc _) ⟨wr.heap.size, 0, none⟩ 1 1 [.int .i64 ((cc : Int) % 10000)] rfl rfl (cell_one_new _ _ _) (by simp [Value.oneCell']) (by unfold maxLen; omega) (by omega) (by simp; omega) ?_)
     intro v' w2 ho hg _
     obtain ⟨g1, g2⟩ := NXT.out v' w2 _ (by omega) ho hg
     have G1 := Lib.hid g1
     have G2 := Lib.hid g2
     clear ho hg g1 g2 hown
     go_wp2
     go_roundw
     case rel => exact ⟨k + 1, (cc + 0 + 0) / 10000, _, _, rfl, by go_num, by go_num, by omega, by omega, fun _ => by omega, HSTEP, G1.out, G2.out⟩
     case measure => simp [intOf]; omega
end Go.Proofs.YteionhenpehogaaGreatDoor
namespace Go.Proofs.YteionhenpehogaaGreatDoor
open Go.RowKit Tally
structure RSubI (a b : List Nat) (k c : Nat) (L : List Nat) : Prop where
 len : L.length = k
 lim : Lim 10000 L
 sum : val 10000 L + val 10000 (b.take k) = val 10000 (a.take k) + 10000 ^ k * c
theorem RSubI.step {a b L : List Nat} {k c c' x y z : Nat} (h : RSubI a b k c L) (hx : a.getD k 0 = x) (hy : b.getD k 0 = y) (hz : z < 10000) (he : z + (y + c) = x + 10000 * c') :
  RSubI a b (k + 1) c' (L ++ [z]) := by
 subst hx hy
 refine ⟨by simp [h.len], h.lim.append (Lim.single hz), ?_⟩
 have hs := h.sum
 have p : 10000 ^ k * (z + (b.getD k 0 + c)) = 10000 ^ k * (a.getD k 0 + 10000 * c') := by rw [he]
 rw [val_snoc, h.len, val_take_getD, val_take_getD, pow_succ']
 grind
theorem RSubI.done {a b L : List Nat} {c : Nat} (h : RSubI a b a.length c L) (hb : b.length ≤ a.length) (hle : val 10000 b ≤ val 10000 a) : val 10000 L = val 10000 a - val 10000 b := by
 have := h.sum
 rw [List.take_of_length_le hb, List.take_length] at this
 have hl := val_lt 10000 L h.lim
 rw [h.len] at hl
 rcases Nat.eq_zero_or_pos c with h0 | h0
 ·subst h0; omega
 ·have : 10000 ^ a.length * 1 ≤ 10000 ^ a.length * c := Nat.mul_le_mul_left _ h0
  omega
set_option maxHeartbeats 2000000 in
set_option maxRecDepth 100000 in
theorem rsub_canon {w : World} {va vb : Value} {a b : List Nat} (ha : QR w va a) (hb : QR w vb b) (la : Lim 10000 a) (lb : Lim 10000 b)
  (na : a.length ≤ 1000000000000) (nb : b.length ≤ a.length) (hle : val 10000 b ≤ val 10000 a) :
  Calls Tryz.prog 161 #[va, vb] w (GivesQC w (val 10000 a - val 10000 b)) := by
 obtain ⟨T, hT⟩ : ∃ T, val 10000 a - val 10000 b = T := ⟨_, rfl⟩
 rw [hT]
 obtain ⟨i0, hi, hz0, hz1, hz2⟩ := info_parts infoI
 obtain ⟨p, b1, o1, c1, rfl, l1, m1, s1, r1⟩ := ha
 obtain ⟨q, b2, o2, c2, rfl, l2, m2, s2, r2⟩ := hb
 obtain ⟨n, hn⟩ : ∃ n, a.length = n := ⟨_, rfl⟩
 obtain ⟨m, hm⟩ : ∃ m, b.length = m := ⟨_, rfl⟩
 have HN := Lib.hid hn
 have HM := Lib.hid hm
 have R1 := Lib.hid r1
 have R2 := Lib.hid r2
 have LA := Lib.hid la
 have LB := Lib.hid lb
 have HT := Lib.hid hT
 have HLE := Lib.hid hle
 rw [hn] at l1 s1 R1 na nb ⊢
 rw [hm] at l2 s2 R2 nb ⊢
 clear r1 r2 hn hm hT la lb hle
 go_enter Tryz.func161, Tryz.ntmps161
 go_wp2
 go_loopw [5, 6, 7] (fun l c i wr => ∃ (k cc : Nat) (L : List Nat) (sv : Value), sv = l ∧ i = .int .i64 k ∧ c = .int .i64 cc ∧ cc ≤ 1 ∧ k ≤ n ∧ Hid (RSubI a b k cc L) ∧ wr.ownsRow w.heap.size 3 1 sv L.length (numsOf .i64 L) ∧ Below w.heap.size w wr) (fun _ _ i _ => n - (intOf i).toNat)
 case atStart => exact ⟨0, 0, [], _, rfl, rfl, rfl, by omega, by omega, Lib.hid ⟨rfl, fun x hx => by simp at hx, by simp⟩, World.ownsRow_nil _ _ _ _, Below.refl _ _⟩
 case round =>
  obtain ⟨k, cc, L, sv, rfl, rfl, rfl, hcc, hk, HI, hown, hbr⟩ := hrel
  have HB := Lib.hid hbr
  have hsz := hbr.size
  have hlen : L.length = k := HI.out.len
  have hLk : L.length ≤ 3000000000000 := by omega
  clear hbr hlen
  by_cases hkn : k < n
  ·obtain rfl := s1 (by omega)
   have bx := LA.out.getD (by decide) k
   have by' := LB.out.getD (by decide) k
   obtain ⟨x, hx⟩ : ∃ x, a.getD k 0 = x := ⟨_, rfl⟩
   obtain ⟨y, hy⟩ : ∃ y, b.getD k 0 = y := ⟨_, rfl⟩
   rw [hx] at bx
   rw [hy] at by'
   have t1 := keepc HB.out (R1.out k hkn)
   simp only [hx] at t1
   have HX := Lib.hid hx
   have HY := Lib.hid hy
   have yo : m ≤ k → y = 0 := fun q => by rw [← HY.out]; exact getD_out (by rw [HM.out]; exact q)
   have YO := Lib.hid yo
   clear hx hy yo
   have knz : (k : Int) < (n : Int) := by omega
   have nxt : ∀ (v' : Value) (w2 : World) (z : Int) (u : Nat), z = (u : Int) → w2.ownsRow w.heap.size 3 1 v' (L.length + 1) (numsOf .i64 L ++ [.int .i64 z]) → (wr.alloc (.cells #[.int .i64 z] 3)).grownBy w2 sv.ownBlock → w2.ownsRow w.heap.size 3 1 v' (L ++ [u]).length (numsOf .i64 (L ++ [u])) ∧ Below w.heap.size w w2 := fun v' w2 z u hz ho hg => by
    subst hz
    exact ⟨by rw [List.length_append]; exact owns_snoc ho, (HB.out.alloc hsz _).grown hg (by simp; omega) (fun j hj => (hown.lt j hj).1)⟩
   have NXT := Lib.hid nxt
   clear nxt
   by_cases hkm : k < m
   ·obtain rfl := s2 (by omega)
    have t2 := keepc HB.out (R2.out k hkm)
    simp only [HY.out] at t2
    have kmz : (k : Int) < (m : Int) := by omega
    by_cases hlt : x < cc + y
    ·have hltz : (x : Int) - (cc : Int) - (y : Int) < 0 := by omega
     go_wp2_with (at_builtin; refine wpList_append_own _ rfl _ _ 53 rfl w.heap.size 3 i0 (.int .i64 0) 1 8 Tryz.underlying53 hi hz0 hz1 hz2 rfl (by decide) _ _ _ rfl (hown.alloc _) ⟨wr.heap.size, 0, none⟩ 1 1 [.int .i64 ((x : Int) - (cc : Int) - (y : Int) + 10000)] rfl rfl (cell_one_new _ _ _) (by simp [Value.oneCell']) (by unfold maxLen; omega) (by omega) (by simp; omega) ?_)
     intro v' w2 ho hg _
     obtain ⟨g1, g2⟩ := NXT.out v' w2 _ (x + 10000 - (cc + y)) (by omega) ho hg
     have G1 := Lib.hid g1
     have G2 := Lib.hid g2
     clear ho hg g1 g2 hown
     go_wp2
     go_roundw
     case rel => exact ⟨k + 1, 1, _, _, rfl, by go_num, by go_num, by omega, by omega, HI.out.step HX.out HY.out (by omega) (by omega), G1.out, G2.out⟩
     case measure => simp [intOf]; omega
    ·have hltz : ¬ (x : Int) - (cc : Int) - (y : Int) < 0 := by omega
     go_wp2_with (at_builtin; refine wpList_append_own _ rfl _ _ 53 rfl w.heap.size 3 i0 (.int .i64 0) 1 8 Tryz.underlying53 hi hz0 hz1 hz2 rfl (by decide) _ _ _ rfl (hown.alloc _) ⟨wr.heap.size, 0, none⟩ 1 1 [.int .i64 ((x : Int) - (cc : Int) - (y : Int))] rfl rfl (cell_one_new _ _ _) (by simp [Value.oneCell']) (by unfold maxLen; omega) (by omega) (by simp; omega) ?_)
     intro v' w2 ho hg _
     obtain ⟨g1, g2⟩ := NXT.out v' w2 _ (x - (cc + y)) (by omega) ho hg
     have G1 := Lib.hid g1
     have G2 := Lib.hid g2
     clear ho hg g1 g2 hown
     go_wp2
     go_roundw
     case rel => exact ⟨k + 1, 0, _, _, rfl, by go_num, by go_num, by omega, by omega, HI.out.step HX.out HY.out (by omega) (by omega), G1.out, G2.out⟩
     case measure => simp [intOf]; omega
   ·have kmz : ¬ (k : Int) < (m : Int) := by omega
    obtain rfl : y = 0 := YO.out (by omega)
    by_cases hlt : x < cc
    ·have hltz : (x : Int) - (cc : Int) < 0 := by omega
     go_wp2_with (at_builtin; refine wpList_append_own _ rfl _ _ 53 rfl w.heap.size 3 i0 (.int .i64 0) 1 8 Tryz.underlying53 hi hz0 hz1 hz2 rfl (by decide) _ _ _ rfl (hown.alloc _) ⟨wr.heap.size, 0, none⟩ 1 1 [.int .i64 ((x : Int) - (cc : Int) + 10000)] rfl rfl (cell_one_new _ _ _) (by simp [Value.oneCell']) (by unfold maxLen; omega) (by omega) (by simp; omega) ?_)
     intro v' w2 ho hg _
     obtain ⟨g1, g2⟩ := NXT.out v' w2 _ (x + 10000 - cc) (by omega) ho hg
     have G1 := Lib.hid g1
     have G2 := Lib.hid g2
     clear ho hg g1 g2 hown
     go_wp2
     go_roundw
     case rel => exact ⟨k + 1, 1, _, _, rfl, by go_num, by go_num, by omega, by omega, HI.out.step HX.out HY.out (by omega) (by omega), G1.out, G2.out⟩
     case measure => simp [intOf]; omega
    ·have hltz : ¬ (x : Int) - (cc : Int) < 0 := by omega
     go_wp2_with (at_builtin; refine wpList_append_own _ rfl _ _ 53 rfl w.heap.size 3 i0 (.int .i64 0) 1 8 Tryz.underlying53 hi hz0 hz1 hz2 rfl (by decide) _ _ _ rfl (hown.alloc _) ⟨wr.heap.size, 0, none⟩ 1 1 [.int .i64 ((x : Int) - (cc : Int))] rfl rfl (cell_one_new _ _ _) (by simp [Value.oneCell']) (by unfold maxLen; omega) (by omega) (by simp; omega) ?_)
     intro v' w2 ho hg _
     obtain ⟨g1, g2⟩ := NXT.out v' w2 _ (x - cc) (by omega) ho hg
     have G1 := Lib.hid g1
     have G2 := Lib.hid g2
     clear ho hg g1 g2 hown
     go_wp2
     go_roundw
     case rel => exact ⟨k + 1, 0, _, _, rfl, by go_num, by go_num, by omega, by omega, HI.out.step HX.out HY.out (by omega) (by omega), G1.out, G2.out⟩
     case measure => simp [intOf]; omega
  ·have knz : ¬ (k : Int) < (n : Int) := by omega
   obtain rfl : k = n := by omega
   have hq : QR wr sv L := RowR.of_owns hown
   have HQ := Lib.hid hq
   clear hq
   obtain ⟨ad, cp, rfl⟩ : ∃ ad cp, sv = .slice ad L.length cp := by
    rcases hown.2 with ⟨rfl, h0⟩ | ⟨g, cap, cur, rfl, _⟩
    ·exact ⟨none, 0, by rw [h0]⟩
    ·exact ⟨_, _, rfl⟩
   clear hown
   go_wp2_with fail
   refine (rtrim_any HQ.out).mono ?_
   rintro e w2 ⟨u, rfl, hu, hb⟩
   have hfin := (hu _ HQ.out).below hb
   have HF := Lib.hid hfin
   have HB2 := Lib.hid hb
   clear hu hfin hb
   go_wp2
   go_ret
   exact ⟨u, trimZ L, rfl, HF.out, canon_trimZ 10000 L HI.out.lim, by rw [val_trimZ, RSubI.done (HN.out.symm ▸ HI.out) (by rw [HM.out, HN.out]; omega) HLE.out, HT.out], bt HB.out HB2.out⟩
theorem rsub_limbs {w : World} {va vb : Value} {a b : List Nat} (ha : QR w va a) (hb : QR w vb b) (la : Lim 10000 a) (lb : Lim 10000 b)
  (na : a.length ≤ 1000000000000) (nb : b.length ≤ a.length) (hle : val 10000 b ≤ val 10000 a) :
  Calls Tryz.prog 161 #[va, vb] w (GivesQ w (val 10000 a - val 10000 b)) := (rsub_canon ha hb la lb na nb hle).mono fun _ _ h => h.plain
end Go.Proofs.YteionhenpehogaaGreatDoor
namespace Go.Proofs.YteionhenpehogaaGreatDoor
open Go.RowKit Tally
theorem rsign_of {neg : Bool} {l : List Nat} {z : Int} (hc : Canon 10000 l) (hz : z = if neg then -(val 10000 l : Int) else val 10000 l) :
  (l.length = 0 → z.sign = 0) ∧ (l.length ≠ 0 → z.sign = if neg then -1 else 1) := by
 constructor
 ·intro h
  have : l = [] := List.length_eq_zero_iff.1 h
  subst this
  rw [hz]; cases neg <;> rfl
 ·intro h
  have hp := Canon.pos (B := 10000) (by decide) hc (fun e => h (by rw [e]; rfl))
  rw [hz]
  cases neg
  ·exact Int.sign_eq_one_of_pos (by simp; omega)
  ·exact Int.sign_eq_neg_one_of_neg (by simp; omega)
set_option maxHeartbeats 800000 in
theorem rsign_any {w : World} {v : Value} {z : Int} (h : RefR w v z) :
  Calls Tryz.prog 140 #[v] w fun e w' => e = .returned (.int .i64 z.sign) ∧ Below w.heap.size w w' := by
 obtain ⟨neg, s, l, rfl, ⟨p, b, o, c, rfl, hlc, hm, hs, hr⟩, hc, hn, hz⟩ := h
 obtain ⟨q0, q1⟩ := rsign_of hc hz
 clear hz hc hn hr hs
 generalize l.length = n at *
 have fin : ∀ (x y : Int) (w1 : World), x = y → Below w.heap.size w w1 → Ending.returned (.int .i64 x) = .returned (.int .i64 y) ∧ Below w.heap.size w w1 := fun x y w1 h1 h2 => ⟨ret_int h1, h2⟩
 have F := Lib.hid fin
 clear fin
 by_cases h0 : n = 0
 ·have Q := Lib.hid (q0 h0)
  clear q0 q1
  subst h0
  go_enter Tryz.func140, Tryz.ntmps140
  go_wp2
  go_ret
  exact ⟨ret_int Q.out.symm, (Below.refl _ _).alloc (Nat.le_refl _) _⟩
 ·have Q := Lib.hid (q1 h0)
  clear q0 q1
  have hne : ((n : Int) == 0) = false := by simp; omega
  cases neg
  all_goals
   go_enter Tryz.func140, Tryz.ntmps140
   go_wp2
   go_ret
   exact ⟨ret_int Q.out.symm, (Below.refl _ _).alloc (Nat.le_refl _) _⟩
set_option maxHeartbeats 2000000 in
theorem radd_any {w : World} {v u : Value} {x y : Int} {N : Nat} (h : RefR w v x) (k : RefR w u y) (hx : Dg N x) (hy : Dg N y) (hN : N ≤ 999999999990) :
  Calls Tryz.prog 134 #[v, u] w (rGivesZ w (x + y)) := by
 obtain ⟨n1, s1, l1, rfl, lr1, c1, g1, z1, a1⟩ := h.parts
 obtain ⟨n2, s2, l2, rfl, lr2, c2, g2, z2, a2⟩ := k.parts
 have f1 := RefR.few c1 a1 hx
 have f2 := RefR.few c2 a2 hy
 have LA : Lim 10000 l1 := c1.1
 have LB : Lim 10000 l2 := c2.1
 have fin1 : n1 = n2 → (if n1 = true then -((val 10000 l1 + val 10000 l2 : Nat) : Int) else (val 10000 l1 + val 10000 l2 : Nat)) = x + y := fun e => by
  subst e; rw [z1, z2]; exact add_same
 have fin2 : n1 ≠ n2 → val 10000 l2 ≤ val 10000 l1 → (if n1 = true then -((val 10000 l1 - val 10000 l2 : Nat) : Int) else (val 10000 l1 - val 10000 l2 : Nat)) = x + y := fun e h => by
  rw [z1, z2]; exact add_diff e h
 have fin3 : n1 ≠ n2 → val 10000 l1 ≤ val 10000 l2 → (if n2 = true then -((val 10000 l2 - val 10000 l1 : Nat) : Int) else (val 10000 l2 - val 10000 l1 : Nat)) = x + y := fun e h => by
  rw [z1, z2, Int.add_comm]; exact add_diff (fun q => e q.symm) h
 have F1 := Lib.hid fin1
 have F2 := Lib.hid fin2
 have F3 := Lib.hid fin3
 have len12 : val 10000 l2 ≤ val 10000 l1 → l2.length ≤ l1.length := fun q => Nat.le_of_not_lt fun q2 => by
  have := Canon.lt_of_length (B := 10000) (by decide) c1.1 c2 q2; omega
 have len21 : val 10000 l1 ≤ val 10000 l2 → l1.length ≤ l2.length := fun q => Nat.le_of_not_lt fun q2 => by
  have := Canon.lt_of_length (B := 10000) (by decide) c2.1 c1 q2; omega
 have E12 := Lib.hid len12
 have E21 := Lib.hid len21
 clear h k z1 z2 g1 g2 a1 a2 fin1 fin2 fin3 hx hy len12 len21
 by_cases hn : n1 = n2
 ·have hb : (n1 == n2) = true := by simp [hn]
  have FIN := Lib.hid (F1.out hn)
  clear hn
  have BF := Lib.hid (box2_facts w n1 n2 s1 s2 84)
  go_enter Tryz.func134, Tryz.ntmps134
  go_wp2_with fail
  revert BF
  generalize (((w.alloc (.cells #[.bool n1, s1] 84)).alloc (.cells #[.bool n2, s2] 84)).alloc (.cells #[.bool false, .slice none 0 0] 84)) = W
  intro BF
  have HQ := Lib.hid BF.out.1
  have HG := Lib.hid BF.out.2.2.2.2.2.2
  have HBW := Lib.hid (show w.heap.size + 1 + 1 ≤ W.heap.size by have := BF.out.2.1; omega)
  have HL := Lib.hid (fun (w' : World) (hb : Below (w.heap.size + 1 + 1) W w') => (⟨hb, (hb.cell (p := ⟨w.heap.size, 0, none⟩) (show w.heap.size < w.heap.size + 1 + 1 by omega)).trans BF.out.2.2.1, (hb.cell (p := ⟨w.heap.size, 1, none⟩) (show w.heap.size < w.heap.size + 1 + 1 by omega)).trans BF.out.2.2.2.1, (hb.cell (p := ⟨w.heap.size + 1, 0, none⟩) (show w.heap.size + 1 < w.heap.size + 1 + 1 by omega)).trans BF.out.2.2.2.2.1, (hb.cell (p := ⟨w.heap.size + 1, 1, none⟩) (show w.heap.size + 1 < w.heap.size + 1 + 1 by omega)).trans BF.out.2.2.2.2.2.1⟩ : Below (w.heap.size + 1 + 1) W w' ∧ w'.cell? ⟨w.heap.size, 0, none⟩ = some (.bool n1) ∧ w'.cell? ⟨w.heap.size, 1, none⟩ = some s1 ∧ w'.cell? ⟨w.heap.size + 1, 0, none⟩ = some (.bool n2) ∧ w'.cell? ⟨w.heap.size + 1, 1, none⟩ = some s2))
  have HW0 := Lib.hid (fun (w' : World) (hs : Below (w.heap.size + 1 + 1) W w' ∧ w'.cell? ⟨w.heap.size, 0, none⟩ = some (.bool n1) ∧ w'.cell? ⟨w.heap.size, 1, none⟩ = some s1 ∧ w'.cell? ⟨w.heap.size + 1, 0, none⟩ = some (.bool n2) ∧ w'.cell? ⟨w.heap.size + 1, 1, none⟩ = some s2) => HQ.out.trans (hs.1.mono (show w.heap.size ≤ w.heap.size + 1 + 1 by omega)))
  obtain ⟨w0, hw0⟩ : ∃ w0 : World, w0 = W := ⟨_, rfl⟩
  have HB0 : Hid (Below (w.heap.size + 1 + 1) W w0) := by rw [hw0]; exact Lib.hid (Below.refl _ _)
  have HG0 := Lib.hid (show w0.heap[w.heap.size + 1 + 1]? = some (.cells #[.bool false, .slice none 0 0] 84 (0, 0)) by rw [hw0]; exact HG.out)
  rw [← hw0]
  clear hw0
  go_region_held3 (fun w' => Below (w.heap.size + 1 + 1) W w' ∧ w'.cell? ⟨w.heap.size, 0, none⟩ = some (.bool n1) ∧ w'.cell? ⟨w.heap.size, 1, none⟩ = some s1 ∧ w'.cell? ⟨w.heap.size + 1, 0, none⟩ = some (.bool n2) ∧ w'.cell? ⟨w.heap.size + 1, 1, none⟩ = some s2)
   (first | exact HL.out _ (Below.drew HB0.out) | exact HL.out _ (held_next (And.left (by assumption)) HBW.out (by assumption)) | exact HL.out _ (held_set2 (And.left (by assumption)) (Nat.le_refl _)))
   (first | (go_at_call 159; (with_reducible refine (radd_limbs (lr1.below (HW0.out _ (by assumption))) (lr2.below (HW0.out _ (by assumption))) LA LB (by omega) (by omega)).mono ?_); rintro e w1 ⟨u3, l3, rfl, hr3, hl3, hv3, hb3⟩; have HX3 := Lib.hid hr3; have HV3 := Lib.hid hv3; have HR3 := Lib.hid (blk_next (w := w0.drew) HG0.out hb3); clear hr3 hv3) | (go_at_call 144; (with_reducible refine (rsigned_gives HX3.out hl3).mono ?_); rintro e w2 ⟨n4, a4, k4, c4, rfl, hu4, hb4⟩; have HU4 := Lib.hid hu4; have HR4 := Lib.hid (blk_next HR3.out hb4); clear hu4; obtain ⟨d0, d1, e0, e1⟩ := res_facts HR4.out))
  go_wp2
  try simp only [Exit.inBlock, Exit.then]
  refine bodyPost_ret (results_cell_row rfl _ _ (w.heap.size + 1 + 1) 84 _ (0, 0) _ rfl (res_set HR4.out) Tryz.underlying84 rfl (by kernel_rfl)) rfl ?_
  have fit := HU4.out
  rw [HV3.out, FIN.out] at fit
  exact ⟨n4, a4, k4, c4, rfl, fit.set2 HR4.out, held_set2 (bt (bt (bt (HQ.out.trans (HB0.out.mono (show w.heap.size ≤ w.heap.size + 1 + 1 by omega))) (Below.drew (Below.refl _ _))) hb3) hb4) (by omega)⟩
 ·have hb : (n1 == n2) = false := by simp [hn]
  have FN2 := Lib.hid (F2.out hn)
  have FN3 := Lib.hid (F3.out hn)
  clear hn
  have BF := Lib.hid (box2_facts w n1 n2 s1 s2 84)
  go_enter Tryz.func134, Tryz.ntmps134
  go_wp2_with fail
  revert BF
  generalize (((w.alloc (.cells #[.bool n1, s1] 84)).alloc (.cells #[.bool n2, s2] 84)).alloc (.cells #[.bool false, .slice none 0 0] 84)) = W
  intro BF
  have HQ := Lib.hid BF.out.1
  have HG := Lib.hid BF.out.2.2.2.2.2.2
  have HBW := Lib.hid (show w.heap.size + 1 + 1 ≤ W.heap.size by have := BF.out.2.1; omega)
  have HL := Lib.hid (fun (w' : World) (hb : Below (w.heap.size + 1 + 1) W w') => (⟨hb, (hb.cell (p := ⟨w.heap.size, 0, none⟩) (show w.heap.size < w.heap.size + 1 + 1 by omega)).trans BF.out.2.2.1, (hb.cell (p := ⟨w.heap.size, 1, none⟩) (show w.heap.size < w.heap.size + 1 + 1 by omega)).trans BF.out.2.2.2.1, (hb.cell (p := ⟨w.heap.size + 1, 0, none⟩) (show w.heap.size + 1 < w.heap.size + 1 + 1 by omega)).trans BF.out.2.2.2.2.1, (hb.cell (p := ⟨w.heap.size + 1, 1, none⟩) (show w.heap.size + 1 < w.heap.size + 1 + 1 by omega)).trans BF.out.2.2.2.2.2.1⟩ : Below (w.heap.size + 1 + 1) W w' ∧ w'.cell? ⟨w.heap.size, 0, none⟩ = some (.bool n1) ∧ w'.cell? ⟨w.heap.size, 1, none⟩ = some s1 ∧ w'.cell? ⟨w.heap.size + 1, 0, none⟩ = some (.bool n2) ∧ w'.cell? ⟨w.heap.size + 1, 1, none⟩ = some s2))
  have HW0 := Lib.hid (fun (w' : World) (hs : Below (w.heap.size + 1 + 1) W w' ∧ w'.cell? ⟨w.heap.size, 0, none⟩ = some (.bool n1) ∧ w'.cell? ⟨w.heap.size, 1, none⟩ = some s1 ∧ w'.cell? ⟨w.heap.size + 1, 0, none⟩ = some (.bool n2) ∧ w'.cell? ⟨w.heap.size + 1, 1, none⟩ = some s2) => HQ.out.trans (hs.1.mono (show w.heap.size ≤ w.heap.size + 1 + 1 by omega)))
  refine (rcompare_any (lr1.below HQ.out) (lr2.below HQ.out) c1 c2).mono ?_
  rintro e w0 ⟨rfl, hb0⟩
  have HB0 := Lib.hid (hb0.mono HBW.out)
  have HG0 := Lib.hid (blk_next HG.out hb0)
  obtain ⟨_, q1, q2, q3, q4⟩ := HL.out _ HB0.out
  by_cases hge : val 10000 l2 ≤ val 10000 l1
  ·have hcm : (0 : Int) ≤ cmpN (val 10000 l1) (val 10000 l2) := by
    rcases Nat.lt_or_ge (val 10000 l2) (val 10000 l1) with q | q
    ·rw [cmpN_gt q]; decide
    ·rw [cmpN_eq (by omega)]; decide
   have hlen := E12.out hge
   have FIN := Lib.hid (FN2.out hge)
   go_wp2_with fail
   go_region_held3 (fun w' => Below (w.heap.size + 1 + 1) W w' ∧ w'.cell? ⟨w.heap.size, 0, none⟩ = some (.bool n1) ∧ w'.cell? ⟨w.heap.size, 1, none⟩ = some s1 ∧ w'.cell? ⟨w.heap.size + 1, 0, none⟩ = some (.bool n2) ∧ w'.cell? ⟨w.heap.size + 1, 1, none⟩ = some s2)
    (first | exact HL.out _ (Below.drew HB0.out) | exact HL.out _ (held_next (And.left (by assumption)) HBW.out (by assumption)) | exact HL.out _ (held_set2 (And.left (by assumption)) (Nat.le_refl _)))
    (first | (go_at_call 161; (with_reducible refine (rsub_limbs (lr1.below (HW0.out _ (by assumption))) (lr2.below (HW0.out _ (by assumption))) LA LB (by omega) hlen hge).mono ?_); rintro e w1 ⟨u3, l3, rfl, hr3, hl3, hv3, hb3⟩; have HX3 := Lib.hid hr3; have HV3 := Lib.hid hv3; have HR3 := Lib.hid (blk_next (w := w0.drew) HG0.out hb3); clear hr3 hv3) | (go_at_call 144; (with_reducible refine (rsigned_gives HX3.out hl3).mono ?_); rintro e w2 ⟨n4, a4, k4, c4, rfl, hu4, hb4⟩; have HU4 := Lib.hid hu4; have HR4 := Lib.hid (blk_next HR3.out hb4); clear hu4; obtain ⟨d0, d1, e0, e1⟩ := res_facts HR4.out))
   go_wp2
   try simp only [Exit.inBlock, Exit.then]
   refine bodyPost_ret (results_cell_row rfl _ _ (w.heap.size + 1 + 1) 84 _ (0, 0) _ rfl (res_set HR4.out) Tryz.underlying84 rfl (by kernel_rfl)) rfl ?_
   have fit := HU4.out
   rw [HV3.out, FIN.out] at fit
   exact ⟨n4, a4, k4, c4, rfl, fit.set2 HR4.out, held_set2 (bt (bt (bt (HQ.out.trans (HB0.out.mono (show w.heap.size ≤ w.heap.size + 1 + 1 by omega))) (Below.drew (Below.refl _ _))) hb3) hb4) (by omega)⟩
  ·have hcm : ¬ (0 : Int) ≤ cmpN (val 10000 l1) (val 10000 l2) := by
    rw [cmpN_lt (by omega)]; decide
   have hge' : val 10000 l1 ≤ val 10000 l2 := by omega
   have hlen := E21.out hge'
   have FIN := Lib.hid (FN3.out hge')
   go_wp2_with fail
   go_region_held3 (fun w' => Below (w.heap.size + 1 + 1) W w' ∧ w'.cell? ⟨w.heap.size, 0, none⟩ = some (.bool n1) ∧ w'.cell? ⟨w.heap.size, 1, none⟩ = some s1 ∧ w'.cell? ⟨w.heap.size + 1, 0, none⟩ = some (.bool n2) ∧ w'.cell? ⟨w.heap.size + 1, 1, none⟩ = some s2)
    (first | exact HL.out _ (Below.drew HB0.out) | exact HL.out _ (held_next (And.left (by assumption)) HBW.out (by assumption)) | exact HL.out _ (held_set2 (And.left (by assumption)) (Nat.le_refl _)))
    (first | (go_at_call 161; (with_reducible refine (rsub_limbs (lr2.below (HW0.out _ (by assumption))) (lr1.below (HW0.out _ (by assumption))) LB LA (by omega) hlen hge').mono ?_); rintro e w1 ⟨u3, l3, rfl, hr3, hl3, hv3, hb3⟩; have HX3 := Lib.hid hr3; have HV3 := Lib.hid hv3; have HR3 := Lib.hid (blk_next (w := w0.drew) HG0.out hb3); clear hr3 hv3) | (go_at_call 144; (with_reducible refine (rsigned_gives HX3.out hl3).mono ?_); rintro e w2 ⟨n4, a4, k4, c4, rfl, hu4, hb4⟩; have HU4 := Lib.hid hu4; have HR4 := Lib.hid (blk_next HR3.out hb4); clear hu4; obtain ⟨d0, d1, e0, e1⟩ := res_facts HR4.out))
   go_wp2
   try simp only [Exit.inBlock, Exit.then]
   refine bodyPost_ret (results_cell_row rfl _ _ (w.heap.size + 1 + 1) 84 _ (0, 0) _ rfl (res_set HR4.out) Tryz.underlying84 rfl (by kernel_rfl)) rfl ?_
   have fit := HU4.out
   rw [HV3.out, FIN.out] at fit
   exact ⟨n4, a4, k4, c4, rfl, fit.set2 HR4.out, held_set2 (bt (bt (bt (HQ.out.trans (HB0.out.mono (show w.heap.size ≤ w.heap.size + 1 + 1 by omega))) (Below.drew (Below.refl _ _))) hb3) hb4) (by omega)⟩
set_option maxHeartbeats 1000000 in
theorem rneg_any {w : World} {v : Value} {x : Int} (h : RefR w v x) : Calls Tryz.prog 141 #[v] w (rGivesZ w (-x)) := by
 obtain ⟨n1, s1, l1, rfl, lr1, c1, g1, z1, a1⟩ := h.parts
 have LA : Lim 10000 l1 := c1.1
 have fin : (if (!n1) = true then -(val 10000 l1 : Int) else val 10000 l1) = -x := by subst z1; cases n1 <;> simp
 have FIN := Lib.hid fin
 clear h z1 g1 a1 fin
 have BF := Lib.hid (box1_facts w n1 s1 84)
 go_enter Tryz.func141, Tryz.ntmps141
 go_wp2_with fail
 revert BF
 generalize ((w.alloc (.cells #[.bool n1, s1] 84)).alloc (.cells #[.bool false, .slice none 0 0] 84)) = W
 intro BF
 have HQ := Lib.hid BF.out.1
 have HG := Lib.hid BF.out.2.2.2
 obtain ⟨q1, q2⟩ := And.intro BF.out.2.1 BF.out.2.2.1
 refine (rsigned_gives (lr1.below HQ.out) LA).mono ?_
 rintro e w2 ⟨n4, a4, k4, c4, rfl, hu4, hb4⟩
 have HU4 := Lib.hid hu4
 have HR4 := Lib.hid (blk_next HG.out hb4)
 clear hu4 q1 q2
 obtain ⟨d0, d1, e0, e1⟩ := res_facts HR4.out
 go_wp2
 try simp only [Exit.inBlock, Exit.then]
 refine bodyPost_ret (results_cell_row rfl _ _ (w.heap.size + 1) 84 _ (0, 0) _ rfl (res_set HR4.out) Tryz.underlying84 rfl (by kernel_rfl)) rfl ?_
 have fit := HU4.out
 rw [FIN.out] at fit
 exact ⟨n4, a4, k4, c4, rfl, fit.set2 HR4.out, held_set2 (bt HQ.out hb4) (by omega)⟩
end Go.Proofs.YteionhenpehogaaGreatDoor
namespace Go.Proofs.YteionhenpehogaaGreatDoor
open Go.RowKit Tally
structure ROfI (n k : Nat) (L : List Nat) : Prop where
 lim : Lim 10000 L
 sum : val 10000 L + 10000 ^ L.length * k = n
theorem ROfI.few {n k : Nat} {L : List Nat} (h : ROfI n k L) (hk : 0 < k) (hn : n ≤ 9223372036854775808) : L.length < 5 := by
 rcases Nat.lt_or_ge L.length 5 with q | q
 ·exact q
 ·have h1 : 10000 ^ 5 ≤ 10000 ^ L.length := Nat.pow_le_pow_right (by decide) q
  have h2 : 10000 ^ L.length * 1 ≤ 10000 ^ L.length * k := Nat.mul_le_mul_left _ hk
  have h3 := h.sum
  have h4 : (10000 : Nat) ^ 5 = 100000000000000000000 := by decide
  omega
theorem ROfI.step {n k : Nat} {L : List Nat} (h : ROfI n k L) : ROfI n (k / 10000) (L ++ [k % 10000]) := by
 refine ⟨h.lim.append (Lim.single (Nat.mod_lt _ (by decide))), ?_⟩
 have := h.sum
 rw [val_snoc, List.length_append, List.length_singleton, pow_succ']
 have p := place_div 10000 (10000 ^ L.length) k
 omega
theorem tmod_neg {k : Nat} : (-(k : Int)).tmod 10000 = -((k % 10000 : Nat) : Int) := by
 rw [Int.neg_tmod]; rfl
theorem tdiv_neg {k : Nat} : (-(k : Int)).tdiv 10000 = -((k / 10000 : Nat) : Int) := by
 rw [Int.neg_tdiv]; rfl
set_option maxHeartbeats 2000000 in
set_option maxRecDepth 100000 in
theorem rof_any {w : World} {n : Int} (h1 : -9223372036854775808 ≤ n) (h2 : n ≤ 9223372036854775807) :
  Calls Tryz.prog 100 #[.int .i64 n] w (rGivesZ w n) := by
 obtain ⟨i0, hi, hz0, hz1, hz2⟩ := info_parts infoI
 obtain ⟨N, hN⟩ : ∃ N, n.natAbs = N := ⟨_, rfl⟩
 have HN := Lib.hid hN
 have hN2 : N ≤ 9223372036854775808 := by omega
 have HN2 := Lib.hid hN2
 have app : ∀ (wr w2 : World) (sv v' : Value) (L : List Nat) (z : Int) (u : Nat), z = (u : Int) → Below w.heap.size w wr → wr.heap[w.heap.size]? = some (.cells #[.bool false, .slice none 0 0] 84 (0, 0)) → wr.ownsRow (w.heap.size + 1) 3 1 sv L.length (numsOf .i64 L) → w2.ownsRow (w.heap.size + 1) 3 1 v' (L.length + 1) (numsOf .i64 L ++ [.int .i64 z]) → (wr.alloc (.cells #[.int .i64 z] 3)).grownBy w2 sv.ownBlock → w2.ownsRow (w.heap.size + 1) 3 1 v' (L ++ [u]).length (numsOf .i64 (L ++ [u])) ∧ Below w.heap.size w w2 ∧ w2.heap[w.heap.size]? = some (.cells #[.bool false, .slice none 0 0] 84 (0, 0)) := fun wr w2 sv v' L z u hz hb hr hown ho hg => by
  subst hz
  have hlt := (Array.getElem?_eq_some_iff.1 hr).1
  refine ⟨by rw [List.length_append]; exact owns_snoc ho, (hb.alloc hb.size _).grown hg (by simp; omega) (fun j hj => by have := (hown.lt j hj).1; omega), ?_⟩
  rw [hg.block w.heap.size (by simp; omega) (fun e => by have := (hown.lt w.heap.size e.symm).1; omega), Lib.alloc_old wr _ w.heap.size hlt]
  exact hr
 have APP := Lib.hid app
 clear hN app
 by_cases hn : n < 0
 ·have HV := Lib.hid (show (if true = true then -(N : Int) else (N : Int)) = n by have := HN.out; simp; omega)
  have hd : decide (n < 0) = true := by simp [hn]
  go_enter Tryz.func100, Tryz.ntmps100
  go_wp2
  go_loopw [3, 4] (fun l u wr => ∃ (k : Nat) (L : List Nat) (sv : Value), sv = l ∧ u = .int .i64 (-(k : Int)) ∧ k ≤ 9223372036854775808 ∧ Hid (ROfI N k L) ∧ wr.ownsRow (w.heap.size + 1) 3 1 sv L.length (numsOf .i64 L) ∧ Below w.heap.size w wr ∧ Hid (wr.heap[w.heap.size]? = some (.cells #[.bool false, .slice none 0 0] 84 (0, 0)))) (fun _ u _ => (intOf u).natAbs)
  case atStart => exact ⟨N, [], _, rfl, int_eq (by have := HN.out; omega), hN2, Lib.hid ⟨fun x hx => by simp at hx, by simp⟩, World.ownsRow_nil _ _ _ _, (Below.refl _ _).alloc (Nat.le_refl _) _, Lib.hid (heap_alloc_new _ _)⟩
  case round =>
   obtain ⟨k, L, sv, rfl, rfl, hk2, HI, hown, hbr, HR⟩ := hrel
   have HB := Lib.hid hbr
   have hsz := hbr.size
   have hlt := (Array.getElem?_eq_some_iff.1 HR.out).1
   clear hbr
   by_cases hk0 : k = 0
   ·subst hk0
    obtain ⟨a, c, rfl⟩ : ∃ a c, sv = .slice a L.length c := by
     rcases hown.2 with ⟨rfl, h0⟩ | ⟨g, cap, cur, rfl, _⟩
     ·exact ⟨none, 0, by rw [h0]⟩
     ·exact ⟨_, _, rfl⟩
    have hs : QR wr (.slice a L.length c) L := RowR.of_owns hown
    have HS := Lib.hid hs
    have hv : val 10000 L = N := by have := HI.out.sum; simpa using this
    have HVL := Lib.hid hv
    clear hown hs hv
    go_wp2_with fail
    refine (rsigned_gives HS.out HI.out.lim).mono ?_
    rintro e w5 ⟨n4, a4, k4, c4, rfl, hu4, hb4⟩
    have HU4 := Lib.hid hu4
    have HR4 := Lib.hid (blk_next HR.out hb4)
    clear hu4
    obtain ⟨d0, d1, e0, e1⟩ := res_facts HR4.out
    go_wp2
    try simp only [Exit.inBlock, Exit.then]
    refine bodyPost_ret (results_cell_row rfl _ _ w.heap.size 84 _ (0, 0) _ rfl (res_set HR4.out) Tryz.underlying84 rfl (by kernel_rfl)) rfl ?_
    have fit := HU4.out
    rw [HVL.out, HV.out] at fit
    exact ⟨n4, a4, k4, c4, rfl, fit.set2 HR4.out, held_set2 (bt HB.out hb4) (Nat.le_refl _)⟩
   ·have hkz : ((-(k : Int)) != 0) = true := by simp; omega
    have hfew := HI.out.few (by omega) HN2.out
    have t1 := @tmod_neg k
    have t2 := @tdiv_neg k
    have hstep := HI.out.step
    have HST := Lib.hid hstep
    have hm : k % 10000 < 10000 := Nat.mod_lt _ (by decide)
    have hkd : k / 10000 < k := by omega
    obtain ⟨m, hmm⟩ : ∃ m, k % 10000 = m := ⟨_, rfl⟩
    obtain ⟨d, hdd⟩ : ∃ d, k / 10000 = d := ⟨_, rfl⟩
    rw [hmm] at t1 HST hm
    rw [hdd] at t2 HST hkd
    clear hstep hmm hdd
    by_cases hm0 : m = 0
    ·subst hm0
     go_wp2_with (at_builtin; refine wpList_append_own _ rfl _ _ 53 rfl (w.heap.size + 1) 3 i0 (.int .i64 0) 1 8 Tryz.underlying53 hi hz0 hz1 hz2 rfl (by decide) _ _ _ rfl (hown.alloc _) ⟨wr.heap.size, 0, none⟩ 1 1 [.int .i64 0] rfl rfl (cell_one_new _ _ _) (by simp [Value.oneCell']) (by unfold maxLen; omega) (by omega) (by simp; omega) ?_)
     intro v' w2 ho hg _
     obtain ⟨g1, g2, g3⟩ := APP.out wr w2 sv v' L _ 0 rfl HB.out HR.out hown ho hg
     have G1 := Lib.hid g1
     have G2 := Lib.hid g2
     have G3 := Lib.hid g3
     clear ho hg g1 g2 g3 hown
     go_wp2
     go_roundw
     case rel => exact ⟨d, _, _, rfl, rfl, by omega, HST, G1.out, G2.out, G3⟩
     case measure => simp [intOf]; omega
    ·have hmz : (-(m : Int)) < 0 := by omega
     go_wp2_with (at_builtin; refine wpList_append_own _ rfl _ _ 53 rfl (w.heap.size + 1) 3 i0 (.int .i64 0) 1 8 Tryz.underlying53 hi hz0 hz1 hz2 rfl (by decide) _ _ _ rfl (hown.alloc _) ⟨wr.heap.size, 0, none⟩ 1 1 [.int .i64 (m : Int)] rfl rfl (cell_one_new _ _ _) (by simp [Value.oneCell']) (by unfold maxLen; omega) (by omega) (by simp; omega) ?_)
     intro v' w2 ho hg _
     obtain ⟨g1, g2, g3⟩ := APP.out wr w2 sv v' L _ m rfl HB.out HR.out hown ho hg
     have G1 := Lib.hid g1
     have G2 := Lib.hid g2
     have G3 := Lib.hid g3
     clear ho hg g1 g2 g3 hown
     go_wp2
     go_roundw
     case rel => exact ⟨d, _, _, rfl, rfl, by omega, HST, G1.out, G2.out, G3⟩
     case measure => simp [intOf]; omega
 ·have HV := Lib.hid (show (if false = true then -(N : Int) else (N : Int)) = n by have := HN.out; simp; omega)
  have hd : decide (n < 0) = false := by simp [hn]
  have hn0 : 0 ≤ n := by omega
  go_enter Tryz.func100, Tryz.ntmps100
  go_wp2
  go_loopw [3, 4] (fun l u wr => ∃ (k : Nat) (L : List Nat) (sv : Value), sv = l ∧ u = .int .i64 (k : Int) ∧ k ≤ 9223372036854775807 ∧ Hid (ROfI N k L) ∧ wr.ownsRow (w.heap.size + 1) 3 1 sv L.length (numsOf .i64 L) ∧ Below w.heap.size w wr ∧ Hid (wr.heap[w.heap.size]? = some (.cells #[.bool false, .slice none 0 0] 84 (0, 0)))) (fun _ u _ => (intOf u).natAbs)
  case atStart => exact ⟨N, [], _, rfl, int_eq (by have := HN.out; omega), by have := HN.out; omega, Lib.hid ⟨fun x hx => by simp at hx, by simp⟩, World.ownsRow_nil _ _ _ _, (Below.refl _ _).alloc (Nat.le_refl _) _, Lib.hid (heap_alloc_new _ _)⟩
  case round =>
   obtain ⟨k, L, sv, rfl, rfl, hk2, HI, hown, hbr, HR⟩ := hrel
   have HB := Lib.hid hbr
   have hsz := hbr.size
   have hlt := (Array.getElem?_eq_some_iff.1 HR.out).1
   clear hbr
   by_cases hk0 : k = 0
   ·subst hk0
    obtain ⟨a, c, rfl⟩ : ∃ a c, sv = .slice a L.length c := by
     rcases hown.2 with ⟨rfl, h0⟩ | ⟨g, cap, cur, rfl, _⟩
     ·exact ⟨none, 0, by rw [h0]⟩
     ·exact ⟨_, _, rfl⟩
    have hs : QR wr (.slice a L.length c) L := RowR.of_owns hown
    have HS := Lib.hid hs
    have hv : val 10000 L = N := by have := HI.out.sum; simpa using this
    have HVL := Lib.hid hv
    clear hown hs hv
    go_wp2_with fail
    refine (rsigned_gives HS.out HI.out.lim).mono ?_
    rintro e w5 ⟨n4, a4, k4, c4, rfl, hu4, hb4⟩
    have HU4 := Lib.hid hu4
    have HR4 := Lib.hid (blk_next HR.out hb4)
    clear hu4
    obtain ⟨d0, d1, e0, e1⟩ := res_facts HR4.out
    go_wp2
    try simp only [Exit.inBlock, Exit.then]
    refine bodyPost_ret (results_cell_row rfl _ _ w.heap.size 84 _ (0, 0) _ rfl (res_set HR4.out) Tryz.underlying84 rfl (by kernel_rfl)) rfl ?_
    have fit := HU4.out
    rw [HVL.out, HV.out] at fit
    exact ⟨n4, a4, k4, c4, rfl, fit.set2 HR4.out, held_set2 (bt HB.out hb4) (Nat.le_refl _)⟩
   ·have hkz : ((k : Int) != 0) = true := by simp; omega
    have hfew := HI.out.few (by omega) HN2.out
    have hem : (k : Int) % 10000 = ((k % 10000 : Nat) : Int) := by omega
    have HE := Lib.hid hem
    have hstep := HI.out.step
    have HST := Lib.hid hstep
    have hmz : ¬ (k : Int) % 10000 < 0 := by omega
    clear hem hstep
    go_wp2_with (at_builtin; refine wpList_append_own _ rfl _ _ 53 rfl (w.heap.size + 1) 3 i0 (.int .i64 0) 1 8 Tryz.underlying53 hi hz0 hz1 hz2 rfl (by decide) _ _ _ rfl (hown.alloc _) ⟨wr.heap.size, 0, none⟩ 1 1 [.int .i64 ((k : Int) % 10000)] rfl rfl (cell_one_new _ _ _) (by simp [Value.oneCell']) (by unfold maxLen; omega) (by omega) (by simp; omega) ?_)
    intro v' w2 ho hg _
    obtain ⟨g1, g2, g3⟩ := APP.out wr w2 sv v' L _ (k % 10000) HE.out HB.out HR.out hown ho hg
    have G1 := Lib.hid g1
    have G2 := Lib.hid g2
    have G3 := Lib.hid g3
    clear ho hg g1 g2 g3 hown
    go_wp2
    go_roundw
    case rel => exact ⟨k / 10000, _, _, rfl, by go_num, by omega, HST, G1.out, G2.out, G3⟩
    case measure => simp [intOf]; omega
end Go.Proofs.YteionhenpehogaaGreatDoor
