/- The reference's mul: the product of limbs. -/
import Derived.Test.YtihjaakkpnjolaaDoorTimes
import Derived.Test.YtihjaakkpnjolaaDoorRSigned
import Derived.IntWalk
namespace Go.Proofs.YtihjaakkpnjolaaDoor
open Go.RowKit Tally

/-- a row of given value, with zeros from place q on -/
structure RValI (w : World) (g len T P c q : Nat) (L : List Nat) : Prop where
  own : Own .i64 3 w g L
  len : L.length = len
  lim : Lim 10000 L
  sum : val 10000 L + P * c = T
  zero : ∀ p, q ≤ p → L.getD p 0 = 0

theorem getD_set_ne {L : List Nat} {i p x : Nat} (h : i ≠ p) : (L.set i x).getD p 0 = L.getD p 0 := by
  simp [List.getD, List.getElem?_set_ne h]

section
variable {w : World} {g len T P c x y i k q : Nat} {L b : List Nat}
theorem RValI.mul (h : RValI w g len (T + 10000 ^ i * (x * val 10000 (b.take k))) (10000 ^ (i + k)) c q L) (hk : i + k < len) (hq : i + k < q) {z : Int} {o : Nat} (ho : L.getD (i + k) 0 = o) (hy : b.getD k 0 = y) (hz : z = (((x * y + o + c) % 10000 : Nat) : Int)) :
    RValI (w.setCell ⟨g, i + k, none⟩ (.int .i64 z)) g len (T + 10000 ^ i * (x * val 10000 (b.take (k + 1)))) (10000 ^ (i + (k + 1))) ((x * y + o + c) / 10000) q (L.set (i + k) ((x * y + o + c) % 10000)) := by
  subst hz ho hy
  exact ⟨h.own.set _ _, by simp [h.len], h.lim.set (Nat.mod_lt _ (by decide)) _, times_step (by rw [h.len]; exact hk) h.sum, fun p hp => by rw [getD_set_ne (by omega)]; exact h.zero p hp⟩
theorem RValI.drew (h : RValI w g len T P c q L) (n : Nat) : RValI (w.drewN n) g len T P c q L := ⟨h.own, h.len, h.lim, h.sum, h.zero⟩
theorem RValI.carry (h : RValI w g len T (10000 ^ k) c k L) (hk : k < len) (hc : c < 10000) : RValI (w.setCell ⟨g, k, none⟩ (.int .i64 (c : Nat))) g len T 0 0 (k + 1) (L.set k c) := by
  have e := val_set_getD 10000 L k c (by rw [h.len]; exact hk)
  rw [h.zero k (Nat.le_refl _)] at e
  have hs := h.sum
  exact ⟨h.own.set _ _, by simp [h.len], h.lim.set hc _, by omega, fun p hp => by rw [getD_set_ne (by omega)]; exact h.zero p (by omega)⟩
end

theorem rprod_bound {x y : Nat} (hx : x < 10000) (hy : y < 10000) : 0 ≤ (x : Int) * (y : Int) ∧ (x : Int) * (y : Int) ≤ 99980001 := by
  have h : x * y ≤ 9999 * 9999 := Nat.mul_le_mul (by omega) (by omega)
  constructor
  · exact Int.mul_nonneg (by omega) (by omega)
  · have := Int.natCast_mul x y
    omega
theorem rcast_mod {x y o c : Nat} : ((o : Int) + (x : Int) * (y : Int) + (c : Int)) % 10000 = (((x * y + o + c) % 10000 : Nat) : Int) := by
  have := Int.natCast_mul x y
  omega
theorem rcast_div {x y o c : Nat} : ((o : Int) + (x : Int) * (y : Int) + (c : Int)) / 10000 = (((x * y + o + c) / 10000 : Nat) : Int) := by
  have := Int.natCast_mul x y
  omega
theorem rmul_carry {x y o c : Nat} (hx : x < 10000) (hy : y < 10000) (ho : o < 10000) (hc : c < 10000) : (x * y + o + c) / 10000 < 10000 := by
  have h : x * y ≤ 9999 * 9999 := Nat.mul_le_mul (by omega) (by omega)
  omega

theorem Own.qlimbs {w : World} {g n : Nat} {l : List Nat} (h : Own .i64 3 w g l) (hn : l.length = n) (hm : n ≤ 9223372036854775807) : QR w (.slice (some ⟨g, 0, none⟩) n n) l := by
  subst hn; exact h.all rfl (Nat.le_refl _) hm

set_option maxHeartbeats 2000000 in
set_option maxRecDepth 100000 in
theorem rmul_limbs {w : World} {va vb : Value} {a b : List Nat} (ha : QR w va a) (hb : QR w vb b) (la : Lim 10000 a) (lb : Lim 10000 b)
    (na : a.length ≤ 1000000000000) (nb : b.length ≤ 1000000000000) :
    Calls Tryd.prog 70 #[va, vb] w (GivesQ w (val 10000 a * val 10000 b)) := by
  obtain ⟨T, hT⟩ : ∃ T, val 10000 a * val 10000 b = T := ⟨_, rfl⟩
  rw [hT]
  obtain ⟨i0, hi, hz0, hz1, hz2⟩ := info_parts infoI
  obtain ⟨p, b1, o1, c1, rfl, l1, m1, s1, r1⟩ := ha
  obtain ⟨q, b2, o2, c2, rfl, l2, m2, s2, r2⟩ := hb
  obtain ⟨n, hn⟩ : ∃ n, a.length = n := ⟨_, rfl⟩
  obtain ⟨m, hm⟩ : ∃ m, b.length = m := ⟨_, rfl⟩
  have HN := Lib.hid hn
  have HM := Lib.hid hm
  have R1 := Lib.hid r1
  have R2 := Lib.hid r2
  have LA := Lib.hid la
  have LB := Lib.hid lb
  have HT := Lib.hid hT
  rw [hn] at l1 s1 R1 na ⊢
  rw [hm] at l2 s2 R2 nb ⊢
  clear r1 r2 hn hm hT la lb
  have hmk := fun W : World => run_make (P := Tryd.prog) (w := W) 26 3 i0 (.int .i64 0) Tryd.underlying26 hi hz0 .i64 .i64 ((n : Int) + (m : Int)) ((n : Int) + (m : Int)) (by omega) (by omega) (by rw [hz2]; omega) (by omega)
  have e1 : ((n : Int) + (m : Int)).toNat = n + m := by omega
  simp only [hz1, e1, Nat.mul_one, show (Value.int IntKind.i64 0).cells = #[Value.int IntKind.i64 0] from rfl] at hmk
  clear e1
  have hO := Lib.hid (Own.made (K := .i64) (t := 3) w (n + m))
  have hbO := Lib.hid ((Below.refl w.heap.size w).alloc (Nat.le_refl _) (.cells (madeCells #[.int .i64 0] (n + m)) 3))
  go_enter Tryd.func70, Tryd.ntmps70
  go_wp2
  clear hmk
  go_loopw [6] (fun i wr => ∃ (k : Nat) (L : List Nat), k ≤ n ∧ i = .int .i64 k ∧ RValI wr w.heap.size (n + m) (val 10000 (a.take k) * val 10000 b) 0 0 (k + m) L ∧ Below w.heap.size w wr) (fun i _ => n - (intOf i).toNat)
  case atStart => exact ⟨0, _, Nat.zero_le _, rfl, ⟨hO.out, by simp, Lim.zeros (by decide) _, by rw [val_zeros]; simp, fun p _ => by
    by_cases hp : p < n + m
    · rw [getD_eq (by simpa using hp)]; simp
    · exact getD_out (by simp; omega)⟩, hbO.out⟩
  case round =>
    obtain ⟨i, L, hk, rfl, hI, hbr⟩ := hrel
    obtain ⟨wo, rfl⟩ : ∃ wo : World, wo = wr := ⟨_, rfl⟩
    have HI := Lib.hid hI
    have HB := Lib.hid hbr
    clear hI hbr
    by_cases hin : i < n
    · have hinz : (i : Int) < (n : Int) := by omega
      obtain rfl := s1 (by omega)
      have bx := LA.out.getD (by decide) i
      obtain ⟨x, hx⟩ : ∃ x, a.getD i 0 = x := ⟨_, rfl⟩
      have HX := Lib.hid hx
      rw [hx] at bx
      clear hx
      go_wp2
      go_loopw [7, 8] (fun c j wr => ∃ (k cc : Nat) (L : List Nat), k ≤ m ∧ j = .int .i64 k ∧ c = .int .i64 cc ∧ cc < 10000 ∧ RValI wr w.heap.size (n + m) (val 10000 (a.take i) * val 10000 b + 10000 ^ i * (x * val 10000 (b.take k))) (10000 ^ (i + k)) cc (i + m) L ∧ Below w.heap.size w wr) (fun _ j _ => m - (intOf j).toNat)
      case atStart => exact ⟨0, 0, L, Nat.zero_le _, rfl, rfl, by omega, ⟨HI.out.own, HI.out.len, HI.out.lim, by have := HI.out.sum; simpa using this, HI.out.zero⟩, HB.out⟩
      case round =>
        obtain ⟨k, cc, L2, hk2, rfl, rfl, hcc, hI2, hbr2⟩ := hrel
        have HI2 := Lib.hid hI2
        have HB2 := Lib.hid hbr2
        clear hI2 hbr2
        by_cases hkm : k < m
        · have hkmz : (k : Int) < (m : Int) := by omega
          obtain rfl := s2 (by omega)
          have t1 := keepc HB2.out (R1.out i hin)
          simp only [HX.out] at t1
          have t2 := keepc HB2.out (R2.out k hkm)
          have by' := LB.out.getD (by decide) k
          have t3 := HI2.out.own.cell (i := i + k) (by rw [HI2.out.len]; omega)
          have bo := HI2.out.lim.getD (by decide) (i + k)
          have f1 := HI2.out.own.frozen (i + k)
          obtain ⟨y, hy⟩ : ∃ y, b.getD k 0 = y := ⟨_, rfl⟩
          obtain ⟨o, ho⟩ : ∃ o, L2.getD (i + k) 0 = o := ⟨_, rfl⟩
          simp only [hy] at t2 by'
          simp only [ho] at t3 bo
          have HY := Lib.hid hy
          have HOO := Lib.hid ho
          clear hy ho
          obtain ⟨pb0, pb1⟩ := rprod_bound bx by'
          have mc := rmul_carry bx by' bo hcc
          have w1 : IntKind.i64.wrap ((i : Int) + (k : Int)) = (i : Int) + (k : Int) := IntWalk.i64_in _ (by omega)
          have w2 : IntKind.i64.wrap ((x : Int) * (y : Int)) = (x : Int) * (y : Int) := IntWalk.i64_in _ (by omega)
          have w3 : IntKind.i64.wrap ((o : Int) + (x : Int) * (y : Int)) = (o : Int) + (x : Int) * (y : Int) := IntWalk.i64_in _ (by omega)
          have w4 : IntKind.i64.wrap ((o : Int) + (x : Int) * (y : Int) + (cc : Int)) = (o : Int) + (x : Int) * (y : Int) + (cc : Int) := IntWalk.i64_in _ (by omega)
          have u1 : (0 : Int) ≤ (i : Int) + (k : Int) := by omega
          have u2 : ((i : Int) + (k : Int)).toNat = i + k := by omega
          have u3 : ((i : Int) + (k : Int)) < (((n + m : Nat)) : Int) := by omega
          have u4 : (i : Int) < (n : Int) := by omega
          have u5 : (0 : Int) ≤ (i : Int) := by omega
          have u6 : (0 : Int) ≤ (k : Int) := by omega
          have u7 : (i : Int) + (k : Int) < (n : Int) + (m : Int) := by omega
          have ur : i + k < n + m := by omega
          go_wp2_with fail
          go_quiet (fail)
          clear w1 w2 w3 w4 u2
          go_wp2
          go_roundw
          case rel => exact ⟨k + 1, (x * y + o + cc) / 10000, _, by omega, by go_num, int_eq rcast_div, mc, (HI2.out.drew _).mul ur (by omega) HOO.out HY.out rcast_mod, (Below.drewN' HB2.out _).setCell (Nat.le_refl _) _⟩
          case measure => simp [intOf]; omega
        · obtain rfl : k = m := by omega
          have hS : RValI wr w.heap.size (n + k) (val 10000 (a.take (i + 1)) * val 10000 b) (10000 ^ (i + k)) cc (i + k) L2 := by
            have := HI2.out.sum
            have eb : b.take k = b := List.take_of_length_le (by rw [HM.out]; omega)
            rw [eb, ← HX.out, rows_step] at this
            exact ⟨HI2.out.own, HI2.out.len, HI2.out.lim, this, HI2.out.zero⟩
          have hS2 := hS.carry (by omega) hcc
          have f1 := HI2.out.own.frozen (i + k)
          have t3 := HI2.out.own.cell (i := i + k) (by rw [HI2.out.len]; omega)
          have HS := Lib.hid hS2
          clear hS hS2
          go_wp2
          go_roundw
          case rel => exact ⟨i + 1, _, by omega, by go_num, by have := HS.out; rw [show i + k + 1 = i + 1 + k by omega] at this; exact this, HB2.out.setCell (Nat.le_refl _) _⟩
          case measure => simp [intOf]; omega
    · obtain rfl : i = n := by omega
      have hq := HI.out.own.qlimbs HI.out.len (by omega)
      have HQ := Lib.hid hq
      clear hq
      go_wp2_with fail
      refine (rtrim_any HQ.out).mono ?_
      rintro e w2 ⟨u, rfl, hu, hb⟩
      have e := HI.out.sum
      rw [List.take_of_length_le (by rw [HN.out]; omega), HT.out] at e
      have hfin := (hu _ HQ.out).below hb
      have HF := Lib.hid hfin
      have E := Lib.hid e
      clear hu hfin e
      go_wp2
      go_ret
      exact ⟨u, trimZ L, rfl, HF.out, HI.out.lim.trimZ, by rw [val_trimZ]; simpa using E.out, bt HB.out hb⟩
end Go.Proofs.YtihjaakkpnjolaaDoor
