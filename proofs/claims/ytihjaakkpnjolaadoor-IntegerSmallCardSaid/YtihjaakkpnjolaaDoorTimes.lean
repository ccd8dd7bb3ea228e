/- The program's times: the product of limbs. -/
import Derived.Test.YtihjaakkpnjolaaDoorMinus
namespace Go.Proofs.YtihjaakkpnjolaaDoor
open Go.RowKit Tally

/-- a row of given value -/
structure ValI (w : World) (g len T P c : Nat) (L : List Nat) : Prop where
  own : Own .u32 108 w g L
  len : L.length = len
  lim : Lim 1000000000 L
  sum : val 1000000000 L + P * c = T

section
variable {w : World} {g len T P c x y i k : Nat} {L b : List Nat}
theorem ValI.mul (h : ValI w g len (T + 1000000000 ^ i * (x * val 1000000000 (b.take k))) (1000000000 ^ (i + k)) c L) (hk : i + k < len) {z : Int} {o : Nat} (ho : L.getD (i + k) 0 = o) (hy : b.getD k 0 = y) (hz : z = (((x * y + o + c) % 1000000000 : Nat) : Int)) :
    ValI (w.setCell ⟨g, i + k, none⟩ (.int .u32 z)) g len (T + 1000000000 ^ i * (x * val 1000000000 (b.take (k + 1)))) (1000000000 ^ (i + (k + 1))) ((x * y + o + c) / 1000000000) (L.set (i + k) ((x * y + o + c) % 1000000000)) := by
  subst hz ho hy
  exact ⟨h.own.set _ _, by simp [h.len], h.lim.set (Nat.mod_lt _ (by decide)) _, times_step (by rw [h.len]; exact hk) h.sum⟩
theorem ValI.carry (h : ValI w g len T (1000000000 ^ k) c L) (hk : k < len) {z : Int} {o : Nat} (ho : L.getD k 0 = o) (hz : z = (((o + c) % 1000000000 : Nat) : Int)) :
    ValI (w.setCell ⟨g, k, none⟩ (.int .u32 z)) g len T (1000000000 ^ (k + 1)) ((o + c) / 1000000000) (L.set k ((o + c) % 1000000000)) := by
  subst hz ho
  exact ⟨h.own.set _ _, by simp [h.len], h.lim.set (Nat.mod_lt _ (by decide)) _, carry_step (by rw [h.len]; exact hk) h.sum⟩
end

theorem prod_bound {x y : Nat} (hx : x < 1000000000) (hy : y < 1000000000) : 0 ≤ (x : Int) * (y : Int) ∧ (x : Int) * (y : Int) ≤ 999999998000000001 := by
  have h : x * y ≤ 999999999 * 999999999 := Nat.mul_le_mul (by omega) (by omega)
  constructor
  · exact Int.mul_nonneg (by omega) (by omega)
  · have := Int.natCast_mul x y
    omega

theorem cast_mod {x y o c : Nat} : ((x : Int) * (y : Int) + (o : Int) + (c : Int)) % 1000000000 = (((x * y + o + c) % 1000000000 : Nat) : Int) := by
  have := Int.natCast_mul x y
  omega
theorem cast_div {x y o c : Nat} : ((x : Int) * (y : Int) + (o : Int) + (c : Int)) / 1000000000 = (((x * y + o + c) / 1000000000 : Nat) : Int) := by
  have := Int.natCast_mul x y
  omega
theorem int_eq {K : IntKind} {a b : Int} (h : a = b) : Value.int K a = Value.int K b := by rw [h]

/-- a new row of its own, of known length and value -/
def GivesRow (w : World) (n T : Nat) (e : Ending) (w' : World) : Prop :=
  ∃ g L, e = .returned (.slice (some ⟨g, 0, none⟩) n n) ∧ Own .u32 108 w' g L ∧ L.length = n ∧ Lim 1000000000 L ∧ val 1000000000 L = T ∧ w.heap.size ≤ g ∧ Below w.heap.size w w'

set_option maxHeartbeats 2000000 in
set_option maxRecDepth 100000 in
theorem times_any {w : World} {va vb : Value} {a b : List Nat} (ha : LR w va a) (hb : LR w vb b) (la : Lim 1000000000 a) (lb : Lim 1000000000 b)
    (na : a.length ≤ 1000000000000) (nb : b.length ≤ 1000000000000) :
    Calls Tryd.prog 68 #[va, vb] w (GivesRow w (a.length + b.length) (val 1000000000 a * val 1000000000 b)) := by
  obtain ⟨T, hT⟩ : ∃ T, val 1000000000 a * val 1000000000 b = T := ⟨_, rfl⟩
  rw [hT]
  obtain ⟨i0, hi, hz0, hz1, hz2⟩ := info_parts infoU
  obtain ⟨p, b1, o1, c1, rfl, l1, m1, s1, r1⟩ := ha
  obtain ⟨q, b2, o2, c2, rfl, l2, m2, s2, r2⟩ := hb
  obtain ⟨n, hn⟩ : ∃ n, a.length = n := ⟨_, rfl⟩
  obtain ⟨m, hm⟩ : ∃ m, b.length = m := ⟨_, rfl⟩
  have HN := Lib.hid hn
  have HM := Lib.hid hm
  have R1 := Lib.hid r1
  have R2 := Lib.hid r2
  have LA := Lib.hid la
  have LB := Lib.hid lb
  have HT := Lib.hid hT
  rw [hn] at l1 s1 R1 na ⊢
  rw [hm] at l2 s2 R2 nb ⊢
  clear r1 r2 hn hm hT la lb
  have hmk := fun W : World => run_make (P := Tryd.prog) (w := W) 23 108 i0 (.int .u32 0) Tryd.underlying23 hi hz0 .i64 .i64 ((n : Int) + (m : Int)) ((n : Int) + (m : Int)) (by omega) (by omega) (by rw [hz2]; omega) (by omega)
  have e1 : ((n : Int) + (m : Int)).toNat = n + m := by omega
  simp only [hz1, e1, Nat.mul_one, show (Value.int IntKind.u32 0).cells = #[Value.int IntKind.u32 0] from rfl] at hmk
  clear e1
  have hO := Lib.hid (Own.made (K := .u32) (t := 108) w (n + m))
  have hbO := Lib.hid ((Below.refl w.heap.size w).alloc (Nat.le_refl _) (.cells (madeCells #[.int .u32 0] (n + m)) 108))
  go_enter Tryd.func68, Tryd.ntmps68
  go_wp2
  clear hmk
  go_loopw [22] (fun i wr => ∃ (k : Nat) (L : List Nat), k ≤ n ∧ i = .int .i64 k ∧ ValI wr w.heap.size (n + m) (val 1000000000 (a.take k) * val 1000000000 b) 0 0 L ∧ Below w.heap.size w wr) (fun i _ => n - (intOf i).toNat)
  case atStart => exact ⟨0, _, Nat.zero_le _, rfl, ⟨hO.out, by simp, Lim.zeros (by decide) _, by rw [val_zeros]; simp⟩, hbO.out⟩
  case round =>
    obtain ⟨i, L, hk, rfl, hI, hbr⟩ := hrel
    obtain ⟨wo, rfl⟩ : ∃ wo : World, wo = wr := ⟨_, rfl⟩
    have HI := Lib.hid hI
    have HB := Lib.hid hbr
    clear hI hbr
    by_cases hin : i < n
    · have hinz : (i : Int) < (n : Int) := by omega
      obtain rfl := s1 (by omega)
      have t1 := keepc HB.out (R1.out i hin)
      have bx := LA.out.getD (by decide) i
      obtain ⟨x, hx⟩ : ∃ x, a.getD i 0 = x := ⟨_, rfl⟩
      have HX := Lib.hid hx
      rw [hx] at t1 bx
      clear hx
      have hT0 : val 1000000000 (a.take (i + 1)) * val 1000000000 b < 1000000000 ^ (n + m) := by
        have := prod_lt LA.out LB.out (i + 1) (by rw [HN.out]; omega)
        rw [HM.out] at this
        exact Nat.lt_of_lt_of_le this (Nat.pow_le_pow_right (by decide) (by omega))
      have HT0 := Lib.hid hT0
      clear hT0
      go_wp2
      go_loopw [8, 29] (fun c j wr => ∃ (k cc : Nat) (L : List Nat), k ≤ m ∧ j = .int .i64 k ∧ c = .int .u64 cc ∧ cc < 1000000000 ∧ ValI wr w.heap.size (n + m) (val 1000000000 (a.take i) * val 1000000000 b + 1000000000 ^ i * (x * val 1000000000 (b.take k))) (1000000000 ^ (i + k)) cc L ∧ Below w.heap.size w wr) (fun _ j _ => m - (intOf j).toNat)
      case atStart => exact ⟨0, 0, L, Nat.zero_le _, rfl, rfl, by omega, ⟨HI.out.own, HI.out.len, HI.out.lim, by have := HI.out.sum; simpa using this⟩, HB.out⟩
      case round =>
        obtain ⟨k, cc, L2, hk2, rfl, rfl, hcc, hI2, hbr2⟩ := hrel
        have HI2 := Lib.hid hI2
        have HB2 := Lib.hid hbr2
        have f1 := hI2.own.frozen (i + k)
        clear hI2 hbr2
        by_cases hkm : k < m
        · have hkmz : (k : Int) < (m : Int) := by omega
          obtain rfl := s2 (by omega)
          have t2 := keepc HB2.out (R2.out k hkm)
          have by' := LB.out.getD (by decide) k
          have t3 := HI2.out.own.cell (i := i + k) (by rw [HI2.out.len]; omega)
          have bo := HI2.out.lim.getD (by decide) (i + k)
          obtain ⟨y, hy⟩ : ∃ y, b.getD k 0 = y := ⟨_, rfl⟩
          obtain ⟨o, ho⟩ : ∃ o, L2.getD (i + k) 0 = o := ⟨_, rfl⟩
          rw [hy] at t2 by'
          rw [ho] at t3 bo
          have HY := Lib.hid hy
          have HOO := Lib.hid ho
          clear hy ho
          obtain ⟨pb0, pb1⟩ := prod_bound bx by'
          have mc := mul_carry x y o cc bx by' bo hcc
          go_wp2
          go_roundw
          case rel => exact ⟨k + 1, (x * y + o + cc) / 1000000000, _, by omega, by go_num, int_eq cast_div, mc, HI2.out.mul (by omega) HOO.out HY.out cast_mod, HB2.out.setCell (Nat.le_refl _) _⟩
          case measure => simp [intOf]; omega
        · obtain rfl : k = m := by omega
          have hS : ValI wr w.heap.size (n + k) (val 1000000000 (a.take (i + 1)) * val 1000000000 b) (1000000000 ^ (i + k)) cc L2 := by
            have := HI2.out.sum
            have eb : b.take k = b := List.take_of_length_le (by rw [HM.out]; omega)
            rw [eb, ← HX.out, rows_step] at this
            exact ⟨HI2.out.own, HI2.out.len, HI2.out.lim, this⟩
          have HS := Lib.hid hS
          clear hS
          obtain ⟨wi, rfl⟩ : ∃ wi : World, wi = wr := ⟨_, rfl⟩
          go_wp2
          go_loopw [8, 12] (fun c j wr => ∃ (k2 cc : Nat) (L : List Nat), k2 ≤ n + k ∧ j = .int .i64 k2 ∧ c = .int .u64 cc ∧ cc < 1000000000 ∧ ValI wr w.heap.size (n + k) (val 1000000000 (a.take (i + 1)) * val 1000000000 b) (1000000000 ^ k2) cc L ∧ Below w.heap.size w wr) (fun _ j _ => (n + k) - (intOf j).toNat)
          case atStart => exact ⟨i + k, cc, L2, by omega, by go_num, rfl, hcc, HS.out, HB2.out⟩
          case round =>
            obtain ⟨k2, c3, L3, hk3, rfl, rfl, hc3, hI3, hbr3⟩ := hrel
            have HI3 := Lib.hid hI3
            have HB3 := Lib.hid hbr3
            have f3 := hI3.own.frozen k2
            clear hI3 hbr3
            by_cases hc0 : c3 = 0
            · subst hc0
              go_wp2
              go_roundw
              case rel => exact ⟨i + 1, L3, by omega, by go_num, ⟨HI3.out.own, HI3.out.len, HI3.out.lim, by have := HI3.out.sum; simpa using this⟩, HB3.out⟩
              case measure => simp [intOf]; omega
            · have hcz : (0 : Int) < (c3 : Int) := by omega
              have hlt : k2 < n + k := carry_in (by omega) HI3.out.sum HT0.out (by decide)
              have t4 := HI3.out.own.cell (i := k2) (by rw [HI3.out.len]; omega)
              have bo3 := HI3.out.lim.getD (by decide) k2
              obtain ⟨o3, ho3⟩ : ∃ o, L3.getD k2 0 = o := ⟨_, rfl⟩
              rw [ho3] at t4 bo3
              have HO3 := Lib.hid ho3
              clear ho3
              go_wp2
              go_roundw
              case rel => exact ⟨k2 + 1, (o3 + c3) / 1000000000, _, by omega, by go_num, by go_num, by omega, HI3.out.carry hlt HO3.out (by omega), HB3.out.setCell (Nat.le_refl _) _⟩
              case measure => simp [intOf]; omega
    · obtain rfl : i = n := by omega
      go_wp2
      go_ret
      have e := HI.out.sum
      rw [List.take_of_length_le (by rw [HN.out]; omega), HT.out] at e
      exact ⟨w.heap.size, L, rfl, HI.out.own, HI.out.len, HI.out.lim, by simpa using e, Nat.le_refl _, HB.out⟩
end Go.Proofs.YtihjaakkpnjolaaDoor
