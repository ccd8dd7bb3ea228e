/- The program's minus: the difference of limbs. -/
import Derived.Test.YtihjaakkpnjolaaDoorPlus
namespace Go.Proofs.YtihjaakkpnjolaaDoor
open Go.RowKit Tally

/-- after k limbs: the row, with what was borrowed from place k -/
structure MinusI (w : World) (g : Nat) (a b : List Nat) (k c : Nat) (L : List Nat) : Prop where
  own : Own .u32 108 w g L
  len : L.length = a.length
  rest : L.drop k = a.drop k
  lim : Lim 1000000000 L
  sum : val 1000000000 L + val 1000000000 (b.take k) = val 1000000000 a + 1000000000 ^ k * c

section
variable {w w' : World} {g : Nat} {a b : List Nat} {k c c' x : Nat} {L : List Nat}
theorem MinusI.start (h : Own .u32 108 w g a) (hl : Lim 1000000000 a) : MinusI w g a b 0 0 a := ⟨h, rfl, rfl, hl, by simp⟩
theorem MinusI.cell (h : MinusI w g a b k c L) (hk : k < a.length) : w.cell? ⟨g, k, none⟩ = some (.int .u32 (a.getD k 0 : Nat)) := by
  rw [h.own.cell (by rw [h.len]; omega), getD_of_drop h.rest k (Nat.le_refl _)]
theorem MinusI.next (h : MinusI w g a b k c L) (ho : Own .u32 108 w' g (L.set k x)) (hk : k < a.length) (hx : x < 1000000000) (he : x + (b.getD k 0 + c) = a.getD k 0 + 1000000000 * c') :
    MinusI w' g a b (k + 1) c' (L.set k x) :=
  ⟨ho, by simp [h.len], by rw [drop_set]; have := congrArg (List.drop 1) h.rest; simpa [List.drop_drop] using this, h.lim.set hx k, minus_step (by rw [h.len]; omega) h.rest h.sum he⟩
theorem MinusI.step0 (h : MinusI w g a b k c L) (hk : k < a.length) (ha : a.getD k 0 < 1000000000) (hle : b.getD k 0 + c ≤ a.getD k 0) {z : Int} (hz : z = ((a.getD k 0 - (b.getD k 0 + c) : Nat) : Int)) :
    MinusI (w.setCell ⟨g, k, none⟩ (.int .u32 z)) g a b (k + 1) 0 (L.set k (a.getD k 0 - (b.getD k 0 + c))) := by
  subst hz
  exact h.next (h.own.set k _) hk (by omega) (by omega)
theorem MinusI.step1 (h : MinusI w g a b k c L) (hk : k < a.length) (hlt : a.getD k 0 < b.getD k 0 + c) (hle : b.getD k 0 + c ≤ 1000000000) {y z : Int} (hy : y = ((a.getD k 0 + 1000000000 : Nat) : Int)) (hz : z = ((a.getD k 0 + 1000000000 - (b.getD k 0 + c) : Nat) : Int)) :
    MinusI ((w.setCell ⟨g, k, none⟩ (.int .u32 y)).setCell ⟨g, k, none⟩ (.int .u32 z)) g a b (k + 1) 1 (L.set k (a.getD k 0 + 1000000000 - (b.getD k 0 + c))) := by
  subst hy hz
  have := (h.own.set k (a.getD k 0 + 1000000000)).set k (a.getD k 0 + 1000000000 - (b.getD k 0 + c))
  rw [List.set_set] at this
  exact h.next this hk (by omega) (by omega)
theorem MinusI.done (h : MinusI w g a b a.length c L) (hb : b.length ≤ a.length) (hle : val 1000000000 b ≤ val 1000000000 a) : val 1000000000 L = val 1000000000 a - val 1000000000 b := by
  have := h.sum
  rw [List.take_of_length_le hb] at this
  have hl := val_lt 1000000000 L h.lim
  rw [h.len] at hl
  rcases Nat.eq_zero_or_pos c with h0 | h0
  · subst h0; omega
  · have : 1000000000 ^ a.length * 1 ≤ 1000000000 ^ a.length * c := Nat.mul_le_mul_left _ h0
    omega
end

set_option maxHeartbeats 2000000 in
set_option maxRecDepth 100000 in
theorem minus_any {w : World} {va vb : Value} {a b : List Nat} (ha : LR w va a) (hb : LR w vb b) (la : Lim 1000000000 a) (lb : Lim 1000000000 b)
    (na : a.length ≤ 1000000000000) (nb : b.length ≤ a.length) (hle : val 1000000000 b ≤ val 1000000000 a) :
    Calls Tryd.prog 79 #[va, vb] w (GivesL w (val 1000000000 a - val 1000000000 b)) := by
  obtain ⟨T, hT⟩ : ∃ T, val 1000000000 a - val 1000000000 b = T := ⟨_, rfl⟩
  rw [hT]
  obtain ⟨i0, hi, hz0, hz1, hz2⟩ := info_parts infoU
  obtain ⟨p, b1, o1, c1, rfl, l1, m1, s1, r1⟩ := ha
  obtain ⟨q, b2, o2, c2, rfl, l2, m2, s2, r2⟩ := hb
  obtain ⟨n, hn⟩ : ∃ n, a.length = n := ⟨_, rfl⟩
  obtain ⟨m, hm⟩ : ∃ m, b.length = m := ⟨_, rfl⟩
  have HN := Lib.hid hn
  have HM := Lib.hid hm
  have R1 := Lib.hid r1
  have R2 := Lib.hid r2
  have LA := Lib.hid la
  have LB := Lib.hid lb
  have HT := Lib.hid hT
  have HLE := Lib.hid hle
  rw [hn] at l1 s1 R1 na nb ⊢
  rw [hm] at l2 s2 R2 nb ⊢
  clear r1 r2 hn hm hT la lb hle
  have hmk := fun W : World => run_make (P := Tryd.prog) (w := W) 23 108 i0 (.int .u32 0) Tryd.underlying23 hi hz0 .i64 .i64 (n : Int) (n : Int) (by omega) (by omega) (by rw [hz2]; omega) (by omega)
  have e1 : ((n : Int)).toNat = n := by omega
  simp only [hz1, e1, Nat.mul_one, show (Value.int IntKind.u32 0).cells = #[Value.int IntKind.u32 0] from rfl] at hmk
  clear e1
  have hO := Lib.hid (Own.made (K := .u32) (t := 108) w n)
  have hbO := Lib.hid ((Below.refl w.heap.size w).alloc (Nat.le_refl _) (.cells (madeCells #[.int .u32 0] n) 108))
  have hnn : (numsOf .u32 a).length = Nat.min n n := by rw [numsOf_length, HN.out]; exact (Nat.min_self n).symm
  have HNN := Lib.hid hnn
  clear hnn
  go_enter Tryd.func79, Tryd.ntmps79
  go_wp2_with (with_reducible refine wpList_copy_splice rfl (.tmp 12) (.tmp 13) 23 23 rfl 108 Tryd.underlying23 sizeU _ _ _ _ _ _ rfl rfl w.heap.size 0 (numsOf .u32 (List.replicate n 0)) 108 hO.out.heap (numsOf .u32 a) HNN.out (copySrc hbO.out HN.out s1 R1.out w.heap.size) (by rw [numsOf_length, numsOf_length, HN.out, List.length_replicate]; omega) numsOf_one w.heap.size w hbO.out (Nat.le_refl _) ?_)
  intro w1 hw1 hb1
  have hO1 : Own .u32 108 w1 w.heap.size a := by
    have := hw1.out
    rw [splice_all (by rw [List.length_replicate, HN.out])] at this
    exact this
  have O1 := Lib.hid hO1
  have B1 := Lib.hid hb1
  clear hO1 hw1 hb1 hmk
  go_wp2
  go_loopw [6, 17] (fun c i wr => ∃ (k cc : Nat) (L : List Nat), k ≤ n ∧ i = .int .i64 k ∧ c = .int .u32 cc ∧ cc ≤ 1 ∧ MinusI wr w.heap.size a b k cc L ∧ Below w.heap.size w wr) (fun _ i _ => n - (intOf i).toNat)
  case atStart => exact ⟨0, 0, _, Nat.zero_le _, rfl, rfl, Nat.zero_le _, MinusI.start O1.out LA.out, B1.out⟩
  case round =>
    obtain ⟨k, cc, L, hk, rfl, rfl, hcc, hI, hbr⟩ := hrel
    have HI := Lib.hid hI
    have HB := Lib.hid hbr
    have f1 := hI.own.frozen k
    clear hI hbr
    by_cases hkn : k < n
    · have hknz : (k : Int) < (n : Int) := by omega
      have t1 := HI.out.cell (by rw [HN.out]; exact hkn)
      have bx := LA.out.getD (by decide) k
      have by' := LB.out.getD (by decide) k
      have st0 := fun h z hz => HI.out.step0 (z := z) (by rw [HN.out]; exact hkn) bx h hz
      have st1 := fun h h' y z hy hz => HI.out.step1 (y := y) (z := z) (by rw [HN.out]; exact hkn) h h' hy hz
      obtain rfl := s1 (by omega)
      by_cases hkm : k < m
      · obtain rfl := s2 (by omega)
        have t2 := keepc HB.out (R2.out k hkm)
        have hkmz : (k : Int) < (m : Int) := by omega
        generalize a.getD k 0 = x at *
        generalize b.getD k 0 = y at *
        have S0 := Lib.hid st0
        have S1 := Lib.hid st1
        clear st0 st1
        by_cases hxy : x < y + cc
        · have hlz : (x : Int) < (cc : Int) + (y : Int) := by omega
          go_wp2
          go_roundw
          case rel => exact ⟨k + 1, 1, _, by omega, by go_num, by go_num, by omega, S1.out hxy (by omega) _ _ (by omega) (by omega), (HB.out.setCell (Nat.le_refl _) _).setCell (Nat.le_refl _) _⟩
          case measure => simp [intOf]; omega
        · have hlz : ¬ (x : Int) < (cc : Int) + (y : Int) := by omega
          go_wp2
          go_roundw
          case rel => exact ⟨k + 1, 0, _, by omega, by go_num, by go_num, by omega, S0.out (by omega) _ (by omega), HB.out.setCell (Nat.le_refl _) _⟩
          case measure => simp [intOf]; omega
      · have hkmz : ¬ (k : Int) < (m : Int) := by omega
        have y0 : b.getD k 0 = 0 := getD_out (by rw [HM.out]; omega)
        rw [y0] at st0 st1 by'
        clear y0 by'
        generalize a.getD k 0 = x at *
        have S0 := Lib.hid st0
        have S1 := Lib.hid st1
        clear st0 st1
        by_cases hxy : x < cc
        · have hlz : (x : Int) < (cc : Int) := by omega
          go_wp2
          go_roundw
          case rel => exact ⟨k + 1, 1, _, by omega, by go_num, by go_num, by omega, S1.out (by omega) (by omega) _ _ (by omega) (by omega), (HB.out.setCell (Nat.le_refl _) _).setCell (Nat.le_refl _) _⟩
          case measure => simp [intOf]; omega
        · have hlz : ¬ (x : Int) < (cc : Int) := by omega
          go_wp2
          go_roundw
          case rel => exact ⟨k + 1, 0, _, by omega, by go_num, by go_num, by omega, S0.out (by omega) _ (by omega), HB.out.setCell (Nat.le_refl _) _⟩
          case measure => simp [intOf]; omega
    · obtain rfl : k = n := by omega
      go_wp2
      go_ret
      have hl : L.length = k := by rw [HI.out.len, HN.out]
      have hr := HI.out.own.all (n := k) (c := k) hl.symm (Nat.le_refl _) (by omega)
      exact ⟨_, L, rfl, hr, HI.out.lim, by rw [MinusI.done (HN.out.symm ▸ HI.out) (by rw [HM.out, HN.out]; omega) HLE.out, HT.out], HB.out⟩
end Go.Proofs.YtihjaakkpnjolaaDoor
