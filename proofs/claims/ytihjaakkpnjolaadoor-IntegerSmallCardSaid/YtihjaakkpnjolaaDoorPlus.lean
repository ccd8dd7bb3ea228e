/- The program's plus: the sum of limbs. -/
import Derived.Test.YtihjaakkpnjolaaDoorOwn
namespace Go.Proofs.YtihjaakkpnjolaaDoor
open Go.RowKit Tally

/-- after k limbs: the row, with the carry at place k -/
structure PlusI (w : World) (g : Nat) (big sml : List Nat) (k c : Nat) (L : List Nat) : Prop where
  own : Own .u32 108 w g L
  len : L.length = big.length + 1
  rest : L.drop k = (big ++ [0]).drop k
  lim : Lim 1000000000 L
  sum : val 1000000000 L + 1000000000 ^ k * c = val 1000000000 big + val 1000000000 (sml.take k)

theorem snoc_getD {l : List Nat} {k : Nat} : (l ++ [0]).getD k 0 = l.getD k 0 := by
  by_cases h : k < l.length
  · rw [getD_eq (by simp; omega), getD_eq h, List.getElem_append_left h]
  · rw [getD_out (l := l) (by omega)]
    by_cases h2 : k = l.length
    · subst h2; simp [List.getD]
    · exact getD_out (by simp; omega)

theorem val_snoc_zero {B : Nat} {l : List Nat} : val B (l ++ [0]) = val B l := by rw [val_snoc]; simp

section
variable {w w' : World} {g : Nat} {big sml : List Nat} {k c : Nat} {L : List Nat}
theorem PlusI.keep (h : PlusI w g big sml k c L) (e : w'.heap[g]? = w.heap[g]?) : PlusI w' g big sml k c L := ⟨h.own.keep e, h.len, h.rest, h.lim, h.sum⟩
theorem PlusI.start (h : Own .u32 108 w g (big ++ [0])) (hl : Lim 1000000000 big) : PlusI w g big sml 0 0 (big ++ [0]) :=
  ⟨h, by simp, rfl, hl.append (Lim.single (by decide)), by rw [val_snoc_zero]; simp⟩
theorem PlusI.cell (h : PlusI w g big sml k c L) (hk : k < big.length) : w.cell? ⟨g, k, none⟩ = some (.int .u32 (big.getD k 0 : Nat)) := by
  rw [h.own.cell (by rw [h.len]; omega), getD_of_drop h.rest k (Nat.le_refl _), snoc_getD]
theorem PlusI.step (h : PlusI w g big sml k c L) (hk : k < big.length) {z : Int} (hz : z = (((big.getD k 0 + c + sml.getD k 0) % 1000000000 : Nat) : Int)) :
    PlusI (w.setCell ⟨g, k, none⟩ (.int .u32 z)) g big sml (k + 1) ((big.getD k 0 + c + sml.getD k 0) / 1000000000) (L.set k ((big.getD k 0 + c + sml.getD k 0) % 1000000000)) := by
  subst hz
  refine ⟨h.own.set k _, by simp [h.len], by rw [drop_set]; have := congrArg (List.drop 1) h.rest; simpa [List.drop_drop] using this, h.lim.set (Nat.mod_lt _ (by decide)) k, ?_⟩
  have hs := h.sum
  rw [← val_snoc_zero (l := big)] at hs
  have := plus_step (B := 1000000000) (a := big ++ [0]) (by rw [h.len]; omega) h.rest hs
  rw [snoc_getD, val_snoc_zero] at this
  exact this
theorem PlusI.top (h : PlusI w g big sml k c L) (hk : k ≤ big.length) : val 1000000000 L = val 1000000000 (L.take big.length) := by
  have e := val_take_getD 1000000000 L big.length
  rw [List.take_of_length_le (by rw [h.len]; omega), getD_of_drop h.rest _ hk, snoc_getD, getD_out (Nat.le_refl _)] at e
  rw [e]; simp
theorem PlusI.done (h : PlusI w g big sml k 0 L) (hk : k ≤ big.length) (hs : sml.length ≤ k) : val 1000000000 (L.take big.length) = val 1000000000 big + val 1000000000 sml := by
  have := h.sum
  rw [h.top hk, List.take_of_length_le hs] at this
  simpa using this
theorem PlusI.over (h : PlusI w g big sml big.length c L) (hs : sml.length ≤ big.length) : val 1000000000 (L.take big.length ++ [c]) = val 1000000000 big + val 1000000000 sml := by
  have := h.sum
  rw [h.top (Nat.le_refl _), List.take_of_length_le hs] at this
  rw [val_snoc, List.length_take, h.len, show min big.length (big.length + 1) = big.length by omega]
  exact this
theorem PlusI.give {w0 : World} {T n : Nat} (h : PlusI w g big sml k 0 L) (hk : k ≤ n) (hs : sml.length ≤ k) (hn : big.length = n) (hT : val 1000000000 big + val 1000000000 sml = T) (hm : n ≤ 1000000000000) (hb : Below w0.heap.size w0 w) :
    GivesL w0 T (.returned (.slice (some ⟨g, 0, none⟩) n (n + 1))) w := by
  subst hn
  exact ⟨_, L.take big.length, rfl, h.own.row (by rw [h.len]; omega) (by omega) (by omega), h.lim.take _, by rw [h.done hk hs, hT], hb⟩
end

set_option maxHeartbeats 2000000 in
set_option maxRecDepth 100000 in
theorem plus_any {w : World} {va vb : Value} {a b : List Nat} (ha : LR w va a) (hb : LR w vb b) (la : Lim 1000000000 a) (lb : Lim 1000000000 b)
    (na : a.length ≤ 1000000000000) (nb : b.length ≤ 1000000000000) :
    Calls Tryd.prog 77 #[va, vb] w (GivesL w (val 1000000000 a + val 1000000000 b)) := by
  obtain ⟨T, hT⟩ : ∃ T, val 1000000000 a + val 1000000000 b = T := ⟨_, rfl⟩
  rw [hT]
  obtain ⟨i0, hi, hz0, hz1, hz2⟩ := info_parts infoU
  have hcase : (a.length < b.length) ∨ (b.length ≤ a.length) := by omega
  rcases hcase with hlt | hlt
  case' inl =>
    obtain ⟨big, rfl⟩ : ∃ big, big = b := ⟨b, rfl⟩
    obtain ⟨sml, rfl⟩ : ∃ sml, sml = a := ⟨a, rfl⟩
    obtain ⟨p, b1, o1, c1, rfl, l1, m1, s1, r1⟩ := hb
    obtain ⟨q, b2, o2, c2, rfl, l2, m2, s2, r2⟩ := ha
    have LB := Lib.hid lb
    have LS := Lib.hid la
    have HT := Lib.hid (show val 1000000000 big + val 1000000000 sml = T by omega)
    have hdec : (sml.length : Int) < (big.length : Int) := by omega
    have N1 := Lib.hid nb
    clear na nb
  case' inr =>
    obtain ⟨big, rfl⟩ : ∃ big, big = a := ⟨a, rfl⟩
    obtain ⟨sml, rfl⟩ : ∃ sml, sml = b := ⟨b, rfl⟩
    obtain ⟨p, b1, o1, c1, rfl, l1, m1, s1, r1⟩ := ha
    obtain ⟨q, b2, o2, c2, rfl, l2, m2, s2, r2⟩ := hb
    have LB := Lib.hid la
    have LS := Lib.hid lb
    have HT := Lib.hid (show val 1000000000 big + val 1000000000 sml = T by omega)
    have hdec : ¬ (big.length : Int) < (sml.length : Int) := by omega
    have N1 := Lib.hid na
    clear na nb
  all_goals
    have hle : sml.length ≤ big.length := by omega
    obtain ⟨n, hn⟩ : ∃ n, big.length = n := ⟨_, rfl⟩
    obtain ⟨m, hm⟩ : ∃ m, sml.length = m := ⟨_, rfl⟩
    have HN := Lib.hid hn
    have HM := Lib.hid hm
    have R1 := Lib.hid r1
    have R2 := Lib.hid r2
    have nb := N1.out
    rw [hn] at l1 s1 R1 hdec hle nb ⊢
    rw [hm] at l2 s2 R2 hdec hle ⊢
    clear r1 r2 hn hm hT la lb
    have hmk := fun W : World => run_make (P := Tryd.prog) (w := W) 23 108 i0 (.int .u32 0) Tryd.underlying23 hi hz0 .i64 .i64 (n : Int) ((n : Int) + 1) (by omega) (by omega) (by rw [hz2]; omega) (by omega)
    have e1 : ((n : Int)).toNat = n := by omega
    have e2 : ((n : Int) + 1).toNat = n + 1 := by omega
    simp only [hz1, e1, e2, Nat.mul_one, show (Value.int IntKind.u32 0).cells = #[Value.int IntKind.u32 0] from rfl] at hmk
    clear e1 e2
    have hO := Lib.hid (Own.made (K := .u32) (t := 108) w (n + 1))
    have hbO := Lib.hid ((Below.refl w.heap.size w).alloc (Nat.le_refl _) (.cells (madeCells #[.int .u32 0] (n + 1)) 108))
    have hnn : (numsOf .u32 big).length = Nat.min n n := by rw [numsOf_length, HN.out]; exact (Nat.min_self n).symm
    have HNN := Lib.hid hnn
    clear hnn
    go_enter Tryd.func77, Tryd.ntmps77
    go_wp2_with (with_reducible refine wpList_copy_splice rfl (.tmp 22) (.tmp 23) 23 23 rfl 108 Tryd.underlying23 sizeU _ _ _ _ _ _ rfl rfl w.heap.size 0 (numsOf .u32 (List.replicate (n + 1) 0)) 108 hO.out.heap (numsOf .u32 big) HNN.out (copySrc hbO.out HN.out s1 R1.out w.heap.size) (by rw [numsOf_length, numsOf_length, HN.out, List.length_replicate]; omega) numsOf_one w.heap.size w hbO.out (Nat.le_refl _) ?_)
    intro w1 hw1 hb1
    have hO1 : Own .u32 108 w1 w.heap.size (big ++ [0]) := by
      have := hw1.out
      rw [splice_some, HN.out] at this
      unfold Own
      simpa [List.drop_replicate] using this
    have O1 := Lib.hid hO1
    have B1 := Lib.hid hb1
    clear hO1 hw1 hb1 hmk
    go_wp2
    go_loopw [6, 27] (fun c i wr => ∃ (k cc : Nat) (L : List Nat), k ≤ n ∧ i = .int .i64 k ∧ c = .int .u32 cc ∧ cc ≤ 1 ∧ PlusI wr w.heap.size big sml k cc L ∧ Below w.heap.size w wr) (fun _ i _ => n - (intOf i).toNat)
    case atStart => exact ⟨0, 0, _, Nat.zero_le _, rfl, rfl, Nat.zero_le _, PlusI.start O1.out LB.out, B1.out⟩
    case round =>
      obtain ⟨k, cc, L, hk, rfl, rfl, hcc, hI, hbr⟩ := hrel
      have HI := Lib.hid hI
      have HB := Lib.hid hbr
      have f1 := hI.own.frozen k
      have hlen := hI.len
      rw [HN.out] at hlen
      have hsz := hI.own.lt
      clear hI hbr
      by_cases hkn : k < n
      · have hknz : (k : Int) < (n : Int) := by omega
        have t1 := HI.out.cell (by rw [HN.out]; exact hkn)
        have st := fun z hz => HI.out.step (z := z) (by rw [HN.out]; exact hkn) hz
        have bx := LB.out.getD (by decide) k
        have by' := LS.out.getD (by decide) k
        obtain rfl := s1 (by omega)
        by_cases hkm : k < m
        · obtain rfl := s2 (by omega)
          have t2 := keepc HB.out (R2.out k hkm)
          have hkmz : ¬ (m : Int) ≤ (k : Int) := by omega
          generalize big.getD k 0 = x at *
          generalize sml.getD k 0 = y at *
          have ST := Lib.hid st
          clear st
          go_wp2
          go_roundw
          case rel => exact ⟨k + 1, (x + cc + y) / 1000000000, _, by omega, by go_num, by go_num, by omega, ST.out _ (by omega), HB.out.setCell (Nat.le_refl _) _⟩
          case measure => simp [intOf]; omega
        · have hkmz : (m : Int) ≤ (k : Int) := by omega
          have y0 : sml.getD k 0 = 0 := getD_out (by rw [HM.out]; omega)
          rw [y0] at st by'
          clear y0 by'
          generalize big.getD k 0 = x at *
          have ST := Lib.hid st
          clear st
          by_cases hc0 : cc = 0
          · subst hc0
            go_wp2
            go_ret
            exact HI.out.give hk (by rw [HM.out]; omega) HN.out HT.out (by have := N1.out; rw [HN.out] at this; exact this) HB.out
          · have hc1 : ((cc : Int) == 0) = false := by simp; omega
            go_wp2
            go_roundw
            case rel => exact ⟨k + 1, (x + cc + 0) / 1000000000, _, by omega, by go_num, by go_num, by omega, ST.out _ (by omega), HB.out.setCell (Nat.le_refl _) _⟩
            case measure => simp [intOf]; omega
      · obtain rfl : k = n := by omega
        by_cases hc0 : cc = 0
        · subst hc0
          go_wp2
          go_ret
          exact HI.out.give hk (by rw [HM.out]; omega) HN.out HT.out (by have := N1.out; rw [HN.out] at this; exact this) HB.out
        · have hcp : (0 : Int) < (cc : Int) := by omega
          have ho : wr.ownsRow w.heap.size 108 1 (.slice (some ⟨w.heap.size, 0, none⟩) k (k + 1)) k (numsOf .u32 (L.take k)) := by
            have := HI.out.own.owns (n := k) (base := w.heap.size) (by omega) (by unfold maxLen; omega) (Nat.le_refl _)
            rwa [hlen] at this
          have HO := Lib.hid ho
          have HL := Lib.hid hlen
          clear ho hlen
          go_wp2_with (at_builtin; refine wpList_append_fits _ rfl (.tmp 64) (.tmp 66) 23 rfl w.heap.size 108 i0 1 Tryd.underlying23 hi hz1 w.heap.size k (k + 1) _ rfl (HO.out.alloc _) ⟨wr.heap.size, 0, none⟩ 1 1 [.int .u32 (cc : Int)] rfl rfl (cell_one_new _ _ _) (numsOf_one (K := .u32) (L := [cc])) (Nat.le_refl _) ?_)
          intro w2 ho2 hg2
          have hb2 : Below w.heap.size w w2 := (HB.out.alloc (by omega) _).grown hg2 (by simp; omega) (fun j hj => by simp at hj; omega)
          have ho3 := RowR.of_owns (owns_snoc ho2)
          have HO3 := Lib.hid ho3
          have HB2 := Lib.hid hb2
          clear ho2 hg2 ho3 hb2
          go_wp2
          go_ret
          have e := PlusI.over (HN.out.symm ▸ HI.out) (by rw [HM.out, HN.out]; omega)
          rw [HN.out, HT.out] at e
          exact ⟨_, _, rfl, HO3.out, (HI.out.lim.take _).append (Lim.single (by omega)), e, HB2.out⟩
end Go.Proofs.YtihjaakkpnjolaaDoor
