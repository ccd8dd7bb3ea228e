/- The reference's Text. -/
import Derived.Test.YtihjaakkpnjolaaDoorRParse
import Derived.Test.YtihjaakkpnjolaaDoorText
namespace Go.Proofs.YtihjaakkpnjolaaDoor
open Go.RowKit Tally Go.Lib

/-- the text within the limb x at place i, j digits of which are written -/
def inT (V x i j : Nat) (last : Bool) : List UInt8 := if last = true ∧ x / 10 ^ j = 0 then decDigits V else pad (4 * i + j) V

theorem pow4 (i : Nat) : (10000 : Nat) ^ i = 10 ^ (4 * i) := by
  rw [Nat.pow_mul]

theorem val_div {l : List Nat} (hl : Lim 10000 l) {i : Nat} (hi : i ≤ l.length) : val 10000 l / 10 ^ (4 * i) = val 10000 (l.drop i) := by
  rw [val_take_drop 10000 l i hi, ← pow4]
  have h := val_lt 10000 (l.take i) (hl.take i)
  rw [List.length_take, Nat.min_eq_left hi] at h
  rw [Nat.add_mul_div_left _ _ (Nat.pow_pos (by decide)), Nat.div_eq_of_lt h, Nat.zero_add]

theorem val_div4 {l : List Nat} (hl : Lim 10000 l) {i j x : Nat} (hi : i < l.length) (hx : l.getD i 0 = x) : val 10000 l / 10 ^ (4 * i + j) = (x + 10000 * val 10000 (l.drop (i + 1))) / 10 ^ j := by
  rw [Nat.pow_add, ← Nat.div_div_eq_div_mul, val_div hl (by omega), val_drop_getD _ _ _ hi, hx]

theorem digit4 {l : List Nat} (hl : Lim 10000 l) {i j x : Nat} (hi : i < l.length) (hx : l.getD i 0 = x) (hj : j < 4) : val 10000 l / 10 ^ (4 * i + j) % 10 = x / 10 ^ j % 10 := by
  rw [val_div4 hl hi hx]
  generalize val 10000 (l.drop (i + 1)) = R
  match j, hj with
  | 0, _ => simp; omega
  | 1, _ => simp; omega
  | 2, _ => simp; omega
  | 3, _ => simp; omega

theorem inT_step {l : List Nat} (hl : Lim 10000 l) {i j x y : Nat} {last : Bool} (hi : i < l.length) (hx : l.getD i 0 = x) (hj : j < 4) (hlast : last = true → i + 1 = l.length) (hy : y = x / 10 ^ j) (hw : last = false ∨ 0 < y) :
    UInt8.ofNat (48 + y % 10) :: inT (val 10000 l) x i j last = inT (val 10000 l) x i (j + 1) last := by
  have h0 : ¬(last = true ∧ x / 10 ^ j = 0) := by rintro ⟨h1, h2⟩; rcases hw with h | h; · rw [h1] at h; simp at h
                                                  · omega
  have hd := digit4 hl hi hx hj
  rw [← hy] at hd
  unfold inT
  rw [if_neg h0]
  have hp : UInt8.ofNat (48 + y % 10) :: pad (4 * i + j) (val 10000 l) = pad (4 * i + (j + 1)) (val 10000 l) := by
    rw [← Nat.add_assoc, pad_left, hd]
  rw [hp]
  by_cases h1 : last = true ∧ x / 10 ^ (j + 1) = 0
  · rw [if_pos h1]
    have hdrop : val 10000 (l.drop (i + 1)) = 0 := by rw [List.drop_of_length_le (by have := hlast h1.1; omega)]; rfl
    have e1 := val_div4 hl (j := j) hi hx
    have e2 : val 10000 l / 10 ^ (4 * i + (j + 1)) = 0 := by rw [val_div4 hl hi hx, hdrop, Nat.mul_zero, Nat.add_zero]; exact h1.2
    rw [hdrop, Nat.mul_zero, Nat.add_zero] at e1
    have hpos : 0 < x / 10 ^ j := by
      rcases hw with h | h
      · rw [h1.1] at h; simp at h
      · omega
    have g1 : 10 ^ (4 * i + j) ≤ val 10000 l := by
      rcases Nat.lt_or_ge (val 10000 l) (10 ^ (4 * i + j)) with q | q
      · rw [Nat.div_eq_of_lt q] at e1; omega
      · exact q
    have g2 : val 10000 l < 10 ^ (4 * i + j + 1) := by
      rcases Nat.lt_or_ge (val 10000 l) (10 ^ (4 * i + j + 1)) with q | q
      · exact q
      · have := Nat.div_pos q (Nat.pow_pos (by decide)); rw [show 4 * i + j + 1 = 4 * i + (j + 1) by omega] at this; omega
    exact pad_whole _ _ g1 g2
  · rw [if_neg h1]

theorem inT_stay {V i j x : Nat} (h : x / 10 ^ j = 0) : inT V x i j true = inT V x i (j + 1) true := by
  have h2 : x / 10 ^ (j + 1) = 0 := by rw [Nat.pow_succ, ← Nat.div_div_eq_div_mul, h]
  unfold inT
  rw [if_pos ⟨rfl, h⟩, if_pos ⟨rfl, h2⟩]

/-- the text ahead of limb k -/
def outT (V n k : Nat) : List UInt8 := if k = n ∧ 0 < n then decDigits V else pad (4 * k) V

theorem conv_one (w : World) {y : Nat} {X : ByteArray} (hX : (⟨[UInt8.ofNat (48 + y % 10)].toArray⟩ : ByteArray) = X) : (convert 110 9 (.slice (some ⟨w.heap.size, 0, none⟩) 1 1)).run Tryd.prog (w.alloc (.cells #[.int .u8 (48 + (y : Int) % 10)] 5)) = .ok (.string X) (w.alloc (.cells #[.int .u8 (48 + (y : Int) % 10)] 5)) := by
  rw [← hX]
  refine run_convert_bytes_back _ 110 9 5 ⟨w.heap.size, 0, none⟩ 1 [UInt8.ofNat (48 + y % 10)] Tryd.underlying110 Tryd.underlying5 Tryd.underlying9 fun j hj => ?_
  match j, hj with
  | 0, _ =>
    have e : (UInt8.ofNat (48 + y % 10)).toNat = 48 + y % 10 := by
      simp
      omega
    rw [show (⟨w.heap.size, 0, none⟩ : Addr).add 0 = ⟨w.heap.size, 0, none⟩ from rfl]
    simp only [List.getElem_cons_zero, e]
    rw [Lib.cell_of_heap (heap_alloc_new _ _)]
    simp

set_option maxHeartbeats 4000000 in
set_option maxRecDepth 100000 in
theorem rtext_any {w : World} {v : Value} {z : Int} {N : Nat} (h : RefR w v z) (hd : Dg N z) (hN : N ≤ 1000000000000) :
    Calls Tryd.prog 50 #[v] w fun e w' => e = .returned (.string ⟨(itoa z).toArray⟩) ∧ Below w.heap.size w w' := by
  obtain ⟨neg, s1, l, rfl, lr, hc, g1, z1, a1⟩ := h.parts
  have hlen := RefR.few hc a1 hd
  obtain ⟨a, b, o, c, rfl, l1, m1, s1, r1⟩ := lr
  obtain ⟨n, hn⟩ : ∃ n, l.length = n := ⟨_, rfl⟩
  have HN := Lib.hid hn
  have R1 := Lib.hid r1
  have HC := Lib.hid hc
  have Z1 := Lib.hid z1
  have G1 := Lib.hid g1
  have bx : Below w.heap.size w (w.alloc (.cells #[.bool neg, .slice a n c] 28)) ∧ (w.alloc (.cells #[.bool neg, .slice a n c] 28)).heap.size = w.heap.size + 1 ∧ (w.alloc (.cells #[.bool neg, .slice a n c] 28)).cell? ⟨w.heap.size, 0, none⟩ = some (.bool neg) ∧ (w.alloc (.cells #[.bool neg, .slice a n c] 28)).cell? ⟨w.heap.size, 1, none⟩ = some (.slice a n c) := ⟨(Below.refl _ _).alloc (Nat.le_refl _) _, by simp, by go_simp, by go_simp⟩
  have BX := Lib.hid bx
  rw [hn] at l1 s1 R1 hlen ⊢
  clear h z1 g1 a1 r1 hd hc hn bx
  go_enter Tryd.func50, Tryd.ntmps50
  go_wp2
  revert BX
  generalize w.alloc (.cells #[.bool neg, .slice a n c] 28) = W0
  intro BX
  go_loopw [3, 4] (fun t i wr => ∃ (k : Nat) (S : ByteArray), k ≤ n ∧ i = .int .i64 k ∧ t = .string S ∧ Hid (S.data.toList = outT (val 10000 l) n k) ∧ Below (w.heap.size + 1) W0 wr) (fun _ i _ => n - (RowKit.intOf i).toNat)
  case atStart => exact ⟨0, ⟨#[]⟩, Nat.zero_le _, rfl, rfl, Lib.hid (by
    unfold outT
    rw [if_neg (by omega)]; rfl), Below.refl _ _⟩
  case round =>
    obtain ⟨i, S, hi, rfl, rfl, hS, hbr⟩ := hrel
    obtain ⟨wo, rfl⟩ : ∃ wo : World, wo = wr := ⟨_, rfl⟩
    have HB := Lib.hid hbr
    have d1 : wo.cell? ⟨w.heap.size, 1, none⟩ = some (.slice a n c) := (hbr.cell (p := ⟨w.heap.size, 1, none⟩) (Nat.lt_succ_self _)).trans BX.out.2.2.2
    have d0 : wo.cell? ⟨w.heap.size, 0, none⟩ = some (.bool neg) := (hbr.cell (p := ⟨w.heap.size, 0, none⟩) (Nat.lt_succ_self _)).trans BX.out.2.2.1
    have hw0 : Below w.heap.size w wo := BX.out.1.trans (hbr.mono (Nat.le_succ _))
    have HW := Lib.hid hw0
    clear hbr hw0
    by_cases hin : i < n
    · have hinz : (i : Int) < (n : Int) := by omega
      obtain rfl := s1 (by omega)
      have t1 := keepc HW.out (R1.out i hin)
      have hx4 := Lim.getD HC.out.1 (by decide) i
      obtain ⟨x, hx⟩ : ∃ x, l.getD i 0 = x := ⟨_, rfl⟩
      simp only [hx] at t1 hx4
      have HX := Lib.hid hx
      obtain ⟨last, hlast⟩ : ∃ last : Bool, last = decide (i + 1 = n) := ⟨_, rfl⟩
      have HLA := Lib.hid hlast
      have hxl : last = true → 0 < x := fun e => by
        rw [hlast] at e
        have e2 : i + 1 = n := of_decide_eq_true e
        have hne : l ≠ [] := by rintro rfl; have := HN.out; simp at this; omega
        have hl := HC.out.2 hne
        rw [List.getLast_eq_getElem] at hl
        rw [getD_eq (by rw [HN.out]; exact hin)] at hx
        have : l[l.length - 1]'(by have := HN.out; omega) = l[i]'(by rw [HN.out]; exact hin) := by congr 1; have := HN.out; omega
        omega
      have HXL := Lib.hid hxl
      clear hx hlast hxl
      go_wp2
      go_loopw [3, 5, 6] (fun t m k wi => ∃ (j : Nat) (y : Nat) (S : ByteArray), j ≤ 4 ∧ k = .int .i64 j ∧ m = .int .i64 y ∧ Hid (y = x / 10 ^ j) ∧ t = .string S ∧ Hid (S.data.toList = inT (val 10000 l) x i j last) ∧ Below (w.heap.size + 1) W0 wi) (fun _ _ k _ => 4 - (RowKit.intOf k).toNat)
      case atStart => exact ⟨0, x, S, by omega, rfl, rfl, Lib.hid (by simp), rfl, Lib.hid (by
        rw [hS.out]
        unfold inT outT
        rw [if_neg (by omega)]
        by_cases hl : last = true
        · rw [if_neg (by intro q; have := HXL.out hl; have := q.2; simp at this; omega)]; rfl
        · rw [if_neg (by intro q; exact hl q.1)]; rfl), HB.out⟩
      case round =>
        obtain ⟨j, y, S2, hj, rfl, rfl, hy, rfl, hS2, hbi⟩ := hrel
        have HBI := Lib.hid hbi
        have d2 : wr.cell? ⟨w.heap.size, 1, none⟩ = some (.slice (some ⟨b, o, none⟩) n c) := (hbi.cell (p := ⟨w.heap.size, 1, none⟩) (Nat.lt_succ_self _)).trans BX.out.2.2.2
        have hszi := hbi.size
        rw [BX.out.2.1] at hszi
        clear hbi
        by_cases hj4 : j < 4
        · have hjz : (j : Int) < 4 := by omega
          have hyb : y < 10000 := by rw [hy.out]; exact Nat.lt_of_le_of_lt (Nat.div_le_self _ _) hx4
          have hynext : Hid (y / 10 = x / 10 ^ (j + 1)) := Lib.hid (by rw [hy.out, Nat.div_div_eq_div_mul, Nat.pow_succ])
          obtain ⟨X, hX⟩ : ∃ X : ByteArray, (⟨[UInt8.ofNat (48 + y % 10)].toArray⟩ : ByteArray) = X := ⟨_, rfl⟩
          have hcv := conv_one wr hX
          have HX1 := Lib.hid hX
          have hX1 : X.size = 1 := by rw [← hX]; rfl
          clear hX
          by_cases hlz : (i : Int) < (n : Int) - 1
          · have hl : last = false := by rw [HLA.out]; simp; omega
            have hstep := inT_step HC.out.1 (by rw [HN.out]; exact hin) HX.out hj4 (last := last) (fun e => by rw [hl] at e; simp at e) hy.out (.inl hl)
            have hSz : S2.size ≤ 9000000000000 := by
              have h1 := congrArg List.length hS2.out
              unfold inT at h1
              rw [if_neg (by rw [hl]; simp), pad_length, Array.length_toList] at h1
              have h2 : S2.data.size = S2.size := rfl
              omega
            have HSTEP := Lib.hid hstep
            have hadd : X.size + S2.size ≤ 9223372036854775807 := by omega
            clear hstep hl
            go_wp2
            go_roundw
            case rel => exact ⟨j + 1, y / 10, _, by omega, by go_num, by go_num, hynext, rfl, Lib.hid (by rw [ByteArray.data_append, Array.toList_append, hS2.out, ← HX1.out]; exact HSTEP.out), HBI.out.alloc hszi _⟩
            case measure => simp [RowKit.intOf]; omega
          · have hl : last = true := by rw [HLA.out]; simp; omega
            by_cases hy0 : y = 0
            · have hyz : ¬ (0 : Int) < (y : Int) := by omega
              have hst := inT_stay (V := val 10000 l) (i := i) (j := j) (x := x) (by rw [← hy.out]; exact hy0)
              have HST := Lib.hid hst
              have HL := Lib.hid hl
              have HY0 := Lib.hid hy0
              clear hst hl hcv hX1 hy0
              go_wp2
              go_roundw
              case rel => exact ⟨j + 1, y / 10, _, by omega, by go_num, by go_num, hynext, rfl, Lib.hid (by rw [hS2.out, HL.out]; exact HST.out), HBI.out⟩
              case measure => simp [RowKit.intOf]; omega
            · have hyz : (0 : Int) < (y : Int) := by omega
              have hstep := inT_step HC.out.1 (by rw [HN.out]; exact hin) HX.out hj4 (last := last) (fun _ => by rw [HN.out]; omega) hy.out (.inr (by omega))
              have hSz : S2.size ≤ 9000000000000 := by
                have h1 := congrArg List.length hS2.out
                unfold inT at h1
                rw [if_neg (by intro q; rw [← hy.out] at q; exact hy0 q.2), pad_length, Array.length_toList] at h1
                have h2 : S2.data.size = S2.size := rfl
                omega
              have HSTEP := Lib.hid hstep
              have hadd : X.size + S2.size ≤ 9223372036854775807 := by omega
              clear hstep hl
              go_wp2
              go_roundw
              case rel => exact ⟨j + 1, y / 10, _, by omega, by go_num, by go_num, hynext, rfl, Lib.hid (by rw [ByteArray.data_append, Array.toList_append, hS2.out, ← HX1.out]; exact HSTEP.out), HBI.out.alloc hszi _⟩
              case measure => simp [RowKit.intOf]; omega
        · obtain rfl : j = 4 := by omega
          have hfin : S2.data.toList = outT (val 10000 l) n (i + 1) := by
            rw [hS2.out]
            unfold inT outT
            have hx0 : x / 10 ^ 4 = 0 := Nat.div_eq_of_lt (by omega)
            by_cases hl : i + 1 = n
            · rw [if_pos ⟨by rw [HLA.out]; simp [hl], hx0⟩, if_pos ⟨hl, by omega⟩]
            · rw [if_neg (by intro q; have := q.1; rw [HLA.out] at this; exact hl (of_decide_eq_true this)), if_neg (by intro q; exact hl q.1)]
              congr 1
          have HF := Lib.hid hfin
          clear hfin
          go_wp2
          go_roundw
          case rel => exact ⟨i + 1, S2, by omega, by go_num, rfl, HF.out, HBI.out⟩
          case measure => simp [RowKit.intOf]; omega
    · obtain rfl : i = n := by omega
      by_cases hn0 : i = 0
      · subst hn0
        have hl0 : l = [] := List.length_eq_zero_iff.1 HN.out
        have hS0 : S.toList = [] := by
          rw [Lib.toList_data, hS.out]; rfl
        have hS0' : S.toList.isEmpty = true := by rw [hS0]; rfl
        have hz : itoa z = [48] := by
          have : z = 0 := by rw [Z1.out, hl0]; cases neg <;> simp
          rw [this]; unfold itoa; simp [decDigits_one]
        have HZ := Lib.hid hz
        clear hS0 hz
        go_wp2
        go_ret
        exact ⟨by rw [HZ.out]; rfl, HW.out⟩
      · have hne : l ≠ [] := by rintro rfl; have := HN.out; simp at this; omega
        have hp := Canon.pos (B := 10000) (by decide) HC.out hne
        have hSd : S.data.toList = decDigits (val 10000 l) := by
          rw [hS.out]; unfold outT; rw [if_pos ⟨rfl, by omega⟩]
        have hS0 : S.toList.isEmpty = false := by
          rw [Lib.toList_data, hSd]
          have := decDigits_length (val 10000 l)
          have h2 := nDigits_pos (val 10000 l)
          cases hq : decDigits (val 10000 l) with
          | nil => rw [hq] at this; simp at this; omega
          | cons x t => rfl
        have hS0' : (!S.toList.isEmpty) = true := by rw [hS0]; rfl
        have hSz : S.size ≤ 5000000000000 := by
          have h1 := congrArg List.length hSd
          rw [Array.length_toList, decDigits_length] at h1
          have h2 : S.data.size = S.size := rfl
          have h3 := val_lt 10000 l HC.out.1
          rw [pow4, HN.out] at h3
          have h4 : nDigits (val 10000 l) ≤ 4 * i := by
            have e := pad_eq (4 * i) (val 10000 l) (by omega) h3
            have := congrArg List.length e
            rw [pad_length, List.length_append, decDigits_length, List.length_replicate] at this
            omega
          omega
        have hadd : (⟨#[45]⟩ : ByteArray).size + S.size ≤ 9223372036854775807 := by
          have : (⟨#[45]⟩ : ByteArray).size = 1 := rfl
          omega
        have HSD := Lib.hid hSd
        clear hSd
        cases neg
        · have hz : (⟨(itoa z).toArray⟩ : ByteArray) = S := by
            have : z = (val 10000 l : Int) := by rw [Z1.out]; rfl
            rw [this, itoa_nonneg, ← HSD.out]
          have HZ := Lib.hid hz
          clear hz
          go_wp2
          go_ret
          exact ⟨by rw [HZ.out]; rfl, HW.out⟩
        · have hz : (⟨(itoa z).toArray⟩ : ByteArray) = (⟨#[45]⟩ : ByteArray) ++ S := by
            have : z = -(val 10000 l : Int) := by rw [Z1.out]; rfl
            rw [this, itoa_neg _ hp, ← HSD.out]
            refine ByteArray.ext (Array.toList_inj.1 ?_)
            rw [ByteArray.data_append, Array.toList_append]
            rfl
          have HZ := Lib.hid hz
          clear hz
          go_wp2
          go_ret
          exact ⟨by rw [HZ.out]; rfl, HW.out⟩
end Go.Proofs.YtihjaakkpnjolaaDoor
