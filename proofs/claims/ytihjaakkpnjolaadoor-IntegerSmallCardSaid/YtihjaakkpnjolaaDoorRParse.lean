/- The reference's Parse. -/
import Derived.Test.YtihjaakkpnjolaaDoorRZ
import Derived.Test.YtihjaakkpnjolaaDoorParse
namespace Go.Proofs.YtihjaakkpnjolaaDoor
open Go.RowKit Tally

/-- what reading leaves -/
def rGivesZE (w : World) (z c : Int) (e : Ending) (w' : World) : Prop :=
  ∃ (n : Bool) (a : Option Addr) (k cp : Nat), e = .returned (.tuple #[.agg #[.bool n, .slice a k cp], .int .i64 c]) ∧ RefR w' (.agg #[.bool n, .slice a k cp]) z ∧ Below w.heap.size w w'

theorem refR_zero (w : World) : RefR w (.agg #[.bool false, .slice none 0 0]) 0 :=
  ⟨false, _, [], rfl, ⟨none, 0, 0, 0, rfl, by simp, by omega, fun h => by simp at h, fun i hi => by simp at hi⟩, canon_nil _, by simp, by simp⟩

theorem extract_end (s : ByteArray) (a : Nat) : (s.extract a s.size).data.toList = s.data.toList.drop a := by
  rw [Lib.extract_data, List.take_of_length_le]
  rw [List.length_drop, Array.length_toList]
  exact Nat.le_refl _

/-- how the text falls into sign and body -/
theorem body_cases (s : ByteArray) : (∃ h : 0 < s.size, (s[0]'h).toNat = 45 ∧ negOf s.data.toList = true ∧ (s.extract 1 s.size).data.toList = bodyOf s.data.toList ∧ (s.extract 1 s.size).size + 1 = s.size) ∨
    (negOf s.data.toList = false ∧ s.data.toList = bodyOf s.data.toList ∧ ∀ h : 0 < s.size, (s[0]'h).toNat ≠ 45) := by
  have hl : s.data.toList.length = s.size := by rw [Array.length_toList]; rfl
  have h0 : ∀ h : 0 < s.size, s.data.toList.head? = some (s[0]'h) := fun h => by
    rw [List.head?_eq_getElem?, List.getElem?_eq_getElem (by omega)]
    simp
    rfl
  by_cases hn : negOf s.data.toList = true
  · left
    have hs := body_split s.data.toList
    rw [if_pos hn] at hs
    have hp : 0 < s.size := by rw [← hl, hs]; simp
    have h1 := h0 hp
    rw [hs] at h1
    simp only [List.head?_cons, Option.some.injEq] at h1
    refine ⟨hp, by rw [← h1]; rfl, hn, ?_, ?_⟩
    · rw [extract_end]
      conv => lhs; rw [hs]
      rfl
    · have e := extract_end s 1
      have := congrArg List.length e
      rw [List.length_drop, hl, Array.length_toList] at this
      have h2 : (s.extract 1 s.size).data.size = (s.extract 1 s.size).size := rfl
      omega
  · right
    have hs := body_split s.data.toList
    rw [if_neg hn] at hs
    refine ⟨by simpa using hn, hs, fun h e => hn ?_⟩
    have h1 := h0 h
    unfold negOf Lib.hasPrefix
    cases hb : s.data.toList with
    | nil => rw [hb] at hl; simp at hl; omega
    | cons x l =>
      rw [hb] at h1
      simp only [List.head?_cons, Option.some.injEq] at h1
      have hx : x = 45 := by rw [h1]; exact UInt8.toNat_inj.1 e
      rw [hx]
      rfl

theorem isEmpty_of {D : ByteArray} (h : D.size = 0) : D.data.toList = [] := List.length_eq_zero_iff.1 (by rw [Array.length_toList]; exact h)
theorem head_of {D : ByteArray} (h : 0 < D.size) : D.data.toList.head? = some 48 ↔ (D[0]'h).toNat = 48 := by
  have e : D.data.toList.head? = some (D[0]'h) := by
    rw [List.head?_eq_getElem?, List.getElem?_eq_getElem (by rw [Array.length_toList]; exact h)]
    simp
    rfl
  rw [e]
  constructor
  · intro h; injection h with h; rw [h]; rfl
  · intro h; congr 1; exact UInt8.toNat_inj.1 h
theorem one_of {D : ByteArray} (h : 0 < D.size) : D.data.toList = [48] ↔ D.size = 1 ∧ (D[0]'h).toNat = 48 := by
  have hl : D.data.toList.length = D.size := by rw [Array.length_toList]; rfl
  constructor
  · intro e
    exact ⟨by rw [← hl, e]; rfl, (head_of h).1 (by rw [e]; rfl)⟩
  · rintro ⟨h1, h2⟩
    have h3 := (head_of h).2 h2
    match hb : D.data.toList with
    | [] => rw [hb] at h3; simp at h3
    | [y] => rw [hb] at h3; simp at h3; rw [h3]
    | y :: z :: t => rw [hb] at hl; simp at hl; omega
theorem eq48 {D : ByteArray} (h : D.data.toList = [48]) : (D.toList == [48]) = true := by rw [Lib.toList_data, h]; rfl
theorem ne48 {D : ByteArray} (h : ¬ D.data.toList = [48]) : (D.toList == [48]) = false := by
  rw [Lib.toList_data]
  cases hq : (D.data.toList == [48]) with
  | false => rfl
  | true => exact absurd (by simpa using hq) h

set_option maxHeartbeats 4000000 in
set_option maxRecDepth 100000 in
theorem rparse_any {w : World} (s : ByteArray) (hs : s.size ≤ 9223372036854775807) :
    Calls Tryd.prog 22 #[.string s] w (rGivesZE w (pval s.data.toList) (pcode s.data.toList)) := by
  obtain ⟨i0, hi, hz0, hz1, hz2⟩ := info_parts infoI
  have SYN := Lib.hid (pcode_syn (l := s.data.toList))
  have LIM := Lib.hid (pcode_lim (l := s.data.toList))
  have OKK := Lib.hid (pcode_ok (l := s.data.toList))
  generalize pval s.data.toList = PV at *
  generalize pcode s.data.toList = PC at *
  rcases body_cases s with ⟨hs0, h45, hneg, hD, hDs⟩ | ⟨hneg, hD, h45⟩
  case' inl =>
    obtain ⟨D, hDD⟩ : ∃ D, s.extract 1 s.size = D := ⟨_, rfl⟩
    rw [hDD] at hD hDs
    rw [← hD, hneg] at SYN LIM OKK
    have h45z : ((45 : Int) == 45) = true := rfl
    have hs0z : (0 : Int) < (s.size : Int) := by omega
    have h1s : (1 : Int) ≤ (s.size : Int) := by omega
    have hDz : (D.size : Int) < (s.size : Int) := by omega
    have hs48 : (s.toList == [48]) = false := ne48 fun e => by
      have := (one_of hs0).1 e
      omega
    have hs48' : (s.toList != [48]) = true := by unfold bne; rw [hs48]; rfl
    clear hneg hD
    by_cases h0 : D.size = 0
    · have HZ := Lib.hid (SYN.out (.inr (.inl (isEmpty_of h0))))
      go_enter Tryd.func22, Tryd.ntmps22
      go_wp2
      try simp only [Exit.inBlock, Exit.then]
      refine bodyPost_ret (results_cell_slot rfl _ _ w.heap.size 28 _ (0, 0) _ (.int .i64 3) rfl rfl (heap_alloc_new _ _) Tryd.underlying28 rfl (by kernel_rfl)) rfl ?_
      rw [HZ.out.1, HZ.out.2]
      exact ⟨false, none, 0, 0, rfl, refR_zero _, (Below.refl _ _).alloc (Nat.le_refl _) _⟩
    have h00 : 0 < D.size := by omega
    obtain ⟨x0, hx0⟩ : ∃ x, (D[0]'h00).toNat = x := ⟨_, rfl⟩
    have h00z : ((D.size : Int) == 0) = false := by rw [beq_eq_false_iff_ne]; omega
    by_cases h48 : x0 = 48
    · have HZ := Lib.hid (SYN.out (by
        by_cases h1 : 1 < D.size
        · exact .inr (.inr (.inl ⟨by rw [Array.length_toList]; exact h1, (head_of h00).2 (by omega)⟩))
        · exact .inr (.inr (.inr ⟨rfl, (one_of h00).2 ⟨by omega, by omega⟩⟩))))
      subst h48
      go_enter Tryd.func22, Tryd.ntmps22
      go_wp2
      try simp only [Exit.inBlock, Exit.then]
      refine bodyPost_ret (results_cell_slot rfl _ _ w.heap.size 28 _ (0, 0) _ (.int .i64 3) rfl rfl (heap_alloc_new _ _) Tryd.underlying28 rfl (by kernel_rfl)) rfl ?_
      rw [HZ.out.1, HZ.out.2]
      exact ⟨false, none, 0, 0, rfl, refR_zero _, (Below.refl _ _).alloc (Nat.le_refl _) _⟩
    have hx48 : ((x0 : Int) == 48) = false := by simp; omega
    have NSYN : Hid (D.data.toList.all digB = true → ¬(D.data.toList.all digB = false ∨ D.data.toList = [] ∨ (1 < D.data.toList.length ∧ D.data.toList.head? = some 48) ∨ (true = true ∧ D.data.toList = [48]))) := Lib.hid fun hall => by
      rintro (h | h | h | h)
      · rw [hall] at h; simp at h
      · have := congrArg List.length h; rw [Array.length_toList] at this; exact h0 this
      · exact h48 (by rw [← hx0]; exact (head_of h00).1 h.2)
      · exact h48 (by rw [← hx0]; exact ((one_of h00).1 h.2).2)
  case' inr =>
    obtain ⟨D, rfl⟩ : ∃ D, D = s := ⟨s, rfl⟩
    rw [← hD, hneg] at SYN LIM OKK
    clear hneg hD
    by_cases h0 : D.size = 0
    · have HZ := Lib.hid (SYN.out (.inr (.inl (isEmpty_of h0))))
      clear h45
      go_enter Tryd.func22, Tryd.ntmps22
      go_wp2
      try simp only [Exit.inBlock, Exit.then]
      refine bodyPost_ret (results_cell_slot rfl _ _ w.heap.size 28 _ (0, 0) _ (.int .i64 3) rfl rfl (heap_alloc_new _ _) Tryd.underlying28 rfl (by kernel_rfl)) rfl ?_
      rw [HZ.out.1, HZ.out.2]
      exact ⟨false, none, 0, 0, rfl, refR_zero _, (Below.refl _ _).alloc (Nat.le_refl _) _⟩
    have h00 : 0 < D.size := by omega
    have h45 := h45 h00
    obtain ⟨x0, hx0⟩ : ∃ x, (D[0]'h00).toNat = x := ⟨_, rfl⟩
    rw [hx0] at h45
    have h00z : ((D.size : Int) == 0) = false := by rw [beq_eq_false_iff_ne]; omega
    have hs0z : (0 : Int) < (D.size : Int) := by omega
    have hx45 : ((x0 : Int) == 45) = false := by simp; omega
    by_cases h48 : x0 = 48 ∧ ¬ D.size = 1
    · have HZ := Lib.hid (SYN.out (.inr (.inr (.inl ⟨by rw [Array.length_toList]; show 1 < D.size; omega, (head_of h00).2 (by omega)⟩))))
      have hs48 : (D.toList == [48]) = false := ne48 fun e => h48.2 ((one_of h00).1 e).1
      have hs48' : (D.toList != [48]) = true := by unfold bne; rw [hs48]; rfl
      obtain ⟨rfl, _⟩ := h48
      go_enter Tryd.func22, Tryd.ntmps22
      go_wp2
      try simp only [Exit.inBlock, Exit.then]
      refine bodyPost_ret (results_cell_slot rfl _ _ w.heap.size 28 _ (0, 0) _ (.int .i64 3) rfl rfl (heap_alloc_new _ _) Tryd.underlying28 rfl (by kernel_rfl)) rfl ?_
      rw [HZ.out.1, HZ.out.2]
      exact ⟨false, none, 0, 0, rfl, refR_zero _, (Below.refl _ _).alloc (Nat.le_refl _) _⟩
    have NSYN : Hid (D.data.toList.all digB = true → ¬(D.data.toList.all digB = false ∨ D.data.toList = [] ∨ (1 < D.data.toList.length ∧ D.data.toList.head? = some 48) ∨ (false = true ∧ D.data.toList = [48]))) := Lib.hid fun hall => by
      rintro (h | h | h | h)
      · rw [hall] at h; simp at h
      · have := congrArg List.length h; rw [Array.length_toList] at this; exact h0 this
      · exact h48 ⟨by rw [← hx0]; exact (head_of h00).1 h.2, by have := h.1; rw [Array.length_toList] at this; show ¬ D.size = 1; have h2 : D.data.size = D.size := rfl; omega⟩
      · simp at h
    have hq : (x0 ≠ 48) ∨ (x0 = 48 ∧ (D.toList == [48]) = true) := by
      by_cases e : x0 = 48
      · exact .inr ⟨e, eq48 ((one_of h00).2 ⟨by omega, by omega⟩)⟩
      · exact .inl e
    clear h48
    rcases hq with hq | ⟨rfl, hq⟩
    case' inl => have hx48 : ((x0 : Int) == 48) = false := by simp; omega
    case' inr => have hq' : (D.toList != [48]) = false := by unfold bne; rw [hq]; rfl
  all_goals
    have hsz : D.data.toList.length = D.size := by rw [Array.length_toList]; rfl
    have HSZ := Lib.hid hsz
    have h00z : ((D.size : Int) == 0) = false := by rw [beq_eq_false_iff_ne]; omega
    have h00p : (0 : Int) < (D.size : Int) := by omega
    clear hsz
    go_enter Tryd.func22, Tryd.ntmps22
    go_wp2
    have hb0 : Below w.heap.size w (w.alloc (.cells #[.bool false, .slice none 0 0] 28)) := (Below.refl _ _).alloc (Nat.le_refl _) _
    have hr0 := heap_alloc_new w (.cells #[.bool false, .slice none 0 0] 28)
    generalize w.alloc (.cells #[.bool false, .slice none 0 0] 28) = W at *
    have HB := Lib.hid hb0
    have HR := Lib.hid hr0
    obtain ⟨d0, d1, e0, e1⟩ := res_facts hr0
    clear hb0 hr0
    go_loop [5] (fun i => ∃ k : Nat, k ≤ D.size ∧ i = .int .i64 k ∧ Hid (∀ i (h : i < D.size), i < k → isDigit (D[i]'h))) (fun i => D.size - (intOf i).toNat)
    case atStart => exact ⟨0, Nat.zero_le _, rfl, Lib.hid (fun i h h0 => absurd h0 (Nat.not_lt_zero _))⟩
    case round =>
      obtain ⟨k, hk, rfl, hdig⟩ := hrel
      by_cases hkD : k < D.size
      · have hkz : (k : Int) < (D.size : Int) := by omega
        obtain ⟨c, hc⟩ : ∃ c, (D[k]'hkD).toNat = c := ⟨_, rfl⟩
        by_cases hdg : isDigit (D[k]'hkD)
        · have hc1 : 48 ≤ c ∧ c ≤ 57 := by unfold isDigit at hdg; omega
          have hdig2 : ∀ i (h : i < D.size), i < k + 1 → isDigit (D[i]'h) := fun i h hi => by
            by_cases e : i = k
            · subst e; exact hdg
            · exact hdig.out i h (by omega)
          have HD2 := Lib.hid hdig2
          clear hdig2
          go_wp2
          go_round
          case rel => exact ⟨k + 1, by omega, by go_num, HD2.out⟩
          case measure => simp [intOf]; omega
        · have hc1 : c < 48 ∨ 57 < c := by unfold isDigit at hdg; omega
          have hbad := SYN.out (.inl (by
            by_cases hall : D.data.toList.all digB = true
            · exfalso
              refine hdg (digB_iff.1 (List.all_eq_true.1 hall _ ?_))
              show D[k] ∈ D.data.toList
              exact Array.mem_toList_iff.2 (Array.getElem_mem _)
            · simpa using hall))
          have HBAD := Lib.hid hbad
          clear hbad hdg
          rcases hc1 with h48 | h48
          all_goals
            go_wp2
            try simp only [Exit.inBlock, Exit.then]
            refine bodyPost_ret (results_cell_slot rfl _ _ w.heap.size 28 _ (0, 0) _ (.int .i64 3) rfl rfl (res_set HR.out) Tryd.underlying28 rfl (by kernel_rfl)) rfl ?_
            rw [HBAD.out.1, HBAD.out.2]
            exact ⟨false, none, 0, 0, rfl, refR_zero _, held_set2 HB.out (Nat.le_refl _)⟩
      · have hkz : ¬ (k : Int) < (D.size : Int) := by omega
        have hall : D.data.toList.all digB = true := List.all_eq_true.2 fun c hc => by
          obtain ⟨i, hi, rfl⟩ := List.getElem_of_mem hc
          exact digB_iff.2 (hdig.out i (by have := HSZ.out; omega) (by have := HSZ.out; omega))
        have HALL := Lib.hid hall
        clear hall
        have nsyn := NSYN.out HALL.out
        by_cases h3 : 2000 < D.size
        · have HZ := Lib.hid (LIM.out nsyn (by have := HSZ.out; omega))
          have h3z : (2000 : Int) < (D.size : Int) := by omega
          clear nsyn
          go_wp2
          try simp only [Exit.inBlock, Exit.then]
          refine bodyPost_ret (results_cell_slot rfl _ _ w.heap.size 28 _ (0, 0) _ (.int .i64 6) rfl rfl (res_set HR.out) Tryd.underlying28 rfl (by kernel_rfl)) rfl ?_
          rw [HZ.out.1, HZ.out.2]
          exact ⟨false, none, 0, 0, rfl, refR_zero _, held_set2 HB.out (Nat.le_refl _)⟩
        · have HZ := Lib.hid (OKK.out nsyn (by have := HSZ.out; omega))
          have h3z : ¬ (2000 : Int) < (D.size : Int) := by omega
          have HDIG := Lib.hid (show ∀ c ∈ D.data.toList, isDigit c from fun c hc => digB_iff.1 (List.all_eq_true.1 HALL.out c hc))
          clear nsyn
          go_wp2
          go_loopw [6, 7] (fun l en wi => ∃ (z : Int) (L : List Nat) (sv : Value), sv = l ∧ en = .int .i64 z ∧ -4 < z ∧ z ≤ 2000 ∧ CutI 4 D.data.toList z L ∧ wi.ownsRow (w.heap.size + 1) 3 1 sv L.length (numsOf .i64 L) ∧ Below w.heap.size w wi ∧ wi.heap[w.heap.size]? = some (.cells #[.bool false, .slice none 0 0] 28 (0, 0))) (fun _ en _ => (intOf en).toNat)
          case atStart => exact ⟨D.size, [], _, rfl, rfl, by omega, by omega, by have := CutI.start 4 D.data.toList; rw [HSZ.out] at this; exact this, World.ownsRow_nil _ _ _ _, HB.out, HR.out⟩
          case round =>
            obtain ⟨z, L, sv, rfl, rfl, hz9, hzu, hcut, hown, hbi, hri⟩ := hrel
            obtain ⟨wo, rfl⟩ : ∃ wo : World, wo = wr := ⟨_, rfl⟩
            have HCUT := Lib.hid hcut
            have HBI := Lib.hid hbi
            have HRI := Lib.hid hri
            have hszo := hbi.size
            clear hcut hbi hri d0 d1 e0 e1
            by_cases hz : 0 < z
            · have hzs : z ≤ (D.size : Int) := by
                have h1 := HCUT.out.left
                have h2 := HSZ.out
                omega
              have hLs : L.length ≤ 2009 := by
                have h1 := HCUT.out.left
                have h2 := HSZ.out
                omega
              have HOW := Lib.hid hown
              obtain ⟨f, hf⟩ : ∃ f : Nat, (z - (4 : Nat)).toNat = f := ⟨_, rfl⟩
              obtain ⟨e, he⟩ : ∃ e : Nat, z = (e : Int) := ⟨z.toNat, by omega⟩
              have hfe : f ≤ e ∧ e ≤ f + 4 ∧ e ≤ D.size := by omega
              have hmax : max 0 ((e : Int) - 4) = (f : Int) := by omega
              have HF := Lib.hid hf
              subst he
              clear hf hown
              go_wp2
              go_loop [8, 9] (fun v i => ∃ j : Nat, f ≤ j ∧ j ≤ e ∧ i = .int .i64 j ∧ v = .int .i64 (decVal ((D.data.toList.take j).drop f) : Nat)) (fun _ i => e - (intOf i).toNat)
              case atStart => exact ⟨f, Nat.le_refl _, hfe.1, (by first | rfl | exact int_eq hmax), int_eq (by rw [List.drop_of_length_le (by rw [List.length_take]; omega)]; rfl)⟩
              case round =>
                obtain ⟨j, hj1, hj2, rfl, rfl⟩ := hrel
                by_cases hje : j < e
                · have hjz : (j : Int) < (e : Int) := by omega
                  have hjD : j < D.size := by omega
                  have hjDz : (j : Int) < (D.size : Int) := by omega
                  obtain ⟨c, hc⟩ : ∃ c, (D[j]'hjD).toNat = c := ⟨_, rfl⟩
                  have hcd := HDIG.out (D[j]'hjD) (Array.mem_toList_iff.2 (Array.getElem_mem _))
                  have hc1 : 48 ≤ c ∧ c ≤ 57 := by unfold isDigit at hcd; omega
                  have hstep : decVal ((D.data.toList.take (j + 1)).drop f) = 10 * decVal ((D.data.toList.take j).drop f) + (c - 48) := by
                    rw [List.take_succ_eq_append_getElem (by have := HSZ.out; omega), List.drop_append_of_le_length (by rw [List.length_take]; have := HSZ.out; omega), decVal_snoc, ← hc]
                    rfl
                  have hbd : decVal ((D.data.toList.take j).drop f) < 10000 := by
                    have h1 := decVal_lt ((D.data.toList.take j).drop f) (fun c hc => HDIG.out c (List.mem_of_mem_take (List.mem_of_mem_drop hc)))
                    rw [List.length_drop, List.length_take] at h1
                    have h2 : 10 ^ (min j D.data.toList.length - f) ≤ 10 ^ 4 := Nat.pow_le_pow_right (by decide) (by have := HSZ.out; omega)
                    omega
                  have HST := Lib.hid hstep
                  generalize decVal ((D.data.toList.take j).drop f) = v at *
                  clear hstep hcd
                  go_wp2
                  go_round
                  case rel => exact ⟨j + 1, by omega, by omega, by go_num, int_eq (by rw [HST.out]; omega)⟩
                  case measure => simp [intOf]; omega
                · have hjz : ¬ (j : Int) < (e : Int) := by omega
                  obtain rfl : j = e := by omega
                  have hstep := HCUT.out.step (by decide) hz HDIG.out
                  rw [HF.out, Int.toNat_natCast] at hstep
                  have HSP := Lib.hid hstep
                  generalize decVal ((D.data.toList.take j).drop f) = v at *
                  clear hstep
                  go_wp2_with (at_builtin; refine wpList_append_own _ rfl _ _ 26 rfl (w.heap.size + 1) 3 i0 (.int .i64 0) 1 8 Tryd.underlying26 hi hz0 hz1 hz2 rfl (by decide) _ _ _ rfl (HOW.out.alloc _) ⟨wo.heap.size, 0, none⟩ 1 1 [.int .i64 (v : Int)] rfl rfl (cell_one_new _ _ _) (numsOf_one (K := .i64) (L := [v])) (by unfold maxLen; omega) (by omega) (by have := (Array.getElem?_eq_some_iff.1 HRI.out).1; simp; omega) ?_)
                  intro v' w4 hown' hgrow _
                  have ho2 : w4.ownsRow (w.heap.size + 1) 3 1 v' (L ++ [v]).length (numsOf .i64 (L ++ [v])) := by rw [List.length_append]; exact owns_snoc hown'
                  have hb2 : Below w.heap.size w w4 := (HBI.out.alloc (by omega) _).grown hgrow (by simp; omega) (fun i hi => by have := (HOW.out.lt i hi).1; omega)
                  have hr2 : w4.heap[w.heap.size]? = some (.cells #[.bool false, .slice none 0 0] 28 (0, 0)) := by
                    have hlt := (Array.getElem?_eq_some_iff.1 HRI.out).1
                    rw [hgrow.block w.heap.size (by simp; omega) (fun e => by have := (HOW.out.lt w.heap.size e.symm).1; omega), Lib.alloc_old wo _ w.heap.size hlt]
                    exact HRI.out
                  have HO2 := Lib.hid ho2
                  have HB2 := Lib.hid hb2
                  have HR2 := Lib.hid hr2
                  clear hown' hgrow ho2 hb2 hr2
                  go_wp2
                  go_roundw
                  case rel => exact ⟨(j : Int) - 4, L ++ [v], _, rfl, by first | rfl | go_num, by omega, by omega, HSP.out, HO2.out, HB2.out, HR2.out⟩
                  case measure => simp [intOf]; omega
            · obtain ⟨a, c, rfl⟩ : ∃ a c, sv = .slice a L.length c := by
                rcases hown.2 with ⟨rfl, h0⟩ | ⟨g, cap, cur, rfl, _⟩
                · exact ⟨none, 0, by rw [h0]⟩
                · exact ⟨_, _, rfl⟩
              have hs : QR wo (.slice a L.length c) L := RowR.of_owns hown
              have HS := Lib.hid hs
              have hlim : Lim 10000 L := HCUT.out.lim
              clear hown hs
              go_wp2_with fail
              refine (rsigned_gives HS.out hlim).mono ?_
              rintro e w5 ⟨n4, a4, k4, c4, rfl, hu4, hb4⟩
              have HU4 := Lib.hid hu4
              have HR4 := Lib.hid (blk_next HRI.out hb4)
              clear hu4
              obtain ⟨d0, d1, e0, e1⟩ := res_facts HR4.out
              go_wp2
              try simp only [Exit.inBlock, Exit.then]
              refine bodyPost_ret (results_cell_slot rfl _ _ w.heap.size 28 _ (0, 0) _ (.int .i64 0) rfl rfl (res_set HR4.out) Tryd.underlying28 rfl (by kernel_rfl)) rfl ?_
              have fit := HU4.out.set2 (x := .bool n4) (y := .slice a4 k4 c4) HR4.out
              have e1 : decVal D.data.toList = val 10000 L := HCUT.out.done (by omega)
              rw [← e1] at fit
              rw [HZ.out.1, HZ.out.2]
              exact ⟨n4, a4, k4, c4, rfl, fit, held_set2 (bt HBI.out hb4) (Nat.le_refl _)⟩
end Go.Proofs.YtihjaakkpnjolaaDoor
