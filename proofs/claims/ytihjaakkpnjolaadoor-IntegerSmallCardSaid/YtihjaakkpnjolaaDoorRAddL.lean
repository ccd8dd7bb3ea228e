/- The reference's compare, add, sub on limbs. -/
import Derived.Test.YtihjaakkpnjolaaDoorRZ
namespace Go.Proofs.YtihjaakkpnjolaaDoor
open Go.RowKit Tally

set_option maxHeartbeats 800000 in
theorem rcompare_any {w : World} {va vb : Value} {a b : List Nat} (ha : QR w va a) (hb : QR w vb b) (ca : Canon 10000 a) (cb : Canon 10000 b) :
    Calls Tryd.prog 81 #[va, vb] w fun e w' => e = .returned (.int .i64 (cmpN (val 10000 a) (val 10000 b))) ∧ Below w.heap.size w w' := by
  obtain ⟨p, b1, o1, c1, rfl, l1, m1, s1, r1⟩ := ha
  obtain ⟨q, b2, o2, c2, rfl, l2, m2, s2, r2⟩ := hb
  rcases Nat.lt_trichotomy a.length b.length with h | h | h
  · have e := cmpN_lt (Canon.lt_of_length (B := 10000) (by decide) ca.1 cb h)
    rw [e]
    have hz : (a.length : Int) < (b.length : Int) := by omega
    have hne : ((a.length : Int) != (b.length : Int)) = true := by simp; omega
    clear r1 r2 e
    go_enter Tryd.func81, Tryd.ntmps81
    go_wp2
    go_ret
    exact ⟨rfl, Below.refl _ _⟩
  · have R1 := Lib.hid r1
    have R2 := Lib.hid r2
    have H := Lib.hid h
    have CA := Lib.hid ca
    have CB := Lib.hid cb
    have hne : ((a.length : Int) != (b.length : Int)) = false := by simp; omega
    obtain ⟨n, hn⟩ : ∃ n, a.length = n := ⟨_, rfl⟩
    have hn2 : b.length = n := by omega
    have HN := Lib.hid hn
    have HN2 := Lib.hid hn2
    rw [hn] at l1 s1 R1 hne ⊢
    rw [hn2] at l2 s2 R2 hne ⊢
    clear r1 r2 h ca cb hn hn2
    go_enter Tryd.func81, Tryd.ntmps81
    go_wp2
    go_loopw [5] (fun i wr => ∃ (k : Nat) (z : Int), Hid (z = (k : Int) - 1) ∧ k ≤ n ∧ i = .int .i64 z ∧ Hid (a.drop k = b.drop k) ∧ Below w.heap.size w wr) (fun i _ => (intOf i + 1).toNat)
    case atStart => exact ⟨n, _, rfl, Nat.le_refl _, rfl, Lib.hid (by rw [List.drop_of_length_le (Nat.le_of_eq HN.out), List.drop_of_length_le (Nat.le_of_eq HN2.out)]), Below.refl _ _⟩
    case round =>
      obtain ⟨k, z, hz, hk, rfl, hd, hbr⟩ := hrel
      by_cases hk0 : k = 0
      · subst hk0
        obtain rfl : z = -1 := by have := hz.out; omega
        go_wp2
        go_ret
        have e : a = b := by have := hd.out; simpa using this
        exact ⟨ret_int (by rw [e]; exact (cmpN_eq rfl).symm), hbr⟩
      · obtain ⟨j, rfl⟩ : ∃ j, k = j + 1 := ⟨k - 1, by omega⟩
        obtain rfl : z = (j : Int) := by have := hz.out; omega
        obtain rfl := s1 (by omega)
        obtain rfl := s2 (by omega)
        have t1 := keepc hbr (R1.out j (by omega))
        have t2 := keepc hbr (R2.out j (by omega))
        obtain ⟨x, hx⟩ : ∃ x, a.getD j 0 = x := ⟨_, rfl⟩
        obtain ⟨y, hy⟩ : ∃ y, b.getD j 0 = y := ⟨_, rfl⟩
        simp only [hx] at t1
        simp only [hy] at t2
        have HX := Lib.hid hx
        have HY := Lib.hid hy
        clear hx hy
        have hj0 : (0 : Int) ≤ (j : Int) := by omega
        have hj1 : (j : Int) < (n : Int) := by omega
        have HB := Lib.hid hbr
        clear hbr
        by_cases hxy : x = y
        · have hb1 : decide ((x : Int) < (y : Int)) = false := by simp; omega
          have hb2 : decide ((y : Int) < (x : Int)) = false := by simp; omega
          have hb3 : ¬ (x : Int) < (y : Int) := by omega
          have hb4 : ¬ (y : Int) < (x : Int) := by omega
          go_wp2
          go_quiet (fail)
          go_wp2
          go_quiet (fail)
          go_wp2
          refine ⟨⟨j, _, rfl, by omega, rfl, Lib.hid ?_, Below.drewN' HB.out _⟩, ?_⟩
          · exact drop_all_eq (by have := HN.out; omega) H.out hd.out (by rw [HX.out, HY.out, hxy])
          · simp [intOf]
        · have fin : ∀ l m : List Nat, Lim 10000 l → l.drop (j + 1) = m.drop (j + 1) → j < l.length → j < m.length → l.getD j 0 < m.getD j 0 → val 10000 l < val 10000 m := fun l m hl hdd h1 h2 h3 => by
            rw [getD_eq h1, getD_eq h2] at h3
            exact val_lt_of_place 10000 l m j h1 h2 hl hdd h3
          have F1 := Lib.hid (fin a b CA.out.1 hd.out (by have := HN.out; omega) (by have := HN2.out; omega))
          have F2 := Lib.hid (fin b a CB.out.1 hd.out.symm (by have := HN2.out; omega) (by have := HN.out; omega))
          clear fin
          rcases Nat.lt_or_ge x y with hlt | hlt
          · have hlz : (x : Int) < (y : Int) := by omega
            go_wp2
            go_quiet (fail)
            go_wp2
            go_ret
            exact ⟨ret_int (cmpN_lt (F1.out (by rw [HX.out, HY.out]; exact hlt))).symm, Below.drewN' HB.out _⟩
          · have hlz : ¬ (x : Int) < (y : Int) := by omega
            have hlz2 : (y : Int) < (x : Int) := by omega
            have hld : decide ((x : Int) < (y : Int)) = false := by simp; omega
            have hld2 : decide ((y : Int) < (x : Int)) = true := by simp; omega
            go_wp2
            go_quiet (fail)
            go_wp2
            go_quiet (fail)
            go_wp2
            go_ret
            exact ⟨ret_int (cmpN_gt (F2.out (by rw [HX.out, HY.out]; omega))).symm, Below.drewN' (Below.drewN' HB.out _) _⟩
  · have e := cmpN_gt (Canon.lt_of_length (B := 10000) (by decide) cb.1 ca h)
    rw [e]
    have hz : ¬ (a.length : Int) < (b.length : Int) := by omega
    have hne : ((a.length : Int) != (b.length : Int)) = true := by simp; omega
    clear r1 r2 e
    go_enter Tryd.func81, Tryd.ntmps81
    go_wp2
    go_ret
    exact ⟨rfl, Below.refl _ _⟩

/-! ### the sum -/

/-- k limbs of the sum -/
structure RAddI (a b : List Nat) (k c : Nat) (L : List Nat) : Prop where
  len : L.length = k
  lim : Lim 10000 L
  sum : val 10000 L + 10000 ^ k * c = val 10000 (a.take k) + val 10000 (b.take k)

theorem RAddI.step {a b L : List Nat} {k c x y : Nat} (h : RAddI a b k c L) (hx : a.getD k 0 = x) (hy : b.getD k 0 = y) :
    RAddI a b (k + 1) ((c + x + y) / 10000) (L ++ [(c + x + y) % 10000]) := by
  subst hx hy
  refine ⟨by simp [h.len], h.lim.append (Lim.single (Nat.mod_lt _ (by decide))), ?_⟩
  have hs := h.sum
  have p := place_div 10000 (10000 ^ k) (c + a.getD k 0 + b.getD k 0)
  rw [val_snoc, h.len, val_take_getD, val_take_getD, pow_succ']
  generalize (c + a.getD k 0 + b.getD k 0) % 10000 = m at *
  generalize (c + a.getD k 0 + b.getD k 0) / 10000 = d at *
  grind

theorem RAddI.done {a b L : List Nat} {k : Nat} (h : RAddI a b k 0 L) (ha : a.length ≤ k) (hb : b.length ≤ k) : val 10000 L = val 10000 a + val 10000 b := by
  have := h.sum
  rw [List.take_of_length_le ha, List.take_of_length_le hb] at this
  simpa using this

set_option maxHeartbeats 2000000 in
set_option maxRecDepth 100000 in
theorem radd_limbs {w : World} {va vb : Value} {a b : List Nat} (ha : QR w va a) (hb : QR w vb b) (la : Lim 10000 a) (lb : Lim 10000 b)
    (na : a.length ≤ 1000000000000) (nb : b.length ≤ 1000000000000) :
    Calls Tryd.prog 80 #[va, vb] w (GivesQ w (val 10000 a + val 10000 b)) := by
  obtain ⟨T, hT⟩ : ∃ T, val 10000 a + val 10000 b = T := ⟨_, rfl⟩
  rw [hT]
  obtain ⟨i0, hi, hz0, hz1, hz2⟩ := info_parts infoI
  obtain ⟨p, b1, o1, c1, rfl, l1, m1, s1, r1⟩ := ha
  obtain ⟨q, b2, o2, c2, rfl, l2, m2, s2, r2⟩ := hb
  obtain ⟨n, hn⟩ : ∃ n, a.length = n := ⟨_, rfl⟩
  obtain ⟨m, hm⟩ : ∃ m, b.length = m := ⟨_, rfl⟩
  have HN := Lib.hid hn
  have HM := Lib.hid hm
  have R1 := Lib.hid r1
  have R2 := Lib.hid r2
  have LA := Lib.hid la
  have LB := Lib.hid lb
  have HT := Lib.hid hT
  rw [hn] at l1 s1 R1 na ⊢
  rw [hm] at l2 s2 R2 nb ⊢
  clear r1 r2 hn hm hT la lb
  go_enter Tryd.func80, Tryd.ntmps80
  go_wp2
  go_loopw [5, 6, 7] (fun l c i wr => ∃ (k cc : Nat) (L : List Nat) (sv : Value), sv = l ∧ i = .int .i64 k ∧ c = .int .i64 cc ∧ cc ≤ 1 ∧ k ≤ n + m + 1 ∧ ((n ≤ k ∧ m ≤ k) → cc = 0 ∨ k ≤ n ∨ k ≤ m) ∧ Hid (RAddI a b k cc L) ∧ wr.ownsRow w.heap.size 3 1 sv L.length (numsOf .i64 L) ∧ Below w.heap.size w wr) (fun _ _ i _ => n + m + 2 - (intOf i).toNat)
  case atStart => exact ⟨0, 0, [], _, rfl, rfl, rfl, by omega, by omega, fun _ => .inl rfl, Lib.hid ⟨rfl, fun x hx => by simp at hx, by simp⟩, World.ownsRow_nil _ _ _ _, Below.refl _ _⟩
  case round =>
    obtain ⟨k, cc, L, sv, rfl, rfl, rfl, hcc, hk, hex, HI, hown, hbr⟩ := hrel
    have HB := Lib.hid hbr
    have hsz := hbr.size
    have hlen : L.length = k := HI.out.len
    have hLk : L.length ≤ 3000000000000 := by omega
    clear hbr hlen
    have bx := LA.out.getD (by decide) k
    have by' := LB.out.getD (by decide) k
    obtain ⟨x, hx⟩ : ∃ x, a.getD k 0 = x := ⟨_, rfl⟩
    obtain ⟨y, hy⟩ : ∃ y, b.getD k 0 = y := ⟨_, rfl⟩
    rw [hx] at bx
    rw [hy] at by'
    have HX := Lib.hid hx
    have HY := Lib.hid hy
    have xo : n ≤ k → x = 0 := fun q => by rw [← HX.out]; exact getD_out (by rw [HN.out]; exact q)
    have yo : m ≤ k → y = 0 := fun q => by rw [← HY.out]; exact getD_out (by rw [HM.out]; exact q)
    have XO := Lib.hid xo
    have YO := Lib.hid yo
    clear hx hy xo yo
    have hmod : ((cc : Int) + (x : Int) + (y : Int)) % 10000 = (((cc + x + y) % 10000 : Nat) : Int) := by omega
    have HMD := Lib.hid hmod
    clear hmod
    have hstep := HI.out.step HX.out HY.out
    have HSTEP := Lib.hid hstep
    clear hstep
    have nxt : ∀ (v' : Value) (w2 : World) (z : Int), z = (((cc + x + y) % 10000 : Nat) : Int) → w2.ownsRow w.heap.size 3 1 v' (L.length + 1) (numsOf .i64 L ++ [.int .i64 z]) → (wr.alloc (.cells #[.int .i64 z] 3)).grownBy w2 sv.ownBlock → w2.ownsRow w.heap.size 3 1 v' (L ++ [(cc + x + y) % 10000]).length (numsOf .i64 (L ++ [(cc + x + y) % 10000])) ∧ Below w.heap.size w w2 := fun v' w2 z hz ho hg => by
      subst hz
      exact ⟨by rw [List.length_append]; exact owns_snoc ho, (HB.out.alloc hsz _).grown hg (by simp; omega) (fun j hj => (hown.lt j hj).1)⟩
    have NXT := Lib.hid nxt
    clear nxt
    by_cases hkn : k < n
    · obtain rfl := s1 (by omega)
      have t1 := keepc HB.out (R1.out k hkn)
      simp only [HX.out] at t1
      have knz : (k : Int) < (n : Int) := by omega
      by_cases hkm : k < m
      · obtain rfl := s2 (by omega)
        have t2 := keepc HB.out (R2.out k hkm)
        simp only [HY.out] at t2
        have kmz : (k : Int) < (m : Int) := by omega
        go_wp2_with (at_builtin; refine wpList_append_own _ rfl _ _ 26 rfl w.heap.size 3 i0 (.int .i64 0) 1 8 Tryd.underlying26 hi hz0 hz1 hz2 rfl (by decide) _ _ _ rfl (hown.alloc _) ⟨wr.heap.size, 0, none⟩ 1 1 [.int .i64 (((cc : Int) + (x : Int) + (y : Int)) % 10000)] rfl rfl (cell_one_new _ _ _) (by simp [Value.oneCell']) (by unfold maxLen; omega) (by omega) (by simp; omega) ?_)
        intro v' w2 ho hg _
        obtain ⟨g1, g2⟩ := NXT.out v' w2 _ HMD.out ho hg
        have G1 := Lib.hid g1
        have G2 := Lib.hid g2
        clear ho hg g1 g2 hown
        go_wp2
        go_roundw
        case rel => exact ⟨k + 1, (cc + x + y) / 10000, _, _, rfl, by go_num, by go_num, by omega, by omega, fun _ => by omega, HSTEP, G1.out, G2.out⟩
        case measure => simp [intOf]; omega
      · have kmz : ¬ (k : Int) < (m : Int) := by omega
        obtain rfl : y = 0 := YO.out (by omega)
        go_wp2_with (at_builtin; refine wpList_append_own _ rfl _ _ 26 rfl w.heap.size 3 i0 (.int .i64 0) 1 8 Tryd.underlying26 hi hz0 hz1 hz2 rfl (by decide) _ _ _ rfl (hown.alloc _) ⟨wr.heap.size, 0, none⟩ 1 1 [.int .i64 (((cc : Int) + (x : Int)) % 10000)] rfl rfl (cell_one_new _ _ _) (by simp [Value.oneCell']) (by unfold maxLen; omega) (by omega) (by simp; omega) ?_)
        intro v' w2 ho hg _
        obtain ⟨g1, g2⟩ := NXT.out v' w2 _ (by omega) ho hg
        have G1 := Lib.hid g1
        have G2 := Lib.hid g2
        clear ho hg g1 g2 hown
        go_wp2
        go_roundw
        case rel => exact ⟨k + 1, (cc + x + 0) / 10000, _, _, rfl, by go_num, by go_num, by omega, by omega, fun _ => by omega, HSTEP, G1.out, G2.out⟩
        case measure => simp [intOf]; omega
    · have knz : ¬ (k : Int) < (n : Int) := by omega
      obtain rfl : x = 0 := XO.out (by omega)
      by_cases hkm : k < m
      · obtain rfl := s2 (by omega)
        have t2 := keepc HB.out (R2.out k hkm)
        simp only [HY.out] at t2
        have kmz : (k : Int) < (m : Int) := by omega
        go_wp2_with (at_builtin; refine wpList_append_own _ rfl _ _ 26 rfl w.heap.size 3 i0 (.int .i64 0) 1 8 Tryd.underlying26 hi hz0 hz1 hz2 rfl (by decide) _ _ _ rfl (hown.alloc _) ⟨wr.heap.size, 0, none⟩ 1 1 [.int .i64 (((cc : Int) + (y : Int)) % 10000)] rfl rfl (cell_one_new _ _ _) (by simp [Value.oneCell']) (by unfold maxLen; omega) (by omega) (by simp; omega) ?_)
        intro v' w2 ho hg _
        obtain ⟨g1, g2⟩ := NXT.out v' w2 _ (by omega) ho hg
        have G1 := Lib.hid g1
        have G2 := Lib.hid g2
        clear ho hg g1 g2 hown
        go_wp2
        go_roundw
        case rel => exact ⟨k + 1, (cc + 0 + y) / 10000, _, _, rfl, by go_num, by go_num, by omega, by omega, fun _ => by omega, HSTEP, G1.out, G2.out⟩
        case measure => simp [intOf]; omega
      · have kmz : ¬ (k : Int) < (m : Int) := by omega
        obtain rfl : y = 0 := YO.out (by omega)
        by_cases hc0 : cc = 0
        · subst hc0
          have hq : QR wr sv L := RowR.of_owns hown
          have HQ := Lib.hid hq
          clear hq
          obtain ⟨ad, cp, rfl⟩ : ∃ ad cp, sv = .slice ad L.length cp := by
            rcases hown.2 with ⟨rfl, h0⟩ | ⟨g, cap, cur, rfl, _⟩
            · exact ⟨none, 0, by rw [h0]⟩
            · exact ⟨_, _, rfl⟩
          clear hown
          go_wp2
          go_ret
          exact ⟨_, L, rfl, HQ.out, HI.out.lim, by rw [HI.out.done (by rw [HN.out]; omega) (by rw [HM.out]; omega), HT.out], HB.out⟩
        · have ccz : (0 : Int) < (cc : Int) := by omega
          go_wp2_with (at_builtin; refine wpList_append_own _ rfl _ _ 26 rfl w.heap.size 3 i0 (.int .i64 0) 1 8 Tryd.underlying26 hi hz0 hz1 hz2 rfl (by decide) _ _ _ rfl (hown.alloc _) ⟨wr.heap.size, 0, none⟩ 1 1 [.int .i64 ((cc : Int) % 10000)] rfl rfl (cell_one_new _ _ _) (by simp [Value.oneCell']) (by unfold maxLen; omega) (by omega) (by simp; omega) ?_)
          intro v' w2 ho hg _
          obtain ⟨g1, g2⟩ := NXT.out v' w2 _ (by omega) ho hg
          have G1 := Lib.hid g1
          have G2 := Lib.hid g2
          clear ho hg g1 g2 hown
          go_wp2
          go_roundw
          case rel => exact ⟨k + 1, (cc + 0 + 0) / 10000, _, _, rfl, by go_num, by go_num, by omega, by omega, fun _ => by omega, HSTEP, G1.out, G2.out⟩
          case measure => simp [intOf]; omega
end Go.Proofs.YtihjaakkpnjolaaDoor
