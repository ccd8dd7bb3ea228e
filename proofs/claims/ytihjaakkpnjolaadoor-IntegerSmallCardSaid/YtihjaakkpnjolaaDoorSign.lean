/- The program's Sign, compare, Cmp. -/
import Derived.Test.YtihjaakkpnjolaaDoorMem
import Derived.Test.YtihjaakkpnjolaaDoorPlainC
import Derived.Deep.RegionHeld3
namespace Go.Proofs.YtihjaakkpnjolaaDoor
open Go.RowKit Tally

/-- the order of two numbers, as Go says it -/
def cmpN (x y : Nat) : Int := Int.sign ((x : Int) - (y : Int))
theorem cmpN_lt {x y : Nat} (h : x < y) : cmpN x y = -1 := Int.sign_eq_neg_one_of_neg (by omega)
theorem cmpN_gt {x y : Nat} (h : y < x) : cmpN x y = 1 := Int.sign_eq_one_of_pos (by omega)
theorem cmpN_eq {x y : Nat} (h : x = y) : cmpN x y = 0 := by unfold cmpN; rw [h, Int.sub_self]; rfl

theorem drop_all_eq {a b : List Nat} {k : Nat} (hk : k < a.length) (hl : a.length = b.length) (h : a.drop (k + 1) = b.drop (k + 1)) (e : a.getD k 0 = b.getD k 0) : a.drop k = b.drop k := by
  rw [List.drop_eq_getElem_cons hk, List.drop_eq_getElem_cons (show k < b.length by omega), h]
  have hk' : k < b.length := by omega
  rw [getD_eq hk, getD_eq hk'] at e
  rw [e]

set_option maxHeartbeats 800000 in
theorem compare_any {w : World} {va vb : Value} {a b : List Nat} (ha : LR w va a) (hb : LR w vb b) (ca : Canon 1000000000 a) (cb : Canon 1000000000 b) :
    Calls Tryd.prog 78 #[va, vb] w fun e w' => e = .returned (.int .i64 (cmpN (val 1000000000 a) (val 1000000000 b))) ∧ Below w.heap.size w w' := by
  obtain ⟨p, b1, o1, c1, rfl, l1, m1, s1, r1⟩ := ha
  obtain ⟨q, b2, o2, c2, rfl, l2, m2, s2, r2⟩ := hb
  rcases Nat.lt_trichotomy a.length b.length with h | h | h
  · have e := cmpN_lt (Canon.lt_of_length (B := 1000000000) (by decide) ca.1 cb h)
    rw [e]
    have hz : (a.length : Int) < (b.length : Int) := by omega
    have hne : ((a.length : Int) != (b.length : Int)) = true := by simp; omega
    clear r1 r2 e
    go_enter Tryd.func78, Tryd.ntmps78
    go_wp2
    go_ret
    exact ⟨rfl, Below.refl _ _⟩
  · have R1 := Lib.hid r1
    have R2 := Lib.hid r2
    have H := Lib.hid h
    have CA := Lib.hid ca
    have CB := Lib.hid cb
    have hne : ((a.length : Int) != (b.length : Int)) = false := by simp; omega
    obtain ⟨n, hn⟩ : ∃ n, a.length = n := ⟨_, rfl⟩
    have hn2 : b.length = n := by omega
    have HN := Lib.hid hn
    have HN2 := Lib.hid hn2
    rw [hn] at l1 s1 R1 hne ⊢
    rw [hn2] at l2 s2 R2 hne ⊢
    clear r1 r2 h ca cb hn hn2
    go_enter Tryd.func78, Tryd.ntmps78
    go_wp2
    go_loopw [5] (fun i wr => ∃ (k : Nat) (z : Int), Hid (z = (k : Int) - 1) ∧ k ≤ n ∧ i = .int .i64 z ∧ Hid (a.drop k = b.drop k) ∧ Below w.heap.size w wr) (fun i _ => (intOf i + 1).toNat)
    case atStart => exact ⟨n, _, rfl, Nat.le_refl _, rfl, Lib.hid (by rw [List.drop_of_length_le (Nat.le_of_eq HN.out), List.drop_of_length_le (Nat.le_of_eq HN2.out)]), Below.refl _ _⟩
    case round =>
      obtain ⟨k, z, hz, hk, rfl, hd, hbr⟩ := hrel
      by_cases hk0 : k = 0
      · subst hk0
        obtain rfl : z = -1 := by have := hz.out; omega
        go_wp2
        go_ret
        have e : a = b := by have := hd.out; simpa using this
        exact ⟨ret_int (by rw [e]; exact (cmpN_eq rfl).symm), hbr⟩
      · obtain ⟨j, rfl⟩ : ∃ j, k = j + 1 := ⟨k - 1, by omega⟩
        obtain rfl : z = (j : Int) := by have := hz.out; omega
        obtain rfl := s1 (by omega)
        obtain rfl := s2 (by omega)
        have t1 := keepc hbr (R1.out j (by omega))
        have t2 := keepc hbr (R2.out j (by omega))
        obtain ⟨x, hx⟩ : ∃ x, a.getD j 0 = x := ⟨_, rfl⟩
        obtain ⟨y, hy⟩ : ∃ y, b.getD j 0 = y := ⟨_, rfl⟩
        rw [hx] at t1
        rw [hy] at t2
        have HX := Lib.hid hx
        have HY := Lib.hid hy
        clear hx hy
        have hj0 : (0 : Int) ≤ (j : Int) := by omega
        have hj1 : (j : Int) < (n : Int) := by omega
        have HB := Lib.hid hbr
        clear hbr
        by_cases hxy : x = y
        · have hb1 : ((x : Int) != (y : Int)) = false := by simp; omega
          go_wp2
          go_quiet (fail)
          go_wp2
          refine ⟨⟨j, _, rfl, by omega, rfl, Lib.hid ?_, Below.drewN' HB.out _⟩, ?_⟩
          · exact drop_all_eq (by have := HN.out; omega) H.out hd.out (by rw [HX.out, HY.out, hxy])
          · simp [intOf]
        · have hb1 : ((x : Int) != (y : Int)) = true := by simp; omega
          have fin : ∀ l m : List Nat, Lim 1000000000 l → l.drop (j + 1) = m.drop (j + 1) → j < l.length → j < m.length → l.getD j 0 < m.getD j 0 → val 1000000000 l < val 1000000000 m := fun l m hl hdd h1 h2 h3 => by
            rw [getD_eq h1, getD_eq h2] at h3
            exact val_lt_of_place 1000000000 l m j h1 h2 hl hdd h3
          have F1 := Lib.hid (fin a b CA.out.1 hd.out (by have := HN.out; omega) (by have := HN2.out; omega))
          have F2 := Lib.hid (fin b a CB.out.1 hd.out.symm (by have := HN2.out; omega) (by have := HN.out; omega))
          clear fin
          rcases Nat.lt_or_ge x y with hlt | hlt
          · have hlz : (x : Int) < (y : Int) := by omega
            go_wp2
            go_quiet (fail)
            go_wp2
            go_quiet (fail)
            go_wp2
            go_ret
            exact ⟨ret_int (cmpN_lt (F1.out (by rw [HX.out, HY.out]; exact hlt))).symm, Below.drewN' (Below.drewN' HB.out _) _⟩
          · have hlz : ¬ (x : Int) < (y : Int) := by omega
            have hld : decide ((x : Int) < (y : Int)) = false := by simp; omega
            go_wp2
            go_quiet (fail)
            go_wp2
            go_quiet (fail)
            go_wp2
            go_ret
            exact ⟨ret_int (cmpN_gt (F2.out (by rw [HX.out, HY.out]; omega))).symm, Below.drewN' (Below.drewN' HB.out _) _⟩
  · have e := cmpN_gt (Canon.lt_of_length (B := 1000000000) (by decide) cb.1 ca h)
    rw [e]
    have hz : ¬ (a.length : Int) < (b.length : Int) := by omega
    have hne : ((a.length : Int) != (b.length : Int)) = true := by simp; omega
    clear r1 r2 e
    go_enter Tryd.func78, Tryd.ntmps78
    go_wp2
    go_ret
    exact ⟨rfl, Below.refl _ _⟩

theorem sign_of {neg : Bool} {l : List Nat} {z : Int} (hc : Canon 1000000000 l) (hz : z = if neg then -(val 1000000000 l : Int) else val 1000000000 l) :
    (l.length = 0 → z.sign = 0) ∧ (l.length ≠ 0 → z.sign = if neg then -1 else 1) := by
  constructor
  · intro h
    have : l = [] := List.length_eq_zero_iff.1 h
    subst this
    rw [hz]; cases neg <;> rfl
  · intro h
    have hp := Canon.pos (B := 1000000000) (by decide) hc (fun e => h (by rw [e]; rfl))
    rw [hz]
    cases neg
    · exact Int.sign_eq_one_of_pos (by simp; omega)
    · exact Int.sign_eq_neg_one_of_neg (by simp; omega)

set_option maxHeartbeats 800000 in
theorem sign_any {w : World} {v : Value} {z : Int} (h : IntR w v z) :
    Calls Tryd.prog 23 #[v] w fun e w' => e = .returned (.int .i64 z.sign) ∧ Below w.heap.size w w' := by
  obtain ⟨neg, s, l, rfl, ⟨p, b, o, c, rfl, hlc, hm, hs, hr⟩, hc, hn, hz⟩ := h
  obtain ⟨q0, q1⟩ := sign_of hc hz
  clear hz hc hn hr hs
  generalize l.length = n at *
  have fin : ∀ (x y : Int) (w1 : World), x = y → Below w.heap.size w w1 → Ending.returned (.int .i64 x) = .returned (.int .i64 y) ∧ Below w.heap.size w w1 := fun x y w1 h1 h2 => ⟨ret_int h1, h2⟩
  have F := Lib.hid fin
  clear fin
  by_cases h0 : n = 0
  · have Q := Lib.hid (q0 h0)
    clear q0 q1
    subst h0
    go_enter Tryd.func23, Tryd.ntmps23
    go_wp2
    go_ret
    exact ⟨ret_int Q.out.symm, (Below.refl _ _).alloc (Nat.le_refl _) _⟩
  · have Q := Lib.hid (q1 h0)
    clear q0 q1
    have hne : ((n : Int) == 0) = false := by simp; omega
    cases neg
    all_goals
      go_enter Tryd.func23, Tryd.ntmps23
      go_wp2
      go_ret
      exact ⟨ret_int Q.out.symm, (Below.refl _ _).alloc (Nat.le_refl _) _⟩

/-- two canonical integers are ordered by their signs, then by their limbs -/
theorem cmp_signs {x y : Int} (h : x.sign ≠ y.sign) : (x.sign < y.sign → (x - y).sign = -1) ∧ (¬ x.sign < y.sign → (x - y).sign = 1) := by
  rcases Int.lt_trichotomy x 0 with a | a | a <;> rcases Int.lt_trichotomy y 0 with b | b | b
  all_goals
    first
    | (rw [Int.sign_eq_neg_one_of_neg a] at *)
    | (rw [Int.sign_eq_one_of_pos a] at *)
    | (subst a; rw [Int.sign_zero] at *)
  all_goals
    first
    | (rw [Int.sign_eq_neg_one_of_neg b] at *)
    | (rw [Int.sign_eq_one_of_pos b] at *)
    | (subst b; rw [Int.sign_zero] at *)
  all_goals
    first
    | exact absurd rfl h
    | exact ⟨fun _ => Int.sign_eq_neg_one_of_neg (by omega), fun q => absurd (by decide) q⟩
    | exact ⟨fun q => absurd q (by decide), fun _ => Int.sign_eq_one_of_pos (by omega)⟩

theorem cmp_same {n1 n2 : Bool} {l1 l2 : List Nat} {x y : Int} (c1 : Canon 1000000000 l1) (c2 : Canon 1000000000 l2) (g1 : n1 = true → l1 ≠ []) (g2 : n2 = true → l2 ≠ [])
    (z1 : x = if n1 then -(val 1000000000 l1 : Int) else val 1000000000 l1) (z2 : y = if n2 then -(val 1000000000 l2 : Int) else val 1000000000 l2) (hs : x.sign = y.sign) :
    n1 = n2 ∧ (n1 = true → (x - y).sign = cmpN (val 1000000000 l2) (val 1000000000 l1)) ∧ (n1 = false → (x - y).sign = cmpN (val 1000000000 l1) (val 1000000000 l2)) := by
  have p1 : n1 = true → 0 < val 1000000000 l1 := fun h => Canon.pos (by decide) c1 (g1 h)
  have p2 : n2 = true → 0 < val 1000000000 l2 := fun h => Canon.pos (by decide) c2 (g2 h)
  generalize val 1000000000 l1 = a at *
  generalize val 1000000000 l2 = b at *
  unfold cmpN
  cases n1 <;> cases n2
  · subst z1 z2; simp
  · have := p2 rfl
    simp at z1 z2; subst z1 z2
    rw [Int.sign_eq_neg_one_of_neg (a := -(b : Int)) (by omega)] at hs
    rcases Nat.eq_zero_or_pos a with h | h
    · subst h; simp at hs
    · rw [Int.sign_eq_one_of_pos (by omega)] at hs; simp at hs
  · have := p1 rfl
    simp at z1 z2; subst z1 z2
    rw [Int.sign_eq_neg_one_of_neg (a := -(a : Int)) (by omega)] at hs
    rcases Nat.eq_zero_or_pos b with h | h
    · subst h; simp at hs
    · rw [Int.sign_eq_one_of_pos (a := (b : Int)) (by omega)] at hs; simp at hs
  · simp at z1 z2; subst z1 z2
    refine ⟨rfl, fun _ => ?_, fun h => by simp at h⟩
    congr 1
    omega

set_option maxHeartbeats 1000000 in
theorem cmp_any {w : World} {v u : Value} {x y : Int} (h : IntR w v x) (k : IntR w u y) :
    Calls Tryd.prog 36 #[v, u] w fun e w' => e = .returned (.int .i64 (x - y).sign) ∧ Below w.heap.size w w' := by
  have h' := h
  have k' := k
  obtain ⟨n1, s1, l1, rfl, lr1, c1, g1, z1⟩ := h'
  obtain ⟨n2, s2, l2, rfl, lr2, c2, g2, z2⟩ := k'
  have H := Lib.hid h
  have K := Lib.hid k
  have Z1 := Lib.hid z1
  have Z2 := Lib.hid z2
  have G1 := Lib.hid g1
  have G2 := Lib.hid g2
  clear h k z1 z2 g1 g2
  have HB0 : Below w.heap.size w ((w.alloc (.cells #[.bool n1, s1] 25)).alloc (.cells #[.bool n2, s2] 25)) := ((Below.refl _ _).alloc (Nat.le_refl _) _).alloc (by simp) _
  have q1 : ((w.alloc (.cells #[.bool n1, s1] 25)).alloc (.cells #[.bool n2, s2] 25)).cell? ⟨w.heap.size, 0, none⟩ = some (.bool n1) := by go_simp
  have q2 : ((w.alloc (.cells #[.bool n1, s1] 25)).alloc (.cells #[.bool n2, s2] 25)).cell? ⟨w.heap.size, 1, none⟩ = some s1 := by go_simp
  have q3 : ((w.alloc (.cells #[.bool n1, s1] 25)).alloc (.cells #[.bool n2, s2] 25)).cell? ⟨w.heap.size + 1, 0, none⟩ = some (.bool n2) := by go_simp
  have q4 : ((w.alloc (.cells #[.bool n1, s1] 25)).alloc (.cells #[.bool n2, s2] 25)).cell? ⟨w.heap.size + 1, 1, none⟩ = some s2 := by go_simp
  have HQ := Lib.hid HB0
  have Q := Lib.hid (And.intro q1 (And.intro q2 (And.intro q3 q4)))
  clear HB0 q1 q2 q3 q4
  go_enter Tryd.func36, Tryd.ntmps36
  go_wp2_with fail
  revert HQ Q
  generalize ((w.alloc (.cells #[.bool n1, s1] 25)).alloc (.cells #[.bool n2, s2] 25)) = W
  intro HQ Q
  have HL := Lib.hid (fun (w' : World) (hb : Below W.heap.size W w') => (And.intro hb (And.intro (keepc hb Q.out.1) (And.intro (keepc hb Q.out.2.1) (And.intro (keepc hb Q.out.2.2.1) (keepc hb Q.out.2.2.2)))) : Below W.heap.size W w' ∧ w'.cell? ⟨w.heap.size, 0, none⟩ = some (.bool n1) ∧ w'.cell? ⟨w.heap.size, 1, none⟩ = some s1 ∧ w'.cell? ⟨w.heap.size + 1, 0, none⟩ = some (.bool n2) ∧ w'.cell? ⟨w.heap.size + 1, 1, none⟩ = some s2))
  have HA := Lib.hid (fun (w' : World) (hs : Below W.heap.size W w' ∧ w'.cell? ⟨w.heap.size, 0, none⟩ = some (.bool n1) ∧ w'.cell? ⟨w.heap.size, 1, none⟩ = some s1 ∧ w'.cell? ⟨w.heap.size + 1, 0, none⟩ = some (.bool n2) ∧ w'.cell? ⟨w.heap.size + 1, 1, none⟩ = some s2) => H.out.below (bt HQ.out hs.1))
  have HB := Lib.hid (fun (w' : World) (hs : Below W.heap.size W w' ∧ w'.cell? ⟨w.heap.size, 0, none⟩ = some (.bool n1) ∧ w'.cell? ⟨w.heap.size, 1, none⟩ = some s1 ∧ w'.cell? ⟨w.heap.size + 1, 0, none⟩ = some (.bool n2) ∧ w'.cell? ⟨w.heap.size + 1, 1, none⟩ = some s2) => K.out.below (bt HQ.out hs.1))
  go_region_held3 (fun w' => Below W.heap.size W w' ∧ w'.cell? ⟨w.heap.size, 0, none⟩ = some (.bool n1) ∧ w'.cell? ⟨w.heap.size, 1, none⟩ = some s1 ∧ w'.cell? ⟨w.heap.size + 1, 0, none⟩ = some (.bool n2) ∧ w'.cell? ⟨w.heap.size + 1, 1, none⟩ = some s2)
    (first | exact HL.out _ (Below.drew (Below.refl _ _)) | exact HL.out _ (bt (And.left (by assumption)) (by assumption)))
    (first | (go_at_call 23; (with_reducible refine (sign_any (HA.out _ (by assumption))).mono ?_); rintro e w1 ⟨rfl, hb1⟩) | (go_at_call 23; (with_reducible refine (sign_any (HB.out _ (by assumption))).mono ?_); rintro e w2 ⟨rfl, hb2⟩))
  have hW := bt (bt (Below.drew (Below.refl W.heap.size W)) hb1) hb2
  obtain ⟨_, d1, d2, d3, d4⟩ := HL.out _ hW
  have HW := Lib.hid hW
  clear hb1 hb2 hW
  by_cases hs : x.sign = y.sign
  · obtain ⟨e12, e1, e2⟩ := cmp_same c1 c2 G1.out G2.out Z1.out Z2.out hs
    subst e12
    have hb : (x.sign != y.sign) = false := by simp [hs]
    have E1 := Lib.hid e1
    have E2 := Lib.hid e2
    clear hs e1 e2
    have L1 := lr1.below (bt HQ.out HW.out)
    have L2 := lr2.below (bt HQ.out HW.out)
    cases n1
    · go_wp2_with fail
      refine (compare_any L1 L2 c1 c2).mono ?_
      rintro e w3 ⟨rfl, hb3⟩
      go_wp2
      go_ret
      exact ⟨ret_int (E2.out (by simp)).symm, bt (bt HQ.out HW.out) hb3⟩
    · go_wp2_with fail
      refine (compare_any L2 L1 c2 c1).mono ?_
      rintro e w3 ⟨rfl, hb3⟩
      go_wp2
      go_ret
      exact ⟨ret_int (E1.out (by simp)).symm, bt (bt HQ.out HW.out) hb3⟩
  · obtain ⟨e1, e2⟩ := cmp_signs hs
    have hb : (x.sign != y.sign) = true := by simp [hs]
    by_cases hlt : x.sign < y.sign
    · have E1 := Lib.hid (e1 hlt)
      clear e1 e2 hs
      go_wp2
      go_ret
      exact ⟨ret_int E1.out.symm, bt HQ.out HW.out⟩
    · have E1 := Lib.hid (e2 hlt)
      clear e1 e2 hs
      go_wp2
      go_ret
      exact ⟨ret_int E1.out.symm, bt HQ.out HW.out⟩
end Go.Proofs.YtihjaakkpnjolaaDoor
