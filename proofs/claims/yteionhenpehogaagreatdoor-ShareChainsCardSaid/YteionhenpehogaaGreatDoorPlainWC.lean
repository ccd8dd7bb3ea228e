import Derived.Test.YteionhenpehogaaGreatDoorPlainSS
namespace Tally
open Graph.Plain (ReachF IsReach Great IsClosed hold)
section
variable {n : Nat} {Z : Nat → Nat → Int} {D E : Nat → Int} {o p : Nat → Bool} {x y : Nat → Rat}
theorem reach_add (hs : Shares n Z D) (hs2 : Shares n Z E) (ho : IsReach n (inner Z) (direct n D) o) (hp : IsReach n (inner Z) (direct n E) p) : IsReach n (inner Z) (direct n fun e => D e + E e) (fun e => o e || p e) := by
 refine ⟨fun a ha hI => ?_, fun a b ha hb hab hz => ?_, fun e he h => ?_⟩
 ·have h1 := hs.dpos a hI.1 ha
  have h2 := hs2.dpos a hI.1 ha
  have h3 : 0 < D a + E a := hI.2.2
  by_cases q : 0 < D a
  ·rw [ho.init a ha ⟨hI.1, ha, q⟩]; rfl
  ·rw [hp.init a ha ⟨hI.1, ha, by omega⟩]; exact Bool.or_true _
 ·rcases Bool.or_eq_true_iff.1 hab with q | q
  ·rw [ho.closed a b ha hb q hz]; rfl
  ·rw [hp.closed a b ha hb q hz]; exact Bool.or_true _
 ·rcases Bool.or_eq_true_iff.1 h with q | q
  ·exact (ho.sound e he q).mono fun a ha => ReachF.init ⟨ha.1, ha.2.1, by have := hs2.dpos a ha.1 ha.2.1; have := ha.2.2; show 0 < D a + E a; omega⟩
  ·exact (hp.sound e he q).mono fun a ha => ReachF.init ⟨ha.1, ha.2.1, by have := hs.dpos a ha.1 ha.2.1; have := ha.2.2; show 0 < D a + E a; omega⟩
theorem Sol.add (hs : Shares n Z D) (hs2 : Shares n Z E) (ho : IsReach n (inner Z) (direct n D) o) (hp : IsReach n (inner Z) (direct n E) p) (hx : Sol n Z D o x) (hy : Sol n Z E p y) : Sol n Z (fun e => D e + E e) (fun e => o e || p e) (fun e => x e + y e) := by
 refine ⟨fun e he h => ?_, fun e he h => ?_⟩
 ·obtain ⟨a, b⟩ := Bool.or_eq_false_iff.1 h
  show x e + y e = 0
  rw [hx.1 e he a, hy.1 e he b]; grind
 ·have h1 : 1 ≤ e := by
   rcases Bool.or_eq_true_iff.1 h with q | q
   ·exact reach_pos ho he q
   ·exact reach_pos hp he q
  show x e + y e = part (D e + E e) + sumTo n (fun h => part (Z h e) * (x h + y h))
  rw [hx.eq hs ho h1 he, hy.eq hs2 hp h1 he, part_add, sumTo_congr (f := fun h => part (Z h e) * (x h + y h)) (g := fun h => part (Z h e) * x h + part (Z h e) * y h) (fun k _ => by grind), sumTo_add]
  grind
end
section
variable {n : Nat} {Z : Nat → Nat → Int} {D : Nat → Int} {o g r : Nat → Bool} {s : Nat → Rat}
theorem whole_rest (hs : Shares n Z D) (ho : IsReach n (inner Z) (direct n D) o) (hx : Sol n Z D o s) (hD : ∀ e, 1 ≤ e → e < n → isum n (fun h => if h = 0 then 0 else Z h e) + D e = 10000) {e : Nat} (h1 : 1 ≤ e) (he : e < n) :
  1 - s e = sumTo n (fun h => if h = 0 then 0 else part (Z h e) * (1 - s h)) := by
 have hn : 0 < n := by omega
 have h0 := hx.zero ho hn
 have e1 : sumTo n (fun h => if h = 0 then 0 else part (Z h e) * (1 - s h)) = sumTo n (fun h => part (if h = 0 then 0 else Z h e) + (-1) * (part (Z h e) * s h)) := by
  refine sumTo_congr fun k hk => ?_
  by_cases q : k = 0
  ·subst q; rw [if_pos rfl, if_pos rfl, h0, part_zero]; grind
  ·rw [if_neg q, if_neg q]; grind
 rw [e1, sumTo_add, sumTo_mul, sum_part, hx.eq hs ho h1 he]
 have h2 := hD e h1 he
 have h3 : part (isum n (fun h => if h = 0 then 0 else Z h e)) + part (D e) = 1 := by rw [← part_add, h2, part_one]
 grind
theorem whole_one (hx : Sol n Z D o s) {e : Nat} (he : e < n) (h : o e = false) : 1 - s e = 1 := by rw [hx.1 e he h]; grind
theorem whole_nonneg (hs : Shares n Z D) (ho : IsReach n (inner Z) (direct n D) o) (hx : Sol n Z D o s) (hD : ∀ e, 1 ≤ e → e < n → isum n (fun h => if h = 0 then 0 else Z h e) + D e = 10000) : ∀ e, e < n → 0 ≤ 1 - s e := by
 intro e he
 by_cases q : o e = true
 ·obtain ⟨i, hi, rfl⟩ := plAt_of he q
  refine fed_nonneg (x := fun i => 1 - s (plAt o n i)) (c := fun i => sumTo n (fun h => if h = 0 ∨ o h = true then 0 else part (Z h (plAt o n i)))) (plB_pos hs) (plD_pos hs ho) (pl_sum hs ho) (fun i hi => sum_nonneg fun k hk => ?_) (pl_fed hs ho) (fun i hi => ?_) i hi
  ·by_cases z : k = 0 ∨ o k = true
   ·rw [if_pos z]; exact Rat.le_refl
   ·rw [if_neg z]; exact part_nonneg (hs.pos _ _ hk (plAt_mem hi).1)
  ·obtain ⟨a, b⟩ := plAt_mem hi
   have h0 := reach_zero ho (show 0 < n by omega)
   show 1 - s (plAt o n i) = _
   rw [whole_rest hs ho hx hD (reach_pos ho a b) a]
   have e1 : sumTo (plc o n).length (fun k => plB o n Z i k * (1 - s (plAt o n k))) = sumTo n (fun h => if o h = true then part (Z h (plAt o n i)) * (1 - s h) else 0) := plc_sumQ (o := o) (n := n) (fun h => part (Z h (plAt o n i)) * (1 - s h))
   rw [e1, ← sumTo_add]
   refine sumTo_congr fun k hk => ?_
   by_cases z : k = 0
   ·subst z; rw [if_pos rfl, if_pos (.inl rfl), if_neg (by rw [h0]; decide)]; grind
   ·by_cases t : o k = true
    ·rw [if_neg z, if_pos (.inr t), if_pos t]; grind
    ·rw [if_neg z, if_neg (by rintro (q | q); exact z q; exact t q), if_neg t, whole_one hx hk (by simpa using t)]; grind
 ·rw [whole_one hx he (by simpa using q)]; decide
theorem hold_le_sum (hs : Shares n Z D) {e : Nat} (he : e < n) : hold (inner Z) g e n ≤ isum n (fun h => if h = 0 then 0 else Z h e) := by
 unfold hold
 rw [gsum_isum]
 refine isum_le fun k hk => ?_
 unfold inner
 have := hs.pos k e hk he
 by_cases z : k = 0
 ·subst z; simp
 ·by_cases q : g k = true
  ·by_cases w : e = 0
   ·rw [if_pos q, if_pos (.inr w), if_neg z]; exact this
   ·rw [if_pos q, if_neg (by omega), if_neg z]; exact Int.le_refl _
  ·rw [if_neg q, if_neg z]; exact this
theorem hold_lt_sum (hs : Shares n Z D) {a e : Nat} (he : e < n) (ha : a < n) (h1 : 1 ≤ a) (hg : g a = false) (hz : 0 < Z a e) : hold (inner Z) g e n < isum n (fun h => if h = 0 then 0 else Z h e) := by
 have h2 : hold (inner Z) g e n + Z a e ≤ isum n (fun h => if h = 0 then 0 else Z h e) := by
  unfold hold
  rw [gsum_isum, ← isum_set (f := fun h => if g h = true then inner Z h e else 0) (d := Z a e) ha]
  refine isum_le fun k hk => ?_
  have := hs.pos k e hk he
  unfold inner
  by_cases q : k = a
  ·subst q; rw [if_pos rfl, if_neg (by rw [hg]; decide), if_neg (show ¬ k = 0 by omega)]; omega
  ·rw [if_neg q]
   by_cases z : k = 0
   ·subst z; simp
   ·by_cases t : g k = true
    ·by_cases w : e = 0
     ·rw [if_pos t, if_pos (.inr w), if_neg z]; exact this
     ·rw [if_pos t, if_neg (by omega), if_neg z]; exact Int.le_refl _
    ·rw [if_neg t, if_neg z]; exact this
 omega
theorem great_zero (hg : Great n (inner Z) g) (hn : 0 < n) : g 0 = false := by
 cases q : g 0
 ·rfl
 ·have h1 := hg.closed 0 hn q
  unfold hold at h1
  rw [gsum_isum, isum_zero (fun k _ => by unfold inner; simp)] at h1
  exact absurd h1 (by decide)
theorem great_iff (hs : Shares n Z D) (ho : IsReach n (inner Z) (direct n D) o) (hD : ∀ e, 1 ≤ e → e < n → isum n (fun h => if h = 0 then 0 else Z h e) + D e = 10000) (hg : Great n (inner Z) g) {e : Nat} (h1 : 1 ≤ e) (he : e < n) : g e = true ↔ o e = false := by
 constructor
 ·intro h
  cases q : o e
  ·rfl
  ·exfalso
   have key := (ho.iff he).1 q (fun a => a < n → 1 ≤ a ∧ g a = false)
    (fun a ha hn => ⟨ha.1, by
     cases z : g a
     ·rfl
     ·have h2 := hg.closed a hn z
      have h3 := hold_le_sum (g := g) hs hn
      have h4 := hD a ha.1 hn
      have h5 := ha.2.2
      omega⟩)
    (fun a b ha hb hS hz hn => by
     obtain ⟨a1, a2⟩ := hS ha
     obtain ⟨_, b1, zab⟩ := inner_zero _ _ hz
     refine ⟨b1, ?_⟩
     cases z : g b
     ·rfl
     ·have h2 := hg.closed b hn z
      have h3 := hold_lt_sum hs hb ha a1 a2 zab
      have h4 := hD b b1 hn
      have h5 := hs.dpos b b1 hn
      omega)
   rw [(key he).2] at h
   exact absurd h (by decide)
 ·intro h
  refine hg.all (fun a => decide (1 ≤ a) && !o a) (fun a ha hp => ?_) e he (by simp [h1, h])
  simp only [Bool.and_eq_true, decide_eq_true_eq, Bool.not_eq_true'] at hp
  obtain ⟨z1, z2⟩ := unreached hs ho hp.1 ha hp.2
  have h4 := hD a hp.1 ha
  rw [z1] at h4
  unfold hold
  rw [gsum_isum, ← h4, Int.add_zero]
  refine isum_congr fun k hk => ?_
  by_cases z : k = 0
  ·subst z; simp
  ·cases t : o k
   ·rw [if_pos (by simp [t]; omega), if_neg z, inner_pos (by omega) hp.1]
   ·rw [if_neg (by simp [t]), if_neg z, z2 k hk t]
theorem pl_sum' (hs : Shares n Z D) (hp : ∀ e, e < n → o e = true → 1 ≤ e) : ∀ i, i < (plc o n).length → sumTo (plc o n).length (plB o n Z i) + plD o n D i ≤ 1 := by
 intro i hi
 obtain ⟨h1, h2⟩ := plAt_mem hi
 unfold plB plD
 rw [sum_part _ (fun k => Z (plAt o n k) (plAt o n i)), plc_sum (fun h => Z h (plAt o n i)), ← part_add, ← part_one]
 refine part_le (Int.le_trans (Int.add_le_add_right (isum_le fun k hk => ?_) _) (hs.sum _ (hp _ h1 h2) h1))
 by_cases q : o k = true
 ·rw [if_pos q]
  by_cases z : k = 0
  ·have := hp k hk q; omega
  ·rw [if_neg z]; exact Int.le_refl _
 ·rw [if_neg q]
  by_cases z : k = 0
  ·rw [if_pos z]; exact Int.le_refl _
  ·rw [if_neg z]; exact hs.pos _ _ hk h1
theorem whole_iff (hs : Shares n Z D) (ho : IsReach n (inner Z) (direct n D) o) (hx : Sol n Z D o s) (hD : ∀ e, 1 ≤ e → e < n → isum n (fun h => if h = 0 then 0 else Z h e) + D e = 10000) (hg : Great n (inner Z) g) (hr : IsReach n (inner Z) (fun a => g a = true) r) {e : Nat} (h1 : 1 ≤ e) (he : e < n) :
  0 < 1 - s e ↔ r e = true := by
 have hnn := whole_nonneg hs ho hx hD
 have hn0 : 0 < n := by omega
 constructor
 ·intro h
  cases hre : r e
  ·exfalso
   have hz : ∀ i, i < (plc (fun h => decide (1 ≤ h) && !r h) n).length → 1 - s (plAt (fun h => decide (1 ≤ h) && !r h) n i) = 0 := by
    obtain ⟨C, hC⟩ : ∃ C : Nat → Bool, C = fun h => decide (1 ≤ h) && !r h := ⟨_, rfl⟩
    rw [← hC]
    have hCi : ∀ a, C a = true ↔ 1 ≤ a ∧ r a = false := fun a => by rw [hC]; simp
    have back : ∀ a b, a < n → b < n → 1 ≤ a → 0 < Z a b → C b = true → C a = true := by
     intro a b ha hb a1 hz hb2
     obtain ⟨b1, b2⟩ := (hCi b).1 hb2
     refine (hCi a).2 ⟨a1, ?_⟩
     cases q : r a
     ·rfl
     ·have := hr.closed a b ha hb q (by rw [inner_pos a1 b1]; exact hz)
      rw [b2] at this; exact absurd this (by decide)
    have hto : ∀ a, a < n → C a = true → ReachF n (fun h e => if C h = true ∧ C e = true then Z h e else 0) (fun a => direct n D a ∧ C a = true) a := by
     intro a ha hc
     obtain ⟨a1, a2⟩ := (hCi a).1 hc
     have hoa : o a = true := by
      cases q : o a
      ·have := hr.init a ha ((great_iff hs ho hD hg a1 ha).2 q)
       rw [a2] at this; exact absurd this (by decide)
      ·rfl
     exact (ho.iff ha).1 hoa (fun a => a < n → C a = true → ReachF n (fun h e => if C h = true ∧ C e = true then Z h e else 0) (fun a => direct n D a ∧ C a = true) a)
      (fun a hd _ hc => ReachF.init ⟨hd, hc⟩)
      (fun a b ha hb hS hz _ hcb => by
       obtain ⟨a1, b1, zab⟩ := inner_zero _ _ hz
       have hca := back a b ha hb a1 zab hcb
       exact (hS ha hca).step ha hb (by rw [if_pos ⟨hca, hcb⟩]; exact zab)) ha hc
    have hp1 : ∀ e, e < n → C e = true → 1 ≤ e := fun e _ h => ((hCi e).1 h).1
    refine fed_zero (x := fun i => 1 - s (plAt C n i)) (plB_pos hs) (fun i hi => part_nonneg (hs.dpos _ (hp1 _ (plAt_mem hi).1 (plAt_mem hi).2) (plAt_mem hi).1)) (pl_sum' hs hp1)
     (fed_of_reach (n := n) (P := plAt C n) (d := plD C n D)
      (fun e he hre => plAt_of he (hre (fun a => a < n → C a = true) (fun a ha _ => ha.2) (fun a b ha hb hS hz _ => by
       by_cases q : C a = true ∧ C b = true
       ·exact q.2
       ·rw [if_neg q] at hz; exact absurd hz (by decide)) he))
      (fun i hi => ⟨(plAt_mem hi).1, hto _ (plAt_mem hi).1 (plAt_mem hi).2⟩)
      (fun i _ h => part_pos h.1.2.2)
      (fun i k hi hk h => by rw [if_pos ⟨(plAt_mem hk).2, (plAt_mem hi).2⟩] at h; exact part_pos h))
     (fun i hi => ?_)
    obtain ⟨a, b⟩ := plAt_mem hi
    show 1 - s (plAt C n i) = _
    rw [whole_rest hs ho hx hD (hp1 _ a b) a]
    have e1 : sumTo (plc C n).length (fun k => plB C n Z i k * (1 - s (plAt C n k))) = sumTo n (fun h => if C h = true then part (Z h (plAt C n i)) * (1 - s h) else 0) := plc_sumQ (o := C) (n := n) (fun h => part (Z h (plAt C n i)) * (1 - s h))
    rw [e1]
    refine sumTo_congr fun k hk => ?_
    by_cases z : k = 0
    ·subst z
     rw [if_pos rfl, if_neg (fun q => by have := hp1 0 hk q; omega)]
    ·rw [if_neg z]
     by_cases t : C k = true
     ·rw [if_pos t]
     ·rw [if_neg t]
      have : Z k (plAt C n i) = 0 := by
       have h3 := hs.pos k _ hk a
       by_cases w : 0 < Z k (plAt C n i)
       ·exact absurd (back k _ hk a (by omega) w b) t
       ·omega
      rw [this, part_zero]; grind
   obtain ⟨i, hi, hie⟩ := plAt_of (o := fun h => decide (1 ≤ h) && !r h) he (by simp [h1, hre])
   have := hz i hi
   rw [hie] at this
   rw [this] at h
   exact absurd h (by decide)
  ·rfl
 ·intro h
  have key := (hr.iff he).1 h (fun a => a < n → 1 ≤ a ∧ 0 < 1 - s a)
   (fun a ha hn => by
    have a1 : 1 ≤ a := by
     by_cases q : a = 0
     ·subst q; rw [great_zero hg hn0] at ha; exact absurd ha (by decide)
     ·omega
    refine ⟨a1, ?_⟩
    rw [whole_one hx hn ((great_iff hs ho hD hg a1 hn).1 ha)]; decide)
   (fun a b ha hb hS hz _ => by
    obtain ⟨a1, a2⟩ := hS ha
    obtain ⟨_, b1, zab⟩ := inner_zero _ _ hz
    refine ⟨b1, ?_⟩
    rw [whole_rest hs ho hx hD b1 hb]
    have h2 := sum_ge (n := n) (a := a) (f := fun h => if h = 0 then 0 else part (Z h b) * (1 - s h)) (fun k hk => by
     show 0 ≤ if k = 0 then 0 else part (Z k b) * (1 - s k)
     by_cases q : k = 0
     ·rw [if_pos q]; exact Rat.le_refl
     ·rw [if_neg q]; exact mul_nn (part_nonneg (hs.pos k b hk hb)) (hnn k hk)) ha
    have h3 := mul_pp (part_pos zab) a2
    have h4 : (if a = 0 then (0 : Rat) else part (Z a b) * (1 - s a)) = part (Z a b) * (1 - s a) := if_neg (by omega)
    rw [h4] at h2
    exact Rat.not_le.1 fun q => by grind)
  exact (key he).2
theorem whole_zero (hg : Great n (inner Z) g) (hr : IsReach n (inner Z) (fun a => g a = true) r) (hn : 0 < n) : r 0 = false := by
 cases q : r 0
 ·rfl
 ·exfalso
  have key := (hr.iff hn).1 q (fun a => a < n → 1 ≤ a)
   (fun a ha hn => by
    by_cases q : a = 0
    ·subst q; rw [great_zero hg hn] at ha; exact absurd ha (by decide)
    ·omega)
   (fun a b _ _ _ hz _ => (inner_zero _ _ hz).2.1)
  exact absurd (key hn) (by decide)
end
end Tally
namespace Tally
open Graph.Plain (ReachF IsReach R cnt)
def chn (n : Nat) (Z : Nat → Nat → Int) : Nat → Nat → Nat → Rat
 | 0, a, k => if k = a then 1 else 0
 | s + 1, a, k => (if k = a then 1 else 0) + sumTo n (fun e => if e = 0 then 0 else part (Z a e) * chn n Z s e k)
section
variable {n : Nat} {Z : Nat → Nat → Int}
theorem sum_swap {m : Nat} (f : Nat → Nat → Rat) : sumTo n (fun i => sumTo m (fun k => f i k)) = sumTo m (fun k => sumTo n (fun i => f i k)) := by
 induction n with
 | zero =>
  simp only [sumTo]
  induction m with
  | zero => rfl
  | succ m ih => simp only [sumTo]; rw [← ih]; grind
 | succ n ih =>
  simp only [sumTo]
  rw [ih, ← sumTo_add]
theorem chn_zero {s a : Nat} (ha : 1 ≤ a) : chn n Z s a 0 = 0 := by
 induction s generalizing a with
 | zero => simp only [chn]; rw [if_neg (by omega)]
 | succ s ih =>
  simp only [chn]
  rw [if_neg (by omega), sumTo_congr (g := fun _ => 0 * (0 : Rat)) (fun e he => by
   by_cases q : e = 0
   ·rw [if_pos q]; grind
   ·rw [if_neg q, ih (by omega)]; grind), sumTo_mul]
  grind
theorem chn_top {s : Nat} : chn n Z s 0 0 = 1 := by
 cases s with
 | zero => exact if_pos rfl
 | succ s =>
  show (if (0 : Nat) = 0 then (1 : Rat) else 0) + sumTo n (fun e => if e = 0 then 0 else part (Z 0 e) * chn n Z s e 0) = 1
  rw [if_pos rfl, sumTo_congr (g := fun _ => 0 * (0 : Rat)) (fun e he => by
   by_cases q : e = 0
   ·rw [if_pos q]; grind
   ·rw [if_neg q, chn_zero (by omega)]; grind), sumTo_mul]
  grind
theorem first_edge {a k : Nat} (h1 : 1 ≤ k) (hk : k < n) : sumTo n (fun e => if e = 0 then 0 else part (Z a e) * (if k = e then 1 else 0)) = part (Z a k) := by
 rw [sumTo_one (j := k) hk (fun e _ hn => by
  by_cases q : e = 0
  ·rw [if_pos q]
  ·rw [if_neg q, if_neg (fun z => hn z.symm)]; grind), if_neg (show ¬ k = 0 by omega), if_pos rfl]
 grind
theorem first_one {a k : Nat} (ha : a < n) : sumTo n (fun h => (if h = a then 1 else 0) * part (Z h k)) = part (Z a k) := by
 rw [sumTo_one (j := a) ha (fun h _ hn => by rw [if_neg hn]; grind), if_pos rfl]
 grind
theorem chn_right {s a k : Nat} (ha : a < n) (h1 : 1 ≤ k) (hk : k < n) : chn n Z (s + 1) a k = (if k = a then 1 else 0) + sumTo n (fun h => chn n Z s a h * part (Z h k)) := by
 induction s generalizing a with
 | zero =>
  show (if k = a then 1 else 0) + sumTo n (fun e => if e = 0 then 0 else part (Z a e) * (if k = e then 1 else 0)) = _ + sumTo n (fun h => (if h = a then 1 else 0) * part (Z h k))
  rw [first_edge h1 hk, first_one ha]
 | succ s ih =>
  have e1 : chn n Z (s + 1 + 1) a k = (if k = a then 1 else 0) + sumTo n (fun e => if e = 0 then 0 else part (Z a e) * chn n Z (s + 1) e k) := rfl
  have e2 : sumTo n (fun e => if e = 0 then 0 else part (Z a e) * chn n Z (s + 1) e k) = sumTo n (fun e => (if e = 0 then 0 else part (Z a e) * (if k = e then 1 else 0)) + sumTo n (fun h => (if e = 0 then 0 else part (Z a e) * chn n Z s e h) * part (Z h k))) := by
   refine sumTo_congr fun e he => ?_
   by_cases q : e = 0
   ·rw [if_pos q, if_pos q, sumTo_congr (g := fun _ => 0 * (0 : Rat)) (fun h _ => by rw [if_pos q]; grind), sumTo_mul]; grind
   ·rw [if_neg q, if_neg q, ih he, sumTo_congr (f := fun h => (if e = 0 then 0 else part (Z a e) * chn n Z s e h) * part (Z h k)) (g := fun h => part (Z a e) * (chn n Z s e h * part (Z h k))) (fun h _ => by rw [if_neg q]; grind), sumTo_mul]; grind
  have e3 : sumTo n (fun h => chn n Z (s + 1) a h * part (Z h k)) = sumTo n (fun h => (if h = a then 1 else 0) * part (Z h k) + sumTo n (fun e => (if e = 0 then 0 else part (Z a e) * chn n Z s e h) * part (Z h k))) := by
   refine sumTo_congr fun h _ => ?_
   have : chn n Z (s + 1) a h = (if h = a then 1 else 0) + sumTo n (fun e => if e = 0 then 0 else part (Z a e) * chn n Z s e h) := rfl
   rw [this, sumTo_congr (f := fun e => (if e = 0 then 0 else part (Z a e) * chn n Z s e h) * part (Z h k)) (g := fun e => part (Z h k) * (if e = 0 then 0 else part (Z a e) * chn n Z s e h)) (fun e _ => by grind), sumTo_mul]
   grind
  rw [e1, e2, e3, sumTo_add, sumTo_add, first_edge h1 hk, first_one ha, sum_swap (n := n) (m := n) (fun e h => (if e = 0 then 0 else part (Z a e) * chn n Z s e h) * part (Z h k))]
theorem chn_step {s k : Nat} (h1 : 1 ≤ k) (hk : k < n) : chn n Z (s + 1) 0 k = sumTo n (fun h => chn n Z s 0 h * part (Z h k)) := by
 rw [chn_right (by omega) h1 hk, if_neg (by omega)]; grind
noncomputable def anc (n : Nat) (Z : Nat → Nat → Int) (k : Nat) : Nat := cnt (fun h => @decide (R n Z h k) (Classical.propDecidable _)) n
theorem anc_lt (hac : ∀ a b, a < n → b < n → 0 < Z a b → ¬ R n Z b a) {h k : Nat} (hh : h < n) (hk : k < n) (hz : 0 < Z h k) : anc n Z h < anc n Z k := by
 unfold anc
 refine Graph.Plain.cnt_lt n (fun i hi q => ?_) ⟨k, hk, ?_, ?_⟩
 ·have q := @of_decide_eq_true _ (Classical.propDecidable _) q
  exact @decide_eq_true _ (Classical.propDecidable _) (q.trans (R.edge hh hk hz))
 ·exact @decide_eq_false _ (Classical.propDecidable _) (hac h k hh hk hz)
 ·exact @decide_eq_true _ (Classical.propDecidable _) (R.refl n Z k)
theorem anc_pos {k : Nat} (hk : k < n) : 1 ≤ anc n Z k := Graph.Plain.cnt_pos n hk (@decide_eq_true _ (Classical.propDecidable _) (R.refl n Z k))
theorem sum_ne {f : Nat → Rat} (h : sumTo n f ≠ 0) : ∃ k, k < n ∧ f k ≠ 0 := by
 induction n with
 | zero => exact absurd rfl h
 | succ n ih =>
  by_cases q : f n = 0
  ·obtain ⟨k, hk, e⟩ := ih (fun z => h (by simp only [sumTo]; rw [z, q]; grind))
   exact ⟨k, by omega, e⟩
  ·exact ⟨n, by omega, q⟩
theorem chn_diff (hz : ∀ a b, a < n → b < n → 0 ≤ Z a b) (hac : ∀ a b, a < n → b < n → 0 < Z a b → ¬ R n Z b a) {s k : Nat} (h1 : 1 ≤ k) (hk : k < n) (hd : chn n Z (s + 1) 0 k - chn n Z s 0 k ≠ 0) : s + 1 ≤ anc n Z k := by
 induction s generalizing k with
 | zero => exact anc_pos hk
 | succ s ih =>
  have e : chn n Z (s + 1 + 1) 0 k - chn n Z (s + 1) 0 k = sumTo n (fun h => (chn n Z (s + 1) 0 h - chn n Z s 0 h) * part (Z h k)) := by
   rw [chn_step h1 hk, chn_step h1 hk, sumTo_congr (f := fun h => (chn n Z (s + 1) 0 h - chn n Z s 0 h) * part (Z h k)) (g := fun h => chn n Z (s + 1) 0 h * part (Z h k) + (-1) * (chn n Z s 0 h * part (Z h k))) (fun h _ => by grind), sumTo_add, sumTo_mul]
   grind
  rw [e] at hd
  obtain ⟨h, hh, hne⟩ := sum_ne hd
  have d0 : chn n Z (s + 1) 0 h - chn n Z s 0 h ≠ 0 := fun z => hne (by rw [z]; grind)
  have hpos : 1 ≤ h := by
   by_cases q : h = 0
   ·subst q; rw [chn_top, chn_top] at d0; exact absurd (by grind) d0
   ·omega
  have hzz : 0 < Z h k := by
   have := hz h k hh hk
   by_cases q : Z h k = 0
   ·exact absurd (by rw [q, part_zero]; grind) hne
   ·omega
  have := ih hpos hh d0
  have := anc_lt hac hh hk hzz
  omega
theorem chn_stable (hz : ∀ a b, a < n → b < n → 0 ≤ Z a b) (hac : ∀ a b, a < n → b < n → 0 < Z a b → ¬ R n Z b a) {k : Nat} (h1 : 1 ≤ k) (hk : k < n) : chn n Z (n + 1) 0 k = chn n Z n 0 k := by
 by_cases q : chn n Z (n + 1) 0 k - chn n Z n 0 k = 0
 ·grind
 ·have := chn_diff hz hac h1 hk q
  have h2 : anc n Z k ≤ n := Graph.Plain.cnt_le _ n
  omega
theorem chn_sol {o : Nat → Bool} (hs : Shares n Z (Z 0)) (ho : IsReach n (inner Z) (direct n (Z 0)) o) (hn : 0 < n) (hz : ∀ a b, a < n → b < n → 0 ≤ Z a b) (hac : ∀ a b, a < n → b < n → 0 < Z a b → ¬ R n Z b a) :
  Sol n Z (Z 0) o (fun k => if k = 0 then 0 else chn n Z n 0 k) := by
 have hun : ∀ s k, k < n → 1 ≤ k → o k = false → chn n Z s 0 k = 0 := by
  intro s
  induction s with
  | zero => intro k _ h1 _; simp only [chn]; rw [if_neg (by omega)]
  | succ s ih =>
   intro k hk h1 hok
   obtain ⟨d0, dz⟩ := unreached hs ho h1 hk hok
   rw [chn_step h1 hk, sumTo_congr (g := fun _ => 0 * (0 : Rat)) (fun h hh => by
    by_cases q : h = 0
    ·subst q; rw [d0, part_zero]; grind
    ·cases t : o h
     ·rw [ih h hh (by omega) t]; grind
     ·rw [dz h hh t, part_zero]; grind), sumTo_mul]
   grind
 refine ⟨fun k hk h => ?_, fun k hk h => ?_⟩
 ·by_cases q : k = 0
  ·exact if_pos q
  ·exact (if_neg q).trans (hun n k hk (by omega) h)
 ·have h1 := reach_pos ho hk h
  show (if k = 0 then 0 else chn n Z n 0 k) = part (Z 0 k) + sumTo n (fun h => part (Z h k) * (if h = 0 then 0 else chn n Z n 0 h))
  rw [if_neg (show ¬ k = 0 by omega), ← chn_stable hz hac h1 hk, chn_step h1 hk]
  have e : sumTo n (fun h => chn n Z n 0 h * part (Z h k)) = sumTo n (fun h => (if h = 0 then part (Z 0 k) else 0) + part (Z h k) * (if h = 0 then 0 else chn n Z n 0 h)) := by
   refine sumTo_congr fun h _ => ?_
   by_cases q : h = 0
   ·subst q; rw [if_pos rfl, if_pos rfl, chn_top]; grind
   ·rw [if_neg q, if_neg q]; grind
  rw [e, sumTo_add, sumTo_one (j := 0) hn (fun h _ q => if_neg q), if_pos rfl]
end
end Tally
