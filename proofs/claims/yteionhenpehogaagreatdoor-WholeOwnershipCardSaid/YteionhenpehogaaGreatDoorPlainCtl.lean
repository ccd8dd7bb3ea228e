import Derived.Test.YteionhenpehogaaGreatDoorPlainDil
namespace Tally
open Graph.Plain (ReachF IsReach)
section
variable {n : Nat} {Z : Nat → Nat → Int} {s t : Nat → Bool}
def vts (n : Nat) (Z : Nat → Nat → Int) (s : Nat → Bool) (e : Nat) : Int := isum n fun h => if s h = true then Z h e else 0
theorem vts_mono {e : Nat} (hz : ∀ h, h < n → 0 ≤ Z h e) (hst : ∀ h, h < n → s h = true → t h = true) : vts n Z s e ≤ vts n Z t e := by
 refine isum_le fun h hh => ?_
 by_cases q : s h = true
 ·rw [if_pos q, if_pos (hst h hh q)]; exact Int.le_refl _
 ·rw [if_neg q]
  by_cases r : t h = true
  ·rw [if_pos r]; exact hz h hh
  ·rw [if_neg r]; exact Int.le_refl _
theorem vts_congr {e : Nat} (hst : ∀ h, h < n → s h = t h) : vts n Z s e = vts n Z t e := isum_congr fun h hh => by rw [hst h hh]
theorem vts_pos {e : Nat} (h : 0 < vts n Z s e) : ∃ a, a < n ∧ s a = true ∧ 0 < Z a e := by
 by_cases q : ∃ a, a < n ∧ s a = true ∧ 0 < Z a e
 ·exact q
 ·have : vts n Z s e ≤ isum n (fun _ => 0) := isum_le fun a ha => by
   by_cases r : s a = true
   ·rw [if_pos r]
    by_cases z : 0 < Z a e
    ·exact absurd ⟨a, ha, r, z⟩ q
    ·omega
   ·rw [if_neg r]; exact Int.le_refl _
  rw [isum_zero (f := fun _ => 0) (fun _ _ => rfl)] at this
  omega
structure IsCtl (n : Nat) (Z : Nat → Nat → Int) (s : Nat → Bool) : Prop where
 zero : s 0 = true
 closed : ∀ e, e < n → 5000 < vts n Z s e → s e = true
 least : ∀ t : Nat → Bool, t 0 = true → (∀ e, e < n → 5000 < vts n Z t e → t e = true) → ∀ e, e < n → s e = true → t e = true
theorem IsCtl.unique (hs : IsCtl n Z s) (ht : IsCtl n Z t) : ∀ e, e < n → s e = t e := fun e he => by
 have h1 := hs.least t ht.zero ht.closed e he
 have h2 := ht.least s hs.zero hs.closed e he
 cases h : s e <;> cases k : t e
 ·rfl
 ·rw [h2 k] at h; exact absurd h (by decide)
 ·rw [h1 h] at k; exact absurd k (by decide)
 ·rfl
theorem IsCtl.congr {Y : Nat → Nat → Int} (hs : IsCtl n Z s) (hz : ∀ a b, a < n → b < n → Y a b = Z a b) : IsCtl n Y s := by
 have hv : ∀ (t : Nat → Bool) e, e < n → vts n Y t e = vts n Z t e := fun t e he => isum_congr fun a ha => by rw [hz a e ha he]
 exact ⟨hs.zero, fun e he h => hs.closed e he (by rw [← hv s e he]; exact h), fun t h0 hc => hs.least t h0 fun e he h => hc e he (by rw [hv t e he]; exact h)⟩
def frs (n : Nat) (Z : Nat → Nat → Int) (s : Nat → Bool) : Nat → Bool := fun e => decide (e < n) && !s e && decide (5000 < vts n Z s e)
def orB (s t : Nat → Bool) : Nat → Bool := fun e => s e || t e
structure Ctg (n : Nat) (Z : Nat → Nat → Int) (s : Nat → Bool) : Prop where
 zero : s 0 = true
 least : ∀ t : Nat → Bool, t 0 = true → (∀ e, e < n → 5000 < vts n Z t e → t e = true) → ∀ e, e < n → s e = true → t e = true
theorem Ctg.start : Ctg n Z (fun e => e == 0) := ⟨rfl, fun t h0 _ e _ h => by
 obtain rfl : e = 0 := by simpa using h
 exact h0⟩
theorem Ctg.step (hz : ∀ a b, a < n → b < n → 0 ≤ Z a b) (h : Ctg n Z s) : Ctg n Z (orB s (frs n Z s)) := by
 refine ⟨by unfold orB; rw [h.zero]; rfl, fun t h0 hc e he hs => ?_⟩
 have h1 := h.least t h0 hc
 rcases Bool.or_eq_true_iff.1 hs with q | q
 ·exact h1 e he q
 ·unfold frs at q
  simp only [Bool.and_eq_true, decide_eq_true_eq] at q
  exact hc e he (Int.lt_of_lt_of_le q.2 (vts_mono (fun a ha => hz a e ha he) h1))
theorem Ctg.done (h : Ctg n Z s) (hf : ∀ e, e < n → frs n Z s e = false) : IsCtl n Z s := by
 refine ⟨h.zero, fun e he hv => ?_, h.least⟩
 have := hf e he
 unfold frs at this
 cases q : s e
 ·rw [q, decide_eq_true he, decide_eq_true hv] at this; exact absurd this (by decide)
 ·rfl
def alls (n : Nat) (Z : Nat → Nat → Int) : Nat → Nat → Bool
 | 0 => fun e => e == 0
 | j + 1 => orB (alls n Z j) (frs n Z (alls n Z j))
def fsh (n : Nat) (Z : Nat → Nat → Int) : Nat → Nat → Bool
 | 0 => fun e => e == 0
 | j + 1 => frs n Z (alls n Z j)
def ufs (n : Nat) (Z : Nat → Nat → Int) (l : List Nat) : Nat → Bool := fun e => l.any fun x => fsh n Z x e
theorem ufs_snoc {l : List Nat} {x : Nat} : ufs n Z (l ++ [x]) = orB (ufs n Z l) (fsh n Z x) := by
 funext e
 simp [ufs, orB]
theorem ufs_alls : ∀ j, alls n Z j = orB (ufs n Z (List.range j)) (fsh n Z j)
 | 0 => by
  funext e
  simp [ufs, orB, alls, fsh]
 | j + 1 => by
  rw [List.range_succ, ufs_snoc, ← ufs_alls j]
  rfl
theorem alls_ctg (hz : ∀ a b, a < n → b < n → 0 ≤ Z a b) : ∀ j, Ctg n Z (alls n Z j)
 | 0 => Ctg.start
 | j + 1 => (alls_ctg hz j).step hz
theorem ufs_done (hz : ∀ a b, a < n → b < n → 0 ≤ Z a b) (hn : 1 ≤ n) {j : Nat} (h : ∀ e, e < n → fsh n Z j e = false) : IsCtl n Z (ufs n Z (List.range j)) := by
 cases j with
 | zero => exact absurd (h 0 hn) (by simp [fsh])
 | succ j =>
  rw [List.range_succ, ufs_snoc, ← ufs_alls j]
  exact (alls_ctg hz j).done h
theorem frs_new {s : Nat → Bool} {e : Nat} (h : frs n Z s e = true) : s e = false := by
 unfold frs at h
 cases q : s e
 ·rfl
 ·rw [q] at h; simp at h
def rks (n : Nat) (Z : Nat → Nat → Int) (l : List Nat) : Nat → Int := l.foldl (fun R x e => if fsh n Z x e = true then (x : Int) else R e) fun _ => -1
theorem rks_snoc {l : List Nat} {x : Nat} : rks n Z (l ++ [x]) = fun e => if fsh n Z x e = true then (x : Int) else rks n Z l e := by simp [rks]
theorem rks_from (e : Nat) : ∀ (l : List Nat) (R : Nat → Int), 0 ≤ l.foldl (fun R x e => if fsh n Z x e = true then (x : Int) else R e) R e ↔ 0 ≤ R e ∨ ufs n Z l e = true
 | [], R => by simp [ufs]
 | x :: l, R => by
  rw [List.foldl_cons, rks_from e l]
  show 0 ≤ (if fsh n Z x e = true then (x : Int) else R e) ∨ _ ↔ _
  have e1 : ufs n Z (x :: l) e = (fsh n Z x e || ufs n Z l e) := by simp [ufs]
  rw [e1]
  cases fsh n Z x e
  ·simp
  ·simp
theorem rks_pos {l : List Nat} {e : Nat} : 0 ≤ rks n Z l e ↔ ufs n Z l e = true := by
 rw [rks, rks_from]
 simp
theorem ctl_some {D : Nat → Int} {o : Nat → Bool} (hs : IsCtl n Z s) (hd : ∀ e, 1 ≤ e → e < n → D e = Z 0 e) (ho : IsReach n (inner Z) (direct n D) o) : ∀ e, e < n → s e = true → e = 0 ∨ o e = true := by
 have := hs.least (fun e => e == 0 || o e) rfl fun e he hv => by
  obtain ⟨a, ha, h1, h2⟩ := vts_pos (Int.lt_trans (by decide) hv)
  by_cases e0 : e = 0
  ·subst e0; rfl
  ·have h3 : o e = true := by
    rcases Bool.or_eq_true_iff.1 h1 with q | q
    ·obtain rfl : a = 0 := by simpa using q
     exact ho.init e he ⟨by omega, he, by rw [hd e (by omega) he]; exact h2⟩
    ·exact ho.closed a e ha he q (by rw [inner_pos (reach_pos ho ha q) (by omega)]; exact h2)
   show (e == 0 || o e) = true
   rw [h3]; exact Bool.or_true _
 intro e he h
 rcases Bool.or_eq_true_iff.1 (this e he h) with q | q
 ·exact .inl (by simpa using q)
 ·exact .inr q
theorem ctl_none {D : Nat → Int} {o : Nat → Bool} (_hz : ∀ a b, a < n → b < n → 0 ≤ Z a b) (hs : IsCtl n Z s) (hd : ∀ e, 1 ≤ e → e < n → D e = Z 0 e) (ho : IsReach n (inner Z) (direct n D) o) {e : Nat} (h1 : 1 ≤ e) (he : e < n) (h : o e = false) : vts n Z s e ≤ 0 := by
 by_cases q : 0 < vts n Z s e
 ·obtain ⟨a, ha, b1, b2⟩ := vts_pos q
  have h3 : o e = true := by
   rcases ctl_some hs hd ho a ha b1 with rfl | z
   ·exact ho.init e he ⟨h1, he, by rw [hd e h1 he]; exact b2⟩
   ·exact ho.closed a e ha he z (by rw [inner_pos (reach_pos ho ha z) h1]; exact b2)
  rw [h3] at h; exact absurd h (by decide)
 ·omega
noncomputable def ctlS (n : Nat) (Z : Nat → Nat → Int) (e : Nat) : Bool := @decide (∀ t : Nat → Bool, t 0 = true → (∀ e, e < n → 5000 < vts n Z t e → t e = true) → t e = true) (Classical.propDecidable _)
theorem ctlS_iff {e : Nat} : ctlS n Z e = true ↔ ∀ t : Nat → Bool, t 0 = true → (∀ e, e < n → 5000 < vts n Z t e → t e = true) → t e = true := by
 unfold ctlS
 exact @decide_eq_true_iff _ (Classical.propDecidable _)
theorem ctlS_is (hz : ∀ a b, a < n → b < n → 0 ≤ Z a b) : IsCtl n Z (ctlS n Z) := by
 refine ⟨ctlS_iff.2 fun t h0 _ => h0, fun e he hv => ctlS_iff.2 fun t h0 hc => hc e he (Int.lt_of_lt_of_le hv (vts_mono (fun a ha => hz a e ha he) fun a _ h => ctlS_iff.1 h t h0 hc)), fun t h0 hc e _ h => ctlS_iff.1 h t h0 hc⟩
def mth (n : Nat) (Z : Nat → Nat → Int) (jt : Nat → Bool) (s : Nat → Bool) (e : Nat) : Int := if s e = true then 3 else if vts n Z s e < 2000 then 0 else if jt e = true then 2 else 1
theorem mth_same {Y : Nat → Nat → Int} {jt : Nat → Bool} (hs : IsCtl n Z s) (ht : IsCtl n Y t) (hz : ∀ a b, a < n → b < n → Y a b = Z a b) {e : Nat} (he : e < n) : mth n Y jt t e = mth n Z jt s e := by
 have h1 := (hs.congr hz).unique ht
 unfold mth
 rw [h1 e he, show vts n Y t e = vts n Z s e from isum_congr fun a ha => by rw [h1 a ha, hz a e ha he]]
end
end Tally
namespace Tally
structure Iv where
 fr : Int
 to : Int
 me : Int
abbrev IvSt := Option (List Iv × Iv)
def ivS (M : Int → Int) (s : IvSt) (d : Int) : IvSt := match s with
 | none => some ([], ⟨d, 84006, M d⟩)
 | some (l, x) => if x.me = M d then some (l, x) else some (l ++ [⟨x.fr, d, x.me⟩], ⟨d, 84006, M d⟩)
def ivF (M : Int → Int) (l : List Int) : IvSt := l.foldl (ivS M) none
def ivL : IvSt → List Iv
 | none => []
 | some (l, x) => l ++ [x]
theorem ivF_snoc {M : Int → Int} {l : List Int} {d : Int} : ivF M (l ++ [d]) = ivS M (ivF M l) d := by simp [ivF]
theorem ivF_len (M : Int → Int) : ∀ (l : List Int) (s : IvSt), (ivL (l.foldl (ivS M) s)).length ≤ (ivL s).length + l.length
 | [], s => by simp
 | d :: l, s => by
  have h1 := ivF_len M l (ivS M s d)
  have h2 : (ivL (ivS M s d)).length ≤ (ivL s).length + 1 := by
   unfold ivS
   cases s with
   | none => simp [ivL]
   | some p =>
    obtain ⟨k, x⟩ := p
    simp only
    split
    ·simp [ivL]
    ·simp [ivL]
  simp only [List.foldl_cons, List.length_cons]
  omega
structure IvOk (M : Int → Int) (h0 : Int) (pre : List Int) (dl : Int) (l : List Iv) (x : Iv) : Prop where
 mem : dl ∈ pre
 top : ∀ c, c ∈ pre → c ≤ dl
 to : x.to = 84006
 fr : x.fr ≤ dl
 me : x.me = M dl
 early : ∀ y, y ∈ l → y.to ≤ dl
 cover : ∀ t, h0 ≤ t → t < 84006 → ∃ y, y ∈ l ++ [x] ∧ y.fr ≤ t ∧ t < y.to
 right : ∀ t, t < 84006 → ∀ y, y ∈ l ++ [x] → y.fr ≤ t → t < y.to → ∃ c, c ∈ pre ∧ c ≤ t ∧ (∀ c', c' ∈ pre → c' ≤ t → c' ≤ c) ∧ y.me = M c
theorem IvOk.start {M : Int → Int} {d : Int} : IvOk M d [d] d [] ⟨d, 84006, M d⟩ where
 mem := by simp
 top := by simp
 to := rfl
 fr := Int.le_refl _
 me := rfl
 early := by simp
 cover := fun t h1 h2 => ⟨_, by simp; rfl, h1, h2⟩
 right := fun t _ y hy h1 _ => by
  obtain rfl : y = ⟨d, 84006, M d⟩ := by simpa using hy
  exact ⟨d, by simp, h1, by simp, rfl⟩
theorem IvOk.same {M : Int → Int} {h0 dl d : Int} {pre : List Int} {l : List Iv} {x : Iv} (h : IvOk M h0 pre dl l x) (hd : dl ≤ d) (hm : x.me = M d) : IvOk M h0 (pre ++ [d]) d l x where
 mem := by simp
 top := fun c hc => by
  rcases List.mem_append.1 hc with q | q
  ·exact Int.le_trans (h.top c q) hd
  ·obtain rfl : c = d := by simpa using q
   exact Int.le_refl _
 to := h.to
 fr := Int.le_trans h.fr hd
 me := hm
 early := fun y hy => Int.le_trans (h.early y hy) hd
 cover := h.cover
 right := fun t ht y hy h1 h2 => by
  by_cases hdt : d ≤ t
  ·refine ⟨d, by simp, hdt, fun c' hc _ => ?_, ?_⟩
   ·rcases List.mem_append.1 hc with q | q
    ·exact Int.le_trans (h.top c' q) hd
    ·obtain rfl : c' = d := by simpa using q
     exact Int.le_refl _
   ·rcases List.mem_append.1 hy with q | q
    ·have := h.early y q; omega
    ·obtain rfl : y = x := by simpa using q
     exact hm
  ·obtain ⟨c, c1, c2, c3, c4⟩ := h.right t ht y hy h1 h2
   refine ⟨c, List.mem_append_left _ c1, c2, fun c' hc hl => ?_, c4⟩
   rcases List.mem_append.1 hc with q | q
   ·exact c3 c' q hl
   ·obtain rfl : c' = d := by simpa using q
    omega
theorem IvOk.new {M : Int → Int} {h0 dl d : Int} {pre : List Int} {l : List Iv} {x : Iv} (h : IvOk M h0 pre dl l x) (hd : dl ≤ d) : IvOk M h0 (pre ++ [d]) d (l ++ [⟨x.fr, d, x.me⟩]) ⟨d, 84006, M d⟩ where
 mem := by simp
 top := fun c hc => by
  rcases List.mem_append.1 hc with q | q
  ·exact Int.le_trans (h.top c q) hd
  ·obtain rfl : c = d := by simpa using q
   exact Int.le_refl _
 to := rfl
 fr := Int.le_refl _
 me := rfl
 early := fun y hy => by
  rcases List.mem_append.1 hy with q | q
  ·exact Int.le_trans (h.early y q) hd
  ·obtain rfl : y = ⟨x.fr, d, x.me⟩ := by simpa using q
   exact Int.le_refl _
 cover := fun t h1 h2 => by
  by_cases hdt : d ≤ t
  ·exact ⟨⟨d, 84006, M d⟩, by simp, hdt, h2⟩
  ·obtain ⟨y, y1, y2, y3⟩ := h.cover t h1 h2
   rcases List.mem_append.1 y1 with q | q
   ·exact ⟨y, by simp [q], y2, y3⟩
   ·obtain rfl : y = x := by simpa using q
    exact ⟨⟨y.fr, d, y.me⟩, by simp, y2, show t < d by omega⟩
 right := fun t ht y hy h1 h2 => by
  by_cases hdt : d ≤ t
  ·refine ⟨d, by simp, hdt, fun c' hc _ => ?_, ?_⟩
   ·rcases List.mem_append.1 hc with q | q
    ·exact Int.le_trans (h.top c' q) hd
    ·obtain rfl : c' = d := by simpa using q
     exact Int.le_refl _
   ·rcases List.mem_append.1 hy with q | q
    ·rcases List.mem_append.1 q with q | q
     ·have := h.early y q; omega
     ·obtain rfl : y = ⟨x.fr, d, x.me⟩ := by simpa using q
      have : t < d := h2
      omega
    ·obtain rfl : y = ⟨d, 84006, M d⟩ := by simpa using q
     rfl
  ·have key : ∃ z, z ∈ l ++ [x] ∧ z.fr ≤ t ∧ t < z.to ∧ z.me = y.me := by
    rcases List.mem_append.1 hy with q | q
    ·rcases List.mem_append.1 q with q | q
     ·exact ⟨y, by simp [q], h1, h2, rfl⟩
     ·obtain rfl : y = ⟨x.fr, d, x.me⟩ := by simpa using q
      exact ⟨x, by simp, h1, by rw [h.to]; omega, rfl⟩
    ·obtain rfl : y = ⟨d, 84006, M d⟩ := by simpa using q
     exact absurd h1 hdt
   obtain ⟨z, z1, z2, z3, z4⟩ := key
   obtain ⟨c, c1, c2, c3, c4⟩ := h.right t ht z z1 z2 z3
   refine ⟨c, List.mem_append_left _ c1, c2, fun c' hc hl => ?_, by rw [← z4]; exact c4⟩
   rcases List.mem_append.1 hc with q | q
   ·exact c3 c' q hl
   ·obtain rfl : c' = d := by simpa using q
    omega
theorem ivF_run {M : Int → Int} {h0 : Int} : ∀ (rest pre : List Int) (dl : Int) (l : List Iv) (x : Iv), IvOk M h0 pre dl l x → (∀ d, d ∈ rest → dl ≤ d) → rest.Pairwise (· ≤ ·) → ∃ dl' l' x', rest.foldl (ivS M) (some (l, x)) = some (l', x') ∧ IvOk M h0 (pre ++ rest) dl' l' x'
 | [], pre, dl, l, x, h, _, _ => ⟨dl, l, x, rfl, by rw [List.append_nil]; exact h⟩
 | d :: rest, pre, dl, l, x, h, hd, hs => by
  have hs2 := List.pairwise_cons.1 hs
  have h1 : dl ≤ d := hd d (by simp)
  by_cases hm : x.me = M d
  ·obtain ⟨a, b, c, e1, e2⟩ := ivF_run rest (pre ++ [d]) d l x (h.same h1 hm) hs2.1 hs2.2
   refine ⟨a, b, c, ?_, by rw [List.append_assoc] at e2; exact e2⟩
   rw [List.foldl_cons, show ivS M (some (l, x)) d = some (l, x) from if_pos hm]
   exact e1
  ·obtain ⟨a, b, c, e1, e2⟩ := ivF_run rest (pre ++ [d]) d _ _ (h.new h1) hs2.1 hs2.2
   refine ⟨a, b, c, ?_, by rw [List.append_assoc] at e2; exact e2⟩
   rw [List.foldl_cons, show ivS M (some (l, x)) d = some (l ++ [⟨x.fr, d, x.me⟩], ⟨d, 84006, M d⟩) from if_neg hm]
   exact e1
theorem ivF_at {M : Int → Int} {h0 : Int} {ys : List Int} (hh : ∀ d, d ∈ ys → h0 ≤ d) (hs : ys.Pairwise (· ≤ ·)) {t : Int} (h1 : h0 ≤ t) (h2 : t < 84006) :
  (∃ y, y ∈ ivL (ivF M (h0 :: ys)) ∧ y.fr ≤ t ∧ t < y.to) ∧ ∀ y, y ∈ ivL (ivF M (h0 :: ys)) → y.fr ≤ t → t < y.to → ∃ c, c ∈ h0 :: ys ∧ c ≤ t ∧ (∀ c', c' ∈ h0 :: ys → c' ≤ t → c' ≤ c) ∧ y.me = M c := by
 obtain ⟨dl, l, x, e1, e2⟩ := ivF_run ys [h0] h0 [] _ (IvOk.start (M := M)) hh hs
 rw [show ivF M (h0 :: ys) = some (l, x) from e1]
 exact ⟨e2.cover t h1 h2, e2.right t h2⟩
theorem at_mid {H : Hds} {k : Nat} {c t : Int} (hct : c ≤ t) (hm : ∀ i, i < k → H.da i ≤ t → H.da i ≤ c) : ∀ h e, H.at h e c k = H.at h e t k := by
 intro h e
 have hb : ∀ q, q ≤ k → H.best h e c q = H.best h e t q := by
  intro q
  induction q with
  | zero => intro _; rfl
  | succ q ih =>
   intro hq
   have e1 : H.hits h e c q ↔ H.hits h e t q := ⟨fun z => ⟨z.1, z.2.1, Int.le_trans z.2.2 hct⟩, fun z => ⟨z.1, z.2.1, hm q (by omega) z.2.2⟩⟩
   unfold Hds.best
   rw [ih (by omega)]
   by_cases z : H.hits h e t q
   ·rw [if_pos z, if_pos (e1.2 z)]
   ·rw [if_neg z, if_neg (fun w => z (e1.1 w))]
 unfold Hds.at
 rw [hb k (Nat.le_refl _)]
end Tally
