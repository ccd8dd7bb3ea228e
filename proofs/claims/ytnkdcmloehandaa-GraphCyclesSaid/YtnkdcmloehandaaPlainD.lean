/- Plain mathematics of layer 21: cycles and orders. -/
import Derived.Test.YtnkdcmloehandaaComps
namespace Go.Proofs.Ytnkdcmloehandaa
open Plain

theorem range_filter_nodup (p : Nat → Bool) (k : Nat) : ((List.range k).filter p).Nodup := List.nodup_range.filter _

/-- an entity is cyclic exactly if its component has several members, or its element of the diagonal is above 0 -/
theorem cyc_iff {n : Nat} {Z : Nat → Nat → Int} {l e : Nat} (he : e ∈ mem n Z l n) : cB n Z e = true ↔ (1 < (mem n Z l n).length ∨ 0 < Z e e) := by
  obtain ⟨hen, hle⟩ := mem_mem.1 he
  have hnd : (mem n Z l n).Nodup := range_filter_nodup _ _
  constructor
  · intro hc
    obtain ⟨k, hk, hz, hr⟩ := cB_iff.1 hc
    by_cases e1 : k = e
    · subst e1; exact .inr hz
    · left
      have hkm : k ∈ mem n Z l n := mem_mem.2 ⟨hk, kB_trans hle (kB_iff.2 ⟨R.edge hen hk hz, hr⟩)⟩
      rcases hl : mem n Z l n with _ | ⟨a, _ | ⟨b, r⟩⟩
      · rw [hl] at he; cases he
      · rw [hl] at he hkm
        simp at he hkm
        exact absurd (hkm.trans he.symm) e1
      · simp
  · rintro (hlen | hz)
    · obtain ⟨k, hkm, hne⟩ : ∃ k, k ∈ mem n Z l n ∧ k ≠ e := by
        rcases hl : mem n Z l n with _ | ⟨a, _ | ⟨b, r⟩⟩
        · rw [hl] at hlen; simp at hlen
        · rw [hl] at hlen; simp at hlen
        · rw [hl] at hnd
          by_cases e1 : a = e
          · refine ⟨b, by simp, fun e2 => ?_⟩
            have := (List.nodup_cons.1 hnd).1
            rw [e1, e2] at this
            simp at this
          · exact ⟨a, by simp, e1⟩
      obtain ⟨hkn, hlk⟩ := mem_mem.1 hkm
      have hek := kB_iff.1 (kB_trans (kB_symm hle) hlk)
      have first : k = e ∨ ∃ a, a < n ∧ 0 < Z e a ∧ R n Z a k := hek.1 (fun x => x = e ∨ ∃ a, a < n ∧ 0 < Z e a ∧ R n Z a x) (fun a ha => .inl ha) (fun a b ha hb hS hz => by
        rcases hS with h1 | ⟨c, h1, h2, h3⟩
        · subst h1; exact .inr ⟨b, hb, hz, R.refl _ _ _⟩
        · exact .inr ⟨c, h1, h2, h3.step ha hb hz⟩)
      rcases first with h1 | ⟨a, h1, h2, h3⟩
      · exact absurd h1 hne
      · exact cB_iff.2 ⟨a, h1, h2, R.trans h3 hek.2⟩
    · exact cB_iff.2 ⟨e, hen, hz, R.refl _ _ _⟩

/-! ### the components' lengths add up -/
def sumL : List Nat → Nat
  | [] => 0
  | a :: l => a + sumL l
theorem sumL_append (l k : List Nat) : sumL (l ++ k) = sumL l + sumL k := by
  induction l with
  | nil => simp [sumL]
  | cons a l ih => simp only [List.cons_append, sumL, ih]; omega

theorem sum_none {n : Nat} {Z : Nat → Nat → Int} {k : Nat} (ls : List Nat) (h : ∀ l, l ∈ ls → kB n Z l k = false) : sumL (ls.map fun l => (mem n Z l (k + 1)).length) = sumL (ls.map fun l => (mem n Z l k).length) := by
  induction ls with
  | nil => rfl
  | cons a ls ih =>
    simp only [List.map_cons, sumL]
    rw [ih (fun l hl => h l (by simp [hl])), mem_succ_no (h a (by simp))]
theorem sum_one {n : Nat} {Z : Nat → Nat → Int} {k : Nat} (ls : List Nat) (hnd : ls.Nodup) {m : Nat} (hm : m ∈ ls) (hk : kB n Z m k = true) (h : ∀ l, l ∈ ls → kB n Z l k = true → l = m) :
    sumL (ls.map fun l => (mem n Z l (k + 1)).length) = sumL (ls.map fun l => (mem n Z l k).length) + 1 := by
  induction ls with
  | nil => cases hm
  | cons a ls ih =>
    simp only [List.map_cons, sumL]
    obtain ⟨h1, h2⟩ := List.nodup_cons.1 hnd
    by_cases e : a = m
    · subst e
      rw [mem_succ_yes hk, sum_none ls (fun l hl => by
        cases hq : kB n Z l k
        · rfl
        · have := h l (by simp [hl]) hq; subst this; exact absurd hl h1)]
      simp
      omega
    · have hm' : m ∈ ls := by
        rcases List.mem_cons.1 hm with q | q
        · exact absurd q.symm e
        · exact q
      rw [ih h2 hm' (fun l hl => h l (by simp [hl]))]
      have : kB n Z a k = false := by
        cases hq : kB n Z a k
        · rfl
        · exact absurd (h a (by simp) hq) e
      rw [mem_succ_no this]
      omega

theorem comps_sum (n : Nat) (Z : Nat → Nat → Int) : sumL ((comps n Z).map List.length) = n := by
  have key : ∀ k, k ≤ n → sumL ((lds n Z n).map fun l => (mem n Z l k).length) = k := by
    intro k
    induction k with
    | zero =>
      intro _
      induction lds n Z n with
      | nil => rfl
      | cons a ls ih => simp [mem, sumL]; simpa [mem] using ih
    | succ k ih =>
      intro hk
      obtain ⟨l, h1, h2, h3, _⟩ := leader n Z k
      rw [sum_one (lds n Z n) (range_filter_nodup _ _) (lds_mem.2 ⟨by omega, h3⟩) h2 (fun m hm hmk => isL_unique (lds_mem.1 hm).2 h3 (kB_trans hmk (kB_symm h2))), ih (by omega)]
  have := key n (Nat.le_refl _)
  simpa [comps, List.map_map, Function.comp_def] using this

/-! ### orders and cycles -/
theorem nodup_len {m : Nat} : ∀ l : List Nat, l.Nodup → (∀ x, x ∈ l → x < m) → l.length ≤ m := by
  induction m with
  | zero =>
    intro l _ h2
    cases l with
    | nil => exact Nat.le_refl _
    | cons a l => exact absurd (h2 a (by simp)) (Nat.not_lt_zero _)
  | succ m ih =>
    intro l h1 h2
    by_cases hm : m ∈ l
    · have := ih (l.erase m) (h1.erase m) (fun x hx => by
        have hne := ((List.Nodup.mem_erase_iff h1).1 hx)
        have := h2 x hne.2
        have := hne.1
        omega)
      rw [List.length_erase_of_mem hm] at this
      omega
    · have := ih l h1 (fun x hx => by
        have := h2 x hx
        have : x ≠ m := fun e => hm (e ▸ hx)
        omega)
      omega

theorem has_iff {l : List Nat} {e : Nat} : has l e = true ↔ e ∈ l := by simp [has]

theorem ord_full {n : Nat} {Z : Nat → Nat → Int} {l : List Nat} (h : Ord n Z l) (hl : l.length = n) {e : Nat} (he : e < n) : e ∈ l := by
  refine Classical.byContradiction fun hne => ?_
  have ⟨h1, h2⟩ := Ord.nodup l h
  have := nodup_len (m := n) (e :: l) (List.nodup_cons.2 ⟨hne, h1⟩) (fun x hx => by
    rcases List.mem_cons.1 hx with q | q
    · subst q; exact he
    · exact h2 x q)
  simp at this
  omega

theorem ord_back {n : Nat} {Z : Nat → Nat → Int} : ∀ l : List Nat, Ord n Z l → ∀ e h, e ∈ l → h < n → 0 < Z h e → h ∈ l
  | [], _, _, _, he, _, _ => by cases he
  | a :: l, ho, e, h, he, hh, hz => by
    rcases List.mem_cons.1 he with q | q
    · subst q
      rcases ho.2.free h hh with h1 | h1
      · omega
      · simp [has_iff.1 h1]
    · simp [ord_back l ho.1 e h q hh hz]

theorem ord_reach {n : Nat} {Z : Nat → Nat → Int} {l : List Nat} (ho : Ord n Z l) {k e : Nat} (hr : R n Z k e) (he : e ∈ l) : k ∈ l := by
  refine Classical.byContradiction fun hk => ?_
  exact hr (fun x => x ∉ l) (fun a ha => by subst ha; exact hk) (fun a b ha _ hS hz hb => hS (ord_back l ho b a hb ha hz)) he

theorem ord_acyclic {n : Nat} {Z : Nat → Nat → Int} : ∀ l : List Nat, Ord n Z l → ∀ e, e ∈ l → cB n Z e = false
  | [], _, _, he => by cases he
  | a :: l, ho, e, he => by
    rcases List.mem_cons.1 he with q | q
    · subst q
      cases hc : cB n Z e
      · rfl
      · exfalso
        obtain ⟨k, hk, hz, hr⟩ := cB_iff.1 hc
        have hnew := ho.2.new
        have hnm : e ∉ l := fun hm => by rw [has_iff.2 hm] at hnew; cases hnew
        rcases List.mem_cons.1 (ord_reach ho hr he) with h1 | h1
        · subst h1
          rcases ho.2.free k hk with h2 | h2
          · omega
          · exact hnm (has_iff.1 h2)
        · exact hnm (ord_back l ho.1 k e h1 ho.2.lt hz)
    · exact ord_acyclic l ho.1 e q

theorem cnt_has (l : List Nat) (n : Nat) : cnt (has l) n ≤ l.length := by
  induction l with
  | nil =>
    have : ∀ n, cnt (has []) n = 0 := by
      intro n
      induction n with
      | zero => rfl
      | succ n ih => simp only [cnt, ih]; simp [has]
    rw [this]; exact Nat.zero_le _
  | cons a l ih =>
    have : ∀ m, cnt (has (a :: l)) m ≤ cnt (has l) m + (if a < m then 1 else 0) := by
      intro m
      induction m with
      | zero => simp [cnt]
      | succ m ihm =>
        simp only [cnt, has_cons]
        by_cases e : m = a
        · subst e
          simp only [if_true]
          rw [if_neg (Nat.lt_irrefl m)] at ihm
          rw [if_pos (Nat.lt_succ_self m)]
          split <;> omega
        · simp only [e, if_false]
          by_cases q : a < m
          · rw [if_pos q] at ihm
            rw [if_pos (show a < m + 1 by omega)]
            omega
          · rw [if_neg q] at ihm
            rw [if_neg (show ¬ a < m + 1 by omega)]
            omega
    have := this n
    simp only [List.length_cons]
    split at this <;> omega

theorem stuck_cyclic {n : Nat} {Z : Nat → Nat → Int} {l : List Nat} (hz : ∀ r c, r < n → c < n → 0 ≤ Z r c) (hl : l.length < n) (hs : NoPick n Z (has l)) : ∃ e, e < n ∧ cB n Z e = true := by
  refine Classical.byContradiction fun hno => ?_
  have acyc : ∀ e, e < n → cB n Z e = false := fun e he => by
    cases hc : cB n Z e
    · rfl
    · exact absurd ⟨e, he, hc⟩ hno
  obtain ⟨e0, he0, hd0⟩ : ∃ e, e < n ∧ has l e = false := by
    refine Classical.byContradiction fun hall => ?_
    have h1 : cnt (has l) n = cnt (fun _ => true) n := cnt_congr n fun i hi => by
      cases h : has l i
      · exact absurd ⟨i, hi, h⟩ hall
      · rfl
    have h2 := cnt_has l n
    rw [h1, cnt_all] at h2
    omega
  have pred : ∀ e, e < n → has l e = false → ∃ h, h < n ∧ has l h = false ∧ 0 < Z h e := by
    intro e he hd
    rcases hs e he with h1 | h1
    · rw [hd] at h1; cases h1
    · refine Classical.byContradiction fun hnp => h1 fun h hh => ?_
      cases hh2 : has l h
      · left
        have := hz h e hh he
        by_cases q : Z h e = 0
        · exact q
        · exact absurd ⟨h, hh, hh2, by omega⟩ hnp
      · exact .inr rfl
  let A : Nat → Nat → Bool := fun e a => @decide (has l a = false ∧ ∃ k, k < n ∧ 0 < Z a k ∧ R n Z k e) (Classical.propDecidable _)
  have hA : ∀ e a, A e a = true ↔ (has l a = false ∧ ∃ k, k < n ∧ 0 < Z a k ∧ R n Z k e) := fun e a => @decide_eq_true_iff _ (Classical.propDecidable _)
  have self : ∀ h, h < n → A h h = false := fun h hh => by
    cases hq : A h h
    · rfl
    · obtain ⟨_, k, q2, q3, q4⟩ := (hA h h).1 hq
      have := acyc h hh
      rw [cB_iff.2 ⟨k, q2, q3, q4⟩] at this
      cases this
  have key : ∀ m e, e < n → has l e = false → cnt (A e) n ≤ m → False := by
    intro m
    induction m with
    | zero =>
      intro e he hd hc
      obtain ⟨h, hh, hdh, hze⟩ := pred e he hd
      have := cnt_pos (p := A e) n hh ((hA e h).2 ⟨hdh, e, he, hze, R.refl _ _ _⟩)
      omega
    | succ m ih =>
      intro e he hd hc
      obtain ⟨h, hh, hdh, hze⟩ := pred e he hd
      refine ih h hh hdh ?_
      have hlt : cnt (A h) n < cnt (A e) n := cnt_lt n (fun a _ ha => by
        obtain ⟨q1, k, q2, q3, q4⟩ := (hA h a).1 ha
        exact (hA e a).2 ⟨q1, k, q2, q3, q4.step hh he hze⟩) ⟨h, hh, self h hh, (hA e h).2 ⟨hdh, e, he, hze, R.refl _ _ _⟩⟩
      omega
  exact key n e0 he0 hd0 (cnt_le _ _)

/-- the order, read forwards -/
theorem ord_at {n : Nat} {Z : Nat → Nat → Int} {l : List Nat} (ho : Ord n Z l) (hl : l.length = n) {i : Nat} (hi : i < n) :
    Pick n Z (has (l.drop (n - i))) (l.reverse.getD i 0) ∧ l.drop (n - (i + 1)) = l.reverse.getD i 0 :: l.drop (n - i) := by
  have drop : ∀ (m : Nat) (k : List Nat), Ord n Z k → Ord n Z (k.drop m) := by
    intro m
    induction m with
    | zero => intro k hk; exact hk
    | succ m ih =>
      intro k hk
      cases k with
      | nil => exact hk
      | cons a k => exact ih k hk.1
  have hx : l.reverse.getD i 0 = l[n - (i + 1)]'(by omega) := by
    simp only [List.getD]
    rw [List.getElem?_reverse (by omega)]
    rw [List.getElem?_eq_getElem (by omega)]
    simp only [Option.getD_some]
    congr 1
    omega
  have h2 : l.drop (n - (i + 1)) = l.reverse.getD i 0 :: l.drop (n - i) := by
    rw [List.drop_eq_getElem_cons (by omega), hx]
    congr 2
    omega
  have h3 := drop (n - (i + 1)) l ho
  rw [h2] at h3
  exact ⟨h3.2, h2⟩
end Go.Proofs.Ytnkdcmloehandaa
