/- Texts put together: RCopX, RCop. -/
import Derived.Test.YtjphfdlpcakpeaaGreatDoorRMatX
import Derived.Test.YtjphfdlpcakpeaaGreatDoorPlainZ

/- The reference's copied. -/

namespace Go.Proofs.YtjphfdlpcakpeaaGreatDoor
open Go.RowKit Tally

/-- an own row of numbers as a row in a block -/
theorem own_rowx {w : World} {base n : Nat} {e : TypeId} {v : Value} {L : List Num} {f : Nat → Rat} (h : OwnG notInt w base e 4 v n (flat L)) (hl : L.length = n) (hn : 0 < n) (hf : rNumsR w L f) :
    ∃ g c, v = .slice (some ⟨g, 0, none⟩) n c ∧ base ≤ g ∧ n ≤ c ∧ c ≤ 9223372036854775807 ∧ RowX w g n f := by
  have hcells := fun g => h.own.cells (g := g)
  rcases h.own.2 with ⟨rfl, h0⟩ | ⟨g, cap, cur, rfl, hb, hg, h1, h2, h3, h4⟩
  · omega
  · have hc : ∀ j u, (flat L)[j]? = some u → w.cell? ⟨g, j, none⟩ = some u := fun j u hu => by
      have := hcells g rfl j u hu
      have hadd : (⟨g, 0, none⟩ : Addr).add j = ⟨g, j, none⟩ := by unfold Addr.add; split <;> simp_all
      rw [hadd] at this; exact this
    refine ⟨g, cap, rfl, hb, h1, by simpa [maxLen] using h2, L, cur, e, hl, hg, fun o K x q => h.free g rfl o _ q K x rfl, fun k x hx => ?_, hf⟩
    obtain ⟨q0, q1, q2, q3⟩ := flat_get hx
    exact ⟨hc _ _ q0, hc _ _ q1, hc _ _ q2, hc _ _ q3⟩
theorem RowX.grown {w w' : World} {row : Option Nat} {b n : Nat} {f : Nat → Rat} (h : RowX w b n f) (hn0 : 0 < n) (hg : w.grownBy w' row) (hn : ∀ g, row = some g → AllG OnlySl w g) : RowX w' b n f := by
  have hl := h.lt
  obtain ⟨x, hx4, _⟩ := h.elem hn0
  have hb : some b ≠ row := fun e => by
    obtain ⟨_, _, _, q⟩ := hn b e.symm _ _ hx4.1
    cases q
  obtain ⟨L, cur, T, h1, h2, h3, h4, h5⟩ := h
  have e := hg.block b hl hb
  exact ⟨L, cur, T, h1, e.trans h2, noInt_block h3 e, fun k x hx => four_block (h4 k x hx) e, h5.grown hg (fun g q => noInt_of_sl (hn g q))⟩

theorem choose_pair {n : Nat} {p : Nat → Nat × Nat → Prop} (h : ∀ i, i < n → ∃ x, p i x) : ∃ f : Nat → Nat × Nat, ∀ i, i < n → p i (f i) := by
  classical
  refine ⟨fun i => if hi : i < n then Classical.choose (h i hi) else (0, 0), fun i hi => ?_⟩
  show p i (if hi : i < n then Classical.choose (h i hi) else (0, 0))
  rw [dif_pos hi]
  exact Classical.choose_spec (h i hi)
/-- rows of one's own under way -/
structure BuildX (B : Nat) (w : World) (v : Value) (V : List Value) (k n : Nat) (A : Mx) : Prop where
  len : V.length = k
  own : OwnG OnlySl w B 37 1 v V.length V
  row : 0 < n → ∀ (i : Nat) (u : Value), V[i]? = some u → ∃ g c, u = .slice (some ⟨g, 0, none⟩) n c ∧ B ≤ g ∧ n ≤ c ∧ c ≤ 9223372036854775807 ∧ RowX w g n (A i)
  inj : 0 < n → ∀ (i j g c d : Nat), V[i]? = some (Value.slice (some ⟨g, 0, none⟩) n c) → V[j]? = some (Value.slice (some ⟨g, 0, none⟩) n d) → i = j
theorem BuildX.start (B : Nat) (w : World) (n : Nat) (A : Mx) : BuildX B w (.slice none 0 0) [] 0 n A := ⟨rfl, OwnG.nil _ _ _ _ _, fun _ i u h => by simp at h, fun _ i j g c d h => by simp at h⟩
theorem BuildX.below {B : Nat} {w w' : World} {v : Value} {V : List Value} {k n : Nat} {A : Mx} (h : BuildX B w v V k n A) (hb : Below w.heap.size w w') : BuildX B w' v V k n A :=
  ⟨h.len, h.own.below hb, fun hn i u hu => by obtain ⟨g, c, q1, q2, q3, q4, q5⟩ := h.row hn i u hu; exact ⟨g, c, q1, q2, q3, q4, q5.below hb⟩, h.inj⟩
/-- one row more; its block is newer than S, the others' are older -/
theorem BuildX.snoc {B S : Nat} {w w' : World} {v v' u : Value} {V : List Value} {k n : Nat} {A : Mx} (h : BuildX B w v V k n A) (ho : OwnG OnlySl w' B 37 1 v' (V.length + 1) (V ++ [u])) (hg : w.grownBy w' v.ownBlock)
    (hold : 0 < n → ∀ (i g c : Nat), V[i]? = some (Value.slice (some ⟨g, 0, none⟩) n c) → g < S) (hx : 0 < n → ∃ g c, u = .slice (some ⟨g, 0, none⟩) n c ∧ B ≤ g ∧ S ≤ g ∧ n ≤ c ∧ c ≤ 9223372036854775807 ∧ RowX w g n (A k)) : BuildX B w' v' (V ++ [u]) (k + 1) n A := by
  have hk := h.len
  refine ⟨by rw [List.length_append, h.len]; rfl, by rw [List.length_append]; exact ho, fun hn i y hi => ?_, fun hn i j g c d hi hj => ?_⟩
  · by_cases e : i < V.length
    · rw [List.getElem?_append_left e] at hi
      obtain ⟨g, c, q1, q2, q3, q4, q5⟩ := h.row hn i y hi
      exact ⟨g, c, q1, q2, q3, q4, q5.grown hn hg h.own.free⟩
    · rw [List.getElem?_append_right (by omega)] at hi
      have : i - V.length < 1 := by have := (List.getElem?_eq_some_iff.1 hi).1; simpa using this
      have ek : i = V.length := by omega
      subst ek
      simp at hi
      subst hi
      obtain ⟨g, c, q1, q2, _, q3, q4, q5⟩ := hx hn
      rw [h.len]
      exact ⟨g, c, q1, q2, q3, q4, q5.grown hn hg h.own.free⟩
  · obtain ⟨g0, c0, q1, _, q2, _⟩ := hx hn
    subst q1
    have last : ∀ (i c : Nat), (V ++ [Value.slice (some ⟨g0, 0, none⟩) n c0])[i]? = some (Value.slice (some ⟨g, 0, none⟩) n c) → i < V.length ∧ V[i]? = some (Value.slice (some ⟨g, 0, none⟩) n c) ∨ i = V.length ∧ g = g0 := fun i c hi => by
      by_cases e : i < V.length
      · rw [List.getElem?_append_left e] at hi
        exact .inl ⟨e, hi⟩
      · rw [List.getElem?_append_right (by omega)] at hi
        have : i - V.length < 1 := by have := (List.getElem?_eq_some_iff.1 hi).1; simpa using this
        have ek : i = V.length := by omega
        subst ek
        simp at hi
        exact .inr ⟨rfl, hi.1.symm⟩
    rcases last i c hi with ⟨a1, a2⟩ | ⟨a1, a2⟩ <;> rcases last j d hj with ⟨b1, b2⟩ | ⟨b1, b2⟩
    · exact h.inj hn i j g c d a2 b2
    · have := hold hn i g c a2; omega
    · have := hold hn j g d b2; omega
    · omega
theorem BuildX.old {B : Nat} {w : World} {v : Value} {V : List Value} {k n : Nat} {A : Mx} (h : BuildX B w v V k n A) : 0 < n → ∀ (i g c : Nat), V[i]? = some (Value.slice (some ⟨g, 0, none⟩) n c) → g < w.heap.size := fun hn i g c hi => by
  obtain ⟨g', c', q1, _, _, _, q5⟩ := h.row hn i _ hi
  injection q1 with q1
  injection q1 with q1
  injection q1 with q1
  rw [q1]; exact q5.lt
theorem BuildX.done {B : Nat} {w : World} {v : Value} {V : List Value} {k n : Nat} {A : Mx} (h : BuildX B w v V k n A) (hn : 0 < n) (hk : 0 < k) : ∃ G c g cp, v = .slice (some ⟨G, 0, none⟩) k c ∧ k ≤ c ∧ c ≤ 9223372036854775807 ∧ MatX w G k n g cp A ∧ B ≤ G ∧ ∀ i, i < k → B ≤ g i := by
  have hl := h.len
  have ho := h.own.own
  have hcells := fun g => ho.cells (g := g)
  rcases ho.2 with ⟨hv, h0⟩ | ⟨G, cap, cur, hv, hb, hg, r1, r2, r3, r4⟩
  · omega
  · have each : ∀ i, i < k → ∃ q : Nat × Nat, V[i]? = some (Value.slice (some ⟨q.1, 0, none⟩) n q.2) ∧ B ≤ q.1 ∧ n ≤ q.2 ∧ q.2 ≤ 9223372036854775807 ∧ RowX w q.1 n (A i) := fun i hi => by
      have hx : V[i]? = some V[i] := List.getElem?_eq_getElem (by omega)
      obtain ⟨g, c, q1, q2, q3, q4, q5⟩ := h.row hn i _ hx
      exact ⟨(g, c), by rw [hx, q1], q2, q3, q4, q5⟩
    obtain ⟨q, hq⟩ := choose_pair each
    have hfree := h.own.free G (by rw [hv]; rfl)
    refine ⟨G, cap, fun i => (q i).1, fun i => (q i).2, by rw [hv, hl], by omega, by simpa [maxLen] using r2, ⟨⟨cur, _, hg, cells_of_allG hg hfree⟩, fun i hi => ?_, fun i hi => (hq i hi).2.2.2.2, fun i hi => ⟨(hq i hi).2.2.1, (hq i hi).2.2.2.1⟩, fun i hi e => ?_, fun i j hi hj e => ?_⟩, hb, fun i hi => (hq i hi).2.1⟩
    · have := hcells G (by rw [hv]; rfl) i _ (hq i hi).1
      have hadd : (⟨G, 0, none⟩ : Addr).add i = ⟨G, i, none⟩ := by unfold Addr.add; split <;> simp_all
      rwa [hadd] at this
    · obtain ⟨x, hx4, _⟩ := (hq i hi).2.2.2.2.elem hn
      rw [e] at hx4
      obtain ⟨_, _, _, z⟩ := hfree _ _ hx4.1
      cases z
    · have h1 := (hq i hi).1
      have h2 := (hq j hj).1
      rw [← e] at h2
      exact h.inj hn i j _ _ _ h1 h2
end Go.Proofs.YtjphfdlpcakpeaaGreatDoor

/- The reference's copied, walked. -/

namespace Go.Proofs.YtjphfdlpcakpeaaGreatDoor
open Go.RowKit Tally

theorem one_cell_sl (a : Option Addr) (k c : Nat) : ∀ u ∈ [Value.slice a k c], u.oneCell' = true := by
  intro u hu
  obtain rfl : u = _ := by simpa using hu
  rfl
theorem only_sl_one (a : Option Addr) (k c : Nat) : ∀ u ∈ [Value.slice a k c], OnlySl u := by
  intro u hu
  obtain rfl : u = _ := by simpa using hu
  exact ⟨_, _, _, rfl⟩
theorem rflat_wide {w : World} {Lr : List Num} {t : Num} {k n : Nat} {A : Mx} {y : Nat → Rat} (hl : Lr.length = n) (hn : rNumsR w Lr (A k)) (ht : rRatN w t (y k)) : rNumsR w (Lr ++ [t]) (wideM n A y k) := by
  intro j x hx
  by_cases hj : j < n
  · rw [List.getElem?_append_left (by omega)] at hx
    have := hn j x hx
    simpa [wideM, hj] using this
  · rw [List.getElem?_append_right (by omega)] at hx
    have hj1 : j - Lr.length < 1 := by have := (List.getElem?_eq_some_iff.1 hx).1; simpa using this
    obtain rfl : j = n := by omega
    rw [hl, Nat.sub_self] at hx
    obtain rfl : t = x := by simpa using hx
    simpa [wideM] using ht

set_option maxHeartbeats 8000000 in
set_option maxRecDepth 100000 in
theorem rcopied_any {w : World} {v u : Value} {m n q nn : Nat} {A AA : Mx} {y : Nat → Rat} (h : rMatsR w v m (fun _ => n) A) (hu : rRatsR w u q y) (hm : m ≤ 26) (hn : n ≤ 26) (hn0 : 0 < n) (hcase : (q = 0 ∧ nn = n ∧ AA = A) ∨ (q = m ∧ nn = n + 1 ∧ AA = wideM n A y)) :
    Calls Tryz.prog 30 #[v, u] w fun e w' => ∃ sv : Value, e = .returned sv ∧ (∃ V : List Value, BuildX w.heap.size w' sv V m nn AA) ∧ Below w.heap.size w w' := by
  obtain ⟨i1, hi1, hz10, hz11, hz12⟩ := info_parts rinfoS
  obtain ⟨i2, hi2, hz20, hz21, hz22⟩ := info_parts rinfoQ
  have HCS := Lib.hid hcase
  obtain ⟨a, c, rfl⟩ := h.shape
  obtain ⟨a2, c2, rfl⟩ := hu.shape
  obtain ⟨_, _, bA, oA, p3, p4⟩ := h.parts
  obtain ⟨_, _, bV, oV, q3, q4⟩ := hu.parts
  have P3 := Lib.hid p3
  have P4 := Lib.hid p4
  have Q3 := Lib.hid q3
  have Q4 := Lib.hid q4
  clear h hu p3 p4 q3 q4 hcase
  go_enter Tryz.func30, Tryz.ntmps30
  go_wp2_with fail
  go_loopw [5, 6] (fun ov iv wr => ∃ (k : Nat) (V : List Value) (sv : Value), sv = ov ∧ iv = .int .i64 k ∧ k ≤ m ∧ BuildX w.heap.size wr ov V k nn AA ∧ Below w.heap.size w wr) (fun _ iv _ => m - (intOf iv).toNat)
  case atStart => exact ⟨0, [], _, rfl, rfl, by omega, BuildX.start _ _ _ _, Below.refl _ _⟩
  case round =>
    obtain ⟨k, V, ov, rfl, rfl, hk, hbm, hbr⟩ := hrel
    have HX := Lib.hid hbm
    have HBr := Lib.hid hbr
    clear hbm hbr
    by_cases hkm : k = m
    · obtain rfl : m = k := hkm.symm
      go_wp2
      go_ret
      exact ⟨_, rfl, ⟨V, HX.out⟩, HBr.out⟩
    have hkl : k < m := by omega
    have hki : (k : Int) < (m : Int) := by omega
    have hVl := HX.out.len
    obtain rfl := P3.out (by omega)
    obtain ⟨a9, c9, u1, u2⟩ := P4.out k hkl
    obtain ⟨Lr, hlr, ⟨aa, b9, o9, cc, hsl, y1, y2, y3, y4⟩, hnr⟩ := u2.below HBr.out
    rw [hlr] at hsl y1 y3
    injection hsl with e1 e2 e3
    subst e1 e3
    obtain rfl := y3 (by omega)
    have c0 := keepc HBr.out u1
    have hltA := World.block_lt_of_cell? _ _ c0
    have HY4 := Lib.hid y4
    have HNr := Lib.hid hnr
    have HLr := Lib.hid hlr
    clear u1 u2 y4 hnr hlr
    go_wp2_with (at_builtin; refine wpList_append_good (G := notInt) _ rfl _ _ 37 rfl wr.heap.size 54 i2 (.agg #[.bool false, .slice none 0 0, .bool false, .slice none 0 0]) 4 64 Tryz.underlying37 hi2 hz20 hz21 hz22 rfl (by decide) (.slice (some ⟨wr.heap.size, 0, none⟩) 0 0) 0 [] rfl (OwnG.empty (heap_alloc_new _ _) (Nat.le_refl _)) ⟨b9, o9, none⟩ n c9 (flat Lr) rfl (by rw [flat_length, HLr.out]) ?_ (fun u hu => (flat_one u hu).1) (by unfold maxLen; omega) (by omega) (by simp) (fun u hu => (flat_one u hu).2) zero_notInt ?_)
    · exact flat_src2 (fun kk x hx => (HY4.out kk x hx).below (allocs_below1 _ _))
    · intro v3 w3 ho hg _
      have HB3 := Lib.hid (grown_below (allocs_below1 wr _) (OwnG.empty (G := notInt) (size := 4) (heap_alloc_new wr (.cells #[] 54)) (Nat.le_refl _)).own hg (Nat.le_refl _) (by simp))
      try simp only [Nat.zero_add, List.nil_append] at ho
      clear hg c0
      rcases HCS.out with ⟨hq0, hnn, hAA⟩ | ⟨hqm, hnn, hAA⟩
      · subst hq0
        subst hnn
        subst hAA
        have hkf : ¬ (k : Int) < ((0 : Nat) : Int) := by omega
        have hkf2 : ¬ (k : Int) < 0 := by omega
        obtain ⟨g, cq, rfl, hbg, hc1, hc2, hrow⟩ := own_rowx ho HLr.out hn0 (HNr.out.below HB3.out)
        have hs3 := HB3.out.size
        have hsr := HBr.out.size
        have hal := heap_alloc_new w3 (.cells #[.slice (some ⟨g, 0, none⟩) nn cq] 37)
        have HAL := Lib.hid hal
        have hb4 := allocs_below1 w3 (.cells #[.slice (some ⟨g, 0, none⟩) nn cq] 37)
        have HN := Lib.hid ((HX.out.below HB3.out).below hb4)
        have HB5 := Lib.hid (bt (bt HBr.out HB3.out) hb4)
        have HRW := Lib.hid (hrow.below hb4)
        clear hal hb4 hrow ho
        go_wp2_with (at_builtin; refine wpList_append_good (G := OnlySl) _ rfl _ _ 29 rfl w.heap.size 37 i1 (.slice none 0 0) 1 24 Tryz.underlying29 hi1 hz10 hz11 hz12 rfl (by decide) ov V.length V rfl HN.out.own ⟨w3.heap.size, 0, none⟩ 1 1 [.slice (some ⟨g, 0, none⟩) nn cq] rfl rfl ?_ (one_cell_sl _ _ _) (by unfold maxLen; omega) (by omega) (by simp; omega) (only_sl_one _ _ _) only_sl0 ?_)
        all_goals first | exact row_one HAL.out | (intro jj u hu; have := row_one HAL.out jj u hu; simpa [Addr.add] using this; done) | (intro hu; have := row_one HAL.out 0 _ hu; simpa [Addr.add] using this; done) | skip
        intro v5 w5 ho hg _
        have HM5 := Lib.hid (HN.out.snoc (S := wr.heap.size) (by rw [hVl]; exact ho) hg HX.out.old (fun _ => ⟨g, cq, rfl, by omega, hbg, hc1, hc2, HRW.out⟩))
        have HB6 := Lib.hid (grown_below HB5.out HN.out.own.own hg (Nat.le_refl _) (by simp; omega))
        clear ho hg HN HRW HAL HB5
        go_wp2
        go_roundw
        case rel => (first | exact ⟨k + 1, _, _, rfl, by go_num, by omega, HM5.out, HB6.out⟩ | ((repeat apply Exists.intro); exact ⟨⟨k + 1, _, _, rfl, by go_num, by omega, HM5.out, HB6.out⟩, rfl⟩))
        case measure => (simp [intOf]; omega)
      · obtain rfl : q = m := hqm
        subst hnn
        subst hAA
        obtain rfl := Q3.out (by omega)
        obtain ⟨t, t4, tq⟩ := Q4.out k hkl
        have hb3 := HB3.out
        have t4' := (t4.at HBr.out).at HB3.out
        obtain ⟨t0, t1, t2, t3⟩ := t4'
        have hltV := World.block_lt_of_cell? _ _ t0
        have HTR := Lib.hid (show rRatN wr t (y k) from RRatR.below tq HBr.out)
        have hb4 := allocs_below1 w3 (.cells #[.bool t.n1, .slice t.a1 t.k1 t.c1, .bool t.n2, .slice t.a2 t.k2 t.c2] 54)
        have HO := Lib.hid (ho.below hb4)
        have HB4 := Lib.hid (bt HB3.out hb4)
        have hal := heap_alloc_new w3 (.cells #[.bool t.n1, .slice t.a1 t.k1 t.c1, .bool t.n2, .slice t.a2 t.k2 t.c2] 54)
        have HAL := Lib.hid hal
        have hs3 := HB3.out.size
        clear ho t4 tq hb3 hb4 hal
        go_wp2_with (at_builtin; refine wpList_append_good (G := notInt) _ rfl _ _ 37 rfl wr.heap.size 54 i2 (.agg #[.bool false, .slice none 0 0, .bool false, .slice none 0 0]) 4 64 Tryz.underlying37 hi2 hz20 hz21 hz22 rfl (by decide) v3 n (flat Lr) rfl HO.out ⟨w3.heap.size, 0, none⟩ 1 1 (flat [t]) rfl rfl ?_ (fun u hu => (flat_one u hu).1) (by unfold maxLen; omega) (by omega) (by simp; omega) (fun u hu => (flat_one u hu).2) zero_notInt ?_)
        · first | exact row_cells HAL.out | (intro jj u hu; have := row_cells HAL.out jj u hu; simpa [Addr.add] using this) | exact fun _ _ hq => hq
        · intro v4 w4 ho hg _
          have HB9 := Lib.hid (grown_below HB4.out HO.out.own hg (Nat.le_refl _) (by simp; omega))
          have ho2 : OwnG notInt w4 wr.heap.size 54 4 v4 (n + 1) (flat (Lr ++ [t])) := by rw [flat_append]; exact ho
          obtain ⟨g, cq, rfl, hbg, hc1, hc2, hrow⟩ := own_rowx ho2 (by simp [HLr.out]) (by omega) (rflat_wide (k := k) (A := A) HLr.out (HNr.out.below HB9.out) (RRatR.below HTR.out HB9.out))
          clear hg ho2 t0 t1 t2 t3 hltV HO HAL HB4
          have hs3 := HB9.out.size
          have hsr := HBr.out.size
          have hal := heap_alloc_new w4 (.cells #[.slice (some ⟨g, 0, none⟩) (n + 1) cq] 37)
          have HAL := Lib.hid hal
          have hb4 := allocs_below1 w4 (.cells #[.slice (some ⟨g, 0, none⟩) (n + 1) cq] 37)
          have HN := Lib.hid ((HX.out.below HB9.out).below hb4)
          have HB5 := Lib.hid (bt (bt HBr.out HB9.out) hb4)
          have HRW := Lib.hid (hrow.below hb4)
          clear hal hb4 hrow ho
          go_wp2_with (at_builtin; refine wpList_append_good (G := OnlySl) _ rfl _ _ 29 rfl w.heap.size 37 i1 (.slice none 0 0) 1 24 Tryz.underlying29 hi1 hz10 hz11 hz12 rfl (by decide) ov V.length V rfl HN.out.own ⟨w4.heap.size, 0, none⟩ 1 1 [.slice (some ⟨g, 0, none⟩) (n + 1) cq] rfl rfl ?_ (one_cell_sl _ _ _) (by unfold maxLen; omega) (by omega) (by simp; omega) (only_sl_one _ _ _) only_sl0 ?_)
          all_goals first | exact row_one HAL.out | (intro jj u hu; have := row_one HAL.out jj u hu; simpa [Addr.add] using this; done) | (intro hu; have := row_one HAL.out 0 _ hu; simpa [Addr.add] using this; done) | skip
          intro v5 w5 ho hg _
          have HM5 := Lib.hid (HN.out.snoc (S := wr.heap.size) (by rw [hVl]; exact ho) hg HX.out.old (fun _ => ⟨g, cq, rfl, by omega, hbg, hc1, hc2, HRW.out⟩))
          have HB6 := Lib.hid (grown_below HB5.out HN.out.own.own hg (Nat.le_refl _) (by simp; omega))
          clear ho hg HN HRW HAL HB5
          go_wp2
          go_roundw
          case rel => (first | exact ⟨k + 1, _, _, rfl, by go_num, by omega, HM5.out, HB6.out⟩ | ((repeat apply Exists.intro); exact ⟨⟨k + 1, _, _, rfl, by go_num, by omega, HM5.out, HB6.out⟩, rfl⟩))
          case measure => (simp [intOf]; omega)
end Go.Proofs.YtjphfdlpcakpeaaGreatDoor
