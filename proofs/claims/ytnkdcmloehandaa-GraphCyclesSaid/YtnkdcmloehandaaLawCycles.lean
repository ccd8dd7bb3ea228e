/- The law GraphCycles. -/
import Derived.Test.YtnkdcmloehandaaPlainD
import Derived.Test.YtnkdcmloehandaaLawClosed
namespace Go.Proofs.Ytnkdcmloehandaa
open Go.RowKit Plain

theorem comps_meet {n : Nat} {Z : Nat → Nat → Int} {a b : Nat} (ha : a < n) (hb : b < n) : (∃ r, r < (comps n Z).length ∧ a ∈ (comps n Z).getD r [] ∧ b ∈ (comps n Z).getD r []) ↔ kB n Z a b = true := by
  constructor
  · rintro ⟨r, hr, h1, h2⟩
    have hm : (comps n Z).getD r [] ∈ comps n Z := by
      have : (comps n Z).getD r [] = (comps n Z)[r] := by simp [List.getD, hr]
      rw [this]; exact List.getElem_mem hr
    generalize (comps n Z).getD r [] = c at *
    obtain ⟨l, hl, rfl⟩ := List.mem_map.1 hm
    exact kB_trans (kB_symm (mem_mem.1 h1).2) (mem_mem.1 h2).2
  · intro hk
    obtain ⟨l, h1, h2, h3, _⟩ := leader n Z a
    have hm : mem n Z l n ∈ comps n Z := List.mem_map.2 ⟨l, lds_mem.2 ⟨by omega, h3⟩, rfl⟩
    obtain ⟨r, hr, he⟩ := List.getElem_of_mem hm
    refine ⟨r, hr, ?_⟩
    have : (comps n Z).getD r [] = mem n Z l n := by simp [List.getD, hr, he]
    rw [this]
    exact ⟨mem_mem.2 ⟨ha, h2⟩, mem_mem.2 ⟨hb, kB_trans h2 hk⟩⟩

/-- has the first loop met a cyclic entity? (components below r whole, of component r the members below k) -/
def Some1 (G : Nat) (Z : Nat → Nat → Int) (cs : List (List Nat)) (r k : Nat) (b : Bool) : Prop :=
  b = true ↔ ∃ e, ((∃ q, q < r ∧ e ∈ cs.getD q []) ∨ ∃ i, i < k ∧ (cs.getD r [])[i]? = some e) ∧ cB G Z e = true

theorem Some1.step {G : Nat} {Z : Nat → Nat → Int} {cs : List (List Nat)} {r k e : Nat} {b : Bool} (h : Some1 G Z cs r k b) (he : (cs.getD r [])[k]? = some e) : Some1 G Z cs r (k + 1) (b || cB G Z e) := by
  unfold Some1 at *
  rw [Bool.or_eq_true, h]
  constructor
  · rintro (⟨x, hx, hc⟩ | hc)
    · refine ⟨x, ?_, hc⟩
      rcases hx with h1 | ⟨i, h1, h2⟩
      · exact .inl h1
      · exact .inr ⟨i, by omega, h2⟩
    · exact ⟨e, .inr ⟨k, by omega, he⟩, hc⟩
  · rintro ⟨x, hx, hc⟩
    rcases hx with h1 | ⟨i, h1, h2⟩
    · exact .inl ⟨x, .inl h1, hc⟩
    · by_cases e1 : i = k
      · subst e1
        rw [he] at h2
        simp at h2
        subst h2
        exact .inr hc
      · exact .inl ⟨x, .inr ⟨i, by omega, h2⟩, hc⟩
theorem Some1.next {G : Nat} {Z : Nat → Nat → Int} {cs : List (List Nat)} {r : Nat} {b : Bool} (h : Some1 G Z cs r (cs.getD r []).length b) : Some1 G Z cs (r + 1) 0 b := by
  unfold Some1 at *
  rw [h]
  constructor
  · rintro ⟨x, hx, hc⟩
    refine ⟨x, .inl ?_, hc⟩
    rcases hx with ⟨q, h1, h2⟩ | ⟨i, h1, h2⟩
    · exact ⟨q, by omega, h2⟩
    · exact ⟨r, by omega, List.mem_of_getElem? h2⟩
  · rintro ⟨x, hx, hc⟩
    refine ⟨x, ?_, hc⟩
    rcases hx with ⟨q, h1, h2⟩ | ⟨i, h1, h2⟩
    · by_cases e1 : q = r
      · subst e1
        obtain ⟨i, hi, he⟩ := List.getElem_of_mem h2
        exact .inr ⟨i, hi, by rw [List.getElem?_eq_getElem hi, he]⟩
      · exact .inl ⟨q, by omega, h2⟩
    · omega
theorem Some1.done {G : Nat} {Z : Nat → Nat → Int} {b : Bool} (h : Some1 G Z (comps G Z) (comps G Z).length 0 b) : b = true ↔ ∃ e, e < G ∧ cB G Z e = true := by
  unfold Some1 at h
  rw [h]
  constructor
  · rintro ⟨x, hx, hc⟩
    refine ⟨x, ?_, hc⟩
    rcases hx with ⟨q, h1, h2⟩ | ⟨i, h1, _⟩
    · have hm : (comps G Z).getD q [] ∈ comps G Z := by
        have : (comps G Z).getD q [] = (comps G Z)[q] := by simp [List.getD, h1]
        rw [this]; exact List.getElem_mem h1
      generalize (comps G Z).getD q [] = c at *
      obtain ⟨l, hl, rfl⟩ := List.mem_map.1 hm
      exact (mem_mem.1 h2).1
    · omega
  · rintro ⟨e, he, hc⟩
    obtain ⟨r, h1, h2, _⟩ := (comps_meet (Z := Z) he he).2 (kB_refl _ _ _)
    exact ⟨e, .inl ⟨r, h1, h2⟩, hc⟩

/-- an element of a component -/
theorem comp_elem {G : Nat} {Z : Nat → Nat → Int} {r k : Nat} (hr : r < (comps G Z).length) (hk : k < ((comps G Z).getD r []).length) :
    ∃ e, ((comps G Z).getD r [])[k]? = some e ∧ ((comps G Z).getD r []).getD k 0 = e ∧ e < G ∧ (cB G Z e = true ↔ (1 < ((comps G Z).getD r []).length ∨ 0 < Z e e)) := by
  have hm : (comps G Z).getD r [] ∈ comps G Z := by
    have : (comps G Z).getD r [] = (comps G Z)[r] := by simp [List.getD, hr]
    rw [this]; exact List.getElem_mem hr
  generalize (comps G Z).getD r [] = c at *
  obtain ⟨l, hl, rfl⟩ := List.mem_map.1 hm
  have he := List.getElem_mem hk
  exact ⟨(mem G Z l G)[k], List.getElem?_eq_getElem hk, by simp [List.getD, hk], (mem_mem.1 he).1, cyc_iff he⟩

theorem sum_take (cs : List (List Nat)) (r : Nat) (hr : r < cs.length) : sumL ((cs.take (r + 1)).map List.length) = sumL ((cs.take r).map List.length) + (cs.getD r []).length := by
  rw [List.take_add_one, List.getElem?_eq_getElem hr]
  simp only [Option.toList_some, List.map_append, List.map_cons, List.map_nil, sumL_append, sumL]
  simp [List.getD, hr]
theorem sum_take_le (cs : List (List Nat)) (r : Nat) : sumL ((cs.take r).map List.length) ≤ sumL (cs.map List.length) := by
  have : cs.map List.length = (cs.take r).map List.length ++ (cs.drop r).map List.length := by rw [← List.map_append, List.take_append_drop]
  rw [this, sumL_append]
  omega

section
variable {w : World} {v : Value} {G : Nat} {L : Nat → Nat} {Z : Nat → Nat → Int}

set_option maxHeartbeats 3200000 in
set_option maxRecDepth 100000 in
theorem lawCycles_any (h : MatR w v G L Z) : Calls Try.prog 9 #[v] w (True1 w) := by
  by_cases hv : Vld G L Z
  · have g1 := hv.1
    have g2 := hv.2.1
    have G4 : Hid (∀ r c, r < G → c < G → 0 ≤ Z r c) := fun r c hr hc => (hv.2.2.2.1 r c hr hc).1
    obtain ⟨b, o, c, B, O, C, rfl, l1, m1, hrows⟩ := h.rowsAt hv
    have HR := Lib.hid hrows
    have HM := Lib.hid h
    have HV := Lib.hid hv
    have hG : G ≤ 9223372036854775807 := by omega
    have hmake := run_make_row' (P := Try.prog) 26 4 (.bool false) 1 Try.underlying26 info4 rfl .i64 .i64 G (by omega) (by omega)
    clear h hv hrows
    have hneq : ((G : Int) != (G : Int)) = false := by simp
    go_enter Try.func9, Try.ntmps9
    go_wp2_with fail
    refine (awake_any _).mono ?_
    rintro e w1 ⟨rfl, hb1⟩
    have hm1 := Lib.hid (HM.out.below hb1)
    have HB1 := Lib.hid hb1
    clear hb1
    go_wp2_with fail
    refine (refValid_any (vb_true HV.out) hm1.out).mono ?_
    rintro e w2 ⟨rfl, hb2⟩
    have hm2 := Lib.hid (hm1.out.below hb2)
    have HB2 := Lib.hid (bt HB1.out hb2)
    clear hb2
    go_wp2_with fail
    refine (cyclic_yes HV.out hm2.out).mono ?_
    rintro e w3 ⟨bc, _, rfl, hcy, hb3⟩
    have hm3 := Lib.hid (hm2.out.below hb3)
    have HB3 := Lib.hid (bt HB2.out hb3)
    have HC3 := Lib.hid hcy
    clear hb3 hcy
    go_wp2_with fail
    refine (comps_yes HV.out hm3.out).mono ?_
    rintro e w4 ⟨vm, rfl, hmat, hb4⟩
    have hm4 := Lib.hid (hm3.out.below hb4)
    have HB4 := Lib.hid (bt HB3.out hb4)
    have HC4 := Lib.hid (HC3.out.of_block (hb4.block _ HC3.out.lt))
    clear hb4
    obtain ⟨cs, hcs⟩ : ∃ cs, cs = comps G Z := ⟨_, rfl⟩
    rw [← hcs] at hmat
    have HCS := Lib.hid hcs
    have hcn : cs.length ≤ 12 := by have := lds_len G Z G; rw [hcs]; simp [comps]; omega
    obtain ⟨ma, mb, mo, mc, MA, MB, MO, MC, rfl, hl1, hl2, hl3, hl4⟩ := hmat
    have HMM := Lib.hid hl4
    clear hcs hl4
    go_wp2
    go_loopg [5, 6, 7] cs.length (fun g s5 s6 s wr => ∃ (r n : Nat) (sb : Bool), r ≤ cs.length ∧ g = cs.length - r ∧ s = .int .i64 r ∧ s5 = .bool sb ∧ s6 = .int .i64 n ∧ n = sumL ((cs.take r).map List.length) ∧ Below w4.heap.size w4 wr ∧ Some1 G Z cs r 0 sb)
    case atStart =>
      go_light
      refine ⟨0, 0, false, Nat.zero_le _, rfl, rfl, rfl, rfl, rfl, Below.refl _ _, (fun q => by cases q), ?_⟩
      rintro ⟨x, ⟨q, h1, _⟩ | ⟨q, h1, _⟩, _⟩ <;> exact absurd h1 (Nat.not_lt_zero _)
    case round =>
      obtain ⟨r, n, sb, hr, rfl, rfl, rfl, rfl, hn, hbr, hso⟩ := hrel
      have HN := Lib.hid hn
      have HSO := Lib.hid hso
      have HBR := Lib.hid hbr
      clear hn hso hbr
      by_cases hrn : r < cs.length
      · have hrz : (r : Int) < (cs.length : Int) := by omega
        obtain rfl := hl3 (by omega)
        obtain ⟨u1, u2, u3, u4, u5⟩ := HMM.out r hrn
        obtain ⟨cr, hcr⟩ : ∃ cr, cr = cs.getD r [] := ⟨_, rfl⟩
        obtain ⟨cl, hcl⟩ : ∃ cl, cl = cr.length := ⟨_, rfl⟩
        rw [← hcr, ← hcl] at u1 u2 u4 u5
        have hsum := sum_take cs r hrn
        have hsum2 := sum_take_le cs (r + 1)
        have hsum3 := comps_sum G Z
        rw [← HCS.out] at hsum3
        rw [← HN.out, ← hcr, ← hcl] at hsum
        have hncl : n + cl ≤ 12 := by omega
        have HSUM := Lib.hid hsum
        have HCR := Lib.hid hcr
        have HCL := Lib.hid hcl
        have U5 := Lib.hid u5
        have U4 := Lib.hid u4
        have U1 := Lib.hid u1
        have v1 := keepc HBR.out u1
        clear hsum hsum2 hsum3 hcr hcl u1 u4 u5
        obtain ⟨wo, hwo⟩ : ∃ wo : World, wo = wr := ⟨_, rfl⟩
        subst hwo
        go_wp2
        go_loopg [5, 6, 8] cl (fun g s5 s6 s8 wr => ∃ (k n2 : Nat) (sb2 : Bool), k ≤ cl ∧ g = cl - k ∧ s8 = .int .i64 k ∧ s5 = .bool sb2 ∧ s6 = .int .i64 n2 ∧ n2 = n + k ∧ Below w4.heap.size w4 wr ∧ Some1 G Z cs r k sb2)
        case atStart => go_light; exact ⟨0, n, sb, Nat.zero_le _, rfl, rfl, rfl, rfl, rfl, HBR.out, HSO.out⟩
        case round =>
          obtain ⟨k, n2, sb2, hk, rfl, rfl, rfl, rfl, hn2, hbi, hs2⟩ := hrel
          have HN2 := Lib.hid hn2
          have HS2 := Lib.hid hs2
          have HBI := Lib.hid hbi
          have hn12 : n2 ≤ 12 := by omega
          have v2 := keepc hbi U1.out
          clear hn2 hs2 hbi v1
          by_cases hkc : k < cl
          · have hkz : (k : Int) < (cl : Int) := by omega
            have hma := U4.out (by omega)
            rw [hma] at v2
            have helem := comp_elem (G := G) (Z := Z) (r := r) (k := k) (by rw [← HCS.out]; exact hrn) (by rw [← HCS.out, ← HCR.out, ← HCL.out]; exact hkc)
            obtain ⟨e, he1, he2, he3, he4⟩ := helem
            rw [← HCS.out] at he1 he2 he4
            rw [← HCR.out] at he2 he4
            rw [← HCL.out] at he4
            have v3 := keepc HBI.out (U5.out k hkc)
            rw [he2] at v3
            have hBW := Lib.hid (HB4.out.trans (HBI.out.mono HB4.out.size))
            obtain ⟨t1, t2, t3, t4, t5⟩ := HR.out _ hBW.out e he3
            have x6 := t5 e he3
            have heL : (e : Int) < (L e : Int) := by omega
            have hez : (e : Int) < (G : Int) := by omega
            have x7 := keepc HBI.out (HC4.out.cell he3)
            obtain ⟨zz, hzz⟩ : ∃ zz, zz = Z e e := ⟨_, rfl⟩
            obtain ⟨cb, hcb⟩ : ∃ cb, cb = cB G Z e := ⟨_, rfl⟩
            rw [← hzz] at x6
            rw [← hcb] at x7
            rw [← hzz, ← hcb] at he4
            have HE1 := Lib.hid he1
            have HCB := Lib.hid hcb
            have hcase : (cb = true ∧ (1 : Int) < (cl : Int)) ∨ (cb = true ∧ ¬ (1 : Int) < (cl : Int) ∧ (0 : Int) < zz) ∨ (cb = false ∧ ¬ (1 : Int) < (cl : Int) ∧ ¬ (0 : Int) < zz) := by
              cases cb
              · refine .inr (.inr ⟨rfl, fun q => ?_, fun q => ?_⟩)
                · have := he4.2 (.inl (by omega)); cases this
                · have := he4.2 (.inr q); cases this
              · rcases he4.1 rfl with q | q
                · exact .inl ⟨rfl, by omega⟩
                · by_cases q2 : (1 : Int) < (cl : Int)
                  · exact .inl ⟨rfl, q2⟩
                  · exact .inr (.inl ⟨rfl, q2, q⟩)
            clear t4 t5 he1 he2 he4 hzz hcb hma
            have hd1 : decide ((e : Int) < 0) = false := by simp
            have hd2 : decide ((G : Int) ≤ (e : Int)) = false := by simp; omega
            have hd3 : decide (G ≤ e) = false := by simp; omega
            have hcase2 : (cb = true ∧ decide ((1 : Int) < (cl : Int)) = true ∧ decide (1 < cl) = true) ∨ (cb = true ∧ decide ((1 : Int) < (cl : Int)) = false ∧ decide (1 < cl) = false ∧ decide ((0 : Int) < zz) = true) ∨ (cb = false ∧ decide ((1 : Int) < (cl : Int)) = false ∧ decide (1 < cl) = false ∧ decide ((0 : Int) < zz) = false) := by
              rcases hcase with ⟨h1, h2⟩ | ⟨h1, h2, h3⟩ | ⟨h1, h2, h3⟩
              · exact .inl ⟨h1, by simp; omega, by simp; omega⟩
              · exact .inr (.inl ⟨h1, by simp; omega, by simp; omega, by simp; omega⟩)
              · exact .inr (.inr ⟨h1, by simp; omega, by simp; omega, by simp; omega⟩)
            clear hcase
            rcases hcase2 with ⟨rfl, hc1, hc1n⟩ | ⟨rfl, hc1, hc1n, hc2⟩ | ⟨rfl, hc1, hc1n, hc2⟩
            all_goals
              cases sb2
              all_goals
                go_wp2
                go_quiet (fail)
                go_wp2
                go_roundg (cl - (k + 1))
                case measure => go_light; omega
                case rel =>
                  go_light
                  have hst := HS2.out.step HE1.out
                  rw [← HCB.out] at hst
                  exact ⟨k + 1, n2 + 1, _, by omega, rfl, by simp, rfl, by simp, by have := HN2.out; omega, below_drewN HBI.out _, hst⟩
          · have hkz : ¬ (k : Int) < (cl : Int) := by omega
            obtain rfl : k = cl := by omega
            go_wp2
            go_roundg (cs.length - (r + 1))
            case measure => go_light; omega
            case rel =>
              go_light
              refine ⟨r + 1, n2, sb2, by omega, rfl, by simp, rfl, rfl, by rw [HSUM.out]; exact HN2.out, HBI.out, ?_⟩
              have hs := HS2.out
              rw [HCL.out, HCR.out] at hs
              exact hs.next
      · have hrz : ¬ (r : Int) < (cs.length : Int) := by omega
        obtain rfl : r = cs.length := by omega
        have hnG : n = G := by rw [HN.out, List.take_length, HCS.out]; exact comps_sum G Z
        have hnn : ((n : Int) != (G : Int)) = false := by rw [hnG]; simp
        have hnn2 : (n != G) = false := by rw [hnG]; simp
        have hsb := HSO.out
        rw [HCS.out] at hsb
        have HSB := Lib.hid hsb.done
        clear hsb HSO hnG
        have hBW := Lib.hid (HB4.out.trans (HBR.out.mono HB4.out.size))
        go_wp2_with fail
        refine (order_yes HV.out (HM.out.below hBW.out)).mono ?_
        rintro e w5 ⟨ov, er, l, rfl, hb5, hord, hcs5⟩
        have HB5 := Lib.hid (bt hBW.out hb5)
        have HORD := Lib.hid hord
        have hsz5 := (bt hBW.out hb5).size
        clear hb5 hord
        rcases hcs5 with ⟨rfl, hlen, hrow⟩ | ⟨rfl, hlen, hst, rfl⟩
        · have hsb : sb = false := by
            cases sb
            · rfl
            · obtain ⟨e, he, hc⟩ := HSB.out.1 rfl
              have := ord_acyclic l HORD.out e (ord_full HORD.out hlen he)
              rw [this] at hc; cases hc
          subst hsb
          obtain ⟨oa, ob, oo, oc, rfl, q1, q2, q3, q4⟩ := hrow
          obtain rfl := q3 (by omega)
          have HLEN := Lib.hid hlen
          have HOR := Lib.hid q4
          have HR0 := Lib.hid (World.rowIs_made w5 (.bool false) G 4)
          have HB6 := Lib.hid (HB5.out.alloc hsz5 (.cells (madeCells #[.bool false] G) 4))
          have hkeep : Below w5.heap.size w5 (w5.alloc (.cells (madeCells #[.bool false] G) 4)) := (Below.refl _ _).alloc (Nat.le_refl _) _
          have HK0 := Lib.hid hkeep
          clear hlen q3 q4 HSB hkeep
          go_wp2
          clear hmake
          go_loopg [13] G (fun g s wr => ∃ i : Nat, i ≤ G ∧ g = G - i ∧ s = .int .i64 i ∧ Below w5.heap.size w5 wr ∧ wr.rowIs w5.heap.size 4 G (fun j => .bool (has (l.drop (G - i)) j)))
          case atStart =>
            go_light
            refine ⟨0, Nat.zero_le _, rfl, rfl, HK0.out, HR0.out.congr fun j _ => ?_⟩
            have : l.drop (G - 0) = [] := List.drop_eq_nil_of_le (by rw [HLEN.out]; omega)
            rw [this]
            rfl
          case round =>
            obtain ⟨i, hi, rfl, rfl, hbi, hpl⟩ := hrel
            have HBI := Lib.hid hbi
            have HPL := Lib.hid hpl
            clear hbi hpl HK0 HR0
            by_cases hiG : i < G
            · have hiz : (i : Int) < (G : Int) := by omega
              obtain ⟨hpick, hdrop⟩ := ord_at HORD.out HLEN.out hiG
              obtain ⟨e, he⟩ : ∃ e, e = l.reverse.getD i 0 := ⟨_, rfl⟩
              have x1 := keepc HBI.out (HOR.out i hiG)
              rw [← he] at x1 hpick hdrop
              have heG := hpick.lt
              have hnew := hpick.new
              have HPK := Lib.hid hpick
              have HDR := Lib.hid hdrop
              have x2 := HPL.out.cell heG
              have x3 := HPL.out.frozen e
              rw [hnew] at x2
              have hez : (e : Int) < (G : Int) := by omega
              have hd1 : decide ((e : Int) < 0) = false := by simp
              have hd2 : decide ((G : Int) ≤ (e : Int)) = false := by simp; omega
              have hd3 : decide (G ≤ e) = false := by simp; omega
              have HBW2 := Lib.hid (HB5.out.trans (HBI.out.mono hsz5))
              clear he hpick hdrop hnew
              obtain ⟨wo, hwo⟩ : ∃ wo : World, wo = wr := ⟨_, rfl⟩
              subst hwo
              go_wp2
              go_loopg [15] G (fun g s wr => ∃ h : Nat, h ≤ G ∧ g = G - h ∧ s = .int .i64 h ∧ wr = wo)
              case atStart => go_light; exact ⟨0, Nat.zero_le _, rfl, rfl, rfl⟩
              case round =>
                obtain ⟨h, hh, rfl, rfl, rfl⟩ := hrel
                by_cases hhG : h < G
                · have hhz : (h : Int) < (G : Int) := by omega
                  obtain ⟨t1, t2, t3, t4, t5⟩ := HR.out _ HBW2.out h hhG
                  have y1 := t5 e heG
                  have heL : (e : Int) < (L h : Int) := by omega
                  have y2 := HPL.out.cell hhG
                  have hfree := HPK.out.free h hhG
                  obtain ⟨zz, hzz⟩ : ∃ zz, zz = Z h e := ⟨_, rfl⟩
                  rw [← hzz] at y1 hfree
                  clear t4 t5 hzz
                  by_cases hz0 : 0 < zz
                  · have hp : has (l.drop (G - i)) h = true := by
                      rcases hfree with q | q
                      · omega
                      · exact q
                    rw [hp] at y2
                    clear hfree hp
                    go_wp2
                    go_roundg (G - (h + 1))
                    case measure => go_light; omega
                    case rel => go_light; exact ⟨h + 1, by omega, rfl, by simp, rfl⟩
                  · clear hfree
                    go_wp2
                    go_roundg (G - (h + 1))
                    case measure => go_light; omega
                    case rel => go_light; exact ⟨h + 1, by omega, rfl, by simp, rfl⟩
                · have hhz : ¬ (h : Int) < (G : Int) := by omega
                  go_wp2
                  go_roundg (G - (i + 1))
                  case measure => go_light; omega
                  case rel =>
                    go_light
                    refine ⟨i + 1, by omega, rfl, by simp, HBI.out.setCell (Nat.le_refl _) _, (HPL.out.set e _).congr fun j _ => ?_⟩
                    rw [HDR.out, has_cons]
                    by_cases e1 : j = e <;> simp [e1]
            · have hiz : ¬ (i : Int) < (G : Int) := by omega
              go_wp2
              go_ret
              exact ⟨rfl, HB5.out.trans (HBI.out.mono hsz5)⟩
        · have hsb : sb = true := by
            obtain ⟨e, he, hc⟩ := stuck_cyclic G4.out hlen hst
            exact HSB.out.2 ⟨e, he, hc⟩
          subst hsb
          clear hst HSB
          go_wp2
          clear hmake
          go_loopg [13] 0 (fun g s wr => g = 0 ∧ s = .int .i64 0 ∧ Below w5.heap.size w5 wr)
          case atStart => go_light; exact ⟨rfl, rfl, (Below.refl _ _).alloc (Nat.le_refl _) _⟩
          case round =>
            obtain ⟨rfl, rfl, hbi⟩ := hrel
            go_wp2
            go_ret
            exact ⟨rfl, HB5.out.trans (hbi.mono hsz5)⟩
  · have HM := Lib.hid h
    have HV := Lib.hid hv
    obtain ⟨a, c, rfl, hG⟩ := h.shape
    clear h hv
    go_enter Try.func9, Try.ntmps9
    go_wp2_with fail
    refine (awake_any _).mono ?_
    rintro e w1 ⟨rfl, hb1⟩
    have hm1 := Lib.hid (HM.out.below hb1)
    have HB1 := Lib.hid hb1
    clear hb1
    go_wp2_with fail
    refine (refValid_any (vb_false HV.out) hm1.out).mono ?_
    rintro e w2 ⟨rfl, hb2⟩
    go_wp2
    go_ret
    exact ⟨rfl, bt HB1.out hb2⟩
end
end Go.Proofs.Ytnkdcmloehandaa
