import Derived.Test.YteionhenpehogaaGreatDoorAwakeZ
import Derived.Laws.OwnMore
import Derived.Deep.AppendLies
namespace Go.Proofs.YteionhenpehogaaGreatDoor
open Go.RowKit Tally Graph.Plain
def bl (q : Nat → Bool) (G : Nat) : List Value := (List.range G).map fun i => Value.bool (q i)
theorem bl_len (q : Nat → Bool) (G : Nat) : (bl q G).length = G := by simp [bl]
theorem bl_get {q : Nat → Bool} {G i : Nat} (h : i < G) : (bl q G)[i]? = some (.bool (q i)) := by simp [bl, h]
theorem bl_set {q : Nat → Bool} {G e : Nat} (x : Bool) : (bl q G).set e (.bool x) = bl (fun i => if i = e then x else q i) G := by
 apply List.ext_getElem?
 intro j
 by_cases hj : j < G
 ·by_cases he : e = j
  ·subst he
   rw [List.getElem?_set_self (by rw [bl_len]; exact hj), bl_get hj, if_pos rfl]
  ·rw [List.getElem?_set_ne he, bl_get hj, bl_get hj, if_neg (Ne.symm he)]
 ·rw [List.getElem?_eq_none (by simp [bl_len]; omega), List.getElem?_eq_none (by rw [bl_len]; omega)]
theorem bl_one (q : Nat → Bool) (G : Nat) : ∀ u ∈ bl q G, u.oneCell' = true := by
 intro u hu
 simp only [bl, List.mem_map] at hu
 obtain ⟨i, _, rfl⟩ := hu
 rfl
theorem bl_get' {q : Nat → Bool} {G i : Nat} {u : Value} (h : (bl q G)[i]? = some u) : i < G ∧ u = .bool (q i) := by
 by_cases hi : i < G
 ·rw [bl_get hi] at h; exact ⟨hi, (Option.some.inj h).symm⟩
 ·rw [List.getElem?_eq_none (by rw [bl_len]; omega)] at h; cases h
theorem add_plain' (b o i : Nat) : (⟨b, o, none⟩ : Addr).add i = ⟨b, o + i, none⟩ := by simp [Addr.add]
theorem setB_eq (q : Nat → Bool) (e : Nat) : (fun i => if i = e then true else q i) = setB q e := rfl
theorem stepE_zero {Z : Nat → Nat → Int} {h e : Nat} {o : Nat → Bool} (hz : h = 0 ∨ e = 0) : stepE (inner Z) h e o = o := by
 unfold stepE inner
 rw [if_pos hz, if_neg (fun q => absurd q.2 (by decide))]
theorem sweepE_zero {Z : Nat → Nat → Int} {o : Nat → Bool} : ∀ e, sweepE (inner Z) 0 o e = o
 | 0 => rfl
 | e + 1 => by unfold sweepE; rw [sweepE_zero e]; exact stepE_zero (.inl rfl)
theorem sweepE_one {Z : Nat → Nat → Int} {h : Nat} {o : Nat → Bool} : sweepE (inner Z) h o 1 = o := stepE_zero (.inr rfl)
theorem sweepH_one {n : Nat} {Z : Nat → Nat → Int} {o : Nat → Bool} : sweepH n (inner Z) o 1 = o := sweepE_zero n
theorem stepE_yes {Z : Nat → Nat → Int} {h e : Nat} {o : Nat → Bool} (h1 : 1 ≤ h) (e1 : 1 ≤ e) (ho : o h = true) (hz : 0 < Z h e) : stepE (inner Z) h e o = setB o e := by
 unfold stepE; rw [if_pos ⟨ho, by rw [inner_pos h1 e1]; exact hz⟩]
theorem stepE_no {Z : Nat → Nat → Int} {h e : Nat} {o : Nat → Bool} (h1 : 1 ≤ h) (e1 : 1 ≤ e) (hz : ¬ 0 < Z h e) : stepE (inner Z) h e o = o := by
 unfold stepE; rw [if_neg (fun q => hz (by have := q.2; rw [inner_pos h1 e1] at this; exact this))]
theorem stepE_not {Z : Nat → Nat → Int} {h e : Nat} {o : Nat → Bool} (ho : o h = false) : stepE (inner Z) h e o = o := by
 unfold stepE; rw [if_neg (fun q => by rw [ho] at q; exact absurd q.1 (by decide))]
set_option maxRecDepth 100000 in
set_option maxHeartbeats 8000000 in
theorem rchains_any {w : World} {v u : Value} {G : Nat} {Z : Nat → Nat → Int} {o0 : Nat → Bool} (h : MatZ w v G G Z) (hu : RowR w u G fun e => .bool (o0 e)) (hG1 : 1 ≤ G) (hG2 : G ≤ 12) :
  Calls Tryz.prog 106 #[v, u] w fun en w' => ∃ (g c : Nat) (r : Nat → Bool), en = .returned (.slice (some ⟨g, 0, none⟩) G c) ∧ RowR w' (.slice (some ⟨g, 0, none⟩) G c) G (fun e => .bool (r e)) ∧ IsReach G (inner Z) (fun a => o0 a = true) r ∧ Below w.heap.size w w' := by
 obtain ⟨am, _, _, cm, rfl, _⟩ := id h
 obtain ⟨bm, om, rfl, hml⟩ := h.look (by omega)
 obtain ⟨a2, b2, o2, c2, rfl, l2, m2, s2, r2⟩ := hu
 obtain rfl := s2 (by omega)
 obtain ⟨i0, hi, hz0, hz1, hz2⟩ := info_parts infoB
 have HML := Lib.hid hml
 have R2 := Lib.hid r2
 clear r2 hml h
 go_enter Tryz.func106, Tryz.ntmps106
 go_wp2_with (at_builtin; refine wpList_append_lies _ rfl _ _ 41 rfl w.heap.size 4 i0 (.bool false) 1 1 Tryz.underlying41 hi hz0 hz1 hz2 rfl (by decide) _ _ _ rfl (World.ownsRow_lit w #[] 0 (Nat.le_refl _) (by decide) rfl) ⟨b2, o2, none⟩ G c2 (bl o0 G) rfl (by rw [bl_len, Nat.mul_one]) (fun j u hj => by obtain ⟨hj1, rfl⟩ := bl_get' hj; rw [add_plain']; exact keepc (Below.alloc (Below.refl _ _) (Nat.le_refl _) _) (R2.out j hj1)) (bl_one _ _) (by omega) (by unfold maxLen; omega) (by omega) (by simp) (w.heap.size + 1) (by simp) ?_; intro g cap w1 hown1 hg1 hgg hgl)
 have HO1 := Lib.hid (show w1.ownsRow w.heap.size 4 1 (.slice (some ⟨g, 0, none⟩) G cap) G (bl (sweeps G (inner Z) o0 0) G) from (show w1.ownsRow w.heap.size 4 1 (.slice (some ⟨g, 0, none⟩) G cap) G (bl o0 G) from by simpa using hown1))
 have HB1 := Lib.hid (show Below w.heap.size w w1 from (Below.alloc (Below.refl w.heap.size w) (Nat.le_refl _) _).grown hg1 (by simp) (fun j hj => by
   have hj1 : (Value.slice (some ⟨w.heap.size, 0, none⟩) 0 0).ownBlock = some j := hj
   have hj2 : w.heap.size = j := by simpa [Value.ownBlock] using hj1
   omega))
 have hgb : w.heap.size ≤ g := by
  rcases hgg with e | e
  ·have e1 : (Value.slice (some ⟨w.heap.size, 0, none⟩) 0 0).ownBlock = some g := e
   have e2 : w.heap.size = g := by simpa [Value.ownBlock] using e1
   omega
  ·omega
 have hcap : G ≤ cap ∧ cap ≤ 9223372036854775807 := by
  rcases HO1.out.2 with ⟨e, _⟩ | ⟨g', cap', cur, e, _, _, q1, q2, _⟩
  ·cases e
  ·cases e; exact ⟨q1, by simpa [maxLen] using q2⟩
 clear hown1 hg1 hgg hgl
 try rw [Nat.zero_add]
 go_loopw [6] (fun i wr => ∃ s : Nat, s ≤ G ∧ i = .int .i64 s ∧ wr.ownsRow w.heap.size 4 1 (.slice (some ⟨g, 0, none⟩) G cap) G (bl (sweeps G (inner Z) o0 s) G) ∧ Below w.heap.size w wr) (fun i _ => G - (RowKit.intOf i).toNat)
 case atStart => exact ⟨0, Nat.zero_le _, rfl, HO1.out, HB1.out⟩
 case round =>
  clear HO1 HB1
  obtain ⟨s, hs, rfl, hown, hb⟩ := hrel
  have HO := Lib.hid hown
  have HB := Lib.hid hb
  clear hown hb
  by_cases hsG : s < G
  case neg =>
   obtain rfl : s = G := by omega
   go_wp2
   go_ret
   exact ⟨g, cap, _, rfl, ⟨_, g, 0, cap, rfl, hcap.1, hcap.2, fun _ => rfl, fun i hi => by rw [Nat.zero_add, HO.out.cellAt i (by omega), bl_get hi]⟩, sweeps_reach, HB.out⟩
  have hsi : (s : Int) < (G : Int) := by omega
  have HO2 := Lib.hid (show wr.ownsRow w.heap.size 4 1 (.slice (some ⟨g, 0, none⟩) G cap) G (bl (sweepH G (inner Z) (sweeps G (inner Z) o0 s) 1) G) from by rw [sweepH_one]; exact HO.out)
  clear HO
  go_wp2_with fail
  go_loopw [7] (fun i wr => ∃ h : Nat, 1 ≤ h ∧ h ≤ G ∧ i = .int .i64 h ∧ wr.ownsRow w.heap.size 4 1 (.slice (some ⟨g, 0, none⟩) G cap) G (bl (sweepH G (inner Z) (sweeps G (inner Z) o0 s) h) G) ∧ Below w.heap.size w wr) (fun i _ => G - (RowKit.intOf i).toNat)
  case atStart => exact ⟨1, Nat.le_refl _, hG1, rfl, HO2.out, HB.out⟩
  case round =>
   clear HO2 HB
   obtain ⟨h, hh1, hh, rfl, hown, hb⟩ := hrel
   have HO := Lib.hid hown
   have HB := Lib.hid hb
   clear hown hb
   by_cases hhG : h < G
   case neg =>
    obtain rfl : h = G := by omega
    go_wp2
    go_roundw
    case rel => exact ⟨s + 1, by omega, by go_num, HO.out, HB.out⟩
    case measure => simp [RowKit.intOf]; omega
   have hhi : (h : Int) < (G : Int) := by omega
   obtain ⟨O, hO⟩ : ∃ O, sweepH G (inner Z) (sweeps G (inner Z) o0 s) h = O := ⟨_, rfl⟩
   rw [hO] at HO
   have HOE := Lib.hid hO
   clear hO
   have HO2 := Lib.hid (show wr.ownsRow w.heap.size 4 1 (.slice (some ⟨g, 0, none⟩) G cap) G (bl (sweepE (inner Z) h O 1) G) from by rw [sweepE_one]; exact HO.out)
   clear HO
   go_wp2_with fail
   go_loopw [8] (fun i wr => ∃ e : Nat, 1 ≤ e ∧ e ≤ G ∧ i = .int .i64 e ∧ wr.ownsRow w.heap.size 4 1 (.slice (some ⟨g, 0, none⟩) G cap) G (bl (sweepE (inner Z) h O e) G) ∧ Below w.heap.size w wr) (fun i _ => G - (RowKit.intOf i).toNat)
   case atStart => exact ⟨1, Nat.le_refl _, hG1, rfl, HO2.out, HB.out⟩
   case round =>
    clear HO2 HB
    obtain ⟨e, he1, he, rfl, hown, hb⟩ := hrel
    have HO := Lib.hid hown
    have HB := Lib.hid hb
    clear hown hb
    by_cases heG : e < G
    case neg =>
     obtain rfl : e = G := by omega
     have HO3 := Lib.hid (show wr.ownsRow w.heap.size 4 1 (.slice (some ⟨g, 0, none⟩) e cap) e (bl (sweepH e (inner Z) (sweeps e (inner Z) o0 s) (h + 1)) e) from by
      show wr.ownsRow _ _ _ _ _ (bl (sweepE (inner Z) h (sweepH e (inner Z) (sweeps e (inner Z) o0 s) h) e) e)
      rw [HOE.out]; exact HO.out)
     go_wp2
     go_roundw
     case rel => exact ⟨h + 1, by omega, by omega, by go_num, HO3.out, HB.out⟩
     case measure => simp [RowKit.intOf]; omega
    have hei : (e : Int) < (G : Int) := by omega
    have y1 := HO.out.cellAt h (by omega)
    rw [bl_get hhG] at y1
    obtain ⟨b', o', c', x1, x2⟩ := HML.out h e hhG heG
    replace x1 := keepc HB.out x1
    replace x2 := keepc HB.out x2
    cases q : sweepE (inner Z) h O e h
    ·rw [q] at y1
     have HE := Lib.hid (show sweepE (inner Z) h O (e + 1) = sweepE (inner Z) h O e from stepE_not q)
     clear q
     go_wp2
     go_roundw
     case rel => exact ⟨e + 1, by omega, by omega, by go_num, by rw [HE.out]; exact HO.out, HB.out⟩
     case measure => simp [RowKit.intOf]; omega
    rw [q] at y1
    by_cases hz : 0 < Z h e
    ·have HE := Lib.hid (show sweepE (inner Z) h O (e + 1) = setB (sweepE (inner Z) h O e) e from stepE_yes hh1 he1 q hz)
     have y2 := HO.out.frozenAt e
     have y3 := HO.out.cellAt e (by omega)
     rw [bl_get heG] at y3
     obtain ⟨k1, k2⟩ := HO.out.stored e (.bool true)
     rw [bl_set, setB_eq, ← HE.out] at k1
     have HK := Lib.hid k1
     have HKB := Lib.hid (show Below w.heap.size w (wr.setCell ⟨g, e, none⟩ (.bool true)) from HB.out.setCell hgb _)
     clear q k1 k2
     go_wp2
     go_roundw
     case rel => exact ⟨e + 1, by omega, by omega, by go_num, HK.out, HKB.out⟩
     case measure => simp [RowKit.intOf]; omega
    ·have HE := Lib.hid (show sweepE (inner Z) h O (e + 1) = sweepE (inner Z) h O e from stepE_no hh1 he1 hz)
     clear q
     go_wp2
     go_roundw
     case rel => exact ⟨e + 1, by omega, by omega, by go_num, by rw [HE.out]; exact HO.out, HB.out⟩
     case measure => simp [RowKit.intOf]; omega
def whF (G : Nat) (Z : Nat → Nat → Int) (s : Nat) : Nat → Bool := clr (sweepsC G (inner Z) (fun _ => true) s) 0
theorem hold_zero {G : Nat} {Z : Nat → Nat → Int} {o : Nat → Bool} : ∀ n, Graph.Plain.sumTo (fun h => if o h = true then inner Z h 0 else 0) n = 0
 | 0 => rfl
 | n + 1 => by
  show Graph.Plain.sumTo _ n + _ = 0
  rw [hold_zero (G := G) n]
  show (0 : Int) + (if o n = true then inner Z n 0 else 0) = 0
  unfold inner
  by_cases q : o n = true
  ·rw [if_pos q, if_pos (.inr rfl)]; rfl
  ·rw [if_neg q]; rfl
theorem sweepC_one {G : Nat} {Z : Nat → Nat → Int} {o : Nat → Bool} : sweepC G (inner Z) o 1 = clr o 0 := by
 show stepC G (inner Z) 0 o = _
 unfold stepC
 rw [if_pos (by unfold hold; rw [hold_zero (G := G) G]; decide)]
theorem whF_start {G : Nat} {Z : Nat → Nat → Int} {s : Nat} : sweepC G (inner Z) (sweepsC G (inner Z) (fun _ => true) s) 1 = whF G Z s := sweepC_one
theorem whF_zero {G : Nat} {Z : Nat → Nat → Int} {i : Nat} : whF G Z 0 i = decide (1 ≤ i) := by
 show (if i = 0 then false else true) = _
 by_cases e : i = 0
 ·subst e; rfl
 ·rw [if_neg e, decide_eq_true (by omega)]
theorem sweepC_clr {G : Nat} {Z : Nat → Nat → Int} {o : Nat → Bool} : ∀ e, 1 ≤ e → sweepC G (inner Z) o e 0 = false
 | 1, _ => by rw [sweepC_one]; rfl
 | e + 2, _ => by
  have ih := sweepC_clr (G := G) (Z := Z) (o := o) (e + 1) (by omega)
  cases h : sweepC G (inner Z) o (e + 2) 0
  ·rfl
  ·have := stepC_le (show stepC G (inner Z) (e + 1) (sweepC G (inner Z) o (e + 1)) 0 = true from h)
   rw [ih] at this; exact absurd this (by decide)
theorem whF_next {G : Nat} {Z : Nat → Nat → Int} {s : Nat} (hG : 1 ≤ G) : whF G Z (s + 1) = sweepC G (inner Z) (sweepsC G (inner Z) (fun _ => true) s) G := by
 funext i
 show (if i = 0 then false else sweepC G (inner Z) (sweepsC G (inner Z) (fun _ => true) s) G i) = _
 by_cases e : i = 0
 ·subst e; rw [if_pos rfl, sweepC_clr G hG]
 ·rw [if_neg e]
theorem whF_great {G : Nat} {Z : Nat → Nat → Int} (hG : 1 ≤ G) (hz : ∀ r c, r < G → c < G → 0 ≤ inner Z r c) (hc : ∀ c, c < G → Graph.Plain.sumTo (fun r => inner Z r c) G ≤ 10000) : Great G (inner Z) (whF G Z G) := by
 obtain ⟨g, rfl⟩ : ∃ g, G = g + 1 := ⟨G - 1, by omega⟩
 rw [whF_next hG]
 exact sweepsC_great hz hc
theorem stepC_yes {G : Nat} {Z : Nat → Nat → Int} {e : Nat} {o : Nat → Bool} (h : hold Z o e G < 10000) : stepC G Z e o = clr o e := if_pos h
theorem stepC_no {G : Nat} {Z : Nat → Nat → Int} {e : Nat} {o : Nat → Bool} (h : ¬ hold Z o e G < 10000) : stepC G Z e o = o := if_neg h
theorem gsum_one {Z : Nat → Nat → Int} {e : Nat} {o : Nat → Bool} : Graph.Plain.sumTo (fun h => if o h = true then inner Z h e else 0) 1 = 0 := by
 show (0 : Int) + (if o 0 = true then inner Z 0 e else 0) = 0
 unfold inner
 by_cases q : o 0 = true
 ·rw [if_pos q, if_pos (.inl rfl)]; rfl
 ·rw [if_neg q]; rfl
theorem gsum_yes {Z : Nat → Nat → Int} {e h : Nat} {o : Nat → Bool} (h1 : 1 ≤ h) (e1 : 1 ≤ e) (q : o h = true) : Graph.Plain.sumTo (fun h => if o h = true then inner Z h e else 0) (h + 1) = Graph.Plain.sumTo (fun h => if o h = true then inner Z h e else 0) h + Z h e := by
 show _ + (if o h = true then inner Z h e else 0) = _
 rw [if_pos q, inner_pos h1 e1]
theorem gsum_no {Z : Nat → Nat → Int} {e h : Nat} {o : Nat → Bool} (q : o h = false) : Graph.Plain.sumTo (fun h => if o h = true then inner Z h e else 0) (h + 1) = Graph.Plain.sumTo (fun h => if o h = true then inner Z h e else 0) h := by
 show _ + (if o h = true then inner Z h e else 0) = _
 rw [if_neg (by rw [q]; decide), Int.add_zero]
set_option maxRecDepth 100000 in
set_option maxHeartbeats 8000000 in
theorem rwholly_any {w : World} {v : Value} {G : Nat} {Z : Nat → Nat → Int} (h : MatZ w v G G Z) (hG1 : 1 ≤ G) (hG2 : G ≤ 12) (hz : ∀ i k, i < G → k < G → 0 ≤ Z i k ∧ Z i k ≤ 10000) (hc : ∀ c, c < G → Graph.Plain.sumTo (fun r => inner Z r c) G ≤ 10000) :
  Calls Tryz.prog 59 #[v] w fun en w' => ∃ (g c : Nat) (gg r : Nat → Bool), en = .returned (.slice (some ⟨g, 0, none⟩) G c) ∧ RowR w' (.slice (some ⟨g, 0, none⟩) G c) G (fun e => .bool (r e)) ∧ Great G (inner Z) gg ∧ IsReach G (inner Z) (fun a => gg a = true) r ∧ Below w.heap.size w w' := by
 obtain ⟨am, _, _, cm, rfl, _⟩ := id h
 have HMZ := Lib.hid h
 obtain ⟨bm, om, rfl, hml⟩ := h.look (by omega)
 have HML := Lib.hid hml
 have HZ := Lib.hid hz
 have HGR := Lib.hid (whF_great (Z := Z) hG1 (fun r c hr hc => by
  unfold inner
  by_cases q : r = 0 ∨ c = 0
  ·rw [if_pos q]; exact Int.le_refl _
  ·rw [if_neg q]; exact (hz r c hr hc).1) hc)
 have hmake := run_make_row' (P := Tryz.prog) 41 4 (.bool false) 1 Tryz.underlying41 infoB rfl .i64 .i64 G (by omega) (by omega)
 clear hml h hz hc
 go_enter Tryz.func59, Tryz.ntmps59
 go_wp2
 clear hmake
 have HR0 := Lib.hid (World.rowIs_made w (.bool false) G 4)
 have HB0 := Lib.hid ((Below.refl w.heap.size w).alloc (Nat.le_refl _) (.cells (madeCells #[.bool false] G) 4))
 go_loopw [4] (fun i wr => ∃ e : Nat, 1 ≤ e ∧ e ≤ G ∧ i = .int .i64 e ∧ wr.rowIs w.heap.size 4 G (fun j => .bool (decide (1 ≤ j ∧ j < e))) ∧ Below w.heap.size w wr) (fun i _ => G - (RowKit.intOf i).toNat)
 case atStart => exact ⟨1, Nat.le_refl _, hG1, rfl, HR0.out.congr (fun j _ => by rw [decide_eq_false (by omega)]), HB0.out⟩
 case round =>
  clear HR0 HB0
  obtain ⟨e, he1, he, rfl, hr, hb⟩ := hrel
  have HR := Lib.hid hr
  have HB := Lib.hid hb
  clear hr hb
  by_cases heG : e < G
  ·have hei : (e : Int) < (G : Int) := by omega
   have y1 := HR.out.cell heG
   have y2 := HR.out.frozen e
   have HR2 := Lib.hid ((HR.out.set e (.bool true)).congr (g := fun j => .bool (decide (1 ≤ j ∧ j < e + 1))) (fun j _ => by
    by_cases q : j = e
    ·subst q; rw [if_pos rfl, decide_eq_true (by omega)]
    ·rw [if_neg q]
     by_cases z : 1 ≤ j ∧ j < e
     ·rw [decide_eq_true z, decide_eq_true (by omega)]
     ·rw [decide_eq_false z, decide_eq_false (by omega)]))
   have HB2 := Lib.hid (HB.out.setCell (p := ⟨w.heap.size, e, none⟩) (Nat.le_refl _) (.bool true))
   go_wp2
   go_roundw
   case rel => exact ⟨e + 1, by omega, by omega, by go_num, HR2.out, HB2.out⟩
   case measure => simp [RowKit.intOf]; omega
  obtain rfl : e = G := by omega
  have HR2 := Lib.hid (HR.out.congr (g := fun j => .bool (whF e Z 0 j)) (fun j hj => by
   rw [whF_zero]
   by_cases z : 1 ≤ j
   ·rw [decide_eq_true z, decide_eq_true ⟨z, hj⟩]
   ·rw [decide_eq_false z, decide_eq_false (fun q => z q.1)]))
  clear HR
  go_wp2_with fail
  go_loopw [5] (fun i wr => ∃ s : Nat, s ≤ e ∧ i = .int .i64 s ∧ wr.rowIs w.heap.size 4 e (fun j => .bool (whF e Z s j)) ∧ Below w.heap.size w wr) (fun i _ => e - (RowKit.intOf i).toNat)
  case atStart => exact ⟨0, Nat.zero_le _, rfl, HR2.out, HB.out⟩
  case round =>
   clear HR2 HB
   obtain ⟨s, hs, rfl, hr, hb⟩ := hrel
   have HR := Lib.hid hr
   have HB := Lib.hid hb
   clear hr hb
   by_cases hse : s < e
   case neg =>
    obtain rfl : s = e := by omega
    have HRR := Lib.hid (show RowR wr (.slice (some ⟨w.heap.size, 0, none⟩) s s) s (fun j => .bool (whF s Z s j)) from ⟨_, w.heap.size, 0, s, rfl, Nat.le_refl _, by omega, fun _ => rfl, fun i hi => by rw [Nat.zero_add]; exact HR.out.cell hi⟩)
    go_wp2_with fail
    refine (rchains_any (HMZ.out.below HB.out) HRR.out hG1 hG2).mono ?_
    rintro en w2 ⟨g, c, r, rfl, hrr, hre, hb2⟩
    have H1 := Lib.hid hrr
    have H2 := Lib.hid hre
    have H3 := Lib.hid (bt HB.out hb2)
    clear hrr hre hb2
    go_wp2
    go_ret
    exact ⟨g, c, _, r, rfl, H1.out, HGR.out, H2.out, H3.out⟩
   have hsi : (s : Int) < (e : Int) := by omega
   obtain ⟨S, hS⟩ : ∃ S, sweepsC e (inner Z) (fun _ => true) s = S := ⟨_, rfl⟩
   have HR2 := Lib.hid (show wr.rowIs w.heap.size 4 e (fun j => .bool (sweepC e (inner Z) S 1 j)) from by rw [← hS, whF_start]; exact HR.out)
   have HSE := Lib.hid (show whF e Z (s + 1) = sweepC e (inner Z) S e from by rw [whF_next hG1, hS])
   clear HR hS
   go_wp2_with fail
   go_loopw [6] (fun i wr => ∃ x : Nat, 1 ≤ x ∧ x ≤ e ∧ i = .int .i64 x ∧ wr.rowIs w.heap.size 4 e (fun j => .bool (sweepC e (inner Z) S x j)) ∧ Below w.heap.size w wr) (fun i _ => e - (RowKit.intOf i).toNat)
   case atStart => exact ⟨1, Nat.le_refl _, hG1, rfl, HR2.out, HB.out⟩
   case round =>
    clear HR2 HB
    obtain ⟨x, hx1, hx, rfl, hr, hb⟩ := hrel
    have HR := Lib.hid hr
    have HB := Lib.hid hb
    clear hr hb
    by_cases hxe : x < e
    case neg =>
     obtain rfl : x = e := by omega
     have HR3 := Lib.hid (show wr.rowIs w.heap.size 4 x (fun j => .bool (whF x Z (s + 1) j)) from by rw [HSE.out]; exact HR.out)
     go_wp2
     go_roundw
     case rel => exact ⟨s + 1, by omega, by go_num, HR3.out, HB.out⟩
     case measure => simp [RowKit.intOf]; omega
    have hxi : (x : Int) < (e : Int) := by omega
    obtain ⟨O, hO⟩ : ∃ O, sweepC e (inner Z) S x = O := ⟨_, rfl⟩
    rw [hO] at HR
    have HOX := Lib.hid (show sweepC e (inner Z) S (x + 1) = stepC e (inner Z) x O from by rw [← hO]; rfl)
    clear hO
    go_wp2_with fail
    obtain ⟨wx, hwx⟩ : ∃ wx, wx = wr := ⟨_, rfl⟩
    subst hwx
    go_loopw [7, 8] (fun t i wr => ∃ (h : Nat) (sm : Int), 1 ≤ h ∧ h ≤ e ∧ i = .int .i64 h ∧ t = .int .i64 sm ∧ sm = Graph.Plain.sumTo (fun h => if O h = true then inner Z h x else 0) h ∧ 0 ≤ sm ∧ sm ≤ 10000 * h ∧ wr = wx) (fun _ i _ => e - (RowKit.intOf i).toNat)
    case atStart => exact ⟨1, 0, Nat.le_refl _, hG1, rfl, rfl, gsum_one.symm, Int.le_refl _, by decide, rfl⟩
    case round =>
     obtain ⟨h, sm, hh1, hh, rfl, rfl, hsm, hs0, hs1, rfl⟩ := hrel
     have HSM := Lib.hid hsm
     clear hsm
     by_cases hhe : h < e
     ·have hhi : (h : Int) < (e : Int) := by omega
      have y1 := HR.out.cell hhe
      obtain ⟨b', o', c', x1, x2⟩ := HML.out h x hhe hxe
      replace x1 := keepc HB.out x1
      replace x2 := keepc HB.out x2
      have hzr := HZ.out h x hhe hxe
      cases q : O h
      ·rw [q] at y1
       have HN := Lib.hid (show sm = Graph.Plain.sumTo (fun h => if O h = true then inner Z h x else 0) (h + 1) from by rw [gsum_no q]; exact HSM.out)
       clear q
       go_wp2
       go_roundw
       case rel => exact ⟨h + 1, sm, by omega, by omega, by go_num, rfl, HN.out, hs0, by omega, trivial⟩
       case measure => simp [RowKit.intOf]; omega
      ·rw [q] at y1
       have HN := Lib.hid (show sm + Z h x = Graph.Plain.sumTo (fun h => if O h = true then inner Z h x else 0) (h + 1) from by rw [gsum_yes hh1 hx1 q, ← HSM.out])
       clear q
       go_wp2
       go_roundw
       case rel => exact ⟨h + 1, _, by omega, by omega, by go_num, by go_num, HN.out, by omega, by omega, trivial⟩
       case measure => simp [RowKit.intOf]; omega
     obtain rfl : h = e := by omega
     by_cases hlt : sm < 10000
     ·have HST := Lib.hid (show sweepC h (inner Z) S (x + 1) = clr O x from by rw [HOX.out]; exact stepC_yes (by unfold hold; rw [← HSM.out]; exact hlt))
      have y2 := HR.out.frozen x
      have y3 := HR.out.cell hxe
      have HR2 := Lib.hid (show (wr.setCell ⟨w.heap.size, x, none⟩ (.bool false)).rowIs w.heap.size 4 h (fun j => .bool (sweepC h (inner Z) S (x + 1) j)) from (HR.out.set x (.bool false)).congr (fun j _ => by
       rw [HST.out]
       show _ = Value.bool (if j = x then false else O j)
       by_cases q : j = x
       ·rw [if_pos q, if_pos q]
       ·rw [if_neg q, if_neg q]))
      have HB2 := Lib.hid (HB.out.setCell (p := ⟨w.heap.size, x, none⟩) (Nat.le_refl _) (.bool false))
      go_wp2
      go_roundw
      case rel => exact ⟨x + 1, by omega, by omega, by go_num, HR2.out, HB2.out⟩
      case measure => simp [RowKit.intOf]; omega
     ·have HST := Lib.hid (show sweepC h (inner Z) S (x + 1) = O from by rw [HOX.out]; exact stepC_no (by unfold hold; rw [← HSM.out]; exact hlt))
      go_wp2
      go_roundw
      case rel => exact ⟨x + 1, by omega, by omega, by go_num, by rw [HST.out]; exact HR.out, HB.out⟩
      case measure => simp [RowKit.intOf]; omega
end Go.Proofs.YteionhenpehogaaGreatDoor
