/- The law IntegerParse answers true. -/
import Derived.Test.YtihjaakkpnjolaaDoorEqual
namespace Go.Proofs.YtihjaakkpnjolaaDoor
open Go.RowKit Tally Go.Lib

set_option maxHeartbeats 8000000 in
set_option maxRecDepth 100000 in
theorem lawIntegerParse {w : World} (s : ByteArray) (hs : s.size ≤ 9223372036854775807) (htab : Tab w) :
    Calls Tryd.prog 4 #[.string s] w (True1 w) := by
  have HT := Lib.hid htab
  clear htab
  by_cases hbig : 2500 < s.size
  · have hz : (2500 : Int) < (s.size : Int) := by omega
    go_enter Tryd.func4, Tryd.ntmps4
    go_wp2_with fail
    refine (awake_any HT.out).mono ?_
    rintro e w0 ⟨rfl, hb0⟩
    go_wp2
    go_ret
    exact ⟨rfl, hb0⟩
  · have hz : ¬ (2500 : Int) < (s.size : Int) := by omega
    have hsn : s.size ≤ 2500 := by omega
    have dg := dg_of hsn
    have hxs : pcode s.data.toList = 0 → (⟨(itoa (pval s.data.toList)).toArray⟩ : ByteArray) = s := fun h => by rw [itoa_pval h]
    have hp0 : pcode s.data.toList ≠ 0 → pval s.data.toList = 0 := fun h => by unfold pval; rw [if_neg h]
    have HXS := Lib.hid hxs
    have HP0 := Lib.hid hp0
    have PA := Lib.hid (fun W : World => parse_any (w := W) s hs)
    have RA := Lib.hid (fun W : World => rparse_any (w := W) s hs)
    clear hxs hp0
    generalize pval s.data.toList = z at *
    generalize pcode s.data.toList = c at *
    go_enter Tryd.func4, Tryd.ntmps4
    go_wp2_with fail
    refine (awake_any HT.out).mono ?_
    rintro e w0 ⟨rfl, hb0⟩
    have HB0 := Lib.hid hb0
    clear hb0
    go_wp2_with fail
    refine (PA.out w0).mono ?_
    rintro e w1 ⟨n1, a1, k1, c1, rfl, hu1, hb1⟩
    have HB1 := Lib.hid ((bt HB0.out hb1).alloc (bt HB0.out hb1).size (.cells #[.bool n1, .slice a1 k1 c1] 25))
    have HU1 := Lib.hid (hu1.below ((Below.refl w1.heap.size w1).alloc (Nat.le_refl _) (.cells #[.bool n1, .slice a1 k1 c1] 25)))
    have HC1 := Lib.hid (heap_alloc_new w1 (.cells #[.bool n1, .slice a1 k1 c1] 25))
    clear hu1 hb1
    go_wp2_with fail
    revert HB1 HU1 HC1
    generalize w1.alloc (.cells #[.bool n1, .slice a1 k1 c1] 25) = W1
    intro HB1 HU1 HC1
    refine (RA.out W1).mono ?_
    rintro e w2 ⟨n2, a2, k2, c2, rfl, hu2, hb2⟩
    have HB2 := Lib.hid ((bt HB1.out hb2).alloc (bt HB1.out hb2).size (.cells #[.bool n2, .slice a2 k2 c2] 28))
    have nx : Below w2.heap.size w2 (w2.alloc (.cells #[.bool n2, .slice a2 k2 c2] 28)) := (Below.refl w2.heap.size w2).alloc (Nat.le_refl _) _
    have HU2 := Lib.hid (hu2.below nx)
    have HU1b := Lib.hid (HU1.out.below (bt hb2 nx))
    have HC2 := Lib.hid (heap_alloc_new w2 (.cells #[.bool n2, .slice a2 k2 c2] 28))
    have HC1b := Lib.hid (blk_next HC1.out (bt hb2 nx))
    have q := HC1b.out
    obtain ⟨q0, q1, _, _⟩ := res_facts q
    clear hu2 hb2 nx q HC1 HU1
    by_cases hc : c = 0
    · subst hc
      have HX := Lib.hid (HXS.out rfl)
      go_wp2_with fail
      clear q0 q1
      revert HB2 HU2 HU1b HC2 HC1b
      generalize w2.alloc (.cells #[.bool n2, .slice a2 k2 c2] 28) = W
      intro HB2 HU2 HU1b HC2 HC1b
      have HL := Lib.hid (fun (w' : World) (hb : Below W.heap.size W w') => (⟨hb, (res_facts (blk_next HC1b.out hb)).1, (res_facts (blk_next HC1b.out hb)).2.1, (res_facts (blk_next HC2.out hb)).1, (res_facts (blk_next HC2.out hb)).2.1⟩ : Below W.heap.size W w' ∧ w'.cell? ⟨w1.heap.size, 0, none⟩ = some (.bool n1) ∧ w'.cell? ⟨w1.heap.size, 1, none⟩ = some (.slice a1 k1 c1) ∧ w'.cell? ⟨w2.heap.size, 0, none⟩ = some (.bool n2) ∧ w'.cell? ⟨w2.heap.size, 1, none⟩ = some (.slice a2 k2 c2)))
      have HI := Lib.hid (fun (w' : World) (hs : Below W.heap.size W w' ∧ w'.cell? ⟨w1.heap.size, 0, none⟩ = some (.bool n1) ∧ w'.cell? ⟨w1.heap.size, 1, none⟩ = some (.slice a1 k1 c1) ∧ w'.cell? ⟨w2.heap.size, 0, none⟩ = some (.bool n2) ∧ w'.cell? ⟨w2.heap.size, 1, none⟩ = some (.slice a2 k2 c2)) => HU1b.out.below hs.1)
      have HR := Lib.hid (fun (w' : World) (hs : Below W.heap.size W w' ∧ w'.cell? ⟨w1.heap.size, 0, none⟩ = some (.bool n1) ∧ w'.cell? ⟨w1.heap.size, 1, none⟩ = some (.slice a1 k1 c1) ∧ w'.cell? ⟨w2.heap.size, 0, none⟩ = some (.bool n2) ∧ w'.cell? ⟨w2.heap.size, 1, none⟩ = some (.slice a2 k2 c2)) => HU2.out.below hs.1)
      have HT0 := Lib.hid (fun (w' : World) (hs : Below W.heap.size W w' ∧ w'.cell? ⟨w1.heap.size, 0, none⟩ = some (.bool n1) ∧ w'.cell? ⟨w1.heap.size, 1, none⟩ = some (.slice a1 k1 c1) ∧ w'.cell? ⟨w2.heap.size, 0, none⟩ = some (.bool n2) ∧ w'.cell? ⟨w2.heap.size, 1, none⟩ = some (.slice a2 k2 c2)) => HT.out.below (bt HB2.out hs.1))
      go_region_held3 (fun w' => Below W.heap.size W w' ∧ w'.cell? ⟨w1.heap.size, 0, none⟩ = some (.bool n1) ∧ w'.cell? ⟨w1.heap.size, 1, none⟩ = some (.slice a1 k1 c1) ∧ w'.cell? ⟨w2.heap.size, 0, none⟩ = some (.bool n2) ∧ w'.cell? ⟨w2.heap.size, 1, none⟩ = some (.slice a2 k2 c2))
        (first | exact HL.out _ (Below.drew (Below.refl _ _)) | exact HL.out _ (bt (And.left (by assumption)) (by assumption)))
        (first | (go_at_call 24; (with_reducible refine (text_any (HI.out _ (by assumption)) (HT0.out _ (by assumption)) dg (by omega)).mono ?_); rintro e v1 ⟨rfl, hq1⟩; rw [HX.out]) | (go_at_call 18; (with_reducible refine (same_any (HI.out _ (by assumption)) (HR.out _ (by assumption)) (HT0.out _ (by assumption)) dg (by omega)).mono ?_); rintro e v2 ⟨rfl, hq2⟩) | (go_at_call 23; (with_reducible refine (sign_any (HI.out _ (by assumption))).mono ?_); rintro e v3 ⟨rfl, hq3⟩) | (go_at_call 25; (with_reducible refine (rsign_any (HR.out _ (by assumption))).mono ?_); rintro e v4 ⟨rfl, hq4⟩))
      go_wp2
      go_ret
      exact ⟨by simp, bt HB2.out (bt (bt (bt (bt (Below.drew (Below.refl _ _)) hq1) hq2) hq3) hq4)⟩
    · have hc1 : (c != 0) = true := by simp [hc]
      have HZ := Lib.hid (HP0.out hc)
      clear hc
      go_wp2_with fail
      refine (sign_any HU1b.out).mono ?_
      rintro e w3 ⟨rfl, hb3⟩
      rw [HZ.out, Int.sign_zero]
      go_wp2
      go_ret
      exact ⟨by simp, bt HB2.out hb3⟩
end Go.Proofs.YtihjaakkpnjolaaDoor
