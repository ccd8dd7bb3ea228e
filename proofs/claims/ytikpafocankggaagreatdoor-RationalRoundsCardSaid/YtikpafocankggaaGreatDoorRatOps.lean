/- The operations on numbers as one form each (a number comes back), and equal of layer 02. -/
import Derived.Test.YtikpafocankggaaGreatDoorRatBoth
import Derived.Test.YtikpafocankggaaGreatDoorRatLaw
import Derived.Test.YtikpafocankggaaGreatDoorLawProducts
namespace Go.Proofs.YtikpafocankggaaGreatDoor
open Go.RowKit Tally Go.Lib
theorem GivesP.r {w w' : World} {q : Rat} {e : Ending} (h : GivesP w q e w') : GivesR w q e w' := by
 obtain ⟨n1, a1, k1, c1, n2, a2, k2, c2, he, h1, h2, h3⟩ := h
 exact ⟨n1, a1, k1, c1, n2, a2, k2, c2, he, RatR.mk h1 h2 (.inl rfl), h3⟩
theorem rGivesP.r {w w' : World} {q : Rat} {e : Ending} (h : rGivesP w q e w') : rGivesR w q e w' := by
 obtain ⟨n1, a1, k1, c1, n2, a2, k2, c2, he, h1, h2, h3⟩ := h
 exact ⟨n1, a1, k1, c1, n2, a2, k2, c2, he, RRatR.mk h1 h2 (.inl rfl), h3⟩
section
variable {w : World} {v u : Value} {p q : Rat} {N : Nat}
theorem add_r (h : RatR w v p) (k : RatR w u q) (hp : Rg N p) (hq : Rg N q) (hN : 2 * N + 2 ≤ 999999999990) : Calls Tryz.prog 34 #[v, u] w (GivesR w (p + q)) := (ratadd_any h k hp hq hN).mono fun _ _ h => h.r
theorem sub_r (h : RatR w v p) (k : RatR w u q) (hp : Rg N p) (hq : Rg N q) (hN : 2 * N + 2 ≤ 999999999990) : Calls Tryz.prog 36 #[v, u] w (GivesR w (p - q)) := (ratsub_any h k hp hq hN).mono fun _ _ h => h.r
theorem mul_r (h : RatR w v p) (k : RatR w u q) (hp : Rg N p) (hq : Rg N q) (hN : 2 * N + 2 ≤ 999999999990) : Calls Tryz.prog 24 #[v, u] w (GivesR w (p * q)) := (ratmul_any h k hp hq hN).mono fun _ _ h => h.r
theorem radd_r (h : RRatR w v p) (k : RRatR w u q) (hp : Rg N p) (hq : Rg N q) (hN : 2 * N + 2 ≤ 999999999990) : Calls Tryz.prog 35 #[v, u] w (rGivesR w (p + q)) := (rratadd_any h k hp hq hN).mono fun _ _ h => h.r
theorem rsub_r (h : RRatR w v p) (k : RRatR w u q) (hp : Rg N p) (hq : Rg N q) (hN : 2 * N + 2 ≤ 999999999990) : Calls Tryz.prog 37 #[v, u] w (rGivesR w (p - q)) := (rratsub_any h k hp hq hN).mono fun _ _ h => h.r
theorem rmul_r (h : RRatR w v p) (k : RRatR w u q) (hp : Rg N p) (hq : Rg N q) (hN : 2 * N + 2 ≤ 999999999990) : Calls Tryz.prog 25 #[v, u] w (rGivesR w (p * q)) := (rratmul_any h k hp hq hN).mono fun _ _ h => h.r
theorem div_r (h : RatR w v p) (k : RatR w u q) (hp : Rg N p) (hq : Rg N q) (hN : 2 * N + 2 ≤ 999999999990) : Calls Tryz.prog 22 #[v, u] w (GivesRE w (p / q) (if q = 0 then 10 else 0)) := by
 by_cases h0 : q = 0
 ·subst h0
  rw [if_pos rfl, Rat.div_def, Rat.inv_zero, Rat.mul_zero]
  exact ratdiv_zero h k hp hN
 ·rw [if_neg h0]
  exact (ratdiv_any h k hp hq hN h0).mono fun _ _ h => h.plain
theorem rdiv_r (h : RRatR w v p) (k : RRatR w u q) (hp : Rg N p) (hq : Rg N q) (hN : 2 * N + 2 ≤ 999999999990) : Calls Tryz.prog 23 #[v, u] w (rGivesRE w (p / q) (if q = 0 then 10 else 0)) := by
 by_cases h0 : q = 0
 ·subst h0
  rw [if_pos rfl, Rat.div_def, Rat.inv_zero, Rat.mul_zero]
  exact rratdiv_zero h k hp hN
 ·rw [if_neg h0]
  exact (rratdiv_any h k hp hq hN h0).mono fun _ _ h => h.plain
theorem cmp_r (h : RatR w v p) (k : RatR w u q) (hp : Rg N p) (hq : Rg N q) (hN : 2 * N + 2 ≤ 999999999990) : Calls Tryz.prog 40 #[v, u] w (fun e w' => e = .returned (.int .i64 (cmpQ p q)) ∧ Below w.heap.size w w') := ratcmp_any h k hp hq hN
theorem rcmp_r (h : RRatR w v p) (k : RRatR w u q) (hp : Rg N p) (hq : Rg N q) (hN : 2 * N + 2 ≤ 999999999990) : Calls Tryz.prog 41 #[v, u] w (fun e w' => e = .returned (.int .i64 (cmpQ p q)) ∧ Below w.heap.size w w') := rratcmp_any h k hp hq hN
theorem Rg.add (hp : Rg N p) (hq : Rg N q) : Rg (2 * N + 1) (p + q) := Rg.of (by have := fw_add hp.fw hq.fw; rw [show 2 * N + 1 = N + N + 1 by omega]; exact this)
theorem Rg.sub (hp : Rg N p) (hq : Rg N q) : Rg (2 * N + 1) (p - q) := Rg.of (by have := fw_sub hp.fw hq.fw; rw [show 2 * N + 1 = N + N + 1 by omega]; exact this)
theorem Rg.mul (hp : Rg N p) (hq : Rg N q) : Rg (2 * N + 1) (p * q) := Rg.of (fw_mono (fw_mul hp.fw hq.fw) (by omega))
theorem Rg.div (hp : Rg N p) (hq : Rg N q) : Rg (2 * N + 1) (p / q) := Rg.of (by have := fw_div hp.fw hq.fw; rw [show 2 * N + 1 = N + N + 1 by omega]; exact this)
theorem Rg.neg (hp : Rg N p) : Rg N (-p) := Rg.of (fw_neg hp.fw)
end
theorem rg_qval {s : ByteArray} {N : Nat} (h : s.size ≤ N) (hN : 1 ≤ N) : Rg N (qval s.data.toList) := Rg.of (qval_few s.data.toList (by rw [bs_len]; exact h) hN)
end Go.Proofs.YtikpafocankggaaGreatDoor
