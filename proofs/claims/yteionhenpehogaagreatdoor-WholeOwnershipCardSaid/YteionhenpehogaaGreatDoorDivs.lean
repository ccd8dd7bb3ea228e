import Derived.Test.YteionhenpehogaaGreatDoorLimbs
import Derived.Test.YteionhenpehogaaGreatDoorPlain
import Derived.Test.YteionhenpehogaaGreatDoorInts
import Derived.Deep.DeepCutAuto
import Derived.Deep.CutBlock
namespace Go.Proofs.YteionhenpehogaaGreatDoor
open Go.RowKit Tally
theorem zeros_at {n i : Nat} : (List.replicate n 0).getD i 0 = 0 := by
 simp only [List.getD, List.getElem?_replicate]
 split <;> rfl
structure ValS (w : World) (g n d T k r : Nat) (a L : List Nat) : Prop where
 own : Own .u32 175 w g L
 len : L.length = n
 lim : Lim 1000000000 L
 low : ∀ i, i < k → L.getD i 0 = 0
 sum : val 1000000000 L * d + 1000000000 ^ k * r + val 1000000000 (a.take k) = T
theorem short_lt {r x d : Nat} (hr : r < d) (hx : x < 1000000000) : (r * 1000000000 + x) / d < 1000000000 := by
 rw [Nat.div_lt_iff_lt_mul (by omega)]
 have : (r + 1) * 1000000000 ≤ d * 1000000000 := Nat.mul_le_mul_right _ hr
 rw [Nat.mul_comm 1000000000 d]
 omega
section
variable {w : World} {g n d T k r x : Nat} {a L : List Nat}
theorem ValS.step (h : ValS w g n d T (k + 1) r a L) (hk : k < n) (hr : r < d) (hx : a.getD k 0 = x) (hxl : x < 1000000000) {z : Int} (hz : z = (((r * 1000000000 + x) / d : Nat) : Int)) :
  ValS (w.setCell ⟨g, k, none⟩ (.int .u32 z)) g n d T k ((r * 1000000000 + x) % d) a (L.set k ((r * 1000000000 + x) / d)) := by
 subst hz hx
 refine ⟨h.own.set _ _, by simp [h.len], h.lim.set (short_lt hr hxl) _, fun i hi => ?_, short_step (by rw [h.len]; exact hk) (h.low k (by omega)) h.sum⟩
 have := h.low i (by omega)
 simp only [List.getD] at this ⊢
 rw [List.getElem?_set_ne (by omega)]
 exact this
end
def GivesShort (w : World) (n q r : Nat) (e : Ending) (w' : World) : Prop :=
 ∃ g g2 L, e = .returned (.tuple #[.slice (some ⟨g, 0, none⟩) n n, .slice (some ⟨g2, 0, none⟩) 1 1]) ∧ LR w' (.slice (some ⟨g, 0, none⟩) n n) L ∧ L.length = n ∧ Lim 1000000000 L ∧ val 1000000000 L = q ∧
  LR w' (.slice (some ⟨g2, 0, none⟩) 1 1) [r] ∧ Below w.heap.size w w'
set_option maxHeartbeats 2000000 in
set_option maxRecDepth 100000 in
theorem short_any {w : World} {va : Value} {a : List Nat} {d : Nat} (ha : LR w va a) (la : Lim 1000000000 a) (na : a.length ≤ 1000000000000) (hd : 1 ≤ d) (hdB : d < 1000000000) :
  Calls Tryz.prog 176 #[va, .int .u32 d] w (GivesShort w a.length (val 1000000000 a / d) (val 1000000000 a % d)) := by
 obtain ⟨T, hT⟩ : ∃ T, val 1000000000 a = T := ⟨_, rfl⟩
 rw [hT]
 obtain ⟨i0, hi, hz0, hz1, hz2⟩ := info_parts infoU
 obtain ⟨p, b1, o1, c1, rfl, l1, m1, s1, r1⟩ := ha
 obtain ⟨n, hn⟩ : ∃ n, a.length = n := ⟨_, rfl⟩
 have HN := Lib.hid hn
 have R1 := Lib.hid r1
 have LA := Lib.hid la
 have HT := Lib.hid hT
 rw [hn] at l1 s1 R1 na ⊢
 clear r1 hn hT la
 have hmk := fun W : World => run_make (P := Tryz.prog) (w := W) 33 175 i0 (.int .u32 0) Tryz.underlying33 hi hz0 .i64 .i64 (n : Int) (n : Int) (by omega) (by omega) (by rw [hz2]; omega) (by omega)
 have e1 : ((n : Int)).toNat = n := by omega
 simp only [hz1, e1, Nat.mul_one, show (Value.int IntKind.u32 0).cells = #[Value.int IntKind.u32 0] from rfl] at hmk
 clear e1
 have hO := Lib.hid (Own.made (K := .u32) (t := 175) w n)
 have hbO := Lib.hid ((Below.refl w.heap.size w).alloc (Nat.le_refl _) (.cells (madeCells #[.int .u32 0] n) 175))
 go_enter Tryz.func176, Tryz.ntmps176
 go_wp2
 clear hmk
 go_loopw [7, 8] (fun r i wr => ∃ (k rr : Nat) (q : Int) (L : List Nat), Hid (q = (k : Int) - 1) ∧ k ≤ n ∧ i = .int .i64 q ∧ r = .int .u64 rr ∧ rr < d ∧ ValS wr w.heap.size n d T k rr a L ∧ Below w.heap.size w wr) (fun _ i _ => (intOf i + 1).toNat)
 case atStart => exact ⟨n, 0, (n : Int) - 1, _, rfl, Nat.le_refl _, rfl, rfl, by omega, ⟨hO.out, by simp, Lim.zeros (by decide) _, fun i _ => zeros_at, by rw [val_zeros, List.take_of_length_le (by rw [HN.out]; exact Nat.le_refl _), HT.out]; simp⟩, hbO.out⟩
 case round =>
  obtain ⟨k, rr, q, L, hq, hk, rfl, rfl, hrr, hI, hbr⟩ := hrel
  have HI := Lib.hid hI
  have HB := Lib.hid hbr
  clear hI hbr
  rcases k with _ | j
  ·obtain rfl : q = -1 := by have := hq.out; omega
   go_wp2
   go_ret2
   have nx : Below wr.heap.size wr (wr.alloc (.cells #[.int .u32 rr] 175)) := (Below.refl wr.heap.size wr).alloc (Nat.le_refl _) _
   have e := HI.out.sum
   simp only [Nat.pow_zero, Nat.one_mul, List.take_zero, val_nil, Nat.add_zero] at e
   have e1 : val 1000000000 L = T / d := by rw [← e, Nat.mul_comm, Nat.mul_add_div (by omega), Nat.div_eq_of_lt hrr, Nat.add_zero]
   have e2 : rr = T % d := by rw [← e, Nat.mul_comm, Nat.mul_add_mod, Nat.mod_eq_of_lt hrr]
   have ho : Own .u32 175 (wr.alloc (.cells #[.int .u32 rr] 175)) wr.heap.size [rr] := heap_alloc_new wr _
   have hl := HI.out.own.below nx
   refine ⟨w.heap.size, wr.heap.size, L, rfl, ?_, HI.out.len, HI.out.lim, e1, ?_, bt HB.out nx⟩
   ·exact hl.all HI.out.len.symm (by omega) (by omega)
   ·rw [← e2]; exact ho.all rfl (by simp) (by omega)
  ·obtain rfl : q = (j : Int) := by have := hq.out; omega
   obtain rfl := s1 (by omega)
   have hjn : j < n := by omega
   have hjnz : (j : Int) < (n : Int) := by omega
   have t1 := keepc HB.out (R1.out j hjn)
   have bx := LA.out.getD (by decide) j
   have f1 := HI.out.own.frozen j
   have t3 := HI.out.own.cell (i := j) (by rw [HI.out.len]; omega)
   obtain ⟨x, hx⟩ : ∃ x, a.getD j 0 = x := ⟨_, rfl⟩
   rw [hx] at t1 bx
   have HX := Lib.hid hx
   clear hx
   have hlt := short_lt hrr bx
   have ed : ((rr : Int) * 1000000000 + (x : Int)) / (d : Int) = (((rr * 1000000000 + x) / d : Nat) : Int) := by rw [Int.natCast_ediv, Int.natCast_add, Int.natCast_mul]; rfl
   have em : ((rr : Int) * 1000000000 + (x : Int)) % (d : Int) = (((rr * 1000000000 + x) % d : Nat) : Int) := by rw [Int.natCast_emod, Int.natCast_add, Int.natCast_mul]; rfl
   have hd0 : ¬ (d : Int) = 0 := by omega
   have hml := Nat.mod_lt (rr * 1000000000 + x) (show d > 0 by omega)
   obtain ⟨y, hy⟩ : ∃ y, (rr * 1000000000 + x) / d = y := ⟨_, rfl⟩
   obtain ⟨m, hm⟩ : ∃ m, (rr * 1000000000 + x) % d = m := ⟨_, rfl⟩
   have hs := HI.out.step hjn hrr HX.out bx (z := y) (by rw [hy])
   rw [hm] at hs
   have HS := Lib.hid hs
   clear hs
   rw [hy] at hlt ed
   rw [hm] at hml em
   go_wp2
   go_roundw
   case rel => exact ⟨j, m, (j : Int) - 1, _, rfl, by omega, rfl, int_eq em, hml, HS.out, HB.out.setCell (Nat.le_refl _) _⟩
   case measure => simp [intOf]
end Go.Proofs.YteionhenpehogaaGreatDoor
namespace Go.Proofs.YteionhenpehogaaGreatDoor
open Go.RowKit Tally
structure Only (g : Nat) (w w' : World) : Prop where
 os : w'.os = w.os
 tape : w'.tape = w.tape
 output : w'.output = w.output
 size : w.heap.size ≤ w'.heap.size
 block : ∀ k, k < w.heap.size → k ≠ g → w'.heap[k]? = w.heap[k]?
section
variable {g : Nat} {a w w' : World}
theorem Only.refl (g : Nat) (w : World) : Only g w w := ⟨rfl, rfl, rfl, Nat.le_refl _, fun _ _ _ => rfl⟩
theorem Only.trans (h : Only g a w) (k : Only g w w') : Only g a w' :=
 ⟨k.os.trans h.os, k.tape.trans h.tape, k.output.trans h.output, Nat.le_trans h.size k.size, fun i hi hg => (k.block i (Nat.lt_of_lt_of_le hi h.size) hg).trans (h.block i hi hg)⟩
theorem Only.setCell (h : Only g a w) (k : Nat) (u : Value) : Only g a (w.setCell ⟨g, k, none⟩ u) :=
 have b := Below.setCell (B := g) (Below.refl g w) (p := ⟨g, k, none⟩) (Nat.le_refl _) u
 ⟨b.os.trans h.os, b.tape.trans h.tape, b.output.trans h.output, Nat.le_trans h.size b.size, fun i hi hg => by rw [Below.heap_setCell _ _ _ _ hg]; exact h.block i hi hg⟩
theorem Only.below (h : Only g w w') {B : Nat} (hB : B ≤ g) (hs : B ≤ w.heap.size) : Below B w w' :=
 ⟨h.os, h.tape, h.output, h.size, fun k hk => h.block k (by omega) (by omega)⟩
theorem Only.cell (h : Only g w w') {b o : Nat} {v : Value} (hb : b ≠ g) (hc : w.cell? ⟨b, o, none⟩ = some v) : w'.cell? ⟨b, o, none⟩ = some v := by
 have hl := World.block_lt_of_cell? _ _ hc
 rw [World.cell?_of_block (w := w) (a := ⟨b, o, none⟩) (h.block b hl hb)]
 exact hc
theorem Only.own {K : IntKind} {t : TypeId} {b : Nat} {L : List Nat} (h : Only g w w') (hb : b ≠ g) (ho : Own K t w b L) : Own K t w' b L :=
 ho.keep (h.block b ho.lt hb)
end
theorem part_get {P R S : List Nat} {k : Nat} (hk : k < R.length) : (P ++ R ++ S).getD (P.length + k) 0 = R.getD k 0 := by
 simp only [List.getD]
 rw [List.append_assoc, List.getElem?_append_right (by omega), Nat.add_sub_cancel_left, List.getElem?_append_left hk]
theorem part_set {P R S : List Nat} {k x : Nat} (hk : k < R.length) : (P ++ R ++ S).set (P.length + k) x = P ++ R.set k x ++ S := by
 rw [List.append_assoc, List.set_append_right _ _ (by omega), Nat.add_sub_cancel_left, List.set_append_left _ _ hk, List.append_assoc]
def Part (w : World) (g j : Nat) (P S R : List Nat) : Prop := Own .u32 175 w g (P ++ R ++ S) ∧ P.length = j
section
variable {g j k : Nat} {w w' : World} {P S R : List Nat}
theorem Part.cell (h : Part w g j P S R) (hk : k < R.length) : w.cell? ⟨g, j + k, none⟩ = some (.int .u32 (R.getD k 0 : Nat)) := by
 obtain ⟨ho, rfl⟩ := h
 rw [ho.cell (by simp; omega), part_get hk]
theorem Part.set (h : Part w g j P S R) (hk : k < R.length) (x : Nat) : Part (w.setCell ⟨g, j + k, none⟩ (.int .u32 (x : Nat))) g j P S (R.set k x) := by
 obtain ⟨ho, rfl⟩ := h
 have := ho.set (P.length + k) x
 rw [part_set hk] at this
 exact ⟨this, rfl⟩
theorem Part.frozen (h : Part w g j P S R) (i : Nat) : w.frozen? ⟨g, i, none⟩ = false := h.1.frozen i
end
end Go.Proofs.YteionhenpehogaaGreatDoor
namespace Go.Proofs.YteionhenpehogaaGreatDoor
open Go.RowKit Tally
def GivesDigit (w : World) (g j n q r : Nat) (P S : List Nat) (e : Ending) (w' : World) : Prop :=
 ∃ R, e = .returned (.int .u32 (q : Nat)) ∧ Part w' g j P S R ∧ R.length = n + 1 ∧ Lim 1000000000 R ∧ val 1000000000 R = r ∧ Only g w w'
theorem digit_start {n n1 n2 un u1 v1 head g0 t0 : Nat} {U v : List Nat} (hU : U.length = n + 1) (lU : Lim 1000000000 U) (hv : v.length = n) (lv : Lim 1000000000 v)
  (hn1 : n = n1 + 1) (hn2 : n1 = n2 + 1) (hnorm : 500000000 ≤ v.getD n1 0) (hlt : val 1000000000 U < 1000000000 * val 1000000000 v)
  (hun : U.getD n 0 = un) (hu1 : U.getD n1 0 = u1) (hv1 : v.getD n1 0 = v1) (hh : un * 1000000000 + u1 = head) (hg0 : head / v1 = g0) (ht0 : head % v1 = t0) :
  Hid (g0 * v1 + t0 = head) ∧ t0 < 1000000000 ∧ g0 ≤ 1000000001 ∧ Hid (val 1000000000 U / val 1000000000 v ≤ g0) := by
 subst hn1 hn2
 have b1 := lv.getD (by decide) (n2 + 1)
 have b2 := lv.getD (by decide) n2
 have eU := top3 (B := 1000000000) (u := U) (k := n2) (by omega)
 have eV := top2 (B := 1000000000) (v := v) (k := n2) (by omega)
 have eU2 := top2 (B := 1000000000) (v := U) (k := n2 + 1) (by omega)
 have eV2 := val_top (B := 1000000000) (l := v) (k := n2 + 1) (by omega)
 have lV := val_low (B := 1000000000) (l := v) (k := n2) (by omega) lv
 have lU2 := val_low (B := 1000000000) (l := U) (k := n2 + 1) (by omega) lU
 rw [hun, hu1, hh] at eU eU2
 rw [hv1] at eV eV2 b1 hnorm
 have hp := Nat.div_add_mod head v1
 have hm := Nat.mod_lt head (show v1 > 0 by omega)
 rw [hg0] at hp
 rw [ht0] at hp hm
 refine ⟨Lib.hid (by rw [Nat.mul_comm]; exact hp), by omega, ?_, Lib.hid ?_⟩
 ·rw [← hg0]
  have e := hlt
  rw [eU, eV] at e
  exact guess_small e lV b2 (by omega) (by omega)
 ·rw [← hg0, ← hh]
  refine guess_ge 1000000000 un u1 v1 (val 1000000000 (U.take (n2 + 1))) (val 1000000000 (v.take (n2 + 1))) (1000000000 ^ (n2 + 1)) _ (by omega) ?_ lU2
  rw [hh, ← eU2, show v1 * 1000000000 ^ (n2 + 1) + val 1000000000 (v.take (n2 + 1)) = val 1000000000 v by rw [eV2, Nat.mul_comm, Nat.add_comm]]
  exact Nat.div_mul_le_self _ _
theorem digit_tops {n n1 n2 un u1 u0 v1 v2 head : Nat} {U v : List Nat} (hU : U.length = n + 1) (lU : Lim 1000000000 U) (hv : v.length = n) (lv : Lim 1000000000 v)
  (hn1 : n = n1 + 1) (hn2 : n1 = n2 + 1) (hnorm : 500000000 ≤ v.getD n1 0) (hlt : val 1000000000 U < 1000000000 * val 1000000000 v)
  (hun : U.getD n 0 = un) (hu1 : U.getD n1 0 = u1) (hu0 : U.getD n2 0 = u0) (hv1 : v.getD n1 0 = v1) (hv2 : v.getD n2 0 = v2) (hh : un * 1000000000 + u1 = head) :
  Tops 1000000000 (val 1000000000 U) (val 1000000000 v) v1 v2 u0 head (1000000000 ^ n2) (val 1000000000 (U.take n2)) (val 1000000000 (v.take n2)) := by
 subst hn1 hn2
 have b0 := lU.getD (by decide) n2
 have b1 := lv.getD (by decide) (n2 + 1)
 have b2 := lv.getD (by decide) n2
 have eU := top3 (B := 1000000000) (u := U) (k := n2) (by omega)
 have eV := top2 (B := 1000000000) (v := v) (k := n2) (by omega)
 have lV := val_low (B := 1000000000) (l := v) (k := n2) (by omega) lv
 have lU2 := val_low (B := 1000000000) (l := U) (k := n2) (by omega) lU
 rw [hun, hu1, hh, hu0] at eU
 rw [hv1, hv2] at eV
 rw [hv1] at b1 hnorm
 rw [hv2] at b2
 rw [hu0] at b0
 exact ⟨eU, eV, lU2, lV, hlt, by omega, b1, b2, b0⟩
structure ValD (w : World) (g j n gg k bb cc : Nat) (U v P S L : List Nat) : Prop where
 part : Part w g j P S L
 len : L.length = n + 1
 lim : Lim 1000000000 L
 rest : L.drop k = U.drop k
 sum : val 1000000000 (L.take k) + gg * val 1000000000 (v.take k) = val 1000000000 (U.take k) + 1000000000 ^ k * (bb + cc)
theorem ValD.step {w : World} {g j n gg k bb cc pp xx b' : Nat} {U v P S L : List Nat} (h : ValD w g j n gg k bb cc U v P S L) (hk : k < n + 1) (hp : pp = cc + gg * v.getD k 0)
  (hx : xx + pp % 1000000000 + bb = U.getD k 0 + 1000000000 * b') (hxl : xx < 1000000000) {z : Int} (hz : z = (xx : Int)) :
  ValD (w.setCell ⟨g, j + k, none⟩ (.int .u32 z)) g j n gg (k + 1) b' (pp / 1000000000) U v P S (L.set k xx) := by
 subst hz
 refine ⟨h.part.set (by rw [h.len]; exact hk) xx, by simp [h.len], h.lim.set hxl _, ?_, digit_step (by rw [h.len]; exact hk) hp hx h.sum⟩
 rw [drop_set]
 have := congrArg (List.drop 1) h.rest
 simpa only [List.drop_drop, Nat.add_comm 1 k] using this
structure ValA (w : World) (g j n k c : Nat) (M v P S L : List Nat) : Prop where
 part : Part w g j P S L
 len : L.length = n + 1
 lim : Lim 1000000000 L
 rest : L.drop k = M.drop k
 sum : val 1000000000 (L.take k) + 1000000000 ^ k * c = val 1000000000 (M.take k) + val 1000000000 (v.take k)
theorem ValA.step {w : World} {g j n k c xx : Nat} {M v P S L : List Nat} (h : ValA w g j n k c M v P S L) (hk : k < n + 1) (hx : xx = M.getD k 0 + c + v.getD k 0) {z : Int} (hz : z = ((xx % 1000000000 : Nat) : Int)) :
  ValA (w.setCell ⟨g, j + k, none⟩ (.int .u32 z)) g j n (k + 1) (xx / 1000000000) M v P S (L.set k (xx % 1000000000)) := by
 subst hz
 refine ⟨h.part.set (by rw [h.len]; exact hk) _, by simp [h.len], h.lim.set (Nat.mod_lt _ (by decide)) _, ?_, back_step (by rw [h.len]; exact hk) hx h.sum⟩
 rw [drop_set]
 have := congrArg (List.drop 1) h.rest
 simpa only [List.drop_drop, Nat.add_comm 1 k] using this
theorem ValD.done {w : World} {g j n gg bb cc : Nat} {U v P S L : List Nat} (h : ValD w g j n gg (n + 1) bb cc U v P S L) (hU : U.length = n + 1) (hv : v.length = n) (hc : cc = 0) :
  val 1000000000 L + gg * val 1000000000 v = val 1000000000 U + 1000000000 ^ (n + 1) * bb ∧ val 1000000000 L < 1000000000 ^ (n + 1) := by
 have e := h.sum
 rw [List.take_of_length_le (by rw [h.len]; exact Nat.le_refl _), List.take_of_length_le (by omega), List.take_of_length_le (by omega), hc, Nat.add_zero] at e
 have l := val_lt 1000000000 L h.lim
 rw [h.len] at l
 exact ⟨e, l⟩
theorem ValA.done {w : World} {g j n c : Nat} {M v P S L : List Nat} (h : ValA w g j n (n + 1) c M v P S L) (hM : M.length = n + 1) (hv : v.length = n) :
  val 1000000000 L + 1000000000 ^ (n + 1) * c = val 1000000000 M + val 1000000000 v ∧ val 1000000000 L < 1000000000 ^ (n + 1) := by
 have e := h.sum
 rw [List.take_of_length_le (by rw [h.len]; exact Nat.le_refl _), List.take_of_length_le (by omega), List.take_of_length_le (by omega)] at e
 have l := val_lt 1000000000 L h.lim
 rw [h.len] at l
 exact ⟨e, l⟩
theorem digit_fin0 {U V gg L M bb : Nat} (hV : 0 < V) (h : L + gg * V = U + M * bb) (hg : U / V ≤ gg ∧ gg ≤ U / V + 1) (hb : bb = 0) : gg = U / V ∧ L = U % V := by
 subst hb
 have e := Nat.div_add_mod U V
 have m := Nat.mod_lt U hV
 rw [Nat.mul_zero, Nat.add_zero] at h
 have : gg ≤ U / V := (Nat.le_div_iff_mul_le hV).2 (by omega)
 have hgg : gg = U / V := by omega
 subst hgg
 rw [Nat.mul_comm] at h
 exact ⟨rfl, by omega⟩
theorem digit_fin1 {U V gg L M L2 c : Nat} (hV : 0 < V) (hVM : V ≤ M) (h : L + gg * V = U + M * 1) (hM : L < M) (hg : U / V ≤ gg ∧ gg ≤ U / V + 1) (h2 : L2 + M * c = L + V) (h2M : L2 < M) : gg = U / V + 1 ∧ L2 = U % V := by
 have e := Nat.div_add_mod U V
 have m := Nat.mod_lt U hV
 have q1 : U / V * V ≤ U := Nat.div_mul_le_self U V
 have q2 : U < (U / V + 1) * V := by rw [Nat.add_mul, Nat.one_mul, Nat.mul_comm]; omega
 have hgg : gg = U / V + 1 := by
  rcases Nat.lt_or_ge (U / V) gg with k | k
  ·omega
  ·have k2 : gg = U / V := by omega
   rw [k2] at h
   omega
 refine ⟨hgg, ?_⟩
 rw [hgg, Nat.mul_one] at h
 have := digit_back h h2 q1 q2 hVM h2M
 rw [Nat.mul_comm] at this
 omega
theorem Only.of_below {g : Nat} {w w' : World} (h : Below w.heap.size w w') : Only g w w' := ⟨h.os, h.tape, h.output, h.size, fun k hk _ => h.block k hk⟩
set_option maxHeartbeats 4000000 in
set_option maxRecDepth 100000 in
theorem digit_any {w : World} {g j n cap b o c : Nat} {P S U v : List Nat} (hP : Part w g j P S U) (hU : U.length = n + 1) (lU : Lim 1000000000 U)
  (hcap : n + 1 ≤ cap) (hv : v.length = n) (lv : Lim 1000000000 v) (hc : n ≤ c)
  (hr : ∀ i, i < n → w.cell? ⟨b, o + i, none⟩ = some (.int .u32 (v.getD i 0 : Nat))) (hbg : b ≠ g)
  (hn : 2 ≤ n) (nn : n ≤ 1000000000000) (hnorm : 500000000 ≤ v.getD (n - 1) 0) (hlt : val 1000000000 U < 1000000000 * val 1000000000 v) :
  Calls Tryz.prog 177 #[.slice (some ⟨g, j, none⟩) (n + 1) cap, .slice (some ⟨b, o, none⟩) n c] w
   (GivesDigit w g j n (val 1000000000 U / val 1000000000 v) (val 1000000000 U % val 1000000000 v) P S) := by
 obtain ⟨n1, hn1⟩ : ∃ k, n = k + 1 := ⟨n - 1, by omega⟩
 obtain ⟨n2, hn2⟩ : ∃ k, n1 = k + 1 := ⟨n1 - 1, by omega⟩
 have e1 : (n : Int) - 1 = (n1 : Int) := by omega
 have e2 : (n : Int) - 2 = (n2 : Int) := by omega
 rw [show n - 1 = n1 by omega] at hnorm
 have hnorm' := hnorm
 have cu := hP.cell (k := n) (by omega)
 have cu1 := hP.cell (k := n1) (by omega)
 have cu0 := hP.cell (k := n2) (by omega)
 have cv1 := hr n1 (by omega)
 have cv2 := hr n2 (by omega)
 have bu := lU.getD (by decide) n
 have bu1 := lU.getD (by decide) n1
 have bu0 := lU.getD (by decide) n2
 have bv1 := lv.getD (by decide) n1
 have bv2 := lv.getD (by decide) n2
 obtain ⟨un, hun⟩ : ∃ x, U.getD n 0 = x := ⟨_, rfl⟩
 obtain ⟨u1, hu1⟩ : ∃ x, U.getD n1 0 = x := ⟨_, rfl⟩
 obtain ⟨u0, hu0⟩ : ∃ x, U.getD n2 0 = x := ⟨_, rfl⟩
 obtain ⟨v1, hv1⟩ : ∃ x, v.getD n1 0 = x := ⟨_, rfl⟩
 obtain ⟨v2, hv2⟩ : ∃ x, v.getD n2 0 = x := ⟨_, rfl⟩
 rw [hun] at cu bu
 rw [hu1] at cu1 bu1
 rw [hu0] at cu0 bu0
 rw [hv1] at cv1 bv1 hnorm
 rw [hv2] at cv2 bv2
 have z0 : (0 : Int) ≤ (n : Int) := by omega
 have z1 : (0 : Int) ≤ (n1 : Int) := by omega
 have z2 : (0 : Int) ≤ (n2 : Int) := by omega
 have y0 : (n : Int) < (n : Int) + 1 := by omega
 have y1 : (n1 : Int) < (n : Int) + 1 := by omega
 have y2 : (n2 : Int) < (n : Int) + 1 := by omega
 have x1 : (n1 : Int) < (n : Int) := by omega
 have x2 : (n2 : Int) < (n : Int) := by omega
 have hv10 : ¬ (v1 : Int) = 0 := by omega
 obtain ⟨head, hh⟩ : ∃ h, un * 1000000000 + u1 = h := ⟨_, rfl⟩
 have hhi : (un : Int) * 1000000000 + (u1 : Int) = (head : Int) := by omega
 have hh1 : head < 1000000000000000000 := by omega
 obtain ⟨g0, hg0⟩ : ∃ x, head / v1 = x := ⟨_, rfl⟩
 obtain ⟨t0, ht0⟩ : ∃ x, head % v1 = x := ⟨_, rfl⟩
 have ed : (head : Int) / (v1 : Int) = (g0 : Int) := by rw [← hg0, Int.natCast_ediv]
 have em : (head : Int) % (v1 : Int) = (t0 : Int) := by rw [← ht0, Int.natCast_emod]
 have HQB := Lib.hid (show val 1000000000 U / val 1000000000 v < 1000000000 from Nat.div_lt_of_lt_mul (by rw [Nat.mul_comm]; exact hlt))
 have START := Lib.hid (show Hid (g0 * v1 + t0 = head) ∧ t0 < 1000000000 ∧ g0 ≤ 1000000001 ∧ Hid (val 1000000000 U / val 1000000000 v ≤ g0) from digit_start hU lU hv lv hn1 hn2 hnorm' hlt hun hu1 hv1 hh hg0 ht0)
 have TOPS := Lib.hid (digit_tops hU lU hv lv hn1 hn2 hnorm' hlt hun hu1 hu0 hv1 hv2 hh)
 have HN1 := Lib.hid hn1
 have HN2 := Lib.hid hn2
 have HH := Lib.hid hh
 have HG0 := Lib.hid hg0
 have HT0 := Lib.hid ht0
 clear hn1 hn2 hh hg0 ht0
 have HP := Lib.hid hP
 have HU := Lib.hid hU
 have LU := Lib.hid lU
 have HV := Lib.hid hv
 have LV := Lib.hid lv
 have HR := Lib.hid hr
 have HLT := Lib.hid hlt
 have HUN := Lib.hid (And.intro hun (And.intro hu1 hu0))
 have HVN := Lib.hid (And.intro hv1 hv2)
 clear hP hU lU hv lv hr hlt hun hu1 hu0 hv1 hv2
 have hgb : (0 : Int) ≤ (g0 : Int) := by omega
 have hgb2 : (g0 : Int) ≤ 1000000001 := by have := START.out.2.2.1; omega
 go_enter Tryz.func177, Tryz.ntmps177
 go_wp2
 go_quiet (fail)
 go_wp2
 go_quiet (fail)
 have EM := Lib.hid em
 have ED := Lib.hid ed
 clear em ed
 go_upto_block 0 with fail
 go_cut [7, 8] (fun gv rv wx => ∃ gg rr : Nat, gv = .int .u64 gg ∧ rv = .int .u64 rr ∧ gg < 1000000000 ∧ Hid (val 1000000000 U / val 1000000000 v ≤ gg ∧ gg ≤ val 1000000000 U / val 1000000000 v + 1) ∧ Below w.heap.size w wx)
 case first =>
  go_wp2_with fail
  go_loopw [7, 8] (fun gv rv wr => ∃ gg rr : Nat, gv = .int .u64 gg ∧ rv = .int .u64 rr ∧ Hid (gg * v1 + rr = head) ∧ rr < 1000000000 ∧ gg ≤ 1000000001 ∧ Hid (val 1000000000 U / val 1000000000 v ≤ gg) ∧ Below w.heap.size w wr) (fun gv _ _ => (intOf gv).toNat)
  case atStart => exact ⟨g0, t0, by first | rfl | exact int_eq ED.out, int_eq EM.out, START.out.1, START.out.2.1, START.out.2.2.1, START.out.2.2.2, Below.drewN' (Below.drewN' (Below.refl _ _) _) _⟩
  case round =>
   obtain ⟨gg, rr, rfl, rfl, HS, hrr, hgg, HQ, hbr⟩ := hrel
   have d1 := keepc hbr cv1
   have d2 := keepc hbr cv2
   have d0 := keepc hbr cu0
   have HB := Lib.hid hbr
   clear hbr
   have pb : 0 ≤ (gg : Int) * (v2 : Int) ∧ (gg : Int) * (v2 : Int) ≤ 1000000001000000000 := by
    have h : gg * v2 ≤ 1000000001 * 999999999 := Nat.mul_le_mul hgg (by omega)
    have := Int.natCast_mul gg v2
    omega
   obtain ⟨pb0, pb1⟩ := pb
   by_cases hg : 1000000000 ≤ gg
   ·obtain ⟨gp, rfl⟩ : ∃ k, gg = k + 1 := ⟨gg - 1, by omega⟩
    have hgp : ((gp + 1 : Nat) : Int) - 1 = (gp : Int) := by omega
    have c1 : decide ((1000000000 : Int) ≤ ((gp + 1 : Nat) : Int)) = true := by rw [decide_eq_true_iff]; omega
    have c2 : decide ((1000000000 : Int) ≤ (gp : Int) + 1) = true := by rw [decide_eq_true_iff]; omega
    have HGG := Lib.hid hgg
    have DEC := Lib.hid (show Hid (gp * v1 + (rr + v1) = head) ∧ Hid (val 1000000000 U / val 1000000000 v ≤ gp) from ⟨Lib.hid (by have := HS.out; rw [Nat.add_mul] at this; omega), Lib.hid (TOPS.out.reject HS.out (.inl hg))⟩)
    have hgp3 : (gp : Int) ≤ 1000000000 := by omega
    clear hg pb0 pb1 hgg
    go_wp2
    go_quiet (fail)
    by_cases hbk : 1000000000 ≤ rr + v1
    ·have c4 : decide ((1000000000 : Int) ≤ (rr : Int) + (v1 : Int)) = true := by rw [decide_eq_true_iff]; omega
     have c5 : (1000000000 : Int) ≤ (rr : Int) + (v1 : Int) := by omega
     have LV := Lib.hid (TOPS.out.leave DEC.out.1.out (by omega) hbk)
     go_wp2
     go_meet
     exact ⟨gp, rr + v1, by first | rfl | go_num, by first | rfl | go_num, LV.out.1, Lib.hid ⟨DEC.out.2.out, LV.out.2⟩, Below.drewN' HB.out _⟩
    ·have c4 : decide ((1000000000 : Int) ≤ (rr : Int) + (v1 : Int)) = false := by rw [decide_eq_false_iff_not]; omega
     have c5 : ¬ (1000000000 : Int) ≤ (rr : Int) + (v1 : Int) := by omega
     go_wp2
     go_roundw
     case rel => exact ⟨gp, rr + v1, by first | rfl | go_num, by first | rfl | go_num, DEC.out.1, by omega, by have := HGG.out; omega, DEC.out.2, Below.drewN' HB.out _⟩
     case measure => simp [intOf]
   ·by_cases hp : rr * 1000000000 + u0 < gg * v2
    ·obtain ⟨gp, rfl⟩ : ∃ k, gg = k + 1 := ⟨gg - 1, by
      rcases gg with _ | gg
      ·simp at hp
      ·omega⟩
     have hgp : ((gp + 1 : Nat) : Int) - 1 = (gp : Int) := by omega
     have c1 : decide ((1000000000 : Int) ≤ ((gp + 1 : Nat) : Int)) = false := by rw [decide_eq_false_iff_not]; omega
     have c1' : decide ((1000000000 : Int) ≤ (gp : Int) + 1) = false := by rw [decide_eq_false_iff_not]; omega
     have c2 : decide ((rr : Int) * 1000000000 + (u0 : Int) < ((gp + 1 : Nat) : Int) * (v2 : Int)) = true := by
      have := Int.natCast_mul (gp + 1) v2
      rw [decide_eq_true_iff]; omega
     have c2' : decide ((rr : Int) * 1000000000 + (u0 : Int) < ((gp : Int) + 1) * (v2 : Int)) = true := by
      rw [show (gp : Int) + 1 = ((gp + 1 : Nat) : Int) from by omega]
      exact c2
     have pb2 : (0 : Int) ≤ ((gp : Int) + 1) * (v2 : Int) := by rw [show (gp : Int) + 1 = ((gp + 1 : Nat) : Int) from by omega]; exact pb0
     have pb3 : ((gp : Int) + 1) * (v2 : Int) ≤ 1000000001000000000 := by rw [show (gp : Int) + 1 = ((gp + 1 : Nat) : Int) from by omega]; exact pb1
     have c3 := of_decide_eq_true c2
     have c3' := of_decide_eq_true c2'
     have HGG := Lib.hid hgg
     have DEC := Lib.hid (show Hid (gp * v1 + (rr + v1) = head) ∧ Hid (val 1000000000 U / val 1000000000 v ≤ gp) from ⟨Lib.hid (by have := HS.out; rw [Nat.add_mul] at this; omega), Lib.hid (TOPS.out.reject HS.out (.inr hp))⟩)
     have hgp3 : (gp : Int) ≤ 1000000000 := by omega
     clear hg hgg hp
     go_wp2
     go_quiet (fail)
     by_cases hbk : 1000000000 ≤ rr + v1
     ·have c4 : decide ((1000000000 : Int) ≤ (rr : Int) + (v1 : Int)) = true := by rw [decide_eq_true_iff]; omega
      have c5 : (1000000000 : Int) ≤ (rr : Int) + (v1 : Int) := by omega
      have LV := Lib.hid (TOPS.out.leave DEC.out.1.out (by omega) hbk)
      go_wp2
      go_meet
      exact ⟨gp, rr + v1, by first | rfl | go_num, by first | rfl | go_num, LV.out.1, Lib.hid ⟨DEC.out.2.out, LV.out.2⟩, Below.drewN' HB.out _⟩
     ·have c4 : decide ((1000000000 : Int) ≤ (rr : Int) + (v1 : Int)) = false := by rw [decide_eq_false_iff_not]; omega
      have c5 : ¬ (1000000000 : Int) ≤ (rr : Int) + (v1 : Int) := by omega
      go_wp2
      go_roundw
      case rel => exact ⟨gp, rr + v1, by first | rfl | go_num, by first | rfl | go_num, DEC.out.1, by omega, by have := HGG.out; omega, DEC.out.2, Below.drewN' HB.out _⟩
      case measure => simp [intOf]
    ·have c1 : decide ((1000000000 : Int) ≤ (gg : Int)) = false := by rw [decide_eq_false_iff_not]; omega
     have c2 : decide ((rr : Int) * 1000000000 + (u0 : Int) < (gg : Int) * (v2 : Int)) = false := by
      have := Int.natCast_mul gg v2
      rw [decide_eq_false_iff_not]; omega
     have c3 := of_decide_eq_false c2
     have ST := Lib.hid (TOPS.out.stand HS.out (by omega) (by omega))
     have HGL := Lib.hid (show gg < 1000000000 by omega)
     clear hg hp
     go_wp2
     go_quiet (fail)
     go_wp2
     go_meet
     exact ⟨gg, rr, rfl, rfl, HGL.out, Lib.hid ⟨HQ.out, ST.out⟩, Below.drewN' HB.out _⟩
 case rest =>
  obtain ⟨gg, rr, rfl, rfl, hgl, HG, hbc⟩ := hcut
  have HGL := Lib.hid hgl
  have O0 := Lib.hid (Only.of_below (g := g) hbc)
  have P0 := Lib.hid (show Part wc g j P S U from ⟨HP.out.1.below hbc, HP.out.2⟩)
  have VPOS := Lib.hid TOPS.out.pos
  have VLT := Lib.hid (show val 1000000000 v ≤ 1000000000 ^ (n + 1) from by
   have h1 := val_lt 1000000000 v LV.out
   rw [HV.out] at h1
   exact Nat.le_of_lt (Nat.lt_of_lt_of_le h1 (Nat.pow_le_pow_right (by decide) (by omega))))
  clear hbc
  go_wp2
  go_loopw [9, 10, 84] (fun bv cv iv wr => ∃ (k bb cc : Nat) (L : List Nat), k ≤ n + 1 ∧ iv = .int .i64 k ∧ bv = .int .i64 bb ∧ cv = .int .u64 cc ∧ bb ≤ 1 ∧ cc < 1000000000 ∧ Hid (k = n + 1 → cc = 0) ∧ ValD wr g j n gg k bb cc U v P S L ∧ Only g w wr) (fun _ _ iv _ => n + 1 - (intOf iv).toNat)
  case atStart => exact ⟨0, 0, 0, U, Nat.zero_le _, rfl, rfl, rfl, by omega, by omega, Lib.hid (fun h => by omega), ⟨P0.out, HU.out, LU.out, rfl, by simp⟩, O0.out⟩
  case round =>
   obtain ⟨k, bb, cc, L, hk, rfl, rfl, rfl, hbb, hcc, HC0, hI, ho⟩ := hrel
   have HI := Lib.hid hI
   have HO := Lib.hid ho
   clear hI ho
   by_cases hkn : k < n + 1
   ·have hknz : (k : Int) < (n : Int) + 1 := by omega
    have t1 := HI.out.part.cell (k := k) (by rw [HI.out.len]; exact hkn)
    have f1 := HI.out.part.frozen (j + k)
    rw [getD_of_drop HI.out.rest k (Nat.le_refl _)] at t1
    have bz := LU.out.getD (by decide) k
    obtain ⟨z, hz⟩ : ∃ z, U.getD k 0 = z := ⟨_, rfl⟩
    rw [hz] at t1 bz
    have HZ := Lib.hid hz
    clear hz
    by_cases hkv : k < n
    ·have hkvz : (k : Int) < (n : Int) := by omega
     have t2 := HO.out.cell hbg (HR.out k hkv)
     have by2 := LV.out.getD (by decide) k
     obtain ⟨y, hy⟩ : ∃ y, v.getD k 0 = y := ⟨_, rfl⟩
     rw [hy] at t2 by2
     have HY := Lib.hid hy
     clear hy
     obtain ⟨pb0, pb1⟩ := prod_bound hgl by2
     obtain ⟨pp, hpp⟩ : ∃ pp : Nat, pp = cc + gg * y := ⟨_, rfl⟩
     have hppi : (cc : Int) + (gg : Int) * (y : Int) = (pp : Int) := by rw [hpp, Int.natCast_add, Int.natCast_mul]
     have hpb : pp ≤ 999999999999999999 := by omega
     have hpz : (0 : Int) ≤ (pp : Int) := by omega
     have hpz1 : (pp : Int) ≤ 999999999999999999 := by omega
     have HPP := Lib.hid (show pp = cc + gg * v.getD k 0 by rw [HY.out]; exact hpp)
     have hq1 : (pp : Int) / 1000000000 = ((pp / 1000000000 : Nat) : Int) := by omega
     have hm1 : (pp : Int) % 1000000000 = ((pp % 1000000000 : Nat) : Int) := by omega
     have hqb : pp / 1000000000 < 1000000000 := by omega
     have hmb : pp % 1000000000 < 1000000000 := by omega
     clear hpp
     obtain ⟨cq, hcq⟩ : ∃ cq, pp / 1000000000 = cq := ⟨_, rfl⟩
     obtain ⟨cm, hcm3⟩ : ∃ cm, pp % 1000000000 = cm := ⟨_, rfl⟩
     rw [hcq] at hq1 hqb
     rw [hcm3] at hm1 hmb
     have HCQ := Lib.hid hcq
     have HCM := Lib.hid hcm3
     clear hcq hcm3
     by_cases hlt2 : z < cm + bb
     ·have hneg : (z : Int) - (cm : Int) - (bb : Int) < 0 := by omega
      have hx1 : (0 : Int) ≤ (z : Int) - (cm : Int) - (bb : Int) + 1000000000 := by omega
      have hx2 : (z : Int) - (cm : Int) - (bb : Int) + 1000000000 < 1000000000 := by omega
      have HS := Lib.hid (HI.out.step (xx := z + 1000000000 - cm - bb) (b' := 1) hkn HPP.out (by rw [HZ.out, HCM.out]; omega) (by omega) (z := (z : Int) - (cm : Int) - (bb : Int) + 1000000000) (by omega))
      go_wp2
      go_roundw
      case rel => exact ⟨k + 1, 1, cq, _, by omega, by go_num, rfl, int_eq (by first | rfl | omega), by omega, hqb, Lib.hid (fun h => by omega), by have := HS.out; rw [HCQ.out] at this; exact this, HO.out.setCell _ _⟩
      case measure => simp [intOf]; omega
     ·have hneg : ¬ (z : Int) - (cm : Int) - (bb : Int) < 0 := by omega
      have hx1 : (0 : Int) ≤ (z : Int) - (cm : Int) - (bb : Int) := by omega
      have hx2 : (z : Int) - (cm : Int) - (bb : Int) < 1000000000 := by omega
      have HS := Lib.hid (HI.out.step (xx := z - cm - bb) (b' := 0) hkn HPP.out (by rw [HZ.out, HCM.out]; omega) (by omega) (z := (z : Int) - (cm : Int) - (bb : Int)) (by omega))
      go_wp2
      go_roundw
      case rel => exact ⟨k + 1, 0, cq, _, by omega, by go_num, rfl, int_eq (by first | rfl | omega), by omega, hqb, Lib.hid (fun h => by omega), by have := HS.out; rw [HCQ.out] at this; exact this, HO.out.setCell _ _⟩
      case measure => simp [intOf]; omega
    ·obtain rfl : k = n := by omega
     have HY := Lib.hid (getD_out (l := v) (k := k) (by rw [HV.out]; exact Nat.le_refl _))
     have HPP := Lib.hid (show cc = cc + gg * v.getD k 0 by rw [HY.out]; simp)
     have hq1 : (cc : Int) / 1000000000 = 0 := by omega
     have hm1 : (cc : Int) % 1000000000 = (cc : Int) := by omega
     have HQ1 := Lib.hid (show cc / 1000000000 = 0 by omega)
     have HM1 := Lib.hid (show cc % 1000000000 = cc by omega)
     by_cases hlt2 : z < cc + bb
     ·have hneg : (z : Int) - (cc : Int) - (bb : Int) < 0 := by omega
      have hx1 : (0 : Int) ≤ (z : Int) - (cc : Int) - (bb : Int) + 1000000000 := by omega
      have hx2 : (z : Int) - (cc : Int) - (bb : Int) + 1000000000 < 1000000000 := by omega
      have HS := Lib.hid (HI.out.step (xx := z + 1000000000 - cc - bb) (b' := 1) hkn HPP.out (by rw [HZ.out, HM1.out]; omega) (by omega) (z := (z : Int) - (cc : Int) - (bb : Int) + 1000000000) (by omega))
      go_wp2
      go_roundw
      case rel => exact ⟨k + 1, 1, 0, _, by omega, by go_num, rfl, rfl, by omega, by omega, Lib.hid (fun h => rfl), by have := HS.out; rw [HQ1.out] at this; exact this, HO.out.setCell _ _⟩
      case measure => simp [intOf]
     ·have hneg : ¬ (z : Int) - (cc : Int) - (bb : Int) < 0 := by omega
      have hx1 : (0 : Int) ≤ (z : Int) - (cc : Int) - (bb : Int) := by omega
      have hx2 : (z : Int) - (cc : Int) - (bb : Int) < 1000000000 := by omega
      have HS := Lib.hid (HI.out.step (xx := z - cc - bb) (b' := 0) hkn HPP.out (by rw [HZ.out, HM1.out]; omega) (by omega) (z := (z : Int) - (cc : Int) - (bb : Int)) (by omega))
      go_wp2
      go_roundw
      case rel => exact ⟨k + 1, 0, 0, _, by omega, by go_num, rfl, rfl, by omega, by omega, Lib.hid (fun h => rfl), by have := HS.out; rw [HQ1.out] at this; exact this, HO.out.setCell _ _⟩
      case measure => simp [intOf]
   ·obtain rfl : k = n + 1 := by omega
    have hc0 := HC0.out rfl
    have HD := Lib.hid (HI.out.done HU.out HV.out hc0)
    clear hc0
    by_cases hb0 : bb = 0
    ·subst hb0
     have FIN := Lib.hid (digit_fin0 VPOS.out HD.out.1 HG.out rfl)
     go_wp2
     go_ret
     exact ⟨L, congrArg (fun x : Nat => Ending.returned (Value.int .u32 (x : Int))) FIN.out.1, HI.out.part, HI.out.len, HI.out.lim, FIN.out.2, HO.out⟩
    ·obtain rfl : bb = 1 := by omega
     have hg1 : 1 ≤ gg := by
      rcases Nat.eq_zero_or_pos gg with q | q
      ·exfalso
       have a1 := HD.out.1
       have a2 := HD.out.2
       rw [q, Nat.zero_mul, Nat.mul_one] at a1
       omega
      ·exact q
     obtain ⟨gp, hgp0⟩ : ∃ k, gg = k + 1 := ⟨gg - 1, by omega⟩
     have hgpi : (gg : Int) - 1 = (gp : Int) := by omega
     have HGP := Lib.hid hgp0
     have hgpb : (gp : Int) < 1000000000 := by omega
     clear hgp0
     obtain ⟨wo, rfl⟩ : ∃ wo : World, wo = wr := ⟨_, rfl⟩
     go_wp2
     go_loopw [14, 129] (fun cv iv wr => ∃ (k c : Nat) (M : List Nat), k ≤ n + 1 ∧ iv = .int .i64 k ∧ cv = .int .u32 c ∧ c ≤ 1 ∧ ValA wr g j n k c L v P S M ∧ Only g w wr) (fun _ iv _ => n + 1 - (intOf iv).toNat)
     case atStart => exact ⟨0, 0, L, Nat.zero_le _, rfl, rfl, by omega, ⟨HI.out.part, HI.out.len, HI.out.lim, rfl, by simp⟩, HO.out⟩
     case round =>
      obtain ⟨k, c, M, hk3, rfl, rfl, hc1, hI3, ho3⟩ := hrel
      have HI3 := Lib.hid hI3
      have HO3 := Lib.hid ho3
      clear hI3 ho3
      by_cases hkn3 : k < n + 1
      ·have hknz3 : (k : Int) < (n : Int) + 1 := by omega
       have t1 := HI3.out.part.cell (k := k) (by rw [HI3.out.len]; exact hkn3)
       have f1 := HI3.out.part.frozen (j + k)
       rw [getD_of_drop HI3.out.rest k (Nat.le_refl _)] at t1
       have bz := HI.out.lim.getD (by decide) k
       obtain ⟨z, hz⟩ : ∃ z, L.getD k 0 = z := ⟨_, rfl⟩
       rw [hz] at t1 bz
       have HZ := Lib.hid hz
       clear hz
       by_cases hkv : k < n
       ·have hkvz : (k : Int) < (n : Int) := by omega
        have t2 := HO3.out.cell hbg (HR.out k hkv)
        have by2 := LV.out.getD (by decide) k
        obtain ⟨y, hy⟩ : ∃ y, v.getD k 0 = y := ⟨_, rfl⟩
        rw [hy] at t2 by2
        have HY := Lib.hid hy
        clear hy
        have HS := Lib.hid (HI3.out.step (xx := z + c + y) hkn3 (by rw [HZ.out, HY.out]) (z := ((z : Int) + (c : Int) + (y : Int)) % 1000000000) (by omega))
        go_wp2
        go_roundw
        case rel => exact ⟨k + 1, (z + c + y) / 1000000000, _, by omega, by go_num, int_eq (by omega), by omega, HS.out, HO3.out.setCell _ _⟩
        case measure => simp [intOf]; omega
       ·obtain rfl : k = n := by omega
        have HY := Lib.hid (getD_out (l := v) (k := k) (by rw [HV.out]; exact Nat.le_refl _))
        have HS := Lib.hid (HI3.out.step (xx := z + c) hkn3 (by rw [HZ.out, HY.out, Nat.add_zero]) (z := ((z : Int) + (c : Int)) % 1000000000) (by omega))
        go_wp2
        go_roundw
        case rel => exact ⟨k + 1, (z + c) / 1000000000, _, by omega, by go_num, int_eq (by omega), by omega, HS.out, HO3.out.setCell _ _⟩
        case measure => simp [intOf]
      ·obtain rfl : k = n + 1 := by omega
       have FIN := Lib.hid (digit_fin1 VPOS.out VLT.out HD.out.1 HD.out.2 HG.out (HI3.out.done HI.out.len HV.out).1 (HI3.out.done HI.out.len HV.out).2)
       have HGQ := Lib.hid (show gp = val 1000000000 U / val 1000000000 v from by have := HGP.out; have := FIN.out.1; omega)
       go_wp2
       go_ret
       exact ⟨M, congrArg (fun x : Nat => Ending.returned (Value.int .u32 (x : Int))) HGQ.out, HI3.out.part, HI3.out.len, HI3.out.lim, FIN.out.2, HO3.out⟩
end Go.Proofs.YteionhenpehogaaGreatDoor
namespace Go.Proofs.YteionhenpehogaaGreatDoor
open Go.RowKit Tally
def GivesDiv (w : World) (A B : Nat) (e : Ending) (w' : World) : Prop :=
 ∃ a1 k1 c1 a2 k2 c2 lq lr, e = .returned (.tuple #[.slice a1 k1 c1, .slice a2 k2 c2]) ∧ LR w' (.slice a1 k1 c1) lq ∧ LR w' (.slice a2 k2 c2) lr ∧ Lim 1000000000 lq ∧ Lim 1000000000 lr ∧
  val 1000000000 lq = A / B ∧ val 1000000000 lr = A % B ∧ Below w.heap.size w w'
theorem lr_nil (w : World) : LR w (.slice none 0 0) [] := ⟨none, 0, 0, 0, rfl, Nat.le_refl _, by decide, fun h => by simp at h, fun i hi => by simp at hi⟩
set_option maxHeartbeats 1000000 in
theorem divide_less {w : World} {va vb : Value} {a b : List Nat} (ha : LR w va a) (hb : LR w vb b) (ca : Canon 1000000000 a) (cb : Canon 1000000000 b) (hlt : val 1000000000 a < val 1000000000 b) :
  Calls Tryz.prog 158 #[va, vb] w (GivesDiv w (val 1000000000 a) (val 1000000000 b)) := by
 obtain ⟨p, b1, o1, c1, rfl, l1, m1, s1, r1⟩ := id ha
 have R1 := Lib.hid r1
 clear r1
 have hc := cmpN_lt hlt
 have HC := Lib.hid hc
 have FQ := Lib.hid (Nat.div_eq_of_lt hlt)
 have FR := Lib.hid (Nat.mod_eq_of_lt hlt)
 have HA := Lib.hid ha
 have LA := Lib.hid ca.1
 have CMP := compare_any ha hb ca cb
 rw [hc] at CMP
 replace CMP := Lib.hid CMP
 clear hc ha hb ca cb hlt
 go_enter Tryz.func158, Tryz.ntmps158
 go_wp2_with fail
 refine (CMP.out).mono ?_
 rintro e w1 ⟨rfl, hbl⟩
 have HB := Lib.hid hbl
 clear hbl
 go_wp2
 go_ret2
 exact ⟨_, _, _, _, _, _, [], a, rfl, lr_nil _, HA.out.below HB.out, by intro x hx; simp at hx, LA.out, FQ.out.symm, FR.out.symm, HB.out⟩
set_option maxHeartbeats 1000000 in
theorem divide_one {w : World} {va vb : Value} {a b : List Nat} (ha : LR w va a) (hb : LR w vb b) (ca : Canon 1000000000 a) (cb : Canon 1000000000 b) (hge : val 1000000000 b ≤ val 1000000000 a) (h1 : b.length = 1) (na : a.length ≤ 999999999999) :
  Calls Tryz.prog 158 #[va, vb] w (GivesDiv w (val 1000000000 a) (val 1000000000 b)) := by
 obtain ⟨d, rfl⟩ : ∃ d, b = [d] := by
  rcases b with _ | ⟨d, _ | ⟨_, _⟩⟩
  ·simp at h1
  ·exact ⟨d, rfl⟩
  ·simp at h1
 obtain ⟨q, b2, o2, c2, rfl, l2, m2, s2, r2⟩ := id hb
 have t2 : w.cell? ⟨b2, o2, none⟩ = some (.int .u32 (d : Nat)) := r2 0 (by simp)
 obtain rfl := s2 (by simp)
 simp only [List.length_singleton] at l2 hb ⊢
 clear s2 r2
 have hd : d ≠ 0 := by have := cb.2 (by simp); simpa using this
 have hdl : d < 1000000000 := cb.1 d (by simp)
 have vd : val 1000000000 [d] = d := by simp
 obtain ⟨p, b1, o1, c1, rfl, l1, m1, s1, r1⟩ := id ha
 have R1 := Lib.hid r1
 clear r1
 have hc : (0 : Int) ≤ cmpN (val 1000000000 a) (val 1000000000 [d]) := by
  rcases Nat.lt_or_ge (val 1000000000 [d]) (val 1000000000 a) with q | q
  ·rw [cmpN_gt q]; decide
  ·rw [cmpN_eq (by omega)]; decide
 have HA := Lib.hid ha
 have CA := Lib.hid ca
 have CMP := Lib.hid (compare_any ha hb ca cb)
 have SHORT := Lib.hid (fun (w1 : World) (hb : Below w.heap.size w w1) => short_any (ha.below hb) ca.1 (show a.length ≤ 1000000000000 by omega) (show 1 ≤ d by omega) hdl)
 rw [vd] at hc CMP ⊢
 have HD := Lib.hid hd
 clear ha hb ca cb hge vd h1 hd
 go_enter Tryz.func158, Tryz.ntmps158
 go_wp2_with fail
 refine (CMP.out).mono ?_
 rintro e w1 ⟨rfl, hbl⟩
 have t3 := keepc hbl t2
 have HB := Lib.hid hbl
 clear hbl t2
 go_wp2_with fail
 refine (SHORT.out _ HB.out).mono ?_
 rintro e w2 ⟨g, g2, L, rfl, hl, hn, hlim, hv, hr, hb2⟩
 have HL := Lib.hid hl
 have HV := Lib.hid hv
 have HR := Lib.hid hr
 have HB2 := Lib.hid hb2
 clear hl hv hr hb2 hn
 go_wp2
 go_ret2
 exact ⟨_, _, _, _, _, _, L, [val 1000000000 a % d], rfl, HL.out, HR.out, hlim, Lim.single (Nat.lt_trans (Nat.mod_lt _ (by have := HD.out; omega)) hdl), HV.out, by simp, bt HB.out HB2.out⟩
set_option maxHeartbeats 800000 in
theorem trim_same {w : World} {a : Option Addr} {n0 c : Nat} {l : List Nat} (h : LR w (.slice a n0 c) l) :
  Calls Tryz.prog 155 #[.slice a n0 c] w fun e w' => e = .returned (.slice a (trimZ l).length c) ∧ trimZ l = l.take (trimZ l).length ∧ Below w.heap.size w w' := by
 obtain ⟨a', b, o, c', hv, hlc, hm, hs, hr⟩ := h
 injection hv with ev1 ev2 ev3
 subst ev1 ev2 ev3
 have hz : trimZ l = trimZ (l.take l.length) := by rw [List.take_length]
 generalize hn : l.length = n at *
 replace hz := Lib.hid hz
 go_enter Tryz.func155, Tryz.ntmps155
 go_wp2
 go_loopw [0] (fun i wr => ∃ k : Nat, k ≤ n ∧ i = .slice a k c ∧ trimZ (l.take k) = trimZ l ∧ Below w.heap.size w wr) (fun i _ => match i with | .slice _ k _ => k | _ => 0)
 case atStart => exact ⟨n, Nat.le_refl _, rfl, Eq.symm hz, Below.refl _ _⟩
 case round =>
  obtain ⟨k, hk, rfl, ht, hb⟩ := hrel
  by_cases hk0 : k = 0
  ·subst hk0
   go_wp2
   go_ret
   have e0 : trimZ l = [] := by rw [← ht]; rfl
   exact ⟨by rw [e0]; rfl, by rw [e0]; rfl, hb⟩
  ·obtain ⟨k, rfl⟩ : ∃ j, k = j + 1 := ⟨k - 1, by omega⟩
   obtain rfl := hs (by omega)
   have t1 : wr.cell? ⟨b, o + k, none⟩ = some (.int .u32 (l.getD k 0 : Nat)) := by rw [hb.cell (p := ⟨b, o + k, none⟩) (World.block_lt_of_cell? _ _ (hr k (by omega)))]; exact hr k (by omega)
   have hkz : (0 : Int) < ((k + 1 : Nat) : Int) := by omega
   have hi0 : ((k + 1 : Nat) : Int) - 1 = (k : Int) := by omega
   obtain ⟨x, hx⟩ : ∃ x, l.getD k 0 = x := ⟨_, rfl⟩
   rw [hx] at t1
   have go : ∀ i, i < l.length → wr.cell? ⟨b, o + i, none⟩ = some (.int .u32 (l.getD i 0 : Nat)) := fun i hi => by
    rw [hb.cell (p := ⟨b, o + i, none⟩) (World.block_lt_of_cell? _ _ (hr i (by omega)))]; exact hr i (by omega)
   replace go := Lib.hid go
   clear hr
   by_cases h0 : x = 0
   ·subst h0
    replace t1 : wr.cell? ⟨b, o + k, none⟩ = some (.int .u32 0) := t1
    replace hx := Lib.hid hx
    go_wp2
    refine ⟨⟨k, by omega, by first | rfl | go_num, by rw [← ht, take_step (by omega) hx], hb⟩, ?_⟩
    simp
   ·have hx0 : ((x : Int) == 0) = false := by simp; omega
    replace hx := Lib.hid hx
    go_wp2
    go_ret
    have e0 : trimZ l = l.take (k + 1) := by rw [← ht, take_stop (by omega) (by rw [hx]; exact h0)]
    have e1 : (trimZ l).length = k + 1 := by rw [e0, List.length_take]; omega
    exact ⟨by rw [e1]; rfl, by rw [e1]; exact e0, hb⟩
theorem times_scale {w : World} {va : Value} {a : List Nat} {gs s : Nat} (ha : LR w va a) (la : Lim 1000000000 a) (na : a.length ≤ 1000000000000) (hs : s < 1000000000) (hc : w.cell? ⟨gs, 0, none⟩ = some (.int .u32 (s : Nat))) :
  Calls Tryz.prog 118 #[va, .slice (some ⟨gs, 0, none⟩) 1 1] w (GivesRow w (a.length + 1) (val 1000000000 a * s)) := by
 have h : LR w (.slice (some ⟨gs, 0, none⟩) 1 1) [s] := ⟨some ⟨gs, 0, none⟩, gs, 0, 1, rfl, by simp, by decide, fun _ => rfl, fun i hi => by
  obtain rfl : i = 0 := by simpa using hi
  exact hc⟩
 have := times_any ha h la (Lim.single hs) na (by simp)
 rw [show val 1000000000 [s] = s by simp, show [s].length = 1 from rfl] at this
 exact this
theorem trimZ_le (l : List Nat) : (trimZ l).length ≤ l.length := by
 unfold trimZ
 rw [List.length_reverse]
 have := (List.dropWhile_sublist (l := l.reverse) (fun x => x == 0)).length_le
 rwa [List.length_reverse] at this
structure ValQ (w : World) (gu gq lu m k V T : Nat) (U Q : List Nat) : Prop where
 ownU : Own .u32 175 w gu U
 lenU : U.length = lu
 limU : Lim 1000000000 U
 ownQ : Own .u32 175 w gq Q
 lenQ : Q.length = m
 limQ : Lim 1000000000 Q
 low : ∀ i, i < k → Q.getD i 0 = 0
 top : val 1000000000 (U.drop k) < V
 sum : val 1000000000 U + V * val 1000000000 Q = T
theorem ValQ.parts {w : World} {gu gq lu m k nv V T : Nat} {U Q : List Nat} (h : ValQ w gu gq lu m (k + 1) V T U Q) (hk : k < m) (hm : m + nv = lu) (hn : 2 ≤ nv) (hV : V < 1000000000 ^ nv) :
  ∃ P R S, U = P ++ R ++ S ∧ P.length = k ∧ R.length = nv + 1 ∧ Lim 1000000000 R ∧ Lim 1000000000 P ∧ Lim 1000000000 S ∧ val 1000000000 S = 0 ∧ val 1000000000 R < 1000000000 * V := by
 have hl := h.lenU
 have e : U = U.take k ++ (U.drop k).take (nv + 1) ++ (U.drop k).drop (nv + 1) := by
  rw [List.append_assoc, List.take_append_drop, List.take_append_drop]
 have h1 : (U.take k).length = k := by rw [List.length_take]; omega
 have h2 : ((U.drop k).take (nv + 1)).length = nv + 1 := by rw [List.length_take, List.length_drop]; omega
 obtain ⟨n, rfl⟩ : ∃ n, nv = n + 1 := ⟨nv - 1, by omega⟩
 have d := h.top
 have li := h.limU
 rw [e] at d li
 rw [show k + 1 = (U.take k).length + 1 by rw [h1]] at d
 have z := divide_part li h2 hV d
 exact ⟨_, _, _, e, h1, h2, (h.limU.drop k).take _, h.limU.take k, (h.limU.drop k).drop _, z.1, z.2⟩
set_option maxHeartbeats 4000000 in
set_option maxRecDepth 100000 in
theorem divide_long {w : World} {va vb : Value} {a b : List Nat} {n : Nat} (ha : LR w va a) (hb : LR w vb b) (ca : Canon 1000000000 a) (cb : Canon 1000000000 b) (hge : val 1000000000 b ≤ val 1000000000 a) (hn : b.length = n + 1) (hn1 : 1 ≤ n)
  (na : a.length ≤ 999999999999) :
  Calls Tryz.prog 158 #[va, vb] w (GivesDiv w (val 1000000000 a) (val 1000000000 b)) := by
 have hla : b.length ≤ a.length := Nat.le_of_not_lt fun q => by
  have := Canon.lt_of_length (B := 1000000000) (by decide) ca.1 cb q
  omega
 have nb : b.length ≤ 999999999999 := by omega
 obtain ⟨q, b2, o2, c2, rfl, l2, m2, s2, r2⟩ := id hb
 obtain rfl := s2 (by omega)
 obtain ⟨p, b1, o1, c1, rfl, l1, m1, s1, r1⟩ := id ha
 have t2 : w.cell? ⟨b2, o2 + n, none⟩ = some (.int .u32 (b.getD n 0 : Nat)) := r2 n (by omega)
 have bt2 : b.getD n 0 < 1000000000 := Lim.getD cb.1 (by decide) n
 have SC := Lib.hid (fun (v : List Nat) (hv : Canon 1000000000 v) (e : val 1000000000 v = val 1000000000 b * (1000000000 / (b.getD n 0 + 1))) => scaled (h := 500000000) (by decide) cb hn hv e (by decide))
 obtain ⟨t, ht⟩ : ∃ t, b.getD n 0 = t := ⟨_, rfl⟩
 rw [ht] at t2 bt2 SC
 have HT := Lib.hid ht
 clear ht
 have t1 : 1 ≤ t := by
  have ne : b ≠ [] := by rintro rfl; simp at hn
  have := cb.2 ne
  rw [List.getLast_eq_getElem] at this
  rw [← HT.out, getD_eq (by omega)]
  simp only [hn, Nat.add_sub_cancel] at this
  omega
 obtain ⟨s, hs⟩ : ∃ s, 1000000000 / (t + 1) = s := ⟨_, rfl⟩
 have hsi : (1000000000 : Int) / ((t : Int) + 1) = (s : Int) := by rw [← hs, Int.natCast_ediv]; rfl
 have sp : 1 ≤ s := hs ▸ scale_pos bt2
 have sl : s < 1000000000 := hs ▸ scale_lt t1 bt2
 rw [hs] at SC
 clear hs
 have hc : (0 : Int) ≤ cmpN (val 1000000000 a) (val 1000000000 b) := by
  rcases Nat.lt_or_ge (val 1000000000 b) (val 1000000000 a) with q | q
  ·rw [cmpN_gt q]; decide
  ·rw [cmpN_eq (by omega)]; decide
 have hbn : ((b.length : Int) == 1) = false := by rw [beq_eq_false_iff_ne]; omega
 have hbi : (b.length : Int) - 1 = (n : Int) := by omega
 have hb0 : (n : Int) < (b.length : Int) := by omega
 have hb1 : (0 : Int) ≤ (n : Int) := by omega
 obtain ⟨lb, hlb⟩ : ∃ x, b.length = x := ⟨_, rfl⟩
 obtain ⟨la, hla2⟩ : ∃ x, a.length = x := ⟨_, rfl⟩
 have HLB := Lib.hid hlb
 have HLA := Lib.hid hla2
 have HA := Lib.hid ha
 have HB := Lib.hid hb
 have CA := Lib.hid ca
 have CB := Lib.hid cb
 have HN := Lib.hid hn
 have HLE := Lib.hid hla
 have HGE := Lib.hid hge
 have CMP := Lib.hid (compare_any ha hb ca cb)
 have R1 := Lib.hid r1
 rw [hla2] at na
 rw [hlb] at nb
 simp only [hlb, hla2] at hbn hbi hb0 HA HB l1 l2 s1 CMP ⊢
 clear r2 s2 ha hb ca cb hge hn hla r1 hlb hla2
 go_enter Tryz.func158, Tryz.ntmps158
 go_wp2_with fail
 refine (CMP.out).mono ?_
 rintro e w1 ⟨rfl, hbl⟩
 have t3 := keepc hbl t2
 have HB1 := Lib.hid hbl
 clear hbl t2
 go_wp2_with fail
 have HS0 := Lib.hid (show Own .u32 175 (w1.alloc (.cells #[.int .u32 s] 175)) w1.heap.size [s] from heap_alloc_new w1 _)
 have HX0 := Lib.hid (show Below w1.heap.size w1 (w1.alloc (.cells #[.int .u32 s] 175)) from (Below.refl _ _).alloc (Nat.le_refl _) _)
 have HSZ := Lib.hid (show (w1.alloc (.cells #[.int .u32 s] 175)).heap.size = w1.heap.size + 1 by simp)
 obtain ⟨gs, hgs⟩ : ∃ gs, w1.heap.size = gs := ⟨_, rfl⟩
 have HGS := Lib.hid hgs
 rw [hgs] at HS0 HSZ ⊢
 clear hgs
 revert HS0 HX0 HSZ
 generalize (w1.alloc (.cells #[.int .u32 s] 175)) = w2
 intro HX0 HSZ HS0
 have HB2 := Lib.hid (bt HB1.out HX0.out)
 refine (times_scale (HA.out.below HB2.out) CA.out.1 (by rw [HLA.out]; omega) sl (HS0.out.cell (i := 0) (by simp))).mono ?_
 rintro e w3 ⟨gu, U, rfl, hoU, hlU, hiU, hvU, hgU, hb3⟩
 rw [HLA.out] at hlU ⊢
 have HOU := Lib.hid hoU
 have HLU := Lib.hid hlU
 have HIU := Lib.hid hiU
 have HVU := Lib.hid hvU
 have HGU := Lib.hid hgU
 have HB3 := Lib.hid hb3
 clear hoU hlU hiU hvU hgU hb3
 go_wp2_with fail
 refine (times_scale (HB.out.below (bt HB2.out HB3.out)) CB.out.1 (by rw [HLB.out]; omega) sl ((HS0.out.below HB3.out).cell (i := 0) (by simp))).mono ?_
 rintro e w4 ⟨gv, L, rfl, hoV, hlV, hiV, hvV, hgV, hb4⟩
 rw [HLB.out] at hlV ⊢
 have HOV := Lib.hid hoV
 have HLV := Lib.hid hlV
 have HIV := Lib.hid hiV
 have HVV := Lib.hid hvV
 have HGV := Lib.hid hgV
 have HB4 := Lib.hid hb4
 clear hoV hlV hiV hvV hgV hb4
 go_wp2_with fail
 refine (trim_same (HOV.out.all (n := lb + 1) (c := lb + 1) HLV.out.symm (Nat.le_refl _) (by omega))).mono ?_
 rintro e w5 ⟨rfl, htr, hb5⟩
 have CT := Lib.hid (canon_trimZ 1000000000 L HIV.out)
 have HTV := Lib.hid (SC.out (trimZ L) CT.out (by rw [val_trimZ]; exact HVV.out))
 obtain ⟨nv, hnv⟩ : ∃ nv, (trimZ L).length = nv := ⟨_, rfl⟩
 rw [hnv] at htr HTV ⊢
 have HNV := Lib.hid hnv
 have HTR := Lib.hid htr
 have HB5 := Lib.hid hb5
 clear htr hb5 hnv
 have HNV1 := Lib.hid (show nv = n + 1 from HTV.out.2.1)
 have hnv2 : 2 ≤ nv := by have := HNV1.out; omega
 have hnv3 : nv ≤ la := by have := HNV1.out; have := HN.out; have := HLE.out; have := HLA.out; have := HLB.out; omega
 obtain ⟨m, hm⟩ : ∃ m, m + nv = la + 1 := ⟨la + 1 - nv, by omega⟩
 have hmi : (la : Int) + 1 - (nv : Int) = (m : Int) := by omega
 have hm0 : 1 ≤ m := by omega
 have HMN := Lib.hid hm
 clear hm
 obtain ⟨i0, hi, hz0, hz1, hz2⟩ := info_parts infoU
 have hmk := fun W : World => run_make (P := Tryz.prog) (w := W) 33 175 i0 (.int .u32 0) Tryz.underlying33 hi hz0 .i64 .i64 (m : Int) (m : Int) (by omega) (by omega) (by rw [hz2]; omega) (by omega)
 have e1 : ((m : Int)).toNat = m := by omega
 simp only [hz1, e1, Nat.mul_one, show (Value.int IntKind.u32 0).cells = #[Value.int IntKind.u32 0] from rfl] at hmk
 clear e1 hz0 hz1 hz2 hi
 go_wp2_with fail
 go_loop [7] (fun t => t = .slice (some ⟨gu, 0, none⟩) (la + 1) (la + 1)) (fun _ => 0)
 case atStart => rfl
 case round =>
  subst hrel
  go_wp2_with fail
  clear hmk
  have HQ0 := Lib.hid (Own.made (K := .u32) (t := 175) w5 m)
  have HX6 := Lib.hid ((Below.refl w5.heap.size w5).alloc (Nat.le_refl _) (.cells (madeCells #[.int .u32 0] m) 175))
  obtain ⟨gq, hgq⟩ : ∃ g, w5.heap.size = g := ⟨_, rfl⟩
  have HGQ := Lib.hid hgq
  rw [hgq] at HQ0 ⊢
  clear hgq
  revert HX6 HQ0
  generalize (w5.alloc (.cells (madeCells #[.int .u32 0] m) 175)) = w6
  intro HX6 HQ0
  have HB6 := Lib.hid (bt (bt (bt (bt HB2.out HB3.out) HB4.out) HB5.out) HX6.out)
  have HOU6 := Lib.hid ((((HOU.out.below HB4.out).below HB5.out).below HX6.out))
  have HOV6 := Lib.hid ((HOV.out.below HB5.out).below HX6.out)
  have HS6 := Lib.hid ((((HS0.out.below HB3.out).below HB4.out).below HB5.out).below HX6.out)
  have DIS := Lib.hid (show gs ≠ gu ∧ gu ≠ gv ∧ gq ≠ gu ∧ gv ≠ gq ∧ gs ≠ gv ∧ gs ≠ gq ∧ w.heap.size ≤ gu ∧ w.heap.size ≤ gq by
   have := HGS.out; have := HSZ.out; have := HGU.out; have := HOU.out.lt; have := HGV.out; have := HOV.out.lt; have := HB5.out.size; have := HGQ.out; have := HB2.out.size
   refine ⟨?_, ?_, ?_, ?_, ?_, ?_, ?_, ?_⟩ <;> omega)
  have HV0 := Lib.hid (show val 1000000000 (trimZ L) = val 1000000000 b * s by rw [val_trimZ]; exact HVV.out)
  have HVB := Lib.hid (show val 1000000000 (trimZ L) < 1000000000 ^ nv by have := val_lt 1000000000 (trimZ L) CT.out.1; rw [HNV.out] at this; exact this)
  have ST := Lib.hid (show val 1000000000 (U.drop m) < val 1000000000 (trimZ L) by
   have h1 := val_lt 1000000000 a CA.out.1
   rw [HLA.out] at h1
   have := divide_start (la := la) (n := n) (U := U) (by decide) h1 HVU.out CB.out HN.out HV0.out sp (by have := HNV1.out; omega) HLU.out
   rw [show m = la - n by have := HMN.out; have := HNV1.out; omega]
   exact this)
  go_wp2_with fail
  go_loopw [11] (fun i wr => ∃ (k : Nat) (qz : Int) (U Q : List Nat), Hid (qz = (k : Int) - 1) ∧ k ≤ m ∧ i = .int .i64 qz ∧ ValQ wr gu gq (la + 1) m k (val 1000000000 (trimZ L)) (val 1000000000 a * s) U Q ∧ Own .u32 175 wr gv L ∧ Own .u32 175 wr gs [s] ∧ Below w.heap.size w wr) (fun i _ => (intOf i + 1).toNat)
  case atStart => exact ⟨m, (m : Int) - 1, U, _, rfl, Nat.le_refl _, rfl, ⟨HOU6.out, HLU.out, HIU.out, HQ0.out, by simp, Lim.zeros (by decide) _, fun i _ => zeros_at, ST.out, by rw [val_zeros, HVU.out]; simp⟩, HOV6.out, HS6.out, HB6.out⟩
  case round =>
   obtain ⟨k, qz, U2, Q, hq, hk, rfl, hI, hv2, hs2, hb2⟩ := hrel
   have HI := Lib.hid hI
   have HV2 := Lib.hid hv2
   have HS2 := Lib.hid hs2
   have HBR := Lib.hid hb2
   clear hI hv2 hs2 hb2
   rcases k with _ | j
   ·obtain rfl : qz = -1 := by have := hq.out; omega
    have c0 := HS2.out.cell (i := 0) (by simp)
    have hmn := HMN.out
    have h1 : (0 : Int) ≤ (nv : Int) := by omega
    have h2 : (nv : Int) ≤ (la : Int) + 1 := by omega
    have LRU := Lib.hid (show LR wr (.slice (some ⟨gu, 0, none⟩) nv (la + 1)) (U2.take nv) from by
     have := HI.out.ownU.row (n := nv) (c := la + 1) (by rw [HI.out.lenU]; omega) (by omega) (by omega)
     exact this)
    have LTU := Lib.hid (show Lim 1000000000 (trimZ (U2.take nv)) from (HI.out.limU.take nv).trimZ)
    have NTU := Lib.hid (show (trimZ (U2.take nv)).length ≤ 1000000000000 from by have := trimZ_le (U2.take nv); rw [List.length_take] at this; omega)
    have FIN := Lib.hid (show val 1000000000 Q = val 1000000000 a / val 1000000000 b ∧ val 1000000000 (trimZ (U2.take nv)) / s = val 1000000000 a % val 1000000000 b from by
     have tp := HI.out.top
     rw [List.drop_zero] at tp
     have e := divide_end sp HV0.out HI.out.sum tp
     rw [val_trimZ]
     have d := val_take_drop 1000000000 U2 nv (by rw [HI.out.lenU]; omega)
     have hvb := HVB.out
     have z : val 1000000000 (U2.drop nv) = 0 := by
      rcases Nat.eq_zero_or_pos (val 1000000000 (U2.drop nv)) with q | q
      ·exact q
      ·have : 1000000000 ^ nv * 1 ≤ 1000000000 ^ nv * val 1000000000 (U2.drop nv) := Nat.mul_le_mul_left _ q
       omega
     rw [z, Nat.mul_zero, Nat.add_zero] at d
     rw [← d]
     exact e)
    have HL := Lib.hid (fun (w' : World) (hb : Below wr.heap.size wr w') => (⟨hb, (hb.cell (p := ⟨gs, 0, none⟩) HS2.out.lt).trans c0⟩ : Below wr.heap.size wr w' ∧ w'.cell? ⟨gs, 0, none⟩ = some (.int .u32 (s : Nat))))
    have HW0 := Lib.hid (fun (w' : World) (hs : Below wr.heap.size wr w' ∧ w'.cell? ⟨gs, 0, none⟩ = some (.int .u32 (s : Nat))) => hs.1)
    have HBW := Lib.hid (Nat.le_refl wr.heap.size)
    have HB0 := Lib.hid (Below.refl wr.heap.size wr)
    clear hmn
    go_wp2_with fail
    go_region_held3 (fun w' => Below wr.heap.size wr w' ∧ w'.cell? ⟨gs, 0, none⟩ = some (.int .u32 (s : Nat)))
     (first | exact HL.out _ (Below.drew HB0.out) | exact HL.out _ (held_next (And.left (by assumption)) HBW.out (by assumption)))
     (first | (go_at_call 155; (with_reducible refine (trim_any (LRU.out.below (HW0.out _ (by assumption)))).mono ?_); rintro e w8 ⟨u8, rfl, hu8, hb8⟩; have HU8 := Lib.hid hu8; have HB8 := Lib.hid hb8; clear hu8) | (go_at_call 176; (with_reducible refine (short_any (HU8.out _ (LRU.out.below (HW0.out _ (by assumption)))) LTU.out NTU.out sp sl).mono ?_); rintro e w9 ⟨g9, g10, L9, rfl, hl9, hn9, hi9, hv9, hr9, hb9⟩; have HL9 := Lib.hid hl9; have HI9 := Lib.hid hi9; have HV9 := Lib.hid hv9; have HB9 := Lib.hid hb9; clear hl9 hn9 hi9 hv9 hr9))
    go_wp2
    go_ret2
    have bx : Below wr.heap.size wr w9 := bt (bt (Below.drew HB0.out) HB8.out) HB9.out
    refine ⟨_, _, _, _, _, _, Q, L9, rfl, ?_, HL9.out, HI.out.limQ, HI9.out, FIN.out.1, by rw [HV9.out]; exact FIN.out.2, bt HBR.out bx⟩
    exact (HI.out.ownQ.below bx).all (n := m) (c := m) HI.out.lenQ.symm (Nat.le_refl _) (by omega)
   ·obtain rfl : qz = (j : Int) := by have := hq.out; omega
    obtain ⟨P, R, S, hU2, hP, hR, lR, lP, lS, zS, hlt⟩ := HI.out.parts (by omega) HMN.out hnv2 HVB.out
    have hmn := HMN.out
    have g1 : (0 : Int) ≤ (j : Int) := by omega
    have g2 : (j : Int) ≤ (j : Int) + (nv : Int) + 1 := by omega
    have g3 : (j : Int) + (nv : Int) + 1 ≤ (la : Int) + 1 := by omega
    have g4 : (j : Int) < (m : Int) := by omega
    have fq := HI.out.ownQ.frozen j
    have PT := Lib.hid (show Part wr gu j P S R from ⟨by have := HI.out.ownU; rw [hU2] at this; exact this, hP⟩)
    have DG := Lib.hid (fun cap (hc : nv + 1 ≤ cap) => digit_any (cap := cap) (b := gv) (o := 0) (c := lb + 1) (v := trimZ L) (n := nv) PT.out hR lR hc HNV.out CT.out.1 (by have := HNV1.out; have := HN.out; have := HLB.out; omega) (fun i hi => by
      rw [Nat.zero_add, HV2.out.cell (by rw [HLV.out]; have := HNV1.out; have := HN.out; have := HLB.out; omega)]
      congr 3
      rw [HTR.out]
      simp [List.getD, hi]) (fun q => DIS.out.2.1 q.symm) hnv2 (by omega) (by rw [HNV1.out]; exact HTV.out.2.2) hlt)
    have HU2 := Lib.hid hU2
    have HP := Lib.hid hP
    have HR := Lib.hid hR
    have HZS := Lib.hid zS
    have LPS := Lib.hid (And.intro lP lS)
    have HXL := Lib.hid (show val 1000000000 R / val 1000000000 (trimZ L) < 1000000000 from Nat.div_lt_of_lt_mul (by rw [Nat.mul_comm]; exact hlt))
    clear hU2 hP hR lR lP lS zS hlt hmn
    go_wp2_with fail
    rw [show j + nv + 1 - j = nv + 1 by omega]
    (with_reducible refine (DG.out (la + 1 - j) (by omega)).mono ?_)
    rintro e w7 ⟨R2, rfl, hp2, hr2, hl2, hv2, ho2⟩
    have HP2 := Lib.hid hp2
    have HR2 := Lib.hid hr2
    have HL2 := Lib.hid hl2
    have HV3 := Lib.hid hv2
    have HO2 := Lib.hid ho2
    have fq2 := (ho2.own DIS.out.2.2.1 HI.out.ownQ).frozen j
    have tq2 := (ho2.own DIS.out.2.2.1 HI.out.ownQ).cell (i := j) (by rw [HI.out.lenQ]; omega)
    clear hp2 hr2 hl2 hv2 ho2
    have STEP := Lib.hid (divide_step (P := P) (R := R) (R' := R2) (S := S) (Q := Q) (T := val 1000000000 a * s) HZS.out rfl HV3.out (by have := HI.out.top; omega) (by rw [HP.out, HI.out.lenQ]; omega) (HI.out.low _ (by rw [HP.out]; omega)) (by have := HI.out.sum; rw [HU2.out] at this; exact this))
    go_wp2
    go_roundw
    case rel =>
     have QX := HO2.out.own DIS.out.2.2.1 HI.out.ownQ
     have bq : ∀ x, Only gq w7 (w7.setCell ⟨gq, j, none⟩ x) := fun x => (Only.refl gq w7).setCell j x
     refine ⟨j, (j : Int) - 1, P ++ R2 ++ S, Q.set j (val 1000000000 R / val 1000000000 (trimZ L)), rfl, by omega, rfl, ⟨?_, ?_, ?_, ?_, ?_, ?_, ?_, ?_, ?_⟩, ?_, ?_, ?_⟩
     ·exact (bq _).own DIS.out.2.2.1.symm HP2.out.1
     ·have := HI.out.lenU
      rw [HU2.out] at this
      simp only [List.length_append] at this ⊢
      rw [HR2.out]
      rw [HR.out] at this
      omega
     ·exact (LPS.out.1.append HL2.out).append LPS.out.2
     ·exact QX.set j _
     ·simp [HI.out.lenQ]
     ·exact HI.out.limQ.set HXL.out _
     ·intro i hi
      have := HI.out.low i (by omega)
      simp only [List.getD] at this ⊢
      rw [List.getElem?_set_ne (by omega)]
      exact this
     ·have := STEP.out.1; rw [HP.out] at this; exact this
     ·have := STEP.out.2; rw [HP.out] at this; exact this
     ·exact (bq _).own DIS.out.2.2.2.1 (HO2.out.own (fun q => DIS.out.2.1 q.symm) HV2.out)
     ·exact (bq _).own DIS.out.2.2.2.2.2.1 (HO2.out.own DIS.out.1 HS2.out)
     ·exact (HBR.out.trans (HO2.out.below DIS.out.2.2.2.2.2.2.1 (by have := HBR.out.size; omega))).trans ((bq _).below DIS.out.2.2.2.2.2.2.2 (by have := HBR.out.size; have := HO2.out.size; omega))
    case measure => simp [intOf]
theorem divide_any {w : World} {va vb : Value} {a b : List Nat} (ha : LR w va a) (hb : LR w vb b) (ca : Canon 1000000000 a) (cb : Canon 1000000000 b) (h0 : b ≠ [])
  (na : a.length ≤ 999999999999) :
  Calls Tryz.prog 158 #[va, vb] w (GivesDiv w (val 1000000000 a) (val 1000000000 b)) := by
 rcases Nat.lt_or_ge (val 1000000000 a) (val 1000000000 b) with h | h
 ·exact divide_less ha hb ca cb h
 ·obtain ⟨n, hn⟩ : ∃ n, b.length = n + 1 := ⟨b.length - 1, by have := List.length_pos_iff.2 h0; omega⟩
  by_cases h1 : b.length = 1
  ·exact divide_one ha hb ca cb h h1 na
  ·exact divide_long ha hb ca cb h hn (by omega) na
end Go.Proofs.YteionhenpehogaaGreatDoor
