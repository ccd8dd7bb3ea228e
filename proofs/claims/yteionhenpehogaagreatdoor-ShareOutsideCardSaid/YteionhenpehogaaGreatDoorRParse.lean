import Derived.Test.YteionhenpehogaaGreatDoorRLimbs
import Derived.Test.YteionhenpehogaaGreatDoorDivs
import Derived.Test.YteionhenpehogaaGreatDoorInts
import Derived.Test.YteionhenpehogaaGreatDoorParse
import Derived.Test.YteionhenpehogaaGreatDoorPlain
import Derived.Laws.OwnMore
import Derived.Deep.DeepCutAuto
namespace Go.Proofs.YteionhenpehogaaGreatDoor
open Go.RowKit Tally
theorem run_append_nil {P : Program} {w : World} (base : Nat) (t ty e : TypeId) (i : TypeInfo) (size : Nat) (ht : P.underlying t = some (.slice e)) (hi : P.info? e = some i)
  (v : Value) (n c : Nat) (xs : List Value) (hown : w.ownsRow base e size v n xs) :
  (Builtin.append_ #[t, t] ty #[v, .slice none 0 c]).run P w = .ok v w := by
 rcases hown.2 with ⟨rfl, rfl⟩ | ⟨g, cap, cur, rfl, _, _, hnc, _⟩
 ·simp [Builtin.append_, run_underlying ht, sizeOf, typeInfo, hi, Builtin.lenOf, Builtin.firstCells]
 ·simp [Builtin.append_, run_underlying ht, sizeOf, typeInfo, hi, Builtin.lenOf, Builtin.firstCells, hnc, storeCells]
theorem wpList_append_nil {P : Program} {w : World} {ops : Array Oper} {rest : List Oper} {o : Oper} {a : Act} {Q : Exit → Act → World → Prop} (hgd : o.guard = none) (s x : Operand) (t : TypeId)
  (ho : o.op = .call { callee := .builtin .append, args := #[s, x], argTypes := #[t, t] })
  (base : Nat) (e : TypeId) (i : TypeInfo) (size : Nat) (ht : P.underlying t = some (.slice e)) (hi : P.info? e = some i)
  (v : Value) (n c : Nat) (xs : List Value) (hs : a.eval s = v) (hown : w.ownsRow base e size v n xs) (hx : a.eval x = .slice none 0 c)
  (h : wpList P ops Q rest (a.put o.dst v) w) : wpList P ops Q (o :: rest) a w := by
 refine wpList_plain hgd fun K hK => ?_
 have hrun := run_append_nil (P := P) (w := w) base t o.type e i size ht hi v n c xs hown
 unfold Oper.wp
 simp [execOp, ho, resolve, invoke, builtin, hs, hx, hrun, Result.andThen]
 exact hK _ _ h
theorem wpList_append_row {w : World} {ops : Array Oper} {rest : List Oper} {o : Oper} {a : Act} {Q : Exit → Act → World → Prop} (hgd : o.guard = none) (s x : Operand)
  (ho : o.op = .call { callee := .builtin .append, args := #[s, x], argTypes := #[53, 53] })
  (base : Nat) (v : Value) (n : Nat) (X L : List Nat) (y : Value) (hs : a.eval s = v) (hown : w.ownsRow base 3 1 v n (numsOf .i64 X)) (hx : a.eval x = y) (hy : QR w y L)
  (h63 : n + L.length ≤ 17000000000000) (hbase : base ≤ w.heap.size)
  (h : ∀ v' w', w'.ownsRow base 3 1 v' (n + L.length) (numsOf .i64 (X ++ L)) → w.grownBy w' v.ownBlock → wpList Tryz.prog ops Q rest (a.put o.dst v') w') : wpList Tryz.prog ops Q (o :: rest) a w := by
 obtain ⟨i0, hi, hz0, hz1, hz2⟩ := info_parts infoI
 obtain ⟨p, b, q, c, rfl, hl, hm, hp, hr⟩ := hy
 have some1 : ∀ ad : Addr, p = some ad → (∀ j u, (numsOf .i64 L)[j]? = some u → w.cell? (ad.add j) = some u) → wpList Tryz.prog ops Q (o :: rest) a w := fun ad e hc => by
  subst e
  refine wpList_append_own w hgd s x 53 ho base 3 i0 (.int .i64 0) 1 8 Tryz.underlying53 hi hz0 hz1 hz2 rfl (by decide) v n _ hs hown ad L.length c (numsOf .i64 L) hx (by rw [numsOf_length, Nat.mul_one]) hc numsOf_one (by unfold maxLen; omega) (by omega) hbase ?_
  intro v' w' ho' hg _
  exact h v' w' (by rw [numsOf_append]; exact ho') hg
 rcases Nat.eq_zero_or_pos L.length with h0 | h0
 ·have hL : L = [] := List.length_eq_zero_iff.1 h0
  subst hL
  cases p with
  | some ad => exact some1 ad rfl (fun j u hu => by simp [numsOf] at hu)
  | none =>
   exact wpList_append_nil hgd s x 53 ho base 3 i0 1 Tryz.underlying53 hi v n c _ hs hown hx (h v w (by rw [List.length_nil, Nat.add_zero, List.append_nil]; exact hown) ⟨rfl, rfl, rfl, Nat.le_refl _, fun _ _ _ => rfl⟩)
 ·obtain rfl := hp h0
  refine some1 _ rfl (fun j u hu => ?_)
  have hj : j < L.length := by rw [← numsOf_length .i64 L]; exact (List.getElem?_eq_some_iff.1 hu).1
  rw [numsOf_get hj] at hu
  rw [← Option.some.inj hu, addr_at]
  exact hr j hj
end Go.Proofs.YteionhenpehogaaGreatDoor
namespace Go.Proofs.YteionhenpehogaaGreatDoor
open Go.RowKit Tally
def rGivesDiv (w : World) (A B : Nat) (e : Ending) (w' : World) : Prop :=
 ∃ a1 k1 c1 a2 k2 c2 lq lr, e = .returned (.tuple #[.slice a1 k1 c1, .slice a2 k2 c2]) ∧ QR w' (.slice a1 k1 c1) lq ∧ QR w' (.slice a2 k2 c2) lr ∧ Canon 10000 lq ∧ Canon 10000 lr ∧
  val 10000 lq = A / B ∧ val 10000 lr = A % B ∧ Below w.heap.size w w'
theorem qr_nil (w : World) : QR w (.slice none 0 0) [] := ⟨none, 0, 0, 0, rfl, Nat.le_refl _, by decide, fun h => by simp at h, fun i hi => by simp at hi⟩
theorem qr_shape {w : World} {v : Value} {l : List Nat} (h : QR w v l) : ∃ a c, v = .slice a l.length c := by
 obtain ⟨a, b, o, c, rfl, _⟩ := h
 exact ⟨a, c, rfl⟩
theorem rcanon_len {a b : List Nat} (ca : Canon 10000 a) (cb : Canon 10000 b) (h : val 10000 a ≤ val 10000 b) : a.length ≤ b.length := Nat.le_of_not_lt fun q => by
 have := Canon.lt_of_length (B := 10000) (by decide) cb.1 ca q
 omega
set_option maxHeartbeats 1000000 in
theorem rquo_less {w : World} {va vb : Value} {a b : List Nat} (ha : QR w va a) (hb : QR w vb b) (ca : Canon 10000 a) (cb : Canon 10000 b) (hl : a.length < b.length) :
  Calls Tryz.prog 164 #[va, vb] w (rGivesDiv w (val 10000 a) (val 10000 b)) := by
 have hlt := Canon.lt_of_length (B := 10000) (by decide) ca.1 cb hl
 have FQ := Lib.hid (Nat.div_eq_of_lt hlt)
 have FR := Lib.hid (Nat.mod_eq_of_lt hlt)
 have HA := Lib.hid ha
 have CA := Lib.hid ca
 obtain ⟨p, c1, rfl⟩ := qr_shape ha
 obtain ⟨q, c2, rfl⟩ := qr_shape hb
 have hlz : (a.length : Int) < (b.length : Int) := by omega
 clear ha hb ca cb hlt
 go_enter Tryz.func164, Tryz.ntmps164
 go_wp2
 go_ret2
 exact ⟨_, _, _, _, _, _, [], a, rfl, qr_nil _, HA.out, canon_nil _, CA.out, FQ.out.symm, FR.out.symm, Below.refl _ _⟩
structure RValQ (w : World) (gq m k : Nat) (a b l Q : List Nat) : Prop where
 own : Own .i64 3 w gq Q
 len : Q.length = m
 lim : Lim 10000 Q
 low : ∀ i, i < k → Q.getD i 0 = 0
 can : Canon 10000 l
 top : val 10000 l < val 10000 b
 sum : 10000 ^ k * val 10000 (a.drop k) = val 10000 b * val 10000 Q + 10000 ^ k * val 10000 l
theorem qr_row {w : World} {g : Nat} {x : Nat} (h : Own .i64 3 w g [x]) : QR w (.slice (some ⟨g, 0, none⟩) 1 1) [x] := h.all rfl (by simp) (by decide)
theorem qr_drop {w : World} {b o c n k : Nat} {a : List Nat} (hn : a.length = n) (hc : n ≤ c) (hm : c ≤ 9223372036854775807) (hk : k ≤ n)
  (hr : ∀ i, i < n → w.cell? ⟨b, o + i, none⟩ = some (.int .i64 (a.getD i 0 : Nat))) : QR w (.slice (some ⟨b, o + k, none⟩) (n - k) (c - k)) (a.drop k) := by
 have e : (a.drop k).length = n - k := by rw [List.length_drop, hn]
 refine ⟨_, b, o + k, c - k, by rw [e], by omega, by omega, fun _ => rfl, fun i hi => ?_⟩
 rw [Nat.add_assoc, hr (k + i) (by omega)]
 simp [List.getD]
theorem qr_away {w w' : World} {base n : Nat} {v : Value} {L : List Nat} (h : w.ownsRow base 3 1 v n (numsOf .i64 L)) (k : ∀ g, base ≤ g → g < w.heap.size → w'.heap[g]? = w.heap[g]?) : QR w' v L := by
 have h1 : w'.ownsRow base 3 1 v n (numsOf .i64 L) := by
  refine ⟨h.1, ?_⟩
  rcases h.2 with q | ⟨g, cap, cur, e, hb, hh, rest⟩
  ·exact .inl q
  ·exact .inr ⟨g, cap, cur, e, hb, (k g hb (Array.getElem?_eq_some_iff.1 hh).1).trans hh, rest⟩
 exact RowR.of_owns h1
theorem own_one {w : World} {x : Nat} {base : Nat} (hb : base ≤ w.heap.size) : (w.alloc (.cells #[.int .i64 (x : Nat)] 3)).ownsRow base 3 1 (.slice (some ⟨w.heap.size, 0, none⟩) 1 1) 1 (numsOf .i64 [x]) :=
 World.ownsRow_lit w #[.int .i64 (x : Nat)] 1 hb (by decide) rfl
theorem own_none {w : World} {base : Nat} (hb : base ≤ w.heap.size) : (w.alloc (.cells #[] 3)).ownsRow base 3 1 (.slice (some ⟨w.heap.size, 0, none⟩) 0 0) 0 (numsOf .i64 []) :=
 World.ownsRow_lit w #[] 0 hb (by decide) rfl
set_option maxHeartbeats 4000000 in
set_option maxRecDepth 100000 in
theorem rquo_long {w : World} {va vb : Value} {a b : List Nat} {n : Nat} (ha : QR w va a) (hb : QR w vb b) (ca : Canon 10000 a) (cb : Canon 10000 b) (hn : b.length = n + 1) (hl : b.length ≤ a.length) (na : a.length ≤ 999999999999) :
  Calls Tryz.prog 164 #[va, vb] w (rGivesDiv w (val 10000 a) (val 10000 b)) := by
 obtain ⟨i0, hi, hz0, hz1, hz2⟩ := info_parts infoI
 obtain ⟨p, b1, o1, c1, rfl, l1, m1, s1, r1⟩ := id ha
 obtain ⟨q, c2, rfl⟩ := qr_shape hb
 obtain rfl := s1 (by omega)
 obtain ⟨m, hm⟩ : ∃ m, a.length = m + n := ⟨a.length - n, by omega⟩
 have hm0 : 1 ≤ m := by omega
 have hmi : (a.length : Int) - (b.length : Int) + 1 = (m : Int) := by omega
 have hnlt : ¬ (a.length : Int) < (b.length : Int) := by omega
 have V0 := Lib.hid (show val 10000 (a.drop m) < val 10000 b from by
  have := quo_start (B := 10000) (by decide) ca.1 cb hn (by omega)
  rw [show m = a.length - n by omega]
  exact this)
 have BP := Lib.hid (show 0 < val 10000 b from cb.pos (by decide) (by rintro rfl; simp at hn))
 have HA := Lib.hid ha
 have HB := Lib.hid hb
 have CA := Lib.hid ca
 have CB := Lib.hid cb
 have R1 := Lib.hid r1
 have NB := Lib.hid (show b.length ≤ 1000000000000 by omega)
 have hk1 : (0 : Int) ≤ (m : Int) := by omega
 have hk2 : (m : Int) ≤ (a.length : Int) := by omega
 obtain ⟨la, hla⟩ : ∃ x, a.length = x := ⟨_, rfl⟩
 obtain ⟨lb, hlb⟩ : ∃ x, b.length = x := ⟨_, rfl⟩
 have HLA := Lib.hid hla
 have HLB := Lib.hid hlb
 have HMN := Lib.hid hm
 have HLN := Lib.hid hn
 rw [hla] at hmi hnlt HA l1 R1 na hk2 HMN
 rw [hlb] at hmi hnlt HB HLN
 simp only [hla, hlb]
 clear ha hb ca cb r1 hn hl hla hlb hm s1
 have hmk := fun W : World => run_make (P := Tryz.prog) (w := W) 53 3 i0 (.int .i64 0) Tryz.underlying53 hi hz0 .i64 .i64 (m : Int) (m : Int) (by omega) (by omega) (by rw [hz2]; have := HMN.out; omega) (by omega)
 have e1 : ((m : Int)).toNat = m := by omega
 simp only [hz1, e1, Nat.mul_one, show (Value.int IntKind.i64 0).cells = #[Value.int IntKind.i64 0] from rfl] at hmk
 clear e1 hz0 hz1 hz2 hi
 go_enter Tryz.func164, Tryz.ntmps164
 have HQ0 := Lib.hid (Own.made (K := .i64) (t := 3) w m)
 have HX0 := Lib.hid ((Below.refl w.heap.size w).alloc (Nat.le_refl _) (.cells (madeCells #[.int .i64 0] m) 3))
 have HSZ := Lib.hid (show (w.alloc (.cells (madeCells #[.int .i64 0] m) 3)).heap.size = w.heap.size + 1 by simp)
 have HDA := Lib.hid (fun (w' : World) (hb : Below w.heap.size w w') => qr_drop (w := w') (c := c1) (b := b1) (o := o1) (k := m) HLA.out l1 m1 (by omega) (fun i hi => keepc hb (R1.out i hi)))
 have OWN0 := Lib.hid (own_none (w := (w.alloc (.cells (madeCells #[.int .i64 0] m) 3))) (base := w.heap.size + 1) (by rw [HSZ.out]; exact Nat.le_refl _))
 rw [HSZ.out] at OWN0
 go_upto_region 5 with fail
 clear hmk
 go_cut [8] (fun s8 wx => QR wx s8 (a.drop m) ∧ Own .i64 3 wx w.heap.size (List.replicate m 0) ∧ Below w.heap.size w wx)
 case first =>
  by_cases hn0 : n = 0
  ·have hlm : la - m = 0 := by have := HMN.out; omega
   have HB2 := Lib.hid (show Below w.heap.size w ((w.alloc (.cells (madeCells #[.int .i64 0] m) 3)).alloc (.cells #[] 3)) from HX0.out.alloc (by rw [HSZ.out]; omega) _)
   have HQN := Lib.hid (show QR ((w.alloc (.cells (madeCells #[.int .i64 0] m) 3)).alloc (.cells #[] 3)) (.slice (some ⟨w.heap.size + 1, 0, none⟩) 0 0) (a.drop m) from by
    have e : a.drop m = [] := List.drop_eq_nil_of_le (by have := HLA.out; omega)
    rw [e]
    exact ⟨_, w.heap.size + 1, 0, 0, rfl, by simp, by decide, fun _ => rfl, fun i hi => by simp at hi⟩)
   by_cases hcm : c1 = m
   ·subst hcm
    go_wp2_with fail
    go_meet
    exact ⟨HQN.out, HQ0.out.alloc _, HB2.out⟩
   ·go_wp2_with fail
    go_meet
    exact ⟨HQN.out, HQ0.out.alloc _, HB2.out⟩
  ·have hlm : 0 < la - m := by have := HMN.out; omega
   have hcm : ¬ c1 = m := by omega
   go_wp2_with (at_builtin; (with_reducible refine wpList_append_row rfl (.tmp 27) (.tmp 30) rfl (w.heap.size + 1) (.slice (some ⟨w.heap.size + 1, 0, none⟩) 0 0) 0 [] (a.drop m) _ rfl OWN0.out rfl (HDA.out _ (HX0.out.alloc (by rw [HSZ.out]; omega) _)) ?c1 ?c2 ?_))
   case c1 => have := HLA.out; simp; omega
   intro v' w2 ho hg
   have HQN := Lib.hid (show QR w2 v' (a.drop m) from RowR.of_owns ho)
   have HB2 := Lib.hid (show Below w.heap.size w w2 from (HX0.out.alloc (by rw [HSZ.out]; omega) _).grown hg (by simp; omega) (fun j hj => by simp [Value.ownBlock] at hj; omega))
   have HQ2 := Lib.hid (show Own .i64 3 w2 w.heap.size (List.replicate m 0) from (HQ0.out.alloc (.cells #[] 3)).keep (hg.block _ (by simp; omega) (by simp [Value.ownBlock])))
   clear ho hg
   go_wp2_with fail
   go_meet
   exact ⟨HQN.out, HQ2.out, HB2.out⟩
 case rest =>
  obtain ⟨hr0, hq0, hb0⟩ := hcut
  have HR0 := Lib.hid hr0
  have HQ1 := Lib.hid hq0
  have HB0 := Lib.hid hb0
  clear hr0 hq0 hb0
  go_wp2_with fail
  go_loopw [8, 9] (fun s8 s9 wr => ∃ (k : Nat) (qz : Int) (l Q : List Nat), Hid (qz = (k : Int) - 1) ∧ k ≤ m ∧ s9 = .int .i64 qz ∧ QR wr s8 l ∧ RValQ wr w.heap.size m k a b l Q ∧ Below w.heap.size w wr) (fun _ s9 _ => (intOf s9 + 1).toNat)
  case atStart =>
   exact ⟨m, (m : Int) - 1, a.drop m, _, rfl, Nat.le_refl _, rfl, HR0.out, ⟨HQ1.out, by simp, Lim.zeros (by decide) _, fun i _ => zeros_at, canon_drop CA.out m, V0.out, by rw [val_zeros]; simp⟩, HB0.out⟩
  case round =>
   obtain ⟨k, qz, l, Q, hq, hk, rfl, hl, hI, hbr⟩ := hrel
   have HL := Lib.hid hl
   have HI := Lib.hid hI
   have HBR := Lib.hid hbr
   clear hl hI hbr
   rcases k with _ | j
   ·obtain rfl : qz = -1 := by have := hq.out; omega
    have HQR := Lib.hid (show QR wr (.slice (some ⟨w.heap.size, 0, none⟩) m m) Q from HI.out.own.qlimbs HI.out.len (by omega))
    have FIN := Lib.hid (quo_end (a := val 10000 a) (b := val 10000 b) (q := val 10000 Q) (r := val 10000 l) (by have := HI.out.sum; simpa using this) HI.out.top)
    go_wp2_with fail
    refine (rtrim_any HQR.out).mono ?_
    rintro e w2 ⟨u2, rfl, hu, hb2⟩
    have hq2 := (hu _ HQR.out).below hb2
    obtain ⟨p2, c3, hs2⟩ := qr_shape hq2
    have hl2 := HL.out.below hb2
    obtain ⟨p3, c4, hs3⟩ := qr_shape hl2
    subst hs2 hs3
    have HQ2 := Lib.hid hq2
    have HL2 := Lib.hid hl2
    have HBX := Lib.hid (bt HBR.out hb2)
    clear hu hb2 hq2 hl2
    go_wp2_with fail
    go_ret2
    exact ⟨_, _, _, _, _, _, trimZ Q, l, rfl, HQ2.out, HL2.out, canon_trimZ 10000 Q HI.out.lim, HI.out.can, by rw [val_trimZ]; exact FIN.out.1, FIN.out.2, HBX.out⟩
   ·obtain rfl : qz = (j : Int) := by have := hq.out; omega
    obtain ⟨wo, rfl⟩ : ∃ wo : World, wo = wr := ⟨_, rfl⟩
    have hjla : j < la := by have := HMN.out; omega
    have t1 := keepc HBR.out (R1.out j hjla)
    have bx := Lim.getD CA.out.1 (by decide) j
    obtain ⟨x, hx⟩ : ∃ x, a.getD j 0 = x := ⟨_, rfl⟩
    rw [hx] at t1 bx
    have HX := Lib.hid hx
    have hj0 : (0 : Int) ≤ (j : Int) := by omega
    have hjl : (j : Int) < (la : Int) := by omega
    have hjm : (j : Int) < (m : Int) := by omega
    have hjm' : j < m := by omega
    clear hx
    have LL := Lib.hid (show l.length ≤ lb from by
     have := rcanon_len HI.out.can CB.out (Nat.le_of_lt HI.out.top)
     rw [HLB.out] at this
     exact this)
    have LBB := Lib.hid (show lb ≤ 999999999999 from by have := HLN.out; have := HMN.out; omega)
    have HAL := Lib.hid ((Below.refl wo.heap.size wo).alloc (Nat.le_refl _) (.cells #[.int .i64 (x : Nat)] 3))
    go_wp2_with (at_builtin; (refine wpList_append_row rfl (.tmp 42) (.tmp 43) rfl wo.heap.size (.slice (some ⟨wo.heap.size, 0, none⟩) 1 1) 1 [x] l _ rfl (own_one (Nat.le_refl _)) rfl (HL.out.below HAL.out) ?e1 ?e2 ?_))
    case e1 => have := LL.out; have := LBB.out; omega
    case e2 => simp
    intro v' w2 ho hg
    have HQ2 := Lib.hid (show QR w2 v' ([x] ++ l) from RowR.of_owns ho)
    have HB2 := Lib.hid (show Below wo.heap.size wo w2 from HAL.out.grown hg (by simp) (fun j hj => by simp [Value.ownBlock] at hj; omega))
    have HOW := Lib.hid ho
    clear ho hg
    go_wp2_with fail
    refine (rtrim_any HQ2.out).mono ?_
    rintro e w3 ⟨u3, rfl, hu3, hb3⟩
    have HQ3 := Lib.hid ((hu3 _ HQ2.out).below hb3)
    have HB3 := Lib.hid (bt HB2.out hb3)
    have HB23 := Lib.hid hb3
    have HU3 := Lib.hid hu3
    clear hu3 hb3
    have CR := Lib.hid (show Canon 10000 (trimZ ([x] ++ l)) from canon_trimZ 10000 _ (fun y hy => by
     rcases List.mem_append.1 hy with q | q
     ·have : y = x := by simpa using q
      omega
     ·exact HI.out.can.1 y q))
    have VR := Lib.hid (show val 10000 (trimZ ([x] ++ l)) = x + 10000 * val 10000 l from by rw [val_trimZ]; rfl)
    generalize trimZ ([x] ++ l) = r1 at HQ3 CR VR HU3
    obtain ⟨X, hX⟩ : ∃ X, val 10000 r1 = X := ⟨_, rfl⟩
    have HVX := Lib.hid hX
    have HXX := Lib.hid (show X = a.getD j 0 + 10000 * val 10000 l from by rw [← hX, VR.out, HX.out])
    clear hX
    obtain ⟨d, hd⟩ : ∃ d, X / val 10000 b = d := ⟨_, rfl⟩
    have HD := Lib.hid hd
    have hd9 : d ≤ 9999 := by
     have := quo_digit (B := 10000) (b := val 10000 b) (r := val 10000 l) (u := x) (x := X) HI.out.top bx (by rw [HXX.out, HX.out])
     omega
    clear hd
    have LR1 := Lib.hid (show r1.length ≤ 1000000000000 from by
     have h1 : val 10000 r1 < 10000 ^ (lb + 1) := by
      rw [HVX.out, HXX.out, HX.out]
      have := val_lt 10000 b CB.out.1
      rw [HLB.out] at this
      have := HI.out.top
      rw [Nat.pow_succ]
      omega
     rcases Nat.lt_or_ge (lb + 1) r1.length with q | q
     ·have ne : r1 ≠ [] := by rintro rfl; simp at q
      have := CR.out.pow_le (by decide) ne
      have := Nat.pow_le_pow_right (show 0 < 10000 by decide) (show lb + 1 ≤ r1.length - 1 by omega)
      omega
     ·have := LBB.out; omega)
    clear t1 bx
    go_wp2_with fail
    go_loopw [10, 11] (fun s10 s11 wr2 => ∃ lo hi : Nat, s10 = .int .i64 lo ∧ s11 = .int .i64 hi ∧ lo ≤ d ∧ d ≤ hi ∧ hi ≤ 9999 ∧ Below w3.heap.size w3 wr2) (fun s10 s11 _ => (intOf s11 - intOf s10).toNat)
    case atStart => exact ⟨0, 9999, rfl, rfl, Nat.zero_le _, hd9, Nat.le_refl _, Below.refl _ _⟩
    case round =>
     obtain ⟨lo, hi, rfl, rfl, hlo, hhi, hh9, hb4⟩ := hrel
     have HB4 := Lib.hid hb4
     clear hb4
     by_cases hlt : lo < hi
     ·obtain ⟨md, hmd⟩ : ∃ md, (lo + hi + 1) / 2 = md := ⟨_, rfl⟩
      have hmd1 : ((lo : Int) + (hi : Int) + 1) / 2 = (md : Int) := by omega
      have hmd2 : lo < md := by omega
      have hmd3 : md ≤ hi := by omega
      have hltz : (lo : Int) < (hi : Int) := by omega
      have HMD := Lib.hid hmd
      clear hmd
      have HAL4 := Lib.hid ((Below.refl wr.heap.size wr).alloc (Nat.le_refl _) (.cells #[.int .i64 (md : Nat)] 3))
      have HOW4 := Lib.hid (show Own .i64 3 (wr.alloc (.cells #[.int .i64 (md : Nat)] 3)) wr.heap.size [md] from heap_alloc_new wr _)
      have HBX := Lib.hid (show Below w.heap.size w wr from bt (bt HBR.out HB3.out) HB4.out)
      go_wp2_with fail
      refine (rmul_canon (HB.out.below (bt HBX.out HAL4.out)) (qr_row HOW4.out) CB.out.1 (Lim.single (by omega)) NB.out (by simp)).mono ?_
      rintro e w5 ⟨u5, l5, rfl, hq5, hc5, hv5, hb5⟩
      have HQ5 := Lib.hid hq5
      have HC5 := Lib.hid hc5
      have HV5 := Lib.hid (show val 10000 l5 = val 10000 b * md by rw [hv5]; simp)
      have HB5 := Lib.hid (bt (bt HB4.out HAL4.out) hb5)
      clear hq5 hc5 hv5 hb5
      go_wp2_with fail
      refine (rcompare_any HQ5.out (HQ3.out.below HB5.out) HC5.out CR.out).mono ?_
      rintro e w6 ⟨rfl, hb6⟩
      have HB6 := Lib.hid (bt HB5.out hb6)
      rw [HV5.out, HVX.out]
      by_cases hle : md ≤ d
      ·have hc : cmpN (val 10000 b * md) X ≤ 0 := by
        have h1 : val 10000 b * md ≤ X := (digit_mid BP.out).2 (by rw [HD.out]; exact hle)
        rcases Nat.lt_or_ge (val 10000 b * md) X with q | q
        ·rw [cmpN_lt q]; decide
        ·rw [cmpN_eq (by omega)]; decide
       go_wp2
       go_roundw
       case rel => exact ⟨md, hi, rfl, rfl, hle, hhi, hh9, HB6.out⟩
       case measure => simp [intOf]; omega
      ·have hc : ¬ cmpN (val 10000 b * md) X ≤ 0 := by
        have h1 : X < val 10000 b * md := Nat.lt_of_not_le fun q => hle (by rw [← HD.out]; exact (digit_mid BP.out).1 q)
        rw [cmpN_gt h1]; decide
       go_wp2
       go_roundw
       case rel => exact ⟨lo, md - 1, rfl, int_eq (by omega), hlo, by omega, by omega, HB6.out⟩
       case measure => simp [intOf]; omega
     ·obtain rfl : d = lo := by omega
      obtain rfl : d = hi := by omega
      have HOQ := Lib.hid ((HI.out.own.below HB3.out).below HB4.out)
      have cq := HOQ.out.cell (i := j) (by rw [HI.out.len]; exact hjm')
      have fq := HOQ.out.frozen j
      have DX := Lib.hid (show val 10000 b * d ≤ X from by rw [← HD.out, Nat.mul_comm]; exact Nat.div_mul_le_self _ _)
      have HW7 := Lib.hid (show ∃ W7, W7 = wr.setCell ⟨w.heap.size, j, none⟩ (.int .i64 (d : Nat)) from ⟨_, rfl⟩)
      go_wp2_with fail
      obtain ⟨W7, hW7⟩ := HW7.out
      rw [← hW7]
      have HO7 := Lib.hid (show Own .i64 3 W7 w.heap.size (Q.set j d) from by rw [hW7]; exact HOQ.out.set j d)
      have HOY := Lib.hid (show Only w.heap.size wr W7 from by rw [hW7]; exact (Only.refl _ _).setCell j _)
      have HS7 := Lib.hid (show W7.heap.size = wr.heap.size from by rw [hW7]; simp)
      clear hW7 HW7
      have HR7 := Lib.hid (show QR W7 u3 r1 from HU3.out _ (qr_away HOW.out (fun g h1 h2 => by
       rw [HOY.out.block g (by have := HB4.out.size; have := HB23.out.size; omega) (by have := HBR.out.size; have := HI.out.own.lt; omega)]
       rw [HB4.out.block g (by have := HB23.out.size; omega), HB23.out.block g h2])))
      have HB7 := Lib.hid (show Below w.heap.size w W7 from (bt (bt HBR.out HB3.out) HB4.out).trans (HOY.out.below (Nat.le_refl _) (by have := HBR.out.size; have := HB3.out.size; have := HB4.out.size; omega)))
      obtain ⟨W8, hW8, s8, b8, x8⟩ := alloc1 W7 (.cells #[.int .i64 (d : Nat)] 3)
      rw [← hW8]
      have HX8 := Lib.hid (show Own .i64 3 W8 wr.heap.size [d] from by rw [HS7.out] at x8; exact x8)
      have HB8 := Lib.hid b8
      clear hW8 s8 b8 x8 cq fq
      (with_reducible refine (rtrim_any (qr_row HX8.out)).mono ?_)
      rintro e w9 ⟨u9, rfl, hu9, hb9⟩
      have HQ9 := Lib.hid ((hu9 _ (qr_row HX8.out)).below hb9)
      have HB9 := Lib.hid (bt HB8.out hb9)
      clear hu9 hb9
      go_wp2_with fail
      refine (rmul_canon (HB.out.below (bt HB7.out HB9.out)) HQ9.out CB.out.1 (Lim.trimZ (Lim.single (by omega))) NB.out (by have := trimZ_le [d]; simp at this; omega)).mono ?_
      rintro e w10 ⟨u10, l10, rfl, hq10, hc10, hv10, hb10⟩
      rw [val_trimZ, show val 10000 [d] = d by simp] at hv10
      have HQ10 := Lib.hid hq10
      have HC10 := Lib.hid hc10
      have HV10 := Lib.hid hv10
      have HB10 := Lib.hid (bt HB9.out hb10)
      clear hq10 hc10 hv10 hb10
      go_wp2_with fail
      refine (rsub_canon (HR7.out.below HB10.out) HQ10.out CR.out.1 HC10.out.1 LR1.out (rcanon_len HC10.out CR.out (by rw [HV10.out, HVX.out]; exact DX.out)) (by rw [HV10.out, HVX.out]; exact DX.out)).mono ?_
      rintro e w11 ⟨u11, l11, rfl, hq11, hc11, hv11, hb11⟩
      rw [HVX.out, HV10.out] at hv11
      have HQ11 := Lib.hid hq11
      have HC11 := Lib.hid hc11
      have HV11 := Lib.hid (show val 10000 l11 = X % val 10000 b from by
       rw [hv11, ← HD.out]
       have := Nat.div_add_mod X (val 10000 b)
       omega)
      have HB11 := Lib.hid (bt HB10.out hb11)
      clear hq11 hc11 hv11 hb11
      go_wp2
      go_roundw
      case rel =>
       refine ⟨j, (j : Int) - 1, l11, Q.set j d, rfl, by omega, rfl, HQ11.out, ⟨HO7.out.below HB11.out, by simp [HI.out.len], HI.out.lim.set (by omega) _, ?_, HC11.out, by rw [HV11.out]; exact Nat.mod_lt _ BP.out, ?_⟩, bt HB7.out HB11.out⟩
       ·intro i hi
        have := HI.out.low i (by omega)
        simp only [List.getD] at this ⊢
        rw [List.getElem?_set_ne (by omega)]
        exact this
       ·rw [HV11.out]
        exact quo_step (by rw [HI.out.len]; exact hjm') (HI.out.low j (by omega)) (by rw [HLA.out]; exact hjla) HI.out.sum HXX.out HD.out.symm
      case measure => simp [intOf]
theorem rquo_any {w : World} {va vb : Value} {a b : List Nat} (ha : QR w va a) (hb : QR w vb b) (ca : Canon 10000 a) (cb : Canon 10000 b) (h0 : b ≠ []) (na : a.length ≤ 999999999999) :
  Calls Tryz.prog 164 #[va, vb] w (rGivesDiv w (val 10000 a) (val 10000 b)) := by
 rcases Nat.lt_or_ge a.length b.length with h | h
 ·exact rquo_less ha hb ca cb h
 ·obtain ⟨n, hn⟩ : ∃ n, b.length = n + 1 := ⟨b.length - 1, by have := List.length_pos_iff.2 h0; omega⟩
  exact rquo_long ha hb ca cb hn h na
end Go.Proofs.YteionhenpehogaaGreatDoor
namespace Go.Proofs.YteionhenpehogaaGreatDoor
open Go.RowKit Tally
theorem refR_zero (w : World) : RefR w (.agg #[.bool false, .slice none 0 0]) 0 :=
 ⟨false, _, [], rfl, ⟨none, 0, 0, 0, rfl, by simp, by omega, fun h => by simp at h, fun i hi => by simp at hi⟩, canon_nil _, by simp, by simp⟩
end Go.Proofs.YteionhenpehogaaGreatDoor
namespace Go.Proofs.YteionhenpehogaaGreatDoor
open Go.RowKit Tally
def rGivesZZE (w : World) (z y c : Int) (e : Ending) (w' : World) : Prop :=
 ∃ (n : Bool) (a : Option Addr) (k cp : Nat) (n2 : Bool) (a2 : Option Addr) (k2 cp2 : Nat), e = .returned (.tuple #[.agg #[.bool n, .slice a k cp], .agg #[.bool n2, .slice a2 k2 cp2], .int .i64 c]) ∧
  RefR w' (.agg #[.bool n, .slice a k cp]) z ∧ RefR w' (.agg #[.bool n2, .slice a2 k2 cp2]) y ∧ Below w.heap.size w w'
set_option maxHeartbeats 2000000 in
theorem rquorem_any {w : World} {v u : Value} {x y : Int} {N : Nat} (h : RefR w v x) (k : RefR w u y) (hy0 : y ≠ 0) (hx : Dg N x) (hN : N ≤ 999999999990) :
  Calls Tryz.prog 143 #[v, u] w (rGivesZZE w (x.tdiv y) (x.tmod y) 0) := by
 have K := Lib.hid k
 obtain ⟨n1, s1, l1, rfl, lr1, ca1, g1, z1, ab1⟩ := h.parts
 obtain ⟨n2, s2, l2, rfl, lr2, ca2, g2, z2, ab2⟩ := k.parts
 obtain ⟨a1, bb1, oo1, c1, rfl, q1⟩ := id lr1
 obtain ⟨a2, bb2, oo2, c2, rfl, q2⟩ := id lr2
 have f1 := RefR.few ca1 ab1 hx
 have hne : l2 ≠ [] := by
  rintro rfl
  simp at ab2
  omega
 have hsg : (y.sign == 0) = false := by
  rw [beq_eq_false_iff_ne]
  intro e
  exact hy0 (Int.sign_eq_zero_iff_zero.1 e)
 have HQ := Lib.hid (show (if (n1 != n2) = true then -((val 10000 l1 / val 10000 l2 : Nat) : Int) else ((val 10000 l1 / val 10000 l2 : Nat) : Int)) = x.tdiv y from by rw [z1, z2]; exact tdiv_signs)
 have HM := Lib.hid (show (if n1 = true then -((val 10000 l1 % val 10000 l2 : Nat) : Int) else ((val 10000 l1 % val 10000 l2 : Nat) : Int)) = x.tmod y from by rw [z1, z2]; exact tmod_signs)
 have L1 := Lib.hid lr1
 have L2 := Lib.hid lr2
 have C1 := Lib.hid ca1
 have C2' := Lib.hid ca2
 have HNE := Lib.hid hne
 have HF := Lib.hid (show ∀ m, l1 = m → m.length ≤ 999999999999 from fun m e => by subst e; omega)
 generalize l1.length = k1 at *
 generalize l2.length = k2 at *
 clear h k lr1 lr2 ca1 ca2 g1 g2 z1 z2 ab1 ab2 q1 q2 hx hne hy0
 go_enter Tryz.func143, Tryz.ntmps143
 go_wp2_with fail
 obtain ⟨W, hW, hs, hb, b0, b1, b2, b3⟩ := alloc4 w (.cells #[.bool n1, .slice a1 k1 c1] 84) (.cells #[.bool n2, .slice a2 k2 c2] 84) (.cells #[.bool false, .slice none 0 0] 84) (.cells #[.bool false, .slice none 0 0] 84)
 rw [← hW]
 have HB := Lib.hid hb
 have HS := Lib.hid hs
 have B0 := Lib.hid b0
 have B1 := Lib.hid b1
 have B2 := Lib.hid b2
 have B3 := Lib.hid b3
 clear hW hs hb b0 b1 b2 b3
 refine (rsign_any (K.out.below HB.out)).mono ?_
 rintro e w1 ⟨rfl, hb1⟩
 have HB1 := Lib.hid (bt HB.out hb1)
 replace HS := Lib.hid (show w.heap.size + 1 + 1 + 1 + 1 ≤ w1.heap.size from by have := HS.out; have := hb1.size; omega)
 replace B0 := Lib.hid (blk_next B0.out hb1)
 replace B1 := Lib.hid (blk_next B1.out hb1)
 replace B2 := Lib.hid (blk_next B2.out hb1)
 replace B3 := Lib.hid (blk_next B3.out hb1)
 clear hb1
 obtain ⟨d0, d1, _, _⟩ := res_facts B0.out
 obtain ⟨d2, d3, _, _⟩ := res_facts B1.out
 go_wp2_with fail
 refine (rquo_any (L1.out.below HB1.out) (L2.out.below HB1.out) C1.out C2'.out HNE.out (HF.out _ rfl)).mono ?_
 rintro e w2 ⟨p1, i1, j1, p2, i2, j2, lq, lr, rfl, hq1, hr1, hq2, hr2, hq3, hr3, hb2⟩
 have HB2 := Lib.hid (bt HB1.out hb2)
 replace HS := Lib.hid (show w.heap.size + 1 + 1 + 1 + 1 ≤ w2.heap.size from by have := HS.out; have := hb2.size; omega)
 replace B0 := Lib.hid (blk_next B0.out hb2)
 replace B1 := Lib.hid (blk_next B1.out hb2)
 replace B2 := Lib.hid (blk_next B2.out hb2)
 replace B3 := Lib.hid (blk_next B3.out hb2)
 have HQ1 := Lib.hid hq1
 have HR1 := Lib.hid hr1
 have HQ2 := Lib.hid (show Lim 10000 lq from hq2.1)
 have HR2 := Lib.hid (show Lim 10000 lr from hr2.1)
 have HQ3 := Lib.hid hq3
 have HR3 := Lib.hid hr3
 clear hb2 d0 d1 d2 d3 hq1 hr1 hq2 hr2 hq3 hr3
 obtain ⟨d0, d1, _, _⟩ := res_facts B0.out
 obtain ⟨d2, d3, _, _⟩ := res_facts B1.out
 have HL := Lib.hid (fun (w' : World) (hb : Below (w.heap.size + 1 + 1) w2 w') => (⟨hb, (hb.cell (p := ⟨w.heap.size, 0, none⟩) (show w.heap.size < w.heap.size + 1 + 1 by omega)).trans d0, (hb.cell (p := ⟨w.heap.size + 1, 0, none⟩) (show w.heap.size + 1 < w.heap.size + 1 + 1 by omega)).trans d2⟩ : Below (w.heap.size + 1 + 1) w2 w' ∧ w'.cell? ⟨w.heap.size, 0, none⟩ = some (.bool n1) ∧ w'.cell? ⟨w.heap.size + 1, 0, none⟩ = some (.bool n2)))
 have HBW := Lib.hid (show w.heap.size + 1 + 1 ≤ w2.heap.size by have := HS.out; omega)
 have HB0 := Lib.hid (Below.refl (w.heap.size + 1 + 1) w2)
 have HC0 := Lib.hid (Below.drew (Below.refl w2.heap.size w2))
 clear d0 d1 d2 d3
 obtain ⟨d0, d1, _, _⟩ := res_facts B0.out
 obtain ⟨d2, d3, _, _⟩ := res_facts B1.out
 go_wp2_with fail
 go_region_held3 (fun w' => Below (w.heap.size + 1 + 1) w2 w' ∧ w'.cell? ⟨w.heap.size, 0, none⟩ = some (.bool n1) ∧ w'.cell? ⟨w.heap.size + 1, 0, none⟩ = some (.bool n2))
  (first | exact HL.out _ (Below.drew HB0.out) | exact HL.out _ (held_next (And.left (by assumption)) HBW.out (by assumption)) | exact HL.out _ (held_set2 (And.left (by assumption)) (by omega)))
  (first | (go_at_call 144; (with_reducible refine (rsigned_gives (HQ1.out.below HC0.out) HQ2.out).mono ?_); rintro e w3 ⟨n3, a3, k3, c3, rfl, hu3, hb3⟩; have HU3 := Lib.hid hu3; have HB3 := Lib.hid hb3; clear hu3) | (go_at_call 144; (with_reducible refine (rsigned_gives (HR1.out.below (bt HC0.out HB3.out)) HR2.out).mono ?_); rintro e w4 ⟨n4, a4, k4, c4, rfl, hu4, hb4⟩; have HU4 := Lib.hid hu4; have HB4 := Lib.hid hb4; have C2 := Lib.hid (blk_next (blk_next (blk_next B2.out HC0.out) HB3.out) HB4.out); have C3 := Lib.hid (blk_next (blk_next (blk_next B3.out HC0.out) HB3.out) HB4.out); clear hu4; obtain ⟨d4, d5, e4, e5⟩ := res_facts C2.out; obtain ⟨d6, d7, e6, e7⟩ := res_facts C3.out))
 go_wp2
 try simp only [Exit.inBlock, Exit.then]
 have S22 := store22 (x' := .bool n3) (y' := .slice a3 k3 c3) (z' := .bool n4) (u' := .slice a4 k4 c4) C2.out C3.out (show w.heap.size + 1 + 1 ≠ w.heap.size + 1 + 1 + 1 by omega)
 refine bodyPost_ret (results_cell2_slot rfl _ _ (w.heap.size + 1 + 1) (w.heap.size + 1 + 1 + 1) 84 84 _ _ (0, 0) (0, 0) _ _ (.int .i64 0) rfl rfl rfl S22.2.1 S22.2.2 Tryz.underlying84 rfl (by kernel_rfl) Tryz.underlying84 rfl (by kernel_rfl)) rfl ?_
 have fit := HU3.out
 have fit2 := HU4.out
 rw [HQ3.out, show (!(n1 == n2)) = (n1 != n2) from rfl, HQ.out] at fit
 rw [HR3.out, HM.out] at fit2
 exact ⟨_, _, _, _, _, _, _, _, rfl, ((fit.below HB4.out).set2 C2.out).set2 S22.1, (fit2.set2 C2.out).set2 S22.1, held_set2 (held_set2 (bt (bt (bt HB2.out HC0.out) HB3.out) HB4.out) (by omega)) (by omega)⟩
end Go.Proofs.YteionhenpehogaaGreatDoor
namespace Go.Proofs.YteionhenpehogaaGreatDoor
open Go.RowKit Tally
structure RValG (w : World) (N G : Nat) (v u : Value) (a b : List Nat) : Prop where
 ra : QR w v a
 rb : QR w u b
 ca : Canon 10000 a
 cb : Canon 10000 b
 la : a.length ≤ N
 lb : b.length ≤ N
 gcd : (val 10000 a).gcd (val 10000 b) = G
theorem RValG.below {w w' : World} {N G : Nat} {v u : Value} {a b : List Nat} (h : RValG w N G v u a b) (hb : Below w.heap.size w w') : RValG w' N G v u a b :=
 ⟨h.ra.below hb, h.rb.below hb, h.ca, h.cb, h.la, h.lb, h.gcd⟩
set_option maxHeartbeats 2000000 in
theorem rgcd_any {w : World} {v u : Value} {x y : Int} {N : Nat} (h : RefR w v x) (k : RefR w u y) (hx : Dg N x) (hy : Dg N y) (hN : N ≤ 999999999990) :
  Calls Tryz.prog 142 #[v, u] w (rGivesZ w ((x.gcd y : Nat) : Int)) := by
 obtain ⟨n1, s1, l1, rfl, lr1, ca1, g1, z1, ab1⟩ := h.parts
 obtain ⟨n2, s2, l2, rfl, lr2, ca2, g2, z2, ab2⟩ := k.parts
 have f1 := RefR.few ca1 ab1 hx
 have f2 := RefR.few ca2 ab2 hy
 have hG : (val 10000 l1).gcd (val 10000 l2) = x.gcd y := by rw [← ab1, ← ab2]; rfl
 obtain ⟨G, hg⟩ : ∃ G, x.gcd y = G := ⟨_, rfl⟩
 rw [hg] at hG ⊢
 obtain ⟨a1, c1, rfl⟩ := qr_shape lr1
 obtain ⟨a2, c2, rfl⟩ := qr_shape lr2
 have V0 := Lib.hid (show RValG w (N + 1) G _ _ l1 l2 from ⟨lr1, lr2, ca1, ca2, f1, f2, hG⟩)
 clear h k lr1 lr2 ca1 ca2 g1 g2 z1 z2 ab1 ab2 hx hy f1 f2 hG hg
 obtain ⟨k1, hk1⟩ : ∃ k, l1.length = k := ⟨_, rfl⟩
 obtain ⟨k2, hk2⟩ : ∃ k, l2.length = k := ⟨_, rfl⟩
 rw [hk1, hk2] at V0
 simp only [hk1, hk2]
 have HK1 := Lib.hid hk1
 have HK2 := Lib.hid hk2
 clear hk1 hk2
 go_enter Tryz.func142, Tryz.ntmps142
 go_wp2_with fail
 obtain ⟨W, hW, hs, hb, b0, b1, b2⟩ := alloc3 w (.cells #[.bool n1, .slice a1 k1 c1] 84) (.cells #[.bool n2, .slice a2 k2 c2] 84) (.cells #[.bool false, .slice none 0 0] 84)
 rw [← hW]
 have HB := Lib.hid hb
 have B2 := Lib.hid b2
 have V1 := Lib.hid (V0.out.below hb)
 obtain ⟨d0, d1, _, _⟩ := res_facts b0
 obtain ⟨d2, d3, _, _⟩ := res_facts b1
 clear hW hs hb b0 b1 b2
 go_quiet (fail)
 go_wp2_with fail
 clear d0 d1 d2 d3
 go_loopg [5, 6, 7, 8] (val 10000 l2) (fun g s5 s6 s7 s8 wr => ∃ (p1 : Option Addr) (i1 j1 : Nat) (p2 : Option Addr) (i2 j2 : Nat) (a b : List Nat), s5 = .slice p1 i1 j1 ∧ s6 = .slice p2 i2 j2 ∧ Hid (b.length = i2) ∧ Hid (g = val 10000 b) ∧ RValG wr (N + 1) G (.slice p1 i1 j1) (.slice p2 i2 j2) a b ∧ wr.heap[w.heap.size + 1 + 1]? = some (.cells #[.bool false, .slice none 0 0] 84 (0, 0)) ∧ Below w.heap.size w wr)
 case atStart =>
  have bx : ∀ n, Below W.heap.size W (W.drewN n) := fun n => Below.drewN' (Below.refl _ _) n
  exact ⟨a1, k1, c1, a2, k2, c2, l1, l2, rfl, rfl, HK2, rfl, V1.out.below (bx _), blk_next B2.out (bx _), bt HB.out (bx _)⟩
 case round =>
  obtain ⟨p1, i1, j1, p2, i2, j2, a, b, rfl, rfl, hlen, hg, hI, hblk, hbr⟩ := hrel
  have HI := Lib.hid hI
  have HBK := Lib.hid hblk
  have HBR := Lib.hid hbr
  clear hI hblk hbr
  by_cases h0 : i2 = 0
  ·subst h0
   have hbn : b = [] := List.length_eq_zero_iff.1 hlen.out
   have HGA := Lib.hid (show val 10000 a = G from by have := HI.out.gcd; rw [hbn] at this; simpa using this)
   go_wp2_with fail
   refine (rsigned_gives HI.out.ra HI.out.ca.1).mono ?_
   rintro e w2 ⟨n3, a3, k3, c3, rfl, hu3, hb3⟩
   have HU3 := Lib.hid hu3
   have HR3 := Lib.hid (blk_next HBK.out hb3)
   clear hu3
   obtain ⟨d0, d1, e0, e1⟩ := res_facts HR3.out
   go_wp2
   try simp only [Exit.inBlock, Exit.then]
   refine bodyPost_ret (results_cell_row rfl _ _ (w.heap.size + 1 + 1) 84 _ (0, 0) _ rfl (res_set HR3.out) Tryz.underlying84 rfl (by kernel_rfl)) rfl ?_
   have fit := HU3.out
   rw [HGA.out] at fit
   simp only [Bool.false_eq_true, if_false] at fit
   exact ⟨_, _, _, _, rfl, fit.set2 HR3.out, held_set2 (bt HBR.out hb3) (by omega)⟩
  ·have hp : (0 : Int) < (i2 : Int) := by omega
   have hne : b ≠ [] := by rintro rfl; have := hlen.out; simp at this; omega
   have HNE := Lib.hid hne
   clear hne h0
   go_wp2_with fail
   refine (rquo_any HI.out.ra HI.out.rb HI.out.ca HI.out.cb HNE.out (by have := HI.out.la; omega)).mono ?_
   rintro e w2 ⟨q1, m1, o1, q2, m2, o2, lq, lr, rfl, hq1, hr1, hq2, hr2, hq3, hr3, hb2⟩
   have HR1 := Lib.hid hr1
   have HR2 := Lib.hid hr2
   have HR3 := Lib.hid hr3
   have HB2 := Lib.hid hb2
   have HM := Lib.hid (show lr.length = m2 from by
    obtain ⟨a', b', o', c', hv, _⟩ := hr1
    injection hv with _ e _
    exact e.symm)
   clear hq1 hr1 hq2 hr2 hq3 hr3 hb2
   have VLT := Lib.hid (show val 10000 lr < val 10000 b from by
    rw [HR3.out]
    exact Nat.mod_lt _ (HI.out.cb.pos (by decide) HNE.out))
   go_wp2
   go_roundg (val 10000 lr)
   case measure => have := VLT.out; have := hg.out; omega
   case rel =>
    have bx := HB2.out
    refine ⟨p2, i2, j2, q2, m2, o2, b, lr, rfl, rfl, HM, rfl, ⟨HI.out.rb.below bx, HR1.out, HI.out.cb, HR2.out, HI.out.lb, Nat.le_trans (rcanon_len HR2.out HI.out.cb (Nat.le_of_lt VLT.out)) HI.out.lb, ?_⟩, blk_next HBK.out bx, bt HBR.out bx⟩
    rw [HR3.out, Nat.gcd_comm, ← Nat.gcd_rec, Nat.gcd_comm]
    exact HI.out.gcd
end Go.Proofs.YteionhenpehogaaGreatDoor
