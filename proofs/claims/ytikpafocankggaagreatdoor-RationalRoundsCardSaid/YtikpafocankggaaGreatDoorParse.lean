/- Texts put together: Parse, QuoRem, GCD. -/
import Derived.Test.YtikpafocankggaaGreatDoorInts
import Derived.Test.YtikpafocankggaaGreatDoorPlainN
import Derived.Test.YtikpafocankggaaGreatDoorShelf
import Derived.Test.YtikpafocankggaaGreatDoorDivs
import Derived.Test.YtikpafocankggaaGreatDoorPlain
import Derived.Lib.OthersKept
import Derived.Laws.RangeAny
/- The program's Parse. -/
namespace Go.Proofs.YtikpafocankggaaGreatDoor
open Go.RowKit Tally
theorem results_cell_slot {P : Program} {fn : Func} {p q : Tmp} {ty : TypeId} (h : fn.results = #[.cell p ty, .tmp q]) (tmps : Array Value) (w : World) (g : Nat) (t : TypeId) (cs : Array Value) (fr : Nat × Nat) (d : TypeDesc) (v : Value)
  (hp : tmps.getD p undef = .pointer (some ⟨g, 0, none⟩)) (hq : tmps.getD q undef = v) (hg : w.heap[g]? = some (.cells cs t fr))
  (hu : P.underlying ty = some d) (hd : (match d with | .struct _ | .array _ _ => true | _ => false) = true) (hi : (P.info? ty).map (·.size) = some cs.size) :
  (results fn tmps).run P w = .ok (.tuple #[.agg cs, v]) w := by
 have hp' : tmps[p]?.getD undef = .pointer (some ⟨g, 0, none⟩) := by simpa using hp
 have hq' : tmps[q]?.getD undef = v := by simpa using hq
 simp [results, h, hp', hq', asAddr, run_loadVar_row w g t ty cs fr d hg hu hd hi]
def GivesZE (w : World) (z c : Int) (e : Ending) (w' : World) : Prop :=
 ∃ (n : Bool) (a : Option Addr) (k cp : Nat), e = .returned (.tuple #[.agg #[.bool n, .slice a k cp], .int .i64 c]) ∧ IntR w' (.agg #[.bool n, .slice a k cp]) z ∧ Below w.heap.size w w'
theorem intR_zero (w : World) : IntR w (.agg #[.bool false, .slice none 0 0]) 0 :=
 ⟨false, _, [], rfl, ⟨none, 0, 0, 0, rfl, by simp, by omega, fun h => by simp at h, fun i hi => by simp at hi⟩, canon_nil _, by simp, by simp⟩
theorem next_byte {P : Program} (w : World) (g : Nat) (s : ByteArray) (pos : Nat) {c : Nat} (hit : w.heap[g]? = some (.stringIter s pos)) (hp : pos < s.size) (hc : (s[pos]'hp).toNat = c) (ha : c < 128) (ty : TypeId) :
  (Instr.next (.pointer (some ⟨g, 0, none⟩)) true ty).run P w = .ok (.tuple #[.bool true, .int .i64 pos, .int .i32 (c : Int)]) (w.iterAt g s (pos + 1)) := by
 have := Lib.run_next_any_at (P := P) w g s pos ty hit hp
 rw [decode_ascii s pos hp (by omega)] at this
 simpa [hc] using this
theorem next_other {P : Program} (w : World) (g : Nat) (s : ByteArray) (pos : Nat) (hit : w.heap[g]? = some (.stringIter s pos)) (hp : pos < s.size) (hc : ¬ isDigit (s[pos]'hp)) :
  ∃ (r q : Nat), (r < 48 ∨ 57 < r) ∧ r ≤ 2147483647 ∧ ∀ ty, (Instr.next (.pointer (some ⟨g, 0, none⟩)) true ty).run P w = .ok (.tuple #[.bool true, .int .i64 pos, .int .i32 (r : Int)]) (w.iterAt g s q) := by
 refine ⟨(Utf8.decode s pos).1, pos + (Utf8.decode s pos).2, ?_, decode_le s pos, fun ty => Lib.run_next_any_at w g s pos ty hit hp⟩
 by_cases ha : (s[pos]'hp).toNat < 128
 ·rw [decode_ascii s pos hp ha]
  unfold isDigit at hc
  show (s[pos]'hp).toNat < 48 ∨ 57 < (s[pos]'hp).toNat
  omega
 ·have := decode_high s pos hp (by omega)
  omega
theorem iterPos_of {w : World} {k : Nat} {s : ByteArray} {p : Nat} (h : w.heap[k]? = some (.stringIter s p)) : w.iterPos k = p := by simp [World.iterPos, h]
theorem res_next {w : World} {r g : Nat} {o : Obj} {s : ByteArray} {q : Nat} (h : w.heap[r]? = some o) (hne : r ≠ g) : (w.iterAt g s q).heap[r]? = some o := by
 rw [Lib.iterAt_other w g r s q hne]; exact h
theorem owns_below {w w' : World} {base : Nat} {e : TypeId} {size : Nat} {v : Value} {n : Nat} {xs : List Value} (h : w.ownsRow base e size v n xs) (hb : Below w.heap.size w w') : w'.ownsRow base e size v n xs := by
 obtain ⟨h1, h2⟩ := h
 refine ⟨h1, ?_⟩
 rcases h2 with h2 | ⟨g, cap, cur, a, b, c, d⟩
 ·exact .inl h2
 ·exact .inr ⟨g, cap, cur, a, b, blk_next c hb, d⟩
set_option maxHeartbeats 4000000 in
set_option maxRecDepth 100000 in
theorem parse_any {w : World} (s : ByteArray) (hs : s.size ≤ 9223372036854775807) :
  Calls Tryz.prog 27 #[.string s] w (GivesZE w (pval s.data.toList) (pcode s.data.toList)) := by
 obtain ⟨i0, hi, hz0, hz1, hz2⟩ := info_parts infoU
 obtain ⟨D, hD⟩ : ∃ D : ByteArray, (⟨(bodyOf s.data.toList).toArray⟩ : ByteArray) = D := ⟨_, rfl⟩
 have hDl : D.data.toList = bodyOf s.data.toList := by rw [← hD]
 have hDs : D.size ≤ 9223372036854775807 := by
  have h1 := body_length s.data.toList
  rw [← hDl] at h1
  have h2 : s.data.toList.length = s.size := by rw [Array.length_toList]; rfl
  have h3 : D.data.toList.length = D.size := by rw [Array.length_toList]; rfl
  omega
 obtain ⟨neg, hneg⟩ : ∃ b, negOf s.data.toList = b := ⟨_, rfl⟩
 have HDL := Lib.hid hDl
 have HNEG := Lib.hid hneg
 have HCP := Lib.hid (show ∀ W : World, Calls Tryz.prog 66 #[.string s, .string ⟨#[45]⟩] W fun e w' => e = .returned (.tuple #[.string D, .bool neg]) ∧ w' = W from fun W => by
  have := Tryz.strings_CutPrefix s ⟨#[45]⟩ W
  rw [← hD, ← hneg]
  exact this)
 clear hD hDl hneg
 go_enter Tryz.func27, Tryz.ntmps27
 go_wp2_with fail
 refine (HCP.out _).mono ?_
 rintro e w' ⟨rfl, rfl⟩
 go_wp2
 go_loopw [7] (fun _ wr => ∃ pos : Nat, pos ≤ D.size ∧ wr.heap[w.heap.size + 1]? = some (.stringIter D pos) ∧ Hid (∀ i (h : i < D.size), i < pos → isDigit (D[i]'h)) ∧ Below w.heap.size w wr ∧ wr.heap[w.heap.size]? = some (.cells #[.bool false, .slice none 0 0] 25 (0, 0))) (fun _ wr => D.size - wr.iterPos (w.heap.size + 1))
 case atStart =>
  refine ⟨0, Nat.zero_le _, ?_, Lib.hid (fun i h h0 => absurd h0 (Nat.not_lt_zero _)), ((Below.refl _ _).alloc (Nat.le_refl _) _).alloc (by simp) _, ?_⟩
  ·have := World.iter_heap (w.alloc (.cells #[.bool false, .slice none 0 0] 25)) D 0
   simpa using this
  ·show ((w.alloc (.cells #[.bool false, .slice none 0 0] 25)).alloc (.stringIter D 0)).heap[w.heap.size]? = _
   rw [Lib.alloc_old _ _ _ (by simp)]
   exact heap_alloc_new _ _
 case round =>
  obtain ⟨pos, hpos, hit, hdig, hbr, hres⟩ := hrel
  have HIT := Lib.hid hit
  have HB := Lib.hid hbr
  have HR := Lib.hid hres
  have hipos := iterPos_of hit
  have HIP := Lib.hid hipos
  clear hit hbr hres hipos
  by_cases hp : pos < D.size
  ·by_cases hdg : isDigit (D[pos]'hp)
   ·obtain ⟨c, hc⟩ : ∃ c, (D[pos]'hp).toNat = c := ⟨_, rfl⟩
    have hc1 : 48 ≤ c ∧ c ≤ 57 := by unfold isDigit at hdg; omega
    have hdig2 : ∀ i (h : i < D.size), i < pos + 1 → isDigit (D[i]'h) := fun i h hi => by
     by_cases e : i = pos
     ·subst e; exact hdg
     ·exact hdig.out i h (by omega)
    have HD2 := Lib.hid hdig2
    have hnx := next_byte (P := Tryz.prog) wr (w.heap.size + 1) D pos HIT.out hp hc (by omega)
    have hit2 := Lib.iterAt_heap wr (w.heap.size + 1) D pos (pos + 1) HIT.out
    have hb2 := Lib.below_iterAt HB.out (k := w.heap.size + 1) (by omega) D (pos + 1)
    have hr2 := res_next (g := w.heap.size + 1) (s := D) (q := pos + 1) HR.out (by omega)
    generalize wr.iterAt (w.heap.size + 1) D (pos + 1) = W1 at *
    have HIT2 := Lib.hid hit2
    have HB2 := Lib.hid hb2
    have HR2 := Lib.hid hr2
    clear hit2 hb2 hr2 hc hdig2
    go_wp2
    go_roundw
    case rel => exact ⟨pos + 1, by omega, HIT2.out, HD2.out, HB2.out, HR2.out⟩
    case measure => rw [HIP.out, iterPos_of HIT2.out]; omega
   ·obtain ⟨r, q, hr48, hrl, hnx⟩ := next_other (P := Tryz.prog) wr (w.heap.size + 1) D pos HIT.out hp hdg
    have hb2 := Lib.below_iterAt HB.out (k := w.heap.size + 1) (by omega) D q
    have hr2 := res_next (g := w.heap.size + 1) (s := D) (q := q) HR.out (by omega)
    generalize wr.iterAt (w.heap.size + 1) D q = W1 at *
    have HB2 := Lib.hid hb2
    have HR2 := Lib.hid hr2
    clear hb2 hr2
    obtain ⟨d0, d1, e0, e1⟩ := res_facts HR2.out
    have hbad := pcode_syn (l := s.data.toList) (.inl (by
     rw [← HDL.out]
     by_cases hall : D.data.toList.all digB = true
     ·exfalso
      refine hdg (digB_iff.1 (List.all_eq_true.1 hall _ ?_))
      show D[pos] ∈ D.data.toList
      exact Array.mem_toList_iff.2 (Array.getElem_mem _)
     ·simpa using hall))
    have HBAD := Lib.hid hbad
    clear hbad hdg
    rcases hr48 with h48 | h48
    all_goals
     go_wp2
     try simp only [Exit.inBlock, Exit.then]
     refine bodyPost_ret (results_cell_slot rfl _ _ w.heap.size 25 _ (0, 0) _ (.int .i64 3) rfl rfl (res_set HR2.out) Tryz.underlying25 rfl (by kernel_rfl)) rfl ?_
     rw [HBAD.out.1, HBAD.out.2]
     exact ⟨false, none, 0, 0, rfl, intR_zero _, held_set2 HB2.out (Nat.le_refl _)⟩
  ·have hnx : ∀ ty, (Instr.next (.pointer (some ⟨w.heap.size + 1, 0, none⟩)) true ty).run Tryz.prog wr = .ok (.tuple #[.bool false]) wr := fun ty => Lib.run_next_end_at wr (w.heap.size + 1) D pos ty HIT.out hp
   have hsz : D.data.toList.length = D.size := by rw [Array.length_toList]; rfl
   have hall : D.data.toList.all digB = true := List.all_eq_true.2 fun c hc => by
    obtain ⟨i, hi, rfl⟩ := List.getElem_of_mem hc
    exact digB_iff.2 (hdig.out i (by omega) (by omega))
   have HALL := Lib.hid hall
   have HSZ := Lib.hid hsz
   clear hall hsz
   obtain ⟨d0, d1, e0, e1⟩ := res_facts HR.out
   have SYN := Lib.hid (pcode_syn (l := s.data.toList))
   have LIM := Lib.hid (pcode_lim (l := s.data.toList))
   have OKK := Lib.hid (pcode_ok (l := s.data.toList))
   rw [← HDL.out, HNEG.out] at SYN LIM OKK
   have fin : ∀ (z c : Int), z = 0 → pval s.data.toList = 0 ∧ pcode s.data.toList = c → GivesZE w (pval s.data.toList) (pcode s.data.toList) (.returned (.tuple #[.agg #[.bool false, .slice none 0 0], .int .i64 c])) ((wr.setCell ⟨w.heap.size, 0, none⟩ (.bool false)).setCell ⟨w.heap.size, 1, none⟩ (.slice none 0 0)) := fun z c _ h => by
    rw [h.1, h.2]
    exact ⟨false, none, 0, 0, rfl, intR_zero _, held_set2 HB.out (Nat.le_refl _)⟩
   have FIN := Lib.hid fin
   clear fin
   by_cases h0 : D.size = 0
   ·have hE : D.toList.isEmpty = true := by
     rw [Lib.toList_data, List.isEmpty_iff]; exact List.length_eq_zero_iff.1 (by have := HSZ.out; omega)
    have hE2 : (!D.toList.isEmpty) = false := by rw [hE]; rfl
    have HZ := Lib.hid (SYN.out (.inr (.inl (by have := hE; rw [Lib.toList_data, List.isEmpty_iff] at this; exact this))))
    clear h0
    go_wp2
    try simp only [Exit.inBlock, Exit.then]
    refine bodyPost_ret (results_cell_slot rfl _ _ w.heap.size 25 _ (0, 0) _ (.int .i64 3) rfl rfl (res_set HR.out) Tryz.underlying25 rfl (by kernel_rfl)) rfl ?_
    exact FIN.out 0 3 rfl HZ.out.symm
   ·have h00 : 0 < D.size := by omega
    have hE : D.toList.isEmpty = false := by
     rw [Lib.toList_data]
     cases hb : D.data.toList with
     | nil => have := HSZ.out; rw [hb] at this; simp at this; omega
     | cons x l => rfl
    have hE2 : (!D.toList.isEmpty) = true := by rw [hE]; rfl
    obtain ⟨x0, hx0⟩ : ∃ x, (D[0]'h00).toNat = x := ⟨_, rfl⟩
    have hhead : D.data.toList.head? = some 48 ↔ x0 = 48 := by
     have e : D.data.toList.head? = some (D[0]'h00) := by
      rw [List.head?_eq_getElem?, List.getElem?_eq_getElem (by have := HSZ.out; omega)]
      simp
      rfl
     rw [e, ← hx0]
     constructor
     ·intro h; injection h with h; rw [h]; rfl
     ·intro h; congr 1; exact UInt8.toNat_inj.1 h
    have hone : D.data.toList = [48] → D.size = 1 ∧ x0 = 48 := fun h => ⟨by rw [← HSZ.out, h]; rfl, hhead.1 (by rw [h]; rfl)⟩
    have hone2 : D.size = 1 → x0 = 48 → D.data.toList = [48] := fun h1 h2 => by
     have h3 := hhead.2 h2
     match hb : D.data.toList with
     | [] => rw [hb] at h3; simp at h3
     | [y] => rw [hb] at h3; simp at h3; rw [h3]
     | y :: z :: t => have := HSZ.out; rw [hb] at this; simp at this; omega
    have HEAD := Lib.hid hhead
    have ONE := Lib.hid hone
    have ONE2 := Lib.hid hone2
    clear hhead hone hone2
    by_cases h1 : 1 < D.size ∧ x0 = 48
    ·have HZ := Lib.hid (SYN.out (.inr (.inr (.inl ⟨by have := HSZ.out; omega, HEAD.out.2 h1.2⟩))))
     have h1z : (1 : Int) < (D.size : Int) := by omega
     obtain ⟨_, rfl⟩ := h1
     go_wp2
     try simp only [Exit.inBlock, Exit.then]
     refine bodyPost_ret (results_cell_slot rfl _ _ w.heap.size 25 _ (0, 0) _ (.int .i64 3) rfl rfl (res_set HR.out) Tryz.underlying25 rfl (by kernel_rfl)) rfl ?_
     exact FIN.out 0 3 rfl HZ.out.symm
    ·by_cases h2 : neg = true ∧ D.data.toList = [48]
     ·have HZ := Lib.hid (SYN.out (.inr (.inr (.inr h2))))
      have h1z : ¬ (1 : Int) < (D.size : Int) := by have := (ONE.out h2.2).1; omega
      have h48 : (D.toList == [48]) = true := by rw [Lib.toList_data, h2.2]; rfl
      obtain ⟨rfl, _⟩ := h2
      clear h1
      go_wp2
      try simp only [Exit.inBlock, Exit.then]
      refine bodyPost_ret (results_cell_slot rfl _ _ w.heap.size 25 _ (0, 0) _ (.int .i64 3) rfl rfl (res_set HR.out) Tryz.underlying25 rfl (by kernel_rfl)) rfl ?_
      exact FIN.out 0 3 rfl HZ.out.symm
     ·have nsyn : ¬(D.data.toList.all digB = false ∨ D.data.toList = [] ∨ (1 < D.data.toList.length ∧ D.data.toList.head? = some 48) ∨ (neg = true ∧ D.data.toList = [48])) := by
       rintro (h | h | h | h)
       ·rw [HALL.out] at h; simp at h
       ·have := HSZ.out; rw [h] at this; simp at this; omega
       ·exact h1 ⟨by have := HSZ.out; omega, HEAD.out.1 h.2⟩
       ·exact h2 h
      by_cases h3 : 2000 < D.size
      ·have HZ := Lib.hid (LIM.out nsyn (by have := HSZ.out; omega))
       have h1z : (1 : Int) < (D.size : Int) := by omega
       have h3z : (2000 : Int) < (D.size : Int) := by omega
       have hxz : ((x0 : Int) == 48) = false := by simp; omega
       have h48 : (D.toList == [48]) = false := by
        rw [Lib.toList_data]; cases hq : (D.data.toList == [48]) with
        | false => rfl
        | true => have := (ONE.out (by simpa using hq)).1; omega
       clear h1 h2 nsyn
       cases neg
       all_goals
        go_wp2
        try simp only [Exit.inBlock, Exit.then]
        refine bodyPost_ret (results_cell_slot rfl _ _ w.heap.size 25 _ (0, 0) _ (.int .i64 6) rfl rfl (res_set HR.out) Tryz.underlying25 rfl (by kernel_rfl)) rfl ?_
        exact FIN.out 0 6 rfl HZ.out.symm
      ·have HZ := Lib.hid (OKK.out nsyn (by have := HSZ.out; omega))
       have h3z : ¬ (2000 : Int) < (D.size : Int) := by omega
       have HDIG := Lib.hid (show ∀ c ∈ D.data.toList, isDigit c from fun c hc => digB_iff.1 (List.all_eq_true.1 HALL.out c hc))
       have hv : (1 < D.size ∧ x0 ≠ 48 ∧ neg = true) ∨ (1 < D.size ∧ x0 ≠ 48 ∧ neg = false) ∨ (¬ 1 < D.size ∧ neg = true ∧ ¬ D.data.toList = [48]) ∨ (¬ 1 < D.size ∧ neg = false) := by
        cases neg
        ·by_cases q : 1 < D.size
         ·exact .inr (.inl ⟨q, fun e => h1 ⟨q, e⟩, rfl⟩)
         ·exact .inr (.inr (.inr ⟨q, rfl⟩))
        ·by_cases q : 1 < D.size
         ·exact .inl ⟨q, fun e => h1 ⟨q, e⟩, rfl⟩
         ·exact .inr (.inr (.inl ⟨q, rfl, fun e => h2 ⟨rfl, e⟩⟩))
       have h48 : ¬ D.data.toList = [48] → (D.toList == [48]) = false := fun q => by
        rw [Lib.toList_data]; cases hq : (D.data.toList == [48]) with
        | false => rfl
        | true => exact absurd (by simpa using hq) q
       have hn48 : x0 ≠ 48 → ¬ D.data.toList = [48] := fun q e => q (ONE.out e).2
       have H48 := Lib.hid h48
       have HN48 := Lib.hid hn48
       clear h1 h2 nsyn h48 hn48
       rcases hv with ⟨q1, q2, rfl⟩ | ⟨q1, q2, rfl⟩ | ⟨q1, rfl, q2⟩ | ⟨q1, rfl⟩
       case' inl =>
        have f1 : (1 : Int) < (D.size : Int) := by omega
        have f2 : ((x0 : Int) == 48) = false := by simp; omega
        have f3 := H48.out (HN48.out q2)
        clear q2
       case' inr.inl =>
        have f1 : (1 : Int) < (D.size : Int) := by omega
        have f2 : ((x0 : Int) == 48) = false := by simp; omega
        have f3 := H48.out (HN48.out q2)
        clear q2
       case' inr.inr.inl =>
        have f1 : ¬ (1 : Int) < (D.size : Int) := by omega
        have f3 := H48.out q2
        clear q2
       case' inr.inr.inr =>
        have f1 : ¬ (1 : Int) < (D.size : Int) := by omega
       all_goals
        clear q1
        go_wp2
        go_loopw [8, 9] (fun l en wi => ∃ (z : Int) (L : List Nat) (sv : Value), sv = l ∧ en = .int .i64 z ∧ -9 < z ∧ z ≤ 2000 ∧ CutI 9 D.data.toList z L ∧ wi.ownsRow (w.heap.size + 1) 96 1 sv L.length (numsOf .u32 L) ∧ Below w.heap.size w wi ∧ wi.heap[w.heap.size]? = some (.cells #[.bool false, .slice none 0 0] 25 (0, 0))) (fun _ en _ => (intOf en).toNat)
        case atStart => exact ⟨D.size, [], _, rfl, rfl, by omega, by omega, by have := CutI.start 9 D.data.toList; rw [HSZ.out] at this; exact this, World.ownsRow_nil _ _ _ _, HB.out, HR.out⟩
        case round =>
         obtain ⟨z, L, sv, rfl, rfl, hz9, hzu, hcut, hown, hbi, hri⟩ := hrel
         obtain ⟨wo, rfl⟩ : ∃ wo : World, wo = wr := ⟨_, rfl⟩
         have HCUT := Lib.hid hcut
         have HBI := Lib.hid hbi
         have HRI := Lib.hid hri
         clear hcut hbi hri d0 d1 e0 e1
         by_cases hz : 0 < z
         ·have hzs : z ≤ (D.size : Int) := by
           have h1 := HCUT.out.left
           have h2 := HSZ.out
           omega
          have hLs : L.length ≤ 2009 := by
           have h1 := HCUT.out.left
           have h2 := HSZ.out
           omega
          have hszo := HBI.out.size
          obtain ⟨C, hC⟩ : ∃ C, D.extract (max 0 (z - 9)).toNat z.toNat = C := ⟨_, rfl⟩
          have hCl : C.data.toList = (D.data.toList.take z.toNat).drop (z - (9 : Nat)).toNat := by
           rw [← hC, Lib.extract_data, List.drop_take, show (max 0 (z - 9)).toNat = (z - (9 : Nat)).toNat by omega]
          have hCs : C.size ≤ 9 := by
           have h1 : C.data.toList.length = C.size := by rw [Array.length_toList]; rfl
           rw [hCl, List.length_drop, List.length_take] at h1
           omega
          have hCd : ∀ c ∈ C.data.toList, isDigit c := fun c hc => by
           rw [hCl] at hc
           exact HDIG.out c (List.mem_of_mem_take (List.mem_of_mem_drop hc))
          have HCL := Lib.hid hCl
          have HCD := Lib.hid hCd
          have HC := Lib.hid hC
          clear hCl hCd hC
          go_wp2
          rw [HC.out]
          go_loopw [10] (fun v wi => ∃ j : Nat, j ≤ C.size ∧ v = .int .u32 (decVal (C.data.toList.take j) : Nat) ∧ wi.heap[wo.heap.size]? = some (.stringIter C j) ∧ Below wo.heap.size wo wi) (fun _ wi => C.size - wi.iterPos wo.heap.size)
          case atStart => exact ⟨0, Nat.zero_le _, rfl, World.iter_heap _ _ _, (Below.refl _ _).alloc (Nat.le_refl _) _⟩
          case round =>
           obtain ⟨j, hj, rfl, hit2, hbj⟩ := hrel
           have HIT2 := Lib.hid hit2
           have HBJ := Lib.hid hbj
           have HIP2 := Lib.hid (iterPos_of hit2)
           clear hit2 hbj
           have hcl : C.data.toList.length = C.size := by rw [Array.length_toList]; rfl
           have HCLN := Lib.hid hcl
           clear hcl
           by_cases hjc : j < C.size
           ·obtain ⟨c, hc⟩ : ∃ c, (C[j]'hjc).toNat = c := ⟨_, rfl⟩
            have hcd := HCD.out (C[j]'hjc) (Array.mem_toList_iff.2 (Array.getElem_mem _))
            have hc1 : 48 ≤ c ∧ c ≤ 57 := by unfold isDigit at hcd; omega
            have hstep : decVal (C.data.toList.take (j + 1)) = 10 * decVal (C.data.toList.take j) + (c - 48) := by
             rw [List.take_succ_eq_append_getElem (by have := HCLN.out; omega), decVal_snoc, ← hc]
             rfl
            have hbd : decVal (C.data.toList.take j) < 100000000 := by
             have h1 := decVal_lt (C.data.toList.take j) (fun c hc => HCD.out c (List.mem_of_mem_take hc))
             rw [List.length_take] at h1
             have h2 : 10 ^ min j C.data.toList.length ≤ 10 ^ 8 := Nat.pow_le_pow_right (by decide) (by have := HCLN.out; omega)
             omega
            have hnx2 := next_byte (P := Tryz.prog) wr wo.heap.size C j HIT2.out hjc hc (by omega)
            have hit3 := Lib.iterAt_heap wr wo.heap.size C j (j + 1) HIT2.out
            have hb3 := Lib.below_iterAt HBJ.out (k := wo.heap.size) (Nat.le_refl _) C (j + 1)
            generalize wr.iterAt wo.heap.size C (j + 1) = W3 at *
            have HST := Lib.hid hstep
            generalize decVal (C.data.toList.take j) = v at *
            have HIT3 := Lib.hid hit3
            have HB3 := Lib.hid hb3
            clear hstep hit3 hb3 hc hcd
            go_wp2
            go_roundw
            case rel => exact ⟨j + 1, by omega, int_eq (by rw [HST.out]; omega), HIT3.out, HB3.out⟩
            case measure => rw [HIP2.out, iterPos_of HIT3.out]; omega
           ·have hnx2 : ∀ ty, (Instr.next (.pointer (some ⟨wo.heap.size, 0, none⟩)) true ty).run Tryz.prog wr = .ok (.tuple #[.bool false]) wr := fun ty => Lib.run_next_end_at wr wo.heap.size C j ty HIT2.out hjc
            have hfull : decVal (C.data.toList.take j) = decVal ((D.data.toList.take z.toNat).drop (z - (9 : Nat)).toNat) := by
             rw [List.take_of_length_le (by have := HCLN.out; omega), HCL.out]
            have HF := Lib.hid hfull
            clear hfull
            generalize decVal (C.data.toList.take j) = v at *
            have hown1 : wr.ownsRow (w.heap.size + 1) 96 1 sv L.length (numsOf .u32 L) := owns_below hown HBJ.out
            have hszj := HBJ.out.size
            have HO1 := Lib.hid hown1
            clear hown hown1
            go_wp2_with (at_builtin; refine wpList_append_own _ rfl _ _ 23 rfl (w.heap.size + 1) 96 i0 (.int .u32 0) 1 4 Tryz.underlying23 hi hz0 hz1 hz2 rfl (by decide) _ _ _ rfl (HO1.out.alloc _) ⟨wr.heap.size, 0, none⟩ 1 1 [.int .u32 (v : Int)] rfl rfl (cell_one_new _ _ _) (numsOf_one (K := .u32) (L := [v])) (by unfold maxLen; omega) (by omega) (by have := (Array.getElem?_eq_some_iff.1 HRI.out).1; simp; omega) ?_)
            intro v' w4 hown' hgrow _
            have ho2 : w4.ownsRow (w.heap.size + 1) 96 1 v' (L ++ [v]).length (numsOf .u32 (L ++ [v])) := by rw [List.length_append]; exact owns_snoc hown'
            have hb2 : Below w.heap.size w w4 := ((bt HBI.out HBJ.out).alloc (by omega) _).grown hgrow (by simp; omega) (fun i hi => by have := (HO1.out.lt i hi).1; omega)
            have hr2 : w4.heap[w.heap.size]? = some (.cells #[.bool false, .slice none 0 0] 25 (0, 0)) := by
             have hr1 := blk_next HRI.out HBJ.out
             have hlt := (Array.getElem?_eq_some_iff.1 hr1).1
             rw [hgrow.block w.heap.size (by simp; omega) (fun e => by have := (HO1.out.lt w.heap.size e.symm).1; omega), Lib.alloc_old wr _ w.heap.size hlt]
             exact hr1
            have HO2 := Lib.hid ho2
            have HB2 := Lib.hid hb2
            have HR2 := Lib.hid hr2
            clear hown' hgrow ho2 hb2 hr2
            go_wp2
            go_roundw
            case rel => exact ⟨z - 9, L ++ [v], _, rfl, rfl, by omega, by omega, by have := HCUT.out.step (by decide) hz HDIG.out; rw [← HF.out] at this; exact this, HO2.out, HB2.out, HR2.out⟩
            case measure => simp [intOf]; omega
         ·obtain ⟨a, c, rfl⟩ : ∃ a c, sv = .slice a L.length c := by
           rcases hown.2 with ⟨rfl, h0⟩ | ⟨g, cap, cur, rfl, _⟩
           ·exact ⟨none, 0, by rw [h0]⟩
           ·exact ⟨_, _, rfl⟩
          have hs : LR wo (.slice a L.length c) L := RowR.of_owns hown
          have HS := Lib.hid hs
          have hlim : Lim 1000000000 L := HCUT.out.lim
          clear hown hs
          go_wp2_with fail
          refine (signed_gives HS.out hlim).mono ?_
          rintro e w5 ⟨n4, a4, k4, c4, rfl, hu4, hb4⟩
          have HU4 := Lib.hid hu4
          have HR4 := Lib.hid (blk_next HRI.out hb4)
          clear hu4
          obtain ⟨d0, d1, e0, e1⟩ := res_facts HR4.out
          go_wp2
          try simp only [Exit.inBlock, Exit.then]
          refine bodyPost_ret (results_cell_slot rfl _ _ w.heap.size 25 _ (0, 0) _ (.int .i64 0) rfl rfl (res_set HR4.out) Tryz.underlying25 rfl (by kernel_rfl)) rfl ?_
          have fit := HU4.out.set2 (x := .bool n4) (y := .slice a4 k4 c4) HR4.out
          have e1 : decVal D.data.toList = val 1000000000 L := HCUT.out.done (by omega)
          rw [← e1] at fit
          rw [HZ.out.1, HZ.out.2]
          exact ⟨n4, a4, k4, c4, rfl, fit, held_set2 (bt HBI.out hb4) (Nat.le_refl _)⟩
end Go.Proofs.YtikpafocankggaaGreatDoor
/- The program's QuoRem. -/
namespace Go.Proofs.YtikpafocankggaaGreatDoor
open Go.RowKit Tally
set_option maxHeartbeats 1000000 in
theorem quorem_zero {w : World} {v u : Value} {x : Int} (h : IntR w v x) (k : IntR w u 0) :
  Calls Tryz.prog 80 #[v, u] w (GivesZZE w 0 0 10) := by
 have K := Lib.hid k
 obtain ⟨n1, a1, k1, c1, rfl⟩ := h.shape
 obtain ⟨n2, a2, k2, c2, rfl⟩ := k.shape
 clear h k
 go_enter Tryz.func80, Tryz.ntmps80
 go_wp2_with fail
 obtain ⟨W, hW, hs, hb, b0, b1, b2, b3⟩ := alloc4 w (.cells #[.bool n1, .slice a1 k1 c1] 25) (.cells #[.bool n2, .slice a2 k2 c2] 25) (.cells #[.bool false, .slice none 0 0] 25) (.cells #[.bool false, .slice none 0 0] 25)
 rw [← hW]
 have HB := Lib.hid hb
 have B2 := Lib.hid b2
 have B3 := Lib.hid b3
 clear hW hs hb b0 b1 b2 b3
 refine (sign_any (K.out.below HB.out)).mono ?_
 rintro e w1 ⟨rfl, hb1⟩
 have C2 := Lib.hid (blk_next B2.out hb1)
 have C3 := Lib.hid (blk_next B3.out hb1)
 have HB1 := Lib.hid hb1
 clear hb1
 obtain ⟨d0, d1, e0, e1⟩ := res_facts C2.out
 obtain ⟨d2, d3, e2, e3⟩ := res_facts C3.out
 rw [show Int.sign 0 = 0 from rfl]
 go_wp2
 try simp only [Exit.inBlock, Exit.then]
 have S22 := store22 (x' := .bool false) (y' := .slice none 0 0) (z' := .bool false) (u' := .slice none 0 0) C2.out C3.out (show w.heap.size + 1 + 1 ≠ w.heap.size + 1 + 1 + 1 by omega)
 refine bodyPost_ret (results_cell2_slot rfl _ _ (w.heap.size + 1 + 1) (w.heap.size + 1 + 1 + 1) 25 25 _ _ (0, 0) (0, 0) _ _ (.int .i64 10) rfl rfl rfl S22.2.1 S22.2.2 Tryz.underlying25 rfl (by kernel_rfl) Tryz.underlying25 rfl (by kernel_rfl)) rfl ?_
 exact ⟨_, _, _, _, _, _, _, _, rfl, intR_zero _, intR_zero _, held_set2 (held_set2 (bt HB.out HB1.out) (by omega)) (by omega)⟩
set_option maxHeartbeats 2000000 in
theorem quorem_any {w : World} {v u : Value} {x y : Int} {N : Nat} (h : IntR w v x) (k : IntR w u y) (hy0 : y ≠ 0) (hx : Dg N x) (hN : N ≤ 999999999990) :
  Calls Tryz.prog 80 #[v, u] w (GivesZZE w (x.tdiv y) (x.tmod y) 0) := by
 have K := Lib.hid k
 obtain ⟨n1, s1, l1, rfl, lr1, ca1, g1, z1, ab1⟩ := h.parts
 obtain ⟨n2, s2, l2, rfl, lr2, ca2, g2, z2, ab2⟩ := k.parts
 obtain ⟨a1, bb1, oo1, c1, rfl, q1⟩ := id lr1
 obtain ⟨a2, bb2, oo2, c2, rfl, q2⟩ := id lr2
 have f1 := IntR.few ca1 ab1 hx
 have hne : l2 ≠ [] := by
  rintro rfl
  simp at ab2
  omega
 have hsg : (y.sign == 0) = false := by
  rw [beq_eq_false_iff_ne]
  intro e
  exact hy0 (Int.sign_eq_zero_iff_zero.1 e)
 have HQ := Lib.hid (show (if (n1 != n2) = true then -((val 1000000000 l1 / val 1000000000 l2 : Nat) : Int) else ((val 1000000000 l1 / val 1000000000 l2 : Nat) : Int)) = x.tdiv y from by rw [z1, z2]; exact tdiv_signs)
 have HM := Lib.hid (show (if n1 = true then -((val 1000000000 l1 % val 1000000000 l2 : Nat) : Int) else ((val 1000000000 l1 % val 1000000000 l2 : Nat) : Int)) = x.tmod y from by rw [z1, z2]; exact tmod_signs)
 have L1 := Lib.hid lr1
 have L2 := Lib.hid lr2
 have C1 := Lib.hid ca1
 have C2' := Lib.hid ca2
 have HNE := Lib.hid hne
 have HF := Lib.hid (show ∀ m, l1 = m → m.length ≤ 999999999999 from fun m e => by subst e; omega)
 generalize l1.length = k1 at *
 generalize l2.length = k2 at *
 clear h k lr1 lr2 ca1 ca2 g1 g2 z1 z2 ab1 ab2 q1 q2 hx hne hy0
 go_enter Tryz.func80, Tryz.ntmps80
 go_wp2_with fail
 obtain ⟨W, hW, hs, hb, b0, b1, b2, b3⟩ := alloc4 w (.cells #[.bool n1, .slice a1 k1 c1] 25) (.cells #[.bool n2, .slice a2 k2 c2] 25) (.cells #[.bool false, .slice none 0 0] 25) (.cells #[.bool false, .slice none 0 0] 25)
 rw [← hW]
 have HB := Lib.hid hb
 have HS := Lib.hid hs
 have B0 := Lib.hid b0
 have B1 := Lib.hid b1
 have B2 := Lib.hid b2
 have B3 := Lib.hid b3
 clear hW hs hb b0 b1 b2 b3
 refine (sign_any (K.out.below HB.out)).mono ?_
 rintro e w1 ⟨rfl, hb1⟩
 have HB1 := Lib.hid (bt HB.out hb1)
 replace HS := Lib.hid (show w.heap.size + 1 + 1 + 1 + 1 ≤ w1.heap.size from by have := HS.out; have := hb1.size; omega)
 replace B0 := Lib.hid (blk_next B0.out hb1)
 replace B1 := Lib.hid (blk_next B1.out hb1)
 replace B2 := Lib.hid (blk_next B2.out hb1)
 replace B3 := Lib.hid (blk_next B3.out hb1)
 clear hb1
 obtain ⟨d0, d1, _, _⟩ := res_facts B0.out
 obtain ⟨d2, d3, _, _⟩ := res_facts B1.out
 go_wp2_with fail
 refine (divide_any (L1.out.below HB1.out) (L2.out.below HB1.out) C1.out C2'.out HNE.out (HF.out _ rfl)).mono ?_
 rintro e w2 ⟨p1, i1, j1, p2, i2, j2, lq, lr, rfl, hq1, hr1, hq2, hr2, hq3, hr3, hb2⟩
 have HB2 := Lib.hid (bt HB1.out hb2)
 replace HS := Lib.hid (show w.heap.size + 1 + 1 + 1 + 1 ≤ w2.heap.size from by have := HS.out; have := hb2.size; omega)
 replace B0 := Lib.hid (blk_next B0.out hb2)
 replace B1 := Lib.hid (blk_next B1.out hb2)
 replace B2 := Lib.hid (blk_next B2.out hb2)
 replace B3 := Lib.hid (blk_next B3.out hb2)
 have HQ1 := Lib.hid hq1
 have HR1 := Lib.hid hr1
 have HQ2 := Lib.hid hq2
 have HR2 := Lib.hid hr2
 have HQ3 := Lib.hid hq3
 have HR3 := Lib.hid hr3
 clear hb2 d0 d1 d2 d3 hq1 hr1 hq2 hr2 hq3 hr3
 obtain ⟨d0, d1, _, _⟩ := res_facts B0.out
 obtain ⟨d2, d3, _, _⟩ := res_facts B1.out
 have HL := Lib.hid (fun (w' : World) (hb : Below (w.heap.size + 1 + 1) w2 w') => (⟨hb, (hb.cell (p := ⟨w.heap.size, 0, none⟩) (show w.heap.size < w.heap.size + 1 + 1 by omega)).trans d0, (hb.cell (p := ⟨w.heap.size + 1, 0, none⟩) (show w.heap.size + 1 < w.heap.size + 1 + 1 by omega)).trans d2⟩ : Below (w.heap.size + 1 + 1) w2 w' ∧ w'.cell? ⟨w.heap.size, 0, none⟩ = some (.bool n1) ∧ w'.cell? ⟨w.heap.size + 1, 0, none⟩ = some (.bool n2)))
 have HBW := Lib.hid (show w.heap.size + 1 + 1 ≤ w2.heap.size by have := HS.out; omega)
 have HB0 := Lib.hid (Below.refl (w.heap.size + 1 + 1) w2)
 have HC0 := Lib.hid (Below.drew (Below.refl w2.heap.size w2))
 clear d0 d1 d2 d3
 obtain ⟨d0, d1, _, _⟩ := res_facts B0.out
 obtain ⟨d2, d3, _, _⟩ := res_facts B1.out
 go_wp2_with fail
 go_region_held3 (fun w' => Below (w.heap.size + 1 + 1) w2 w' ∧ w'.cell? ⟨w.heap.size, 0, none⟩ = some (.bool n1) ∧ w'.cell? ⟨w.heap.size + 1, 0, none⟩ = some (.bool n2))
  (first | exact HL.out _ (Below.drew HB0.out) | exact HL.out _ (held_next (And.left (by assumption)) HBW.out (by assumption)) | exact HL.out _ (held_set2 (And.left (by assumption)) (by omega)))
  (first | (go_at_call 67; (with_reducible refine (signed_gives (HQ1.out.below HC0.out) HQ2.out).mono ?_); rintro e w3 ⟨n3, a3, k3, c3, rfl, hu3, hb3⟩; have HU3 := Lib.hid hu3; have HB3 := Lib.hid hb3; clear hu3) | (go_at_call 67; (with_reducible refine (signed_gives (HR1.out.below (bt HC0.out HB3.out)) HR2.out).mono ?_); rintro e w4 ⟨n4, a4, k4, c4, rfl, hu4, hb4⟩; have HU4 := Lib.hid hu4; have HB4 := Lib.hid hb4; have C2 := Lib.hid (blk_next (blk_next (blk_next B2.out HC0.out) HB3.out) HB4.out); have C3 := Lib.hid (blk_next (blk_next (blk_next B3.out HC0.out) HB3.out) HB4.out); clear hu4; obtain ⟨d4, d5, e4, e5⟩ := res_facts C2.out; obtain ⟨d6, d7, e6, e7⟩ := res_facts C3.out))
 go_wp2
 try simp only [Exit.inBlock, Exit.then]
 have S22 := store22 (x' := .bool n3) (y' := .slice a3 k3 c3) (z' := .bool n4) (u' := .slice a4 k4 c4) C2.out C3.out (show w.heap.size + 1 + 1 ≠ w.heap.size + 1 + 1 + 1 by omega)
 refine bodyPost_ret (results_cell2_slot rfl _ _ (w.heap.size + 1 + 1) (w.heap.size + 1 + 1 + 1) 25 25 _ _ (0, 0) (0, 0) _ _ (.int .i64 0) rfl rfl rfl S22.2.1 S22.2.2 Tryz.underlying25 rfl (by kernel_rfl) Tryz.underlying25 rfl (by kernel_rfl)) rfl ?_
 have fit := HU3.out
 have fit2 := HU4.out
 rw [HQ3.out, show (!(n1 == n2)) = (n1 != n2) from rfl, HQ.out] at fit
 rw [HR3.out, HM.out] at fit2
 exact ⟨_, _, _, _, _, _, _, _, rfl, ((fit.below HB4.out).set2 C2.out).set2 S22.1, (fit2.set2 C2.out).set2 S22.1, held_set2 (held_set2 (bt (bt (bt HB2.out HC0.out) HB3.out) HB4.out) (by omega)) (by omega)⟩
end Go.Proofs.YtikpafocankggaaGreatDoor
/- The program's GCD. -/
namespace Go.Proofs.YtikpafocankggaaGreatDoor
open Go.RowKit Tally
theorem lr_shape {w : World} {v : Value} {l : List Nat} (h : LR w v l) : ∃ a c, v = .slice a l.length c := by
 obtain ⟨a, b, o, c, rfl, _⟩ := h
 exact ⟨a, c, rfl⟩
structure ValG (w : World) (N G : Nat) (v u : Value) (a b : List Nat) : Prop where
 ra : LR w v a
 rb : LR w u b
 ca : Canon 1000000000 a
 cb : Canon 1000000000 b
 la : a.length ≤ N
 lb : b.length ≤ N
 gcd : (val 1000000000 a).gcd (val 1000000000 b) = G
theorem ValG.below {w w' : World} {N G : Nat} {v u : Value} {a b : List Nat} (h : ValG w N G v u a b) (hb : Below w.heap.size w w') : ValG w' N G v u a b :=
 ⟨h.ra.below hb, h.rb.below hb, h.ca, h.cb, h.la, h.lb, h.gcd⟩
theorem canon_len {a b : List Nat} (ca : Canon 1000000000 a) (cb : Canon 1000000000 b) (h : val 1000000000 a ≤ val 1000000000 b) : a.length ≤ b.length := Nat.le_of_not_lt fun q => by
 have := Canon.lt_of_length (B := 1000000000) (by decide) cb.1 ca q
 omega
set_option maxHeartbeats 2000000 in
theorem gcd_any {w : World} {v u : Value} {x y : Int} {N : Nat} (h : IntR w v x) (k : IntR w u y) (hx : Dg N x) (hy : Dg N y) (hN : N ≤ 999999999990) :
  Calls Tryz.prog 30 #[v, u] w (GivesZ w ((x.gcd y : Nat) : Int)) := by
 obtain ⟨n1, s1, l1, rfl, lr1, ca1, g1, z1, ab1⟩ := h.parts
 obtain ⟨n2, s2, l2, rfl, lr2, ca2, g2, z2, ab2⟩ := k.parts
 have f1 := IntR.few ca1 ab1 hx
 have f2 := IntR.few ca2 ab2 hy
 have hG : (val 1000000000 l1).gcd (val 1000000000 l2) = x.gcd y := by rw [← ab1, ← ab2]; rfl
 obtain ⟨G, hg⟩ : ∃ G, x.gcd y = G := ⟨_, rfl⟩
 rw [hg] at hG ⊢
 obtain ⟨a1, c1, rfl⟩ := lr_shape lr1
 obtain ⟨a2, c2, rfl⟩ := lr_shape lr2
 have V0 := Lib.hid (show ValG w (N + 1) G _ _ l1 l2 from ⟨lr1, lr2, ca1, ca2, f1, f2, hG⟩)
 clear h k lr1 lr2 ca1 ca2 g1 g2 z1 z2 ab1 ab2 hx hy f1 f2 hG hg
 obtain ⟨k1, hk1⟩ : ∃ k, l1.length = k := ⟨_, rfl⟩
 obtain ⟨k2, hk2⟩ : ∃ k, l2.length = k := ⟨_, rfl⟩
 rw [hk1, hk2] at V0
 simp only [hk1, hk2]
 have HK1 := Lib.hid hk1
 have HK2 := Lib.hid hk2
 clear hk1 hk2
 go_enter Tryz.func30, Tryz.ntmps30
 go_wp2_with fail
 obtain ⟨W, hW, hs, hb, b0, b1, b2⟩ := alloc3 w (.cells #[.bool n1, .slice a1 k1 c1] 25) (.cells #[.bool n2, .slice a2 k2 c2] 25) (.cells #[.bool false, .slice none 0 0] 25)
 rw [← hW]
 have HB := Lib.hid hb
 have B2 := Lib.hid b2
 have V1 := Lib.hid (V0.out.below hb)
 obtain ⟨d0, d1, _, _⟩ := res_facts b0
 obtain ⟨d2, d3, _, _⟩ := res_facts b1
 clear hW hs hb b0 b1 b2
 go_quiet (fail)
 go_wp2_with fail
 clear d0 d1 d2 d3
 go_loopg [5, 6, 7, 8] (val 1000000000 l2) (fun g s5 s6 s7 s8 wr => ∃ (p1 : Option Addr) (i1 j1 : Nat) (p2 : Option Addr) (i2 j2 : Nat) (a b : List Nat), s5 = .slice p1 i1 j1 ∧ s6 = .slice p2 i2 j2 ∧ Hid (b.length = i2) ∧ Hid (g = val 1000000000 b) ∧ ValG wr (N + 1) G (.slice p1 i1 j1) (.slice p2 i2 j2) a b ∧ wr.heap[w.heap.size + 1 + 1]? = some (.cells #[.bool false, .slice none 0 0] 25 (0, 0)) ∧ Below w.heap.size w wr)
 case atStart =>
  have bx : ∀ n, Below W.heap.size W (W.drewN n) := fun n => Below.drewN' (Below.refl _ _) n
  exact ⟨a1, k1, c1, a2, k2, c2, l1, l2, rfl, rfl, HK2, rfl, V1.out.below (bx _), blk_next B2.out (bx _), bt HB.out (bx _)⟩
 case round =>
  obtain ⟨p1, i1, j1, p2, i2, j2, a, b, rfl, rfl, hlen, hg, hI, hblk, hbr⟩ := hrel
  have HI := Lib.hid hI
  have HBK := Lib.hid hblk
  have HBR := Lib.hid hbr
  clear hI hblk hbr
  by_cases h0 : i2 = 0
  ·subst h0
   have hbn : b = [] := List.length_eq_zero_iff.1 hlen.out
   have HGA := Lib.hid (show val 1000000000 a = G from by have := HI.out.gcd; rw [hbn] at this; simpa using this)
   go_wp2_with fail
   refine (signed_gives HI.out.ra HI.out.ca.1).mono ?_
   rintro e w2 ⟨n3, a3, k3, c3, rfl, hu3, hb3⟩
   have HU3 := Lib.hid hu3
   have HR3 := Lib.hid (blk_next HBK.out hb3)
   clear hu3
   obtain ⟨d0, d1, e0, e1⟩ := res_facts HR3.out
   go_wp2
   try simp only [Exit.inBlock, Exit.then]
   refine bodyPost_ret (results_cell_row rfl _ _ (w.heap.size + 1 + 1) 25 _ (0, 0) _ rfl (res_set HR3.out) Tryz.underlying25 rfl (by kernel_rfl)) rfl ?_
   have fit := HU3.out
   rw [HGA.out] at fit
   simp only [Bool.false_eq_true, if_false] at fit
   exact ⟨_, _, _, _, rfl, fit.set2 HR3.out, held_set2 (bt HBR.out hb3) (by omega)⟩
  ·have hp : (0 : Int) < (i2 : Int) := by omega
   have hne : b ≠ [] := by rintro rfl; have := hlen.out; simp at this; omega
   have HNE := Lib.hid hne
   clear hne h0
   go_wp2_with fail
   refine (divide_any HI.out.ra HI.out.rb HI.out.ca HI.out.cb HNE.out (by have := HI.out.la; omega)).mono ?_
   rintro e w2 ⟨q1, m1, o1, q2, m2, o2, lq, lr, rfl, hq1, hr1, hq2, hr2, hq3, hr3, hb2⟩
   have HR1 := Lib.hid hr1
   have HR2 := Lib.hid hr2
   have HR3 := Lib.hid hr3
   have HB2 := Lib.hid hb2
   clear hq1 hr1 hq2 hr2 hq3 hr3 hb2
   go_wp2_with fail
   refine (trim_same HR1.out).mono ?_
   rintro e w3 ⟨rfl, htr, hb3⟩
   have HTR := Lib.hid htr
   have HB3 := Lib.hid hb3
   have CT := Lib.hid (canon_trimZ 1000000000 lr HR2.out)
   have LT := Lib.hid (show LR w3 (.slice q2 (trimZ lr).length o2) (trimZ lr) from by
    have := (HR1.out.below hb3).cut (k := (trimZ lr).length) (trimZ_le lr)
    rw [← htr] at this
    exact this)
   have VLT := Lib.hid (show val 1000000000 (trimZ lr) < val 1000000000 b from by
    rw [val_trimZ, HR3.out]
    exact Nat.mod_lt _ (HI.out.cb.pos (by decide) HNE.out))
   obtain ⟨m, hm⟩ : ∃ m, (trimZ lr).length = m := ⟨_, rfl⟩
   rw [hm] at LT ⊢
   have HM := Lib.hid hm
   clear htr hb3 hm
   go_wp2
   go_roundg (val 1000000000 (trimZ lr))
   case measure => have := VLT.out; have := hg.out; omega
   case rel =>
    have bx := bt HB2.out HB3.out
    refine ⟨p2, i2, j2, q2, m, o2, b, trimZ lr, rfl, rfl, HM, rfl, ⟨HI.out.rb.below bx, LT.out, HI.out.cb, CT.out, HI.out.lb, Nat.le_trans (canon_len CT.out HI.out.cb (Nat.le_of_lt VLT.out)) HI.out.lb, ?_⟩, blk_next HBK.out bx, bt HBR.out bx⟩
    rw [val_trimZ, HR3.out, Nat.gcd_comm, ← Nat.gcd_rec, Nat.gcd_comm]
    exact HI.out.gcd
end Go.Proofs.YtikpafocankggaaGreatDoor
