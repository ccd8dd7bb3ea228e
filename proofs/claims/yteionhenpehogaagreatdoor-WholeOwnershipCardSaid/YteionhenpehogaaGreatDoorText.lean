/- Texts put together: Build, Text, RText. -/
import Derived.Test.YteionhenpehogaaGreatDoorLimbs
import Derived.Test.YteionhenpehogaaGreatDoorParse
import Derived.Test.YteionhenpehogaaGreatDoorRParse
import Derived.Lib.Strings
import Derived.Lib.Slices
import Derived.Lib.Walk
import Derived.Lib.Builder
import Derived.Lib.AppendStr
import Derived.Laws.Externs
import Derived.Shelf.RegionOpenPlain
import Derived.Lib.AppendIntMem
import Derived.Lib.ItoaLen
import Derived.Laws.Concat

/- strings.Builder, at a builder of the call's own: copyCheck, WriteByte, WriteString in this dump. -/

namespace Go.Proofs.YteionhenpehogaaGreatDoor
open Go.RowKit

theorem sizeBuilder : (Tryz.prog.info? 205).map (·.size) = some 2 := by kernel_rfl
theorem liesBuilder : liesAt Tryz.prog Tryz.prog.depth 205 (2 / Tryz.prog.cellsOf 205) 0 205 1 = true := by kernel_rfl
theorem infoByte : (Tryz.prog.info? 5).map (fun i => (i.zero, i.size, i.bytes)) = some (some (.int .u8 0), 1, 1) := by kernel_rfl

set_option maxHeartbeats 1000000 in
set_option maxRecDepth 100000 in
theorem copyCheck_used (b : Nat) (w : World) (h0 : w.cell? ⟨b, 0, none⟩ = some (.pointer (some ⟨b, 0, none⟩))) :
    Calls Tryz.prog 167 #[.pointer (some ⟨b, 0, none⟩)] w fun e w' => e = .returned (.tuple #[]) ∧ w' = w := by
  obtain ⟨j, hj, _⟩ := Option.map_eq_some_iff.1 sizeBuilder
  go_enter Tryz.func167, Tryz.ntmps167
  go_wp2
  rw [Lib.run_neq_ptr_same w _ Tryz.underlying202 hj]
  go_wp2
  go_end0
  exact ⟨rfl, rfl⟩

set_option maxHeartbeats 1000000 in
set_option maxRecDepth 100000 in
theorem copyCheck_fresh (b : Nat) (w : World) (h0 : w.cell? ⟨b, 0, none⟩ = some (.pointer none)) (hsh : w.shape? b = some (205, 2)) (hfz : w.frozen? ⟨b, 0, none⟩ = false) :
    Calls Tryz.prog 167 #[.pointer (some ⟨b, 0, none⟩)] w fun e w' => e = .returned (.tuple #[]) ∧ w' = w.setCell ⟨b, 0, none⟩ (.pointer (some ⟨b, 0, none⟩)) := by
  obtain ⟨j, hj, hjs⟩ := Option.map_eq_some_iff.1 sizeBuilder
  go_enter Tryz.func167, Tryz.ntmps167
  go_wp2
  rw [Lib.run_to_unsafe w ⟨b, 0, none⟩ Tryz.underlying202 Tryz.underlying236 hj (by rw [hjs]; decide) hsh (Nat.zero_lt_succ 1)]
  simp only [Result.andThen]
  rw [Oper.upon_value]
  go_wp2
  rw [run_callFunc_extern Tryz.func178 (by kernel_rfl) (by kernel_rfl) (by kernel_rfl) (e := Extern.AbiNoEscape.same) (by kernel_rfl)]
  rw [Lib.run_noEscape]
  simp only [Result.andThen]
  rw [Oper.upon_value]
  go_wp2
  rw [Lib.run_from_unsafe w ⟨b, 0, none⟩ Tryz.underlying236 Tryz.underlying202 hj hsh liesBuilder]
  simp only [Result.andThen]
  rw [Oper.upon_value]
  go_wp2
  go_end0
  exact ⟨rfl, rfl⟩

theorem copyCheck_any (B b : Nat) (bs : List Value) (w : World) (h : Lib.IsBuilder 205 5 B b bs w) :
    Calls Tryz.prog 167 #[.pointer (some ⟨b, 0, none⟩)] w fun e w' => e = .returned (.tuple #[]) ∧ (Lib.BuilderAt 205 5 B b (.pointer (some ⟨b, 0, none⟩)) bs w' ∧ Below B w w') := by
  rcases h with h | h
  · refine (copyCheck_fresh b w h.cell0 h.shape h.frozen0).mono ?_
    rintro e w' ⟨rfl, rfl⟩
    exact ⟨rfl, h.used _, (Below.refl B w).setCell (p := ⟨b, 0, none⟩) h.1 _⟩
  · refine (copyCheck_used b w h.cell0).mono ?_
    rintro e w' ⟨rfl, rfl⟩
    exact ⟨rfl, h, Below.refl B _⟩

set_option maxHeartbeats 2000000 in
set_option maxRecDepth 100000 in
theorem writeByte_any (B b : Nat) (bs : List Value) (c : Int) (w : World) (h : Lib.IsBuilder 205 5 B b bs w) (hlen : bs.length + 1 ≤ 140737488355328) (hBw : B ≤ w.heap.size) :
    Calls Tryz.prog 148 #[.pointer (some ⟨b, 0, none⟩), .int .u8 c] w fun e w' => e = .returned .nilIface ∧ (Lib.BuilderAt 205 5 B b (.pointer (some ⟨b, 0, none⟩)) (bs ++ [.int .u8 c]) w' ∧ Below B w w') := by
  obtain ⟨i0, hi, hz0, hz1, hz2⟩ := info_parts infoByte
  go_enter Tryz.func148, Tryz.ntmps148
  go_wp2_with fail
  refine (copyCheck_any B b bs _ h).mono ?_
  rintro e w1 ⟨rfl, h1, hb1⟩
  obtain ⟨hB, v, hbk, hown, hne⟩ := h1
  have c0 : w1.cell? ⟨b, 0, none⟩ = some (.pointer (some ⟨b, 0, none⟩)) := by rw [Lib.cell_of_heap hbk]; rfl
  have c1 : w1.cell? ⟨b, 1, none⟩ = some v := by rw [Lib.cell_of_heap hbk]; rfl
  go_wp2_with (at_builtin; refine wpList_append_own _ rfl _ _ 203 rfl B 5 i0 (.int .u8 0) 1 1 Tryz.underlying203 hi hz0 hz1 hz2 rfl (by decide) _ _ _ rfl (hown.alloc _) ⟨w1.heap.size, 0, none⟩ 1 1 [.int .u8 c] rfl rfl ?c1 ?c2 ?c3 ?c4 ?c5 ?_)
  case c1 =>
    intro j u hj
    match j, hj with
    | 0, hj => simp at hj; subst hj; simp [Addr.add]
  case c2 => intro u hu; simp at hu; subst hu; rfl
  case c3 => unfold maxLen; omega
  case c4 => omega
  case c5 => have := hb1.size; simp; omega
  intro v' w2 hown' hgrow _
  have hlt : b < w1.heap.size := by
    rcases Nat.lt_or_ge b w1.heap.size with h' | h'
    · exact h'
    · simp [Array.getElem?_eq_none h'] at hbk
  have hb2 : w2.heap[b]? = some (.cells #[.pointer (some ⟨b, 0, none⟩), v] 205 (0, 0)) := by
    rw [hgrow.block b (by simp; omega) (fun e => hne e.symm), Lib.alloc_old w1 _ b hlt]
    exact hbk
  have d0 : w2.cell? ⟨b, 0, none⟩ = some (.pointer (some ⟨b, 0, none⟩)) := by rw [Lib.cell_of_heap hb2]; rfl
  have d1 : w2.cell? ⟨b, 1, none⟩ = some v := by rw [Lib.cell_of_heap hb2]; rfl
  have f1 : w2.frozen? ⟨b, 1, none⟩ = false := Lib.frozen_of_heap hb2 1
  obtain ⟨g, cap, rfl⟩ : ∃ g cap, v' = .slice (some ⟨g, 0, none⟩) (bs.length + 1) cap := by
    rcases hown'.2 with ⟨_, h0⟩ | ⟨g, cap, cur, hv, _⟩
    · omega
    · exact ⟨g, cap, hv⟩
  go_wp2
  go_ret
  refine ⟨rfl, ?_, ?_⟩
  · exact Lib.BuilderAt.put (T := 205) (e := 5) hB hb2 (bs' := bs ++ [.int .u8 c]) (by simpa using hown') (by decide)
  · exact ((hb1.alloc (by have := hb1.size; omega) _).grown hgrow (by have := hb1.size; simp; omega) (fun k hk => (hown.lt k hk).1)).setCell (p := ⟨b, 1, none⟩) hB _

set_option maxHeartbeats 2000000 in
set_option maxRecDepth 100000 in
theorem writeString_any (B b : Nat) (bs : List Value) (s : ByteArray) (w : World) (h : Lib.IsBuilder 205 5 B b bs w) (hlen : bs.length + s.size ≤ 140737488355328) (hBw : B ≤ w.heap.size) :
    Calls Tryz.prog 151 #[.pointer (some ⟨b, 0, none⟩), .string s] w fun e w' => e = .returned (.tuple #[.int .i64 s.size, .nilIface]) ∧ (Lib.BuilderAt 205 5 B b (.pointer (some ⟨b, 0, none⟩)) (bs ++ Lib.strCells s) w' ∧ Below B w w') := by
  obtain ⟨i0, hi, hz0, hz1, hz2⟩ := info_parts infoByte
  go_enter Tryz.func151, Tryz.ntmps151
  go_wp2_with fail
  refine (copyCheck_any B b bs _ h).mono ?_
  rintro e w1 ⟨rfl, h1, hb1⟩
  obtain ⟨hB, v, hbk, hown, hne⟩ := h1
  have c0 : w1.cell? ⟨b, 0, none⟩ = some (.pointer (some ⟨b, 0, none⟩)) := by rw [Lib.cell_of_heap hbk]; rfl
  have c1 : w1.cell? ⟨b, 1, none⟩ = some v := by rw [Lib.cell_of_heap hbk]; rfl
  go_wp2_with (at_builtin; refine Lib.wpList_append_own_string _ rfl _ _ 203 9 rfl B 5 i0 Tryz.underlying203 Tryz.underlying9 hi hz0 hz1 hz2 _ _ _ rfl hown s rfl ?c3 ?c4 ?c5 ?_)
  case c3 => unfold maxLen; omega
  case c4 => omega
  case c5 => have := hb1.size; omega
  intro v' w2 hown' hgrow _
  have hlt : b < w1.heap.size := by
    rcases Nat.lt_or_ge b w1.heap.size with h' | h'
    · exact h'
    · simp [Array.getElem?_eq_none h'] at hbk
  have hb2 : w2.heap[b]? = some (.cells #[.pointer (some ⟨b, 0, none⟩), v] 205 (0, 0)) := by
    rw [hgrow.block b hlt (fun e => hne e.symm)]
    exact hbk
  have d0 : w2.cell? ⟨b, 0, none⟩ = some (.pointer (some ⟨b, 0, none⟩)) := by rw [Lib.cell_of_heap hb2]; rfl
  have d1 : w2.cell? ⟨b, 1, none⟩ = some v := by rw [Lib.cell_of_heap hb2]; rfl
  have f1 : w2.frozen? ⟨b, 1, none⟩ = false := Lib.frozen_of_heap hb2 1
  obtain ⟨ao, n', cap, rfl⟩ : ∃ ao n' cap, v' = .slice ao n' cap := by
    rcases hown'.2 with ⟨hv, _⟩ | ⟨g, cap, cur, hv, _⟩
    · exact ⟨_, _, _, hv⟩
    · exact ⟨_, _, _, hv⟩
  go_wp2
  go_ret2
  refine ⟨rfl, ?_, ?_⟩
  · exact Lib.BuilderAt.put (T := 205) (e := 5) hB hb2 (bs' := bs ++ Lib.strCells s) (by simpa [Lib.strCells_length] using hown') (by decide)
  · exact (hb1.grown hgrow (by have := hb1.size; omega) (fun k hk => (hown.lt k hk).1)).setCell (p := ⟨b, 1, none⟩) hB _
end Go.Proofs.YteionhenpehogaaGreatDoor

/- The program's Text. -/

namespace Go.Proofs.YteionhenpehogaaGreatDoor
open Go.RowKit Tally Go.Lib

/-- the text of the limbs from place k on -/
def topT (l : List Nat) (k : Nat) : List UInt8 := if k < l.length then decDigits (val 1000000000 (l.drop k)) else []

theorem topT_end {l : List Nat} : topT l l.length = [] := by simp [topT]
theorem topT_first {l : List Nat} {k : Nat} (h : k + 1 = l.length) : topT l k = decDigits (l.getD k 0) := by
  unfold topT
  rw [if_pos (by omega), val_drop_getD _ _ _ (by omega), List.drop_of_length_le (by omega)]
  simp
theorem canon_drop {B : Nat} {l : List Nat} (h : Canon B l) (k : Nat) : Canon B (l.drop k) := by
  refine ⟨Lim.drop h.1 k, fun hne => ?_⟩
  have hl : l ≠ [] := by rintro rfl; simp at hne
  rw [List.getLast_drop]
  exact h.2 hl
theorem topT_next {l : List Nat} {k x : Nat} (hc : Canon 1000000000 l) (h : k + 1 < l.length) (hx : l.getD k 0 = x) : topT l k = topT l (k + 1) ++ (repeatL [48] (9 - nDigits x) ++ decDigits x) := by
  unfold topT
  rw [if_pos (by omega), if_pos h, val_drop_getD _ _ _ (by omega), hx]
  have hlt : x < 10 ^ 9 := by rw [← hx]; exact Lim.getD hc.1 (by decide) k
  have hp : 0 < val 1000000000 (l.drop (k + 1)) := Canon.pos (by decide) (canon_drop hc _) (fun e => by have := congrArg List.length e; rw [List.length_drop] at this; simp at this; omega)
  have := decDigits_join _ hp 9 x hlt
  rw [pad_eq 9 x (by decide) hlt, ← repeat_zero] at this
  rw [← this]
  congr 1
  have : (10 : Nat) ^ 9 = 1000000000 := by decide
  rw [this, Nat.mul_comm, Nat.add_comm]
theorem nDigits_le9 {x : Nat} (h : x < 1000000000) : nDigits x ≤ 9 := by
  rcases Nat.lt_or_ge x 10 with q | q
  · rw [nDigits_small q]; decide
  · have e := pad_eq 9 x (by decide) (by have : (10 : Nat) ^ 9 = 1000000000 := by decide
                                         omega)
    have := congrArg List.length e
    rw [pad_length, List.length_append, decDigits_length, List.length_replicate] at this
    omega

theorem itoa_of {neg : Bool} {l : List Nat} {z : Int} (hc : Canon 1000000000 l) (hne : l ≠ []) (hz : z = if neg then -(val 1000000000 l : Int) else val 1000000000 l) : itoa z = (if neg then [45] else []) ++ topT l 0 := by
  have hp := Canon.pos (B := 1000000000) (by decide) hc hne
  have h0 : topT l 0 = decDigits (val 1000000000 l) := by
    unfold topT; rw [if_pos (List.length_pos_iff.2 hne)]; rfl
  rw [h0, hz]
  cases neg
  · simp [itoa_nonneg]
  · simp only [if_true]
    rw [itoa_neg _ hp]; rfl

theorem builder_below {T e : TypeId} {B b : Nat} {bs : List Value} {w w' : World} (h : Lib.IsBuilder T e B b bs w) (hb : Below w.heap.size w w') : Lib.IsBuilder T e B b bs w' := by
  rcases h with ⟨h1, v, h2, h3, h4⟩ | ⟨h1, v, h2, h3, h4⟩
  · exact .inl ⟨h1, v, blk_next h2 hb, owns_below h3 hb, h4⟩
  · exact .inr ⟨h1, v, blk_next h2 hb, owns_below h3 hb, h4⟩

/-- the library's table is as the program lays it -/
def Tab (w : World) : Prop := Lib.TabIs Tryz.prog w "internal/strconv.uint64pow10" .u64 Lib.pow10Tab

theorem tabGlobal : Tryz.prog.globalNamed "internal/strconv.uint64pow10" = some 0 := by kernel_rfl
theorem Tab.below {w w' : World} (h : Tab w) (hb : Below w.heap.size w w') : Tab w' := Joins.tab_stays tabGlobal h hb (Nat.le_refl _)

theorem itoa_any {w : World} {n : Int} {X : ByteArray} (ht : Tab w) (h0 : -9223372036854775808 ≤ n) (h1 : n ≤ 9223372036854775807) (hX : (⟨(itoa n).toArray⟩ : ByteArray) = X) :
    Calls Tryz.prog 149 #[.int .i64 n] w fun e w' => e = .returned (.string X) ∧ Below w.heap.size w w' :=
  (Tryz.strconv_Itoa n h0 h1 w ht).mono fun e w' ⟨he, k, os, hw⟩ => ⟨by rw [he, hX], by rw [hw]; exact Lib.below_grow w.heap.size w (Nat.le_refl _) k os⟩

set_option maxHeartbeats 4000000 in
set_option maxRecDepth 100000 in
theorem text_any {w : World} {v : Value} {z : Int} {N : Nat} (h : IntR w v z) (ht : Tab w) (hd : Dg N z) (hN : N ≤ 1000000000000) :
    Calls Tryz.prog 110 #[v] w fun e w' => e = .returned (.string ⟨(itoa z).toArray⟩) ∧ Below w.heap.size w w' := by
  obtain ⟨neg, s1, l, rfl, lr, hc, g1, z1, a1⟩ := h.parts
  have hlen := IntR.few hc a1 hd
  by_cases hne : l = []
  · have hz : z = 0 := by subst hne; rw [z1]; cases neg <;> simp
    subst hz hne
    obtain ⟨a, b, o, c, rfl, l1, m1, s1, r1⟩ := lr
    clear h z1 g1 a1 r1 s1 hd
    simp only [List.length_nil] at *
    have e0 : (itoa 0) = [48] := by unfold itoa; simp [decDigits_one]
    rw [e0]
    clear e0
    go_enter Tryz.func110, Tryz.ntmps110
    go_wp2
    go_ret
    exact ⟨rfl, (Below.refl _ _).alloc (Nat.le_refl _) _⟩
  · rw [itoa_of hc hne z1]
    obtain ⟨a, b, o, c, rfl, l1, m1, s1, r1⟩ := lr
    obtain ⟨n, hn⟩ : ∃ n, l.length = n := ⟨_, rfl⟩
    have HN := Lib.hid hn
    have hnp : 0 < n := by rw [← hn]; exact List.length_pos_iff.2 hne
    have R1 := Lib.hid r1
    have HC := Lib.hid hc
    have HT := Lib.hid ht
    rw [hn] at l1 s1 R1 hlen ⊢
    obtain rfl := s1 hnp
    clear h z1 g1 a1 r1 s1 hd hc ht hn hne
    have BX := fun neg : Bool => And.intro (show Below w.heap.size w (w.alloc (.cells #[.bool neg, .slice (some ⟨b, o, none⟩) n c] 35)) from (Below.refl _ _).alloc (Nat.le_refl _) _) (And.intro (show (w.alloc (.cells #[.bool neg, .slice (some ⟨b, o, none⟩) n c] 35)).heap.size = w.heap.size + 1 by simp) (And.intro (show (w.alloc (.cells #[.bool neg, .slice (some ⟨b, o, none⟩) n c] 35)).cell? ⟨w.heap.size, 1, none⟩ = some (.slice (some ⟨b, o, none⟩) n c) by go_simp) (fresh_isBuilder 205 5 (w.alloc (.cells #[.bool neg, .slice (some ⟨b, o, none⟩) n c] 35)))))
    cases neg
    case' true =>
      have BQ := Lib.hid (BX true)
      obtain ⟨sgn, hsgn⟩ : ∃ sgn : List UInt8, sgn = [45] := ⟨_, rfl⟩
      have HS := Lib.hid hsgn
      have hg : (if true = true then [45] else []) = sgn := by rw [hsgn]; rfl
      rw [hg]
      clear BX hsgn hg
      go_enter Tryz.func110, Tryz.ntmps110
      go_wp2_with fail
      revert BQ
      generalize (w.alloc (.cells #[.bool true, .slice (some ⟨b, o, none⟩) n c] 35)) = W0
      intro BQ
      have hfr : Lib.IsBuilder 205 5 (w.heap.size + 1) (w.heap.size + 1) [] (W0.alloc (.cells #[.pointer none, .slice none 0 0] 205)) := by have := BQ.out.2.2.2; rw [BQ.out.2.1] at this; exact this
      refine (writeByte_any (w.heap.size + 1) (w.heap.size + 1) [] 45 _ hfr (by simp) (by have := BQ.out.2.1; simp; omega)).mono ?_
      rintro e w2 ⟨rfl, hbd, hb2⟩
      have HBD : Hid (Lib.IsBuilder 205 5 (w.heap.size + 1) (w.heap.size + 1) (Lib.byteCells (sgn ++ topT l n)) w2) := by rw [HS.out, ← HN.out, topT_end]; exact Lib.hid (.inr hbd)
      have HB2 := Lib.hid (((Below.refl (w.heap.size + 1) W0).alloc (Nat.le_of_eq BQ.out.2.1.symm) (.cells #[.pointer none, .slice none 0 0] 205)).trans hb2)
      have hsl : sgn.length ≤ 1 := by rw [HS.out]; decide
      have d1 : w2.cell? ⟨w.heap.size, 1, none⟩ = some (.slice (some ⟨b, o, none⟩) n c) := (HB2.out.cell (p := ⟨w.heap.size, 1, none⟩) (Nat.lt_succ_self _)).trans BQ.out.2.2.1
      clear hfr hbd hb2
      go_wp2
    case' false =>
      have BQ := Lib.hid (BX false)
      obtain ⟨sgn, hsgn⟩ : ∃ sgn : List UInt8, sgn = [] := ⟨_, rfl⟩
      have HS := Lib.hid hsgn
      have hg : (if false = true then [45] else []) = sgn := by rw [hsgn]; rfl
      rw [hg]
      clear BX hsgn hg
      go_enter Tryz.func110, Tryz.ntmps110
      go_wp2
      revert BQ
      generalize (w.alloc (.cells #[.bool false, .slice (some ⟨b, o, none⟩) n c] 35)) = W0
      intro BQ
      have hfr : Lib.IsBuilder 205 5 (w.heap.size + 1) (w.heap.size + 1) [] (W0.alloc (.cells #[.pointer none, .slice none 0 0] 205)) := by have := BQ.out.2.2.2; rw [BQ.out.2.1] at this; exact this
      have HBD' : Hid (Lib.IsBuilder 205 5 (w.heap.size + 1) (w.heap.size + 1) (Lib.byteCells (sgn ++ topT l n)) (W0.alloc (.cells #[.pointer none, .slice none 0 0] 205))) := by rw [HS.out, ← HN.out, topT_end]; exact Lib.hid hfr
      have HB2' := Lib.hid ((Below.refl (w.heap.size + 1) W0).alloc (Nat.le_of_eq BQ.out.2.1.symm) (.cells #[.pointer none, .slice none 0 0] 205))
      clear hfr
      revert HBD' HB2'
      generalize W0.alloc (.cells #[.pointer none, .slice none 0 0] 205) = w2
      intro HBD HB2
      have hsl : sgn.length ≤ 1 := by rw [HS.out]; decide
    all_goals
      go_loopw [4] (fun i wr => ∃ (k : Nat) (q : Int), Hid (q = (k : Int) - 1) ∧ k ≤ n ∧ i = .int .i64 q ∧ Hid ((topT l k).length + 9 * k ≤ 9 * n) ∧ Hid (Lib.IsBuilder 205 5 (w.heap.size + 1) (w.heap.size + 1) (Lib.byteCells (sgn ++ topT l k)) wr) ∧ Below (w.heap.size + 1) W0 wr) (fun i _ => (RowKit.intOf i + 1).toNat)
      case atStart => exact ⟨n, (n : Int) - 1, rfl, Nat.le_refl _, rfl, by rw [← HN.out, topT_end]; exact Lib.hid (by simp), HBD, HB2.out⟩
      case round =>
        obtain ⟨k, q, hq, hk, rfl, HLN, HBK, hbk⟩ := hrel
        have HBW := Lib.hid hbk
        have hw0 : Below w.heap.size w wr := BQ.out.1.trans (hbk.mono (Nat.le_succ _))
        have HW := Lib.hid hw0
        have d2 : wr.cell? ⟨w.heap.size, 1, none⟩ = some (.slice (some ⟨b, o, none⟩) n c) := (hbk.cell (p := ⟨w.heap.size, 1, none⟩) (Nat.lt_succ_self _)).trans BQ.out.2.2.1
        have hszr := hbk.size
        rw [BQ.out.2.1] at hszr
        clear hbk hw0
        rcases k with _ | j
        · obtain rfl : q = -1 := by have := hq.out; omega
          go_wp2_with fail
          refine (Tryz.Builder_String_any (w.heap.size + 1) (w.heap.size + 1) (sgn ++ topT l 0) _ HBK.out hszr).mono ?_
          rintro e w3 ⟨rfl, hb3⟩
          have HB3 := Lib.hid hb3
          clear hb3
          go_wp2
          go_ret
          exact ⟨rfl, HW.out.trans (HB3.out.mono (Nat.le_succ _))⟩
        · obtain rfl : q = (j : Int) := by have := hq.out; omega
          obtain ⟨x, hx⟩ : ∃ x, l.getD j 0 = x := ⟨_, rfl⟩
          have d3 := keepc HW.out (R1.out j (by omega))
          have hxl := Lim.getD HC.out.1 (by decide) j
          simp only [hx] at d3
          rw [hx] at hxl
          obtain ⟨X, hX⟩ : ∃ X : ByteArray, (⟨(itoa (x : Int)).toArray⟩ : ByteArray) = X := ⟨_, rfl⟩
          have HX := Lib.hid hx
          have HXX := Lib.hid hX
          clear hx hX
          have hj0 : (j : Int) < (n : Int) := by omega
          go_wp2_with fail
          refine (itoa_any (HT.out.below HW.out) (by omega) (by omega) HXX.out).mono ?_
          rintro e w3 ⟨rfl, hb3⟩
          have HB3 := Lib.hid hb3
          have d4 := keepc hb3 d2
          have hsz3 := hb3.size
          clear hb3
          have hxs : X.size = nDigits x := by
            have := congrArg ByteArray.size HXX.out
            rw [← this]
            show (itoa (x : Int)).toArray.size = nDigits x
            rw [List.size_toArray, itoa_nonneg, decDigits_length]
          have hxd := nDigits_le9 hxl
          have hcells : Lib.strCells X = Lib.byteCells (decDigits x) := by rw [← HXX.out, Lib.strCells_toArray, itoa_nonneg]
          have HCE := Lib.hid hcells
          have hlk : (Lib.byteCells (sgn ++ topT l (j + 1))).length + 9 * (j + 1) ≤ 9 * n + 1 := by
            have := HLN.out
            simp only [Lib.byteCells, List.length_map, List.length_append]
            omega
          have HLK := Lib.hid hlk
          have HBK3 := Lib.hid (builder_below HBK.out HB3.out)
          have HXS := Lib.hid hxs
          obtain ⟨d, hd⟩ : ∃ d, nDigits x = d := ⟨_, rfl⟩
          have HDD := Lib.hid hd
          rw [hd] at hxd
          have hXd : X.size = d := by rw [hxs, hd]
          clear hcells hlk hxs hd
          by_cases hfirst : j + 1 = n
          · have hfz : ¬ (j : Int) < (n : Int) - 1 := by omega
            have HXD := Lib.hid hXd
            clear hXd
            go_wp2_with fail
            refine (writeString_any (w.heap.size + 1) (w.heap.size + 1) _ X _ HBK3.out (by have := HLK.out; have := HXD.out; omega) (by omega)).mono ?_
            rintro e w4 ⟨rfl, hbd4, hb4⟩
            have e4 : topT l j = decDigits x := by rw [topT_first (by rw [HN.out]; exact hfirst), HX.out]
            have hbd5 : Lib.IsBuilder 205 5 (w.heap.size + 1) (w.heap.size + 1) (Lib.byteCells (sgn ++ topT l j)) w4 := by
              have h0 : topT l (j + 1) = [] := by rw [hfirst, ← HN.out, topT_end]
              rw [h0, List.append_nil, HCE.out] at hbd4
              rw [e4]
              simp only [Lib.byteCells, List.map_append] at hbd4 ⊢
              exact .inr hbd4
            have HBD5 := Lib.hid hbd5
            have HLL := Lib.hid (show (topT l j).length + 9 * j ≤ 9 * n by rw [e4, decDigits_length, HDD.out]; omega)
            have HB4 := Lib.hid hb4
            clear hbd4 hbd5 hb4 e4
            go_wp2
            go_roundw
            case rel => exact ⟨j, (j : Int) - 1, rfl, by omega, by first | rfl | go_num, HLL, HBD5, (HBW.out.trans (HB3.out.mono (by omega))).trans HB4.out⟩
            case measure => simp [RowKit.intOf]
          · have hfz : (j : Int) < (n : Int) - 1 := by omega
            obtain ⟨Y, hY⟩ : ∃ Y : ByteArray, (⟨(repeatL [48] (9 - d)).toArray⟩ : ByteArray) = Y := ⟨_, rfl⟩
            have hYs : Y.size = 9 - d := by
              have := congrArg ByteArray.size hY
              rw [← this]
              show (repeatL [48] (9 - d)).toArray.size = 9 - d
              rw [List.size_toArray, repeat_zero, List.length_replicate]
            have hrep := Tryz.strings_Repeat ⟨#[48]⟩ (9 - d)
            have hcast : (9 : Int) - (d : Int) = ((9 - d : Nat) : Int) := by omega
            have HY := Lib.hid hY
            have HYS := Lib.hid hYs
            have HREP := Lib.hid hrep
            clear hY hYs hrep
            go_wp2_with fail
            refine (HREP.out w3 (by omega) (by show 1 * (9 - d) ≤ 140737488355328; omega)).mono ?_
            rintro e w4 ⟨rfl, hb4⟩
            rw [HY.out]
            have HB4 := Lib.hid hb4
            have hyx : Y.size + X.size ≤ 9223372036854775807 := by rw [HYS.out, hXd]; omega
            have hsz4 := hb4.size
            clear hb4 hcast
            go_wp2_with fail
            have hyxs : (Y ++ X).size = 9 := by rw [ByteArray.size_append, HYS.out, hXd]; omega
            refine (writeString_any (w.heap.size + 1) (w.heap.size + 1) _ (Y ++ X) _ (builder_below HBK3.out HB4.out) (by have := HLK.out; omega) (by omega)).mono ?_
            rintro e w5 ⟨rfl, hbd4, hb5⟩
            have e4 : topT l j = topT l (j + 1) ++ (repeatL [48] (9 - d) ++ decDigits x) := by rw [topT_next HC.out (by rw [HN.out]; omega) HX.out, HDD.out]
            have hcy : Lib.strCells (Y ++ X) = Lib.byteCells (repeatL [48] (9 - d) ++ decDigits x) := by
              have h1 : (Y ++ X).data.toList = Y.data.toList ++ X.data.toList := by rw [ByteArray.data_append, Array.toList_append]
              have h2 : Y.data.toList = repeatL [48] (9 - d) := by rw [← HY.out]
              have h3 : X.data.toList = decDigits x := by rw [← HXX.out, itoa_nonneg]
              simp only [Lib.strCells, Lib.byteCells, h1, h2, h3]
            have hbd5 : Lib.IsBuilder 205 5 (w.heap.size + 1) (w.heap.size + 1) (Lib.byteCells (sgn ++ topT l j)) w5 := by
              rw [hcy] at hbd4
              rw [e4]
              simp only [Lib.byteCells, List.map_append, List.append_assoc] at hbd4 ⊢
              exact .inr hbd4
            have HBD5 := Lib.hid hbd5
            have HLL := Lib.hid (show (topT l j).length + 9 * j ≤ 9 * n by
              have := HLN.out
              rw [e4, List.length_append, List.length_append, decDigits_length, HDD.out, repeat_zero, List.length_replicate]
              omega)
            have HB5 := Lib.hid hb5
            clear hbd4 hbd5 hb5 e4 hcy hyxs
            go_wp2
            go_roundw
            case rel => exact ⟨j, (j : Int) - 1, rfl, by omega, by first | rfl | go_num, HLL, HBD5, ((HBW.out.trans (HB3.out.mono (by omega))).trans (HB4.out.mono (by omega))).trans HB5.out⟩
            case measure => simp [RowKit.intOf]
end Go.Proofs.YteionhenpehogaaGreatDoor

/- The reference's Text. -/

namespace Go.Proofs.YteionhenpehogaaGreatDoor
open Go.RowKit Tally Go.Lib
end Go.Proofs.YteionhenpehogaaGreatDoor
