/- The reference's copied for a matrix without columns. -/
import Derived.Test.YtjphfdlpcakpeaaGreatDoorRSolveZ
namespace Go.Proofs.YtjphfdlpcakpeaaGreatDoor
open Go.RowKit Tally

section
variable {P : Program} (w : World)
theorem run_append_zero (t ty e : TypeId) (i : TypeInfo) (ht : P.underlying t = some (.slice e)) (hi : P.info? e = some i) (b : Addr) (n cap c : Nat) (a : Option Addr) (hnc : n ≤ cap) :
    (Builtin.append_ #[t, t] ty #[.slice (some b) n cap, .slice a 0 c]).run P w = .ok (.slice (some b) n cap) w := by
  cases a <;> simp [Builtin.append_, run_underlying ht, sizeOf, typeInfo, hi, Builtin.lenOf, Builtin.firstCells, hnc, storeCells, loadCells, loadCellsFrom]
theorem wp_append_zero {o : Oper} {a : Act} {K : Act → World → Prop} {Q : Exit → Act → World → Prop} (s x : Operand) (t : TypeId)
    (ho : o.op = .call { callee := .builtin .append, args := #[s, x], argTypes := #[t, t] })
    (e : TypeId) (i : TypeInfo) (ht : P.underlying t = some (.slice e)) (hi : P.info? e = some i) (b : Addr) (n cap c : Nat) (ax : Option Addr) (hnc : n ≤ cap) (hs : a.eval s = .slice (some b) n cap) (hx : a.eval x = .slice ax 0 c)
    (h : K (a.put o.dst (.slice (some b) n cap)) w) : o.wp P a w K Q := by
  have hr := run_append_zero (P := P) w t o.type e i ht hi b n cap c ax hnc
  unfold Oper.wp execOp
  simp only [ho, resolve, invoke, builtin, Sem.run_bind, Sem.run_pure, Result.andThen_ok, List.map_toArray, List.map_cons, List.map_nil, hs, hx, hr]
  exact h
theorem wpList_append_zero {ops : Array Oper} {rest : List Oper} {o : Oper} {a : Act} {Q : Exit → Act → World → Prop} (hgd : o.guard = none) (s x : Operand) (t : TypeId)
    (ho : o.op = .call { callee := .builtin .append, args := #[s, x], argTypes := #[t, t] })
    (e : TypeId) (i : TypeInfo) (ht : P.underlying t = some (.slice e)) (hi : P.info? e = some i) (b : Addr) (n cap c : Nat) (ax : Option Addr) (hnc : n ≤ cap) (hs : a.eval s = .slice (some b) n cap) (hx : a.eval x = .slice ax 0 c)
    (h : wpList P ops Q rest (a.put o.dst (.slice (some b) n cap)) w) : wpList P ops Q (o :: rest) a w :=
  wpList_plain hgd fun _ hK => wp_append_zero w s x t ho e i ht hi b n cap c ax hnc hs hx (hK _ _ h)
end

set_option maxHeartbeats 8000000 in
set_option maxRecDepth 100000 in
theorem rcopied_flat {w : World} {v : Value} {m : Nat} {A : Mx} (h : rMatsR w v m (fun _ => 0) A) (hm : m ≤ 26) :
    Calls Tryz.prog 30 #[v, .slice none 0 0] w fun e w' => (∃ (a : Option Addr) (c : Nat), e = .returned (.slice a m c)) ∧ Below w.heap.size w w' := by
  obtain ⟨i1, hi1, hz10, hz11, hz12⟩ := info_parts rinfoS
  obtain ⟨i2, hi2, hz20, hz21, hz22⟩ := info_parts rinfoQ
  obtain ⟨a, c, rfl⟩ := h.shape
  obtain ⟨_, _, bA, oA, p3, p4⟩ := h.parts
  have P3 := Lib.hid p3
  have P4 := Lib.hid p4
  clear h p3 p4
  go_enter Tryz.func30, Tryz.ntmps30
  go_wp2_with fail
  go_loopw [5, 6] (fun ov iv wr => ∃ (k : Nat) (V : List Value) (sv : Value), sv = ov ∧ iv = .int .i64 k ∧ k ≤ m ∧ BuildX w.heap.size wr ov V k 0 A ∧ Below w.heap.size w wr) (fun _ iv _ => m - (intOf iv).toNat)
  case atStart => exact ⟨0, [], _, rfl, rfl, by omega, BuildX.start _ _ _ _, Below.refl _ _⟩
  case round =>
    obtain ⟨k, V, ov, rfl, rfl, hk, hbm, hbr⟩ := hrel
    have HX := Lib.hid hbm
    have HBr := Lib.hid hbr
    clear hbm hbr
    by_cases hkm : k = m
    · obtain rfl : m = k := hkm.symm
      obtain ⟨a3, c3, rfl, -⟩ := HX.out.shape
      go_wp2
      go_ret
      exact ⟨⟨a3, c3, rfl⟩, HBr.out⟩
    have hkl : k < m := by omega
    have hki : (k : Int) < (m : Int) := by omega
    have hVl := HX.out.len
    obtain rfl := P3.out (by omega)
    obtain ⟨a9, c9, u1, -⟩ := P4.out k hkl
    have c0 := keepc HBr.out u1
    have hltA := World.block_lt_of_cell? _ _ c0
    have hkf : ¬ (k : Int) < ((0 : Nat) : Int) := by omega
    have hkf2 : ¬ (k : Int) < 0 := by omega
    clear u1
    have hb2 := allocs_below2 wr (.cells #[] 54) (.cells #[.slice (some ⟨wr.heap.size, 0, none⟩) 0 0] 37)
    have HN := Lib.hid (HX.out.below hb2)
    have HB2 := Lib.hid (bt HBr.out hb2)
    have hs1 : (wr.alloc (.cells #[] 54)).heap.size = wr.heap.size + 1 := by simp
    have hal := heap_alloc_new (wr.alloc (.cells #[] 54)) (.cells #[.slice (some ⟨wr.heap.size, 0, none⟩) 0 0] 37)
    rw [hs1] at hal
    have HAL := Lib.hid hal
    have hsr := HBr.out.size
    clear hb2 hs1 hal
    go_wp2_with (at_builtin; first | refine wpList_append_zero _ rfl _ _ 37 rfl 54 i2 Tryz.underlying37 hi2 ⟨wr.heap.size, 0, none⟩ 0 0 c9 a9 (Nat.le_refl _) rfl rfl ?_ | refine wpList_append_good (G := OnlySl) _ rfl _ _ 29 rfl w.heap.size 37 i1 (.slice none 0 0) 1 24 Tryz.underlying29 hi1 hz10 hz11 hz12 rfl (by decide) ov V.length V rfl HN.out.own ⟨wr.heap.size + 1, 0, none⟩ 1 1 [.slice (some ⟨wr.heap.size, 0, none⟩) 0 0] rfl rfl ?_ (one_cell_sl _ _ _) (by unfold maxLen; omega) (by omega) (by simp; omega) (only_sl_one _ _ _) only_sl0 ?_)
    all_goals first | exact row_one HAL.out | (intro jj u hu; have := row_one HAL.out jj u hu; simpa [Addr.add] using this; done) | (intro hu; have := row_one HAL.out 0 _ hu; simpa [Addr.add] using this; done) | skip
    intro v5 w5 ho hg _
    have HM5 := Lib.hid (HN.out.snoc (S := wr.heap.size) (by rw [hVl]; exact ho) hg (fun h0 => absurd h0 (Nat.lt_irrefl _)) (fun h0 => absurd h0 (Nat.lt_irrefl _)))
    have HB6 := Lib.hid (grown_below HB2.out HN.out.own.own hg (Nat.le_refl _) (by simp; omega))
    clear ho hg HN HAL HB2 c0
    go_wp2
    go_roundw
    case rel => (first | exact ⟨k + 1, _, _, rfl, by go_num, by omega, HM5.out, HB6.out⟩ | ((repeat apply Exists.intro); exact ⟨⟨k + 1, _, _, rfl, by go_num, by omega, HM5.out, HB6.out⟩, rfl⟩))
    case measure => (simp [intOf]; omega)
end Go.Proofs.YtjphfdlpcakpeaaGreatDoor
