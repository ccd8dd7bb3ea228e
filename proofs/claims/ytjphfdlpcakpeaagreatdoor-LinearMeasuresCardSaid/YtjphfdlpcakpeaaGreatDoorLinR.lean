/- The law's matrix: its rows as the program's and as the reference's numbers. -/
import Derived.Test.YtjphfdlpcakpeaaGreatDoorRMatN
import Derived.Test.YtjphfdlpcakpeaaGreatDoorLinW
import Derived.Test.YtjphfdlpcakpeaaGreatDoorLinX
namespace Go.Proofs.YtjphfdlpcakpeaaGreatDoor
open Go.RowKit Tally

/-- a slice of slices of small integers -/
def MatI (w : World) (v : Value) (m : Nat) (L : Nat → Nat) (Z : Nat → Nat → Int) : Prop :=
  ∃ (a : Option Addr) (b o c : Nat), v = .slice a m c ∧ m ≤ c ∧ c ≤ 9223372036854775807 ∧ (0 < m → a = some ⟨b, o, none⟩) ∧ ∀ i, i < m → ∃ a' c', w.cell? ⟨b, o + i, none⟩ = some (.slice a' (L i) c') ∧ RowR w (.slice a' (L i) c') (L i) fun k => .int .i16 (Z i k)
theorem MatI.below {w w' : World} {v : Value} {m : Nat} {L : Nat → Nat} {Z : Nat → Nat → Int} (h : MatI w v m L Z) (hb : Below w.heap.size w w') : MatI w' v m L Z := by
  obtain ⟨a, b, o, c, h1, h2, h3, h4, h5⟩ := h
  exact ⟨a, b, o, c, h1, h2, h3, h4, fun i hi => by obtain ⟨a', c', q, r⟩ := h5 i hi; exact ⟨a', c', keepc hb q, r.below hb⟩⟩
theorem MatI.heads {w : World} {v : Value} {m : Nat} {L : Nat → Nat} {Z : Nat → Nat → Int} (h : MatI w v m L Z) : HeadsR w v m L := by
  obtain ⟨a, b, o, c, h1, h2, h3, h4, h5⟩ := h
  exact ⟨a, b, o, c, h1, h2, h3, h4, fun i hi => by obtain ⟨a', c', q, r⟩ := h5 i hi; exact ⟨a', c', q⟩⟩
theorem rone_cell {w : World} {v : Value} {n : Nat} {f : Nat → Rat} (h : rRatsR w v n f) : ∀ u ∈ [v], u.oneCell' = true := by
  obtain ⟨a, c, rfl⟩ := h.shape
  intro u hu
  obtain rfl : u = _ := by simpa using hu
  rfl
theorem ronly_sl {w : World} {v : Value} {n : Nat} {f : Nat → Rat} (h : rRatsR w v n f) : ∀ u ∈ [v], OnlySl u := by
  obtain ⟨a, c, rfl⟩ := h.shape
  intro u hu
  obtain rfl : u = _ := by simpa using hu
  exact ⟨_, _, _, rfl⟩
theorem rinfoS : (Tryz.prog.info? 37).map (fun i => (i.zero, i.size, i.bytes)) = some (some (.slice none 0 0), 1, 24) := by kernel_rfl

theorem own_apart {w : World} {b1 b2 s1 s2 n1 n2 : Nat} {e1 e2 : TypeId} {v1 v2 : Value} {x1 x2 : List Value} (h : w.ownsRow b1 e1 s1 v1 n1 x1) (k : w.ownsRow b2 e2 s2 v2 n2 x2) (hne : e1 ≠ e2) : ∀ g, v1.ownBlock = some g → v2.ownBlock ≠ some g := by
  intro g hg kg
  rcases h.2 with ⟨rfl, _⟩ | ⟨g1, _, _, rfl, _, q1, _⟩
  · simp [Value.ownBlock] at hg
  · rcases k.2 with ⟨rfl, _⟩ | ⟨g2, _, _, rfl, _, q2, _⟩
    · simp [Value.ownBlock] at kg
    · simp only [Value.ownBlock, Option.some.injEq] at hg kg
      subst hg
      subst kg
      rw [q1] at q2
      injection q2 with q2
      injection q2 with _ q3 _
      exact hne q3
theorem OwnG.side {G : Value → Prop} {w w' : World} {row : Option Nat} {base : Nat} {e : TypeId} {size : Nat} {v : Value} {n : Nat} {xs : List Value} (h : OwnG G w base e size v n xs) (hg : w.grownBy w' row) (hne : ∀ g, v.ownBlock = some g → row ≠ some g) : OwnG G w' base e size v n xs :=
  ⟨h.own.kept hg (by cases hv : v.ownBlock with
    | none => exact .inl rfl
    | some g => exact .inr (fun q => hne g hv q.symm)), fun g hv o u q => by
    have hl := (h.own.lt g hv).2
    rw [World.cell?_of_block (w := w) (a := ⟨g, o, none⟩) (hg.block g hl (fun q2 => hne g hv q2.symm))] at q
    exact h.free g hv o u q⟩
theorem BuildM.side {B b2 s2 n2 : Nat} {w w' : World} {v v2 : Value} {V : List Value} {k : Nat} {n : Nat → Nat} {A : Nat → Nat → Rat} {e2 : TypeId} {x2 : List Value} (h : BuildM B w v V k n A) (hg : w.grownBy w' v2.ownBlock) (ho : OwnG OnlySl w b2 e2 s2 v2 n2 x2) (hne : 32 ≠ e2) : BuildM B w' v V k n A :=
  ⟨h.len, h.own.side hg (own_apart h.own.own ho.own hne), fun i u hu => (h.row i u hu).grown hg ho.free⟩
theorem rBuildM.side {B b2 s2 n2 : Nat} {w w' : World} {v v2 : Value} {V : List Value} {k : Nat} {n : Nat → Nat} {A : Nat → Nat → Rat} {e2 : TypeId} {x2 : List Value} (h : rBuildM B w v V k n A) (hg : w.grownBy w' v2.ownBlock) (ho : OwnG OnlySl w b2 e2 s2 v2 n2 x2) (hne : 37 ≠ e2) : rBuildM B w' v V k n A :=
  ⟨h.len, h.own.side hg (own_apart h.own.own ho.own hne), fun i u hu => (h.row i u hu).grown hg ho.free⟩

/-- the matrix of a law's numbers -/
def ratM (d : Nat) (Z : Nat → Nat → Int) : Mx := fun i k => Rat.divInt (Z i k) (max 1 (d : Int))
/-- what rows gives -/
def GivesM (w : World) (m : Nat) (L : Nat → Nat) (A : Mx) (e : Ending) (w' : World) : Prop :=
  ∃ (a b : Option Addr) (c d : Nat), e = .returned (.tuple #[.slice a m c, .slice b m d]) ∧ MatsR w' (.slice a m c) m L A ∧ rMatsR w' (.slice b m d) m L A ∧ Below w.heap.size w w'

set_option maxHeartbeats 4000000 in
set_option maxRecDepth 100000 in
theorem rows_any {w : World} {v : Value} {m d : Nat} {L : Nat → Nat} {Z : Nat → Nat → Int} (h : MatI w v m L Z) (hz : ∀ i, i < m → ∀ k, k < L i → -32768 ≤ Z i k ∧ Z i k ≤ 32767) (hL : ∀ i, i < m → L i ≤ 1000) (hm : m ≤ 1000) (hd : d ≤ 255) :
    Calls Tryz.prog 8 #[.agg #[v, .int .u8 d]] w (GivesM w m L (ratM d Z)) := by
  obtain ⟨i1, hi1, hz10, hz11, hz12⟩ := info_parts infoS
  obtain ⟨i2, hi2, hz20, hz21, hz22⟩ := info_parts rinfoS
  obtain ⟨a, b, o, c, rfl, h1, h2, h3, h4⟩ := h
  have H3 := Lib.hid h3
  have H4 := Lib.hid h4
  have HZ := Lib.hid hz
  have HL := Lib.hid hL
  clear h3 h4 hz hL
  go_enter Tryz.func8, Tryz.ntmps8
  go_wp2_with fail
  obtain ⟨W1, hW, hs, hb, b0⟩ := alloc1 w (.cells #[.slice a m c, .int .u8 d] 24)
  rw [← hW]
  have HB := Lib.hid hb
  have HM := Lib.hid b0
  clear hW hs hb b0
  go_loopw [4, 5, 6] (fun s t i wr => ∃ (k : Nat) (V U : List Value) (sv tv : Value), sv = s ∧ tv = t ∧ i = .int .i64 k ∧ k ≤ m ∧ BuildM W1.heap.size wr s V k L (ratM d Z) ∧ rBuildM W1.heap.size wr t U k L (ratM d Z) ∧ Below W1.heap.size W1 wr) (fun _ _ i _ => m - (intOf i).toNat)
  case atStart => exact ⟨0, [], [], _, _, rfl, rfl, rfl, by omega, BuildM.start _ _ _ _, rBuildM.start _ _ _ _, Below.refl _ _⟩
  case round =>
    obtain ⟨k, V, U, s, t, rfl, rfl, rfl, hk, hbm, hbu, hbr⟩ := hrel
    have HV := Lib.hid hbm
    have HU := Lib.hid hbu
    have HR := Lib.hid hbr
    have HMr := Lib.hid (blk_next HM.out hbr)
    clear hbm hbu hbr
    obtain ⟨e0, e1, e2, e3⟩ := res_facts HMr.out
    by_cases hkm : k = m
    · obtain rfl : m = k := hkm.symm
      obtain ⟨a', c', rfl, hv⟩ := HV.out.mats
      obtain ⟨a2, c2, rfl, hu⟩ := HU.out.mats
      have HX := Lib.hid hv
      have HY := Lib.hid hu
      clear hv hu
      go_wp2
      go_ret2
      exact ⟨a', a2, c', c2, rfl, HX.out, HY.out, bt HB.out HR.out⟩
    · have hkl : k < m := by omega
      have hki : (k : Int) < (m : Int) := by omega
      obtain rfl := H3.out (by omega)
      obtain ⟨a', c', q1, q2⟩ := H4.out k hkl
      have HQ := Lib.hid q2
      have HR6 := Lib.hid HR.out
      have c0 := keepc (bt HB.out HR.out) q1
      have ZK := Lib.hid (HZ.out k hkl)
      have hlk := HL.out k hkl
      have hVl := HV.out.len
      have hUl := HU.out.len
      have HLS := Lib.hid (fun (w' : World) (hb : Below W1.heap.size W1 w') => (⟨keepc hb (res_facts HM.out).1, keepc hb (res_facts HM.out).2.1, keepc hb (keepc HB.out q1)⟩ : w'.cell? ⟨w.heap.size, 0, none⟩ = some (.slice (some ⟨b, o, none⟩) m c) ∧ w'.cell? ⟨w.heap.size, 1, none⟩ = some (.int .u8 d) ∧ w'.cell? ⟨b, o + k, none⟩ = some (.slice a' (L k) c')))
      clear q1 q2
      go_wp2_with fail
      refine wp_region_held_drew (S := fun w' => w'.cell? ⟨w.heap.size, 0, none⟩ = some (.slice (some ⟨b, o, none⟩) m c) ∧ w'.cell? ⟨w.heap.size, 1, none⟩ = some (.int .u8 d) ∧ w'.cell? ⟨b, o + k, none⟩ = some (.slice a' (L k) c')) (by kernel_rfl) ?_ (fun hHeld => ?_)
      · exact HLS.out _ (Below.drew HR6.out)
      (try dsimp only at hHeld)
      refine wpAnyH_take (i := 0) (oi := ({ dst := some 14, op := Op.move (Operand.tmp 4), type := 28, pos := "law.go:41", after := #[], guard := none } : Oper)) (v := ?y1_1_v) rfl (by kernel_rfl) (by kernel_rfl) (by kernel_rfl) (fun _ _ _ h => h) (Or.inl ⟨by rfl, ?y1_1_h⟩) hHeld ?y1_1_r
      case y1_1_h => (intro w hSw; (try dsimp only at hSw); go_simp; all_goals with_reducible rfl)
      (try simp only [Act.put, List.setIfInBounds_toArray, List.set_cons_zero, List.set_cons_succ])
      refine wpAnyH_take (i := 1) (oi := ({ dst := some 15, op := Op.fieldAddr 24 (Operand.tmp 1) 0, type := 0, pos := "law.go:41", after := #[], guard := none } : Oper)) (v := ?y1_2_v) rfl (by kernel_rfl) (by kernel_rfl) (by kernel_rfl) (fun _ _ _ h => h) (Or.inl ⟨by rfl, ?y1_2_h⟩) hHeld ?y1_2_r
      case y1_2_h => (intro w hSw; (try dsimp only at hSw); go_simp; all_goals with_reducible rfl)
      (try simp only [Act.put, List.setIfInBounds_toArray, List.set_cons_zero, List.set_cons_succ])
      refine wpAnyH_take (i := 2) (oi := ({ dst := some 16, op := Op.load 22 (Operand.tmp 15), type := 22, pos := "law.go:41", after := #[{ on := 1, ground := Ground.data }], guard := none } : Oper)) (v := ?y1_3_v) rfl (by kernel_rfl) (by kernel_rfl) (by kernel_rfl) (fun _ _ _ h => h) (Or.inl ⟨by rfl, ?y1_3_h⟩) hHeld ?y1_3_r
      case y1_3_h => (intro w hSw; (try dsimp only at hSw); go_simp; all_goals with_reducible rfl)
      (try simp only [Act.put, List.setIfInBounds_toArray, List.set_cons_zero, List.set_cons_succ])
      refine wpAnyH_take (i := 3) (oi := ({ dst := some 17, op := Op.move (Operand.tmp 6), type := 3, pos := "law.go:41", after := #[], guard := none } : Oper)) (v := ?y1_4_v) rfl (by kernel_rfl) (by kernel_rfl) (by kernel_rfl) (fun _ _ _ h => h) (Or.inl ⟨by rfl, ?y1_4_h⟩) hHeld ?y1_4_r
      case y1_4_h => (intro w hSw; (try dsimp only at hSw); go_simp; all_goals with_reducible rfl)
      (try simp only [Act.put, List.setIfInBounds_toArray, List.set_cons_zero, List.set_cons_succ])
      refine wpAnyH_take (i := 4) (oi := ({ dst := some 18, op := Op.indexAddr 22 (Operand.tmp 16) (Operand.tmp 17), type := 0, pos := "law.go:41", after := #[{ on := 2, ground := Ground.data }, { on := 3, ground := Ground.data }], guard := none } : Oper)) (v := ?y1_5_v) rfl (by kernel_rfl) (by kernel_rfl) (by kernel_rfl) (fun _ _ _ h => h) (Or.inl ⟨by rfl, ?y1_5_h⟩) hHeld ?y1_5_r
      case y1_5_h => (intro w hSw; (try dsimp only at hSw); go_simp; all_goals with_reducible rfl)
      (try simp only [Act.put, List.setIfInBounds_toArray, List.set_cons_zero, List.set_cons_succ])
      refine wpAnyH_take (i := 5) (oi := ({ dst := some 19, op := Op.load 25 (Operand.tmp 18), type := 25, pos := "law.go:41", after := #[{ on := 4, ground := Ground.data }], guard := none } : Oper)) (v := ?y1_6_v) rfl (by kernel_rfl) (by kernel_rfl) (by kernel_rfl) (fun _ _ _ h => h) (Or.inl ⟨by rfl, ?y1_6_h⟩) hHeld ?y1_6_r
      case y1_6_h => (intro w hSw; (try dsimp only at hSw); go_simp; all_goals with_reducible rfl)
      (try simp only [Act.put, List.setIfInBounds_toArray, List.set_cons_zero, List.set_cons_succ])
      refine wpAnyH_take (i := 6) (oi := ({ dst := some 20, op := Op.fieldAddr 24 (Operand.tmp 1) 1, type := 0, pos := "law.go:41", after := #[], guard := none } : Oper)) (v := ?y1_7_v) rfl (by kernel_rfl) (by kernel_rfl) (by kernel_rfl) (fun _ _ _ h => h) (Or.inl ⟨by rfl, ?y1_7_h⟩) hHeld ?y1_7_r
      case y1_7_h => (intro w hSw; (try dsimp only at hSw); go_simp; all_goals with_reducible rfl)
      (try simp only [Act.put, List.setIfInBounds_toArray, List.set_cons_zero, List.set_cons_succ])
      refine wpAnyH_take (i := 7) (oi := ({ dst := some 21, op := Op.load 5 (Operand.tmp 20), type := 5, pos := "law.go:41", after := #[{ on := 6, ground := Ground.data }], guard := none } : Oper)) (v := ?y1_8_v) rfl (by kernel_rfl) (by kernel_rfl) (by kernel_rfl) (fun _ _ _ h => h) (Or.inl ⟨by rfl, ?y1_8_h⟩) hHeld ?y1_8_r
      case y1_8_h => (intro w hSw; (try dsimp only at hSw); go_simp; all_goals with_reducible rfl)
      (try simp only [Act.put, List.setIfInBounds_toArray, List.set_cons_zero, List.set_cons_succ])
      refine wpAnyH_ready (rs := [8]) (by kernel_rfl) (by simp) ?_
      refine AllReadyH.cons (o := ({ dst := some 22, op := Op.call { callee := Callee.value (Operand.func 10), args := #[Operand.tmp 19, Operand.tmp 21], argTypes := #[25, 5] }, type := 32, pos := "law.go:41", after := #[{ on := 5, ground := Ground.data }, { on := 7, ground := Ground.data }], guard := none } : Oper)) rfl (fun K hK => ?_) AllReadyH.nil
      go_simp
      (go_at_call 10; (with_reducible refine (numbers_any (HQ.out.below (Below.drew (bt HB.out HR6.out))) ZK.out hd (by omega)).mono ?_); rintro e w8_6 ⟨a8_6, c8_6, rfl, hx, hbb⟩; have HZ68 := Lib.hid (bt (Below.drew (Below.refl wr.heap.size wr)) hbb); have HX6 := Lib.hid hx; clear hx hbb)
      first | refine hK.out _ _ ?_ (fun hHeld => ?_) | (go_wp2_with fail; refine hK.out _ _ ?_ (fun hHeld => ?_))
      · exact HLS.out _ (bt HR6.out HZ68.out)
      clear hK K
      (try dsimp only at hHeld)
      (try simp only [Act.put, List.setIfInBounds_toArray, List.set_cons_zero, List.set_cons_succ])
      refine wpAnyH_ready (rs := [9]) (by kernel_rfl) (by simp) ?_
      refine AllReadyH.cons (o := ({ dst := some 23, op := Op.buildSlice 28 1 #[(0, Operand.tmp 22)], type := 28, pos := "law.go:41", after := #[{ on := 8, ground := Ground.data }], guard := none } : Oper)) rfl (fun K hK => ?_) AllReadyH.nil
      go_simp
      (obtain ⟨w9_6, hW, hs, hb, hx⟩ := alloc1 w8_6 (.cells #[.slice a8_6 (L k) c8_6] 32); rw [← hW]; have HZ69 := Lib.hid (bt HZ68.out hb); replace HX6 := Lib.hid (HX6.out.below hb); have HK6 := Lib.hid hx; clear hW hs hb hx)
      first | refine hK.out _ _ ?_ (fun hHeld => ?_) | (go_wp2_with fail; refine hK.out _ _ ?_ (fun hHeld => ?_))
      · exact HLS.out _ (bt HR6.out HZ69.out)
      clear hK K
      (try dsimp only at hHeld)
      (try simp only [Act.put, List.setIfInBounds_toArray, List.set_cons_zero, List.set_cons_succ])
      refine wpAnyH_ready (rs := [10]) (by kernel_rfl) (by simp) ?_
      refine AllReadyH.cons (o := ({ dst := some 24, op := Op.call { callee := Callee.builtin Builtin.append, args := #[Operand.tmp 14, Operand.tmp 23], argTypes := #[28, 28] }, type := 28, pos := "law.go:41", after := #[{ on := 0, ground := Ground.data }, { on := 9, ground := Ground.data }, { on := 8, ground := Ground.chain }], guard := none } : Oper)) rfl (fun K hK => ?_) AllReadyH.nil
      (have HN := Lib.hid (HV.out.below HZ69.out); refine step_append_good (G := OnlySl) _ rfl (.tmp 14) (.tmp 23) 28 rfl W1.heap.size 32 i1 (.slice none 0 0) 1 24 Tryz.underlying28 hi1 hz10 hz11 hz12 rfl (by decide) s V.length V rfl HN.out.own ⟨w8_6.heap.size, 0, none⟩ 1 1 [.slice a8_6 (L k) c8_6] rfl rfl (row_one HK6.out) (one_cell HX6.out) (by unfold maxLen; omega) (by omega) (by have := HR6.out.size; have := HZ69.out.size; omega) (only_sl HX6.out) only_sl0 ?_; intro v6 w10_6 ho hg _; have HR7 := Lib.hid (grown_below (bt HR6.out HZ69.out) HN.out.own.own hg (Nat.le_refl _) (by have := HR6.out.size; have := HZ69.out.size; omega)); have HN6 := Lib.hid (HN.out.snoc ho hg HX6.out); have HU7 := Lib.hid ((HU.out.below HZ69.out).side hg HN.out.own (by decide)); clear ho hg HN)
      first | refine hK.out _ _ ?_ (fun hHeld => ?_) | (go_wp2_with fail; refine hK.out _ _ ?_ (fun hHeld => ?_))
      · exact HLS.out _ HR7.out
      clear hK K
      (try dsimp only at hHeld)
      (try simp only [Act.put, List.setIfInBounds_toArray, List.set_cons_zero, List.set_cons_succ])
      refine wpAnyH_take (i := 11) (oi := ({ dst := some 4, op := Op.assign (Operand.tmp 24), type := 28, pos := "law.go:41", after := #[{ on := 10, ground := Ground.data }, { on := 10, ground := Ground.chain }, { on := 0, ground := Ground.phase }, { on := 1, ground := Ground.phase }, { on := 2, ground := Ground.phase }, { on := 3, ground := Ground.phase }, { on := 4, ground := Ground.phase }, { on := 5, ground := Ground.phase }, { on := 6, ground := Ground.phase }, { on := 7, ground := Ground.phase }, { on := 8, ground := Ground.phase }, { on := 9, ground := Ground.phase }, { on := 10, ground := Ground.phase }], guard := none } : Oper)) (v := ?y1_9_v) rfl (by kernel_rfl) (by kernel_rfl) (by kernel_rfl) (fun _ _ _ h => h) (Or.inl ⟨by rfl, ?y1_9_h⟩) hHeld ?y1_9_r
      case y1_9_h => (intro w hSw; (try dsimp only at hSw); go_simp; all_goals with_reducible rfl)
      (try simp only [Act.put, List.setIfInBounds_toArray, List.set_cons_zero, List.set_cons_succ])
      refine wpAnyH_done (by kernel_rfl) ?_ _
      go_wp2_with fail
      refine wp_region_held_drew (S := fun w' => w'.cell? ⟨w.heap.size, 0, none⟩ = some (.slice (some ⟨b, o, none⟩) m c) ∧ w'.cell? ⟨w.heap.size, 1, none⟩ = some (.int .u8 d) ∧ w'.cell? ⟨b, o + k, none⟩ = some (.slice a' (L k) c')) (by kernel_rfl) ?_ (fun hHeld => ?_)
      · exact HLS.out _ (Below.drew HR7.out)
      (try dsimp only at hHeld)
      refine wpAnyH_take (i := 0) (oi := ({ dst := some 25, op := Op.move (Operand.tmp 5), type := 29, pos := "law.go:42", after := #[], guard := none } : Oper)) (v := ?y2_1_v) rfl (by kernel_rfl) (by kernel_rfl) (by kernel_rfl) (fun _ _ _ h => h) (Or.inl ⟨by rfl, ?y2_1_h⟩) hHeld ?y2_1_r
      case y2_1_h => (intro w hSw; (try dsimp only at hSw); go_simp; all_goals with_reducible rfl)
      (try simp only [Act.put, List.setIfInBounds_toArray, List.set_cons_zero, List.set_cons_succ])
      refine wpAnyH_take (i := 1) (oi := ({ dst := some 26, op := Op.fieldAddr 24 (Operand.tmp 1) 0, type := 0, pos := "law.go:42", after := #[], guard := none } : Oper)) (v := ?y2_2_v) rfl (by kernel_rfl) (by kernel_rfl) (by kernel_rfl) (fun _ _ _ h => h) (Or.inl ⟨by rfl, ?y2_2_h⟩) hHeld ?y2_2_r
      case y2_2_h => (intro w hSw; (try dsimp only at hSw); go_simp; all_goals with_reducible rfl)
      (try simp only [Act.put, List.setIfInBounds_toArray, List.set_cons_zero, List.set_cons_succ])
      refine wpAnyH_take (i := 2) (oi := ({ dst := some 27, op := Op.load 22 (Operand.tmp 26), type := 22, pos := "law.go:42", after := #[{ on := 1, ground := Ground.data }], guard := none } : Oper)) (v := ?y2_3_v) rfl (by kernel_rfl) (by kernel_rfl) (by kernel_rfl) (fun _ _ _ h => h) (Or.inl ⟨by rfl, ?y2_3_h⟩) hHeld ?y2_3_r
      case y2_3_h => (intro w hSw; (try dsimp only at hSw); go_simp; all_goals with_reducible rfl)
      (try simp only [Act.put, List.setIfInBounds_toArray, List.set_cons_zero, List.set_cons_succ])
      refine wpAnyH_take (i := 3) (oi := ({ dst := some 28, op := Op.move (Operand.tmp 6), type := 3, pos := "law.go:42", after := #[], guard := none } : Oper)) (v := ?y2_4_v) rfl (by kernel_rfl) (by kernel_rfl) (by kernel_rfl) (fun _ _ _ h => h) (Or.inl ⟨by rfl, ?y2_4_h⟩) hHeld ?y2_4_r
      case y2_4_h => (intro w hSw; (try dsimp only at hSw); go_simp; all_goals with_reducible rfl)
      (try simp only [Act.put, List.setIfInBounds_toArray, List.set_cons_zero, List.set_cons_succ])
      refine wpAnyH_take (i := 4) (oi := ({ dst := some 29, op := Op.indexAddr 22 (Operand.tmp 27) (Operand.tmp 28), type := 0, pos := "law.go:42", after := #[{ on := 2, ground := Ground.data }, { on := 3, ground := Ground.data }], guard := none } : Oper)) (v := ?y2_5_v) rfl (by kernel_rfl) (by kernel_rfl) (by kernel_rfl) (fun _ _ _ h => h) (Or.inl ⟨by rfl, ?y2_5_h⟩) hHeld ?y2_5_r
      case y2_5_h => (intro w hSw; (try dsimp only at hSw); go_simp; all_goals with_reducible rfl)
      (try simp only [Act.put, List.setIfInBounds_toArray, List.set_cons_zero, List.set_cons_succ])
      refine wpAnyH_take (i := 5) (oi := ({ dst := some 30, op := Op.load 25 (Operand.tmp 29), type := 25, pos := "law.go:42", after := #[{ on := 4, ground := Ground.data }], guard := none } : Oper)) (v := ?y2_6_v) rfl (by kernel_rfl) (by kernel_rfl) (by kernel_rfl) (fun _ _ _ h => h) (Or.inl ⟨by rfl, ?y2_6_h⟩) hHeld ?y2_6_r
      case y2_6_h => (intro w hSw; (try dsimp only at hSw); go_simp; all_goals with_reducible rfl)
      (try simp only [Act.put, List.setIfInBounds_toArray, List.set_cons_zero, List.set_cons_succ])
      refine wpAnyH_take (i := 6) (oi := ({ dst := some 31, op := Op.fieldAddr 24 (Operand.tmp 1) 1, type := 0, pos := "law.go:42", after := #[], guard := none } : Oper)) (v := ?y2_7_v) rfl (by kernel_rfl) (by kernel_rfl) (by kernel_rfl) (fun _ _ _ h => h) (Or.inl ⟨by rfl, ?y2_7_h⟩) hHeld ?y2_7_r
      case y2_7_h => (intro w hSw; (try dsimp only at hSw); go_simp; all_goals with_reducible rfl)
      (try simp only [Act.put, List.setIfInBounds_toArray, List.set_cons_zero, List.set_cons_succ])
      refine wpAnyH_take (i := 7) (oi := ({ dst := some 32, op := Op.load 5 (Operand.tmp 31), type := 5, pos := "law.go:42", after := #[{ on := 6, ground := Ground.data }], guard := none } : Oper)) (v := ?y2_8_v) rfl (by kernel_rfl) (by kernel_rfl) (by kernel_rfl) (fun _ _ _ h => h) (Or.inl ⟨by rfl, ?y2_8_h⟩) hHeld ?y2_8_r
      case y2_8_h => (intro w hSw; (try dsimp only at hSw); go_simp; all_goals with_reducible rfl)
      (try simp only [Act.put, List.setIfInBounds_toArray, List.set_cons_zero, List.set_cons_succ])
      refine wpAnyH_ready (rs := [8]) (by kernel_rfl) (by simp) ?_
      refine AllReadyH.cons (o := ({ dst := some 33, op := Op.call { callee := Callee.value (Operand.func 12), args := #[Operand.tmp 30, Operand.tmp 32], argTypes := #[25, 5] }, type := 37, pos := "law.go:42", after := #[{ on := 5, ground := Ground.data }, { on := 7, ground := Ground.data }], guard := none } : Oper)) rfl (fun K hK => ?_) AllReadyH.nil
      go_simp
      (go_at_call 12; (with_reducible refine (rnumbers_any (HQ.out.below (Below.drew (bt HB.out HR7.out))) ZK.out hd (by omega)).mono ?_); rintro e w8_7 ⟨a8_7, c8_7, rfl, hx, hbb⟩; have HZ78 := Lib.hid (bt (Below.drew (Below.refl w10_6.heap.size w10_6)) hbb); have HX7 := Lib.hid hx; clear hx hbb)
      first | refine hK.out _ _ ?_ (fun hHeld => ?_) | (go_wp2_with fail; refine hK.out _ _ ?_ (fun hHeld => ?_))
      · exact HLS.out _ (bt HR7.out HZ78.out)
      clear hK K
      (try dsimp only at hHeld)
      (try simp only [Act.put, List.setIfInBounds_toArray, List.set_cons_zero, List.set_cons_succ])
      refine wpAnyH_ready (rs := [9]) (by kernel_rfl) (by simp) ?_
      refine AllReadyH.cons (o := ({ dst := some 34, op := Op.buildSlice 29 1 #[(0, Operand.tmp 33)], type := 29, pos := "law.go:42", after := #[{ on := 8, ground := Ground.data }], guard := none } : Oper)) rfl (fun K hK => ?_) AllReadyH.nil
      go_simp
      (obtain ⟨w9_7, hW, hs, hb, hx⟩ := alloc1 w8_7 (.cells #[.slice a8_7 (L k) c8_7] 37); rw [← hW]; have HZ79 := Lib.hid (bt HZ78.out hb); replace HX7 := Lib.hid (HX7.out.below hb); have HK7 := Lib.hid hx; clear hW hs hb hx)
      first | refine hK.out _ _ ?_ (fun hHeld => ?_) | (go_wp2_with fail; refine hK.out _ _ ?_ (fun hHeld => ?_))
      · exact HLS.out _ (bt HR7.out HZ79.out)
      clear hK K
      (try dsimp only at hHeld)
      (try simp only [Act.put, List.setIfInBounds_toArray, List.set_cons_zero, List.set_cons_succ])
      refine wpAnyH_ready (rs := [10]) (by kernel_rfl) (by simp) ?_
      refine AllReadyH.cons (o := ({ dst := some 35, op := Op.call { callee := Callee.builtin Builtin.append, args := #[Operand.tmp 25, Operand.tmp 34], argTypes := #[29, 29] }, type := 29, pos := "law.go:42", after := #[{ on := 0, ground := Ground.data }, { on := 9, ground := Ground.data }, { on := 8, ground := Ground.chain }], guard := none } : Oper)) rfl (fun K hK => ?_) AllReadyH.nil
      (have HN := Lib.hid (HU7.out.below HZ79.out); refine step_append_good (G := OnlySl) _ rfl (.tmp 25) (.tmp 34) 29 rfl W1.heap.size 37 i2 (.slice none 0 0) 1 24 Tryz.underlying29 hi2 hz20 hz21 hz22 rfl (by decide) t U.length U rfl HN.out.own ⟨w8_7.heap.size, 0, none⟩ 1 1 [.slice a8_7 (L k) c8_7] rfl rfl (row_one HK7.out) (rone_cell HX7.out) (by unfold maxLen; omega) (by omega) (by have := HR7.out.size; have := HZ79.out.size; omega) (ronly_sl HX7.out) only_sl0 ?_; intro v7 w10_7 ho hg _; have HR8 := Lib.hid (grown_below (bt HR7.out HZ79.out) HN.out.own.own hg (Nat.le_refl _) (by have := HR7.out.size; have := HZ79.out.size; omega)); have HN7 := Lib.hid (HN.out.snoc ho hg HX7.out); have HV7 := Lib.hid ((HN6.out.below HZ79.out).side hg HN.out.own (by decide)); clear ho hg HN)
      first | refine hK.out _ _ ?_ (fun hHeld => ?_) | (go_wp2_with fail; refine hK.out _ _ ?_ (fun hHeld => ?_))
      · exact HLS.out _ HR8.out
      clear hK K
      (try dsimp only at hHeld)
      (try simp only [Act.put, List.setIfInBounds_toArray, List.set_cons_zero, List.set_cons_succ])
      refine wpAnyH_take (i := 11) (oi := ({ dst := some 5, op := Op.assign (Operand.tmp 35), type := 29, pos := "law.go:42", after := #[{ on := 10, ground := Ground.data }, { on := 10, ground := Ground.chain }, { on := 0, ground := Ground.phase }, { on := 1, ground := Ground.phase }, { on := 2, ground := Ground.phase }, { on := 3, ground := Ground.phase }, { on := 4, ground := Ground.phase }, { on := 5, ground := Ground.phase }, { on := 6, ground := Ground.phase }, { on := 7, ground := Ground.phase }, { on := 8, ground := Ground.phase }, { on := 9, ground := Ground.phase }, { on := 10, ground := Ground.phase }], guard := none } : Oper)) (v := ?y2_9_v) rfl (by kernel_rfl) (by kernel_rfl) (by kernel_rfl) (fun _ _ _ h => h) (Or.inl ⟨by rfl, ?y2_9_h⟩) hHeld ?y2_9_r
      case y2_9_h => (intro w hSw; (try dsimp only at hSw); go_simp; all_goals with_reducible rfl)
      (try simp only [Act.put, List.setIfInBounds_toArray, List.set_cons_zero, List.set_cons_succ])
      refine wpAnyH_done (by kernel_rfl) ?_ _
      clear e0 e1
      go_wp2
      go_roundw
      case rel => exact ⟨k + 1, _, _, _, _, rfl, rfl, by go_num, by omega, HV7.out, HN7.out, HR8.out⟩
      case measure => (simp [intOf]; omega)
end Go.Proofs.YtjphfdlpcakpeaaGreatDoor
