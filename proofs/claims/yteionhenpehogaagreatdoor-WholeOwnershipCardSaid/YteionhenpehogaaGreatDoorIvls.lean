import Derived.Test.YteionhenpehogaaGreatDoorScope
namespace Go.Proofs.YteionhenpehogaaGreatDoor
open Go.RowKit Go.Shelf Tally
attribute [local go_sem] Oper.semAt_some
def ivl (L : List Iv) : List Value := L.flatMap fun x => [.int .i64 x.fr, .int .i64 x.to, .int .i64 x.me]
theorem ivl_app (L K : List Iv) : ivl (L ++ K) = ivl L ++ ivl K := by simp [ivl]
theorem ivl_len (L : List Iv) : (ivl L).length = L.length * 3 := by
 induction L with
 | nil => rfl
 | cons x L ih => rw [show x :: L = [x] ++ L from rfl, ivl_app, List.length_append, ih]; simp [ivl]; omega
def IvR (w : World) (v : Value) (L : List Iv) : Prop :=
 ∃ (a : Option Addr) (b c : Nat), v = .slice a L.length c ∧ L.length ≤ c ∧ c ≤ 9223372036854775807 ∧ (0 < L.length → a = some ⟨b, 0, none⟩) ∧ ∀ i (hi : i < L.length), w.cell? ⟨b, i * 3, none⟩ = some (.int .i64 L[i].fr) ∧ w.cell? ⟨b, i * 3 + 1, none⟩ = some (.int .i64 L[i].to) ∧ w.cell? ⟨b, i * 3 + 2, none⟩ = some (.int .i64 L[i].me)
theorem IvR.put {w : World} {v : Value} {L : List Iv} {D : Nat} {o' : Obj} (h : IvR w v L) (hK : w.heap[D]? = some (.deferred (some []))) : IvR (w.putObj D o') v L := by
 obtain ⟨a, b, c, h1, h2, h3, h4, h5⟩ := h
 refine ⟨a, b, c, h1, h2, h3, h4, fun i hi => ?_⟩
 have hne : b ≠ D := by
  rintro rfl
  have := (h5 i hi).1
  simp [World.cell?, hK] at this
 have e : ∀ j, (w.putObj D o').cell? ⟨b, j, none⟩ = w.cell? ⟨b, j, none⟩ := fun j => World.cell?_of_block (w := w) (World.putObj_heap_other hne)
 rw [e, e, e]
 exact h5 i hi
theorem ivl_get (L : List Iv) (i : Nat) (hi : i < L.length) : (ivl L)[i * 3]? = some (.int .i64 L[i].fr) ∧ (ivl L)[i * 3 + 1]? = some (.int .i64 L[i].to) ∧ (ivl L)[i * 3 + 2]? = some (.int .i64 L[i].me) := by
 have e : L = L.take i ++ (L[i] :: L.drop (i + 1)) := by
  rw [← List.drop_eq_getElem_cons hi, List.take_append_drop]
 have h1 : ivl L = ivl (L.take i) ++ ([.int .i64 L[i].fr, .int .i64 L[i].to, .int .i64 L[i].me] ++ ivl (L.drop (i + 1))) := by
  conv => lhs; rw [e]
  rw [ivl_app]
  rfl
 have h2 : (ivl (L.take i)).length = i * 3 := by rw [ivl_len, List.length_take]; omega
 rw [h1]
 refine ⟨?_, ?_, ?_⟩ <;> rw [List.getElem?_append_right (by omega), h2]
 ·rw [Nat.sub_self]; rfl
 ·rw [show i * 3 + 1 - i * 3 = 1 by omega]; rfl
 ·rw [show i * 3 + 2 - i * 3 = 2 by omega]; rfl
theorem ivR_own {w : World} {base : Nat} {T : TypeId} {v : Value} {L : List Iv} (h : w.ownsRow base T 3 v L.length (ivl L)) : IvR w v L := by
 have hc := fun g => h.cells (g := g)
 rcases h.2 with ⟨rfl, h0⟩ | ⟨g, cap, cur, rfl, _, hh, hn, hm, hs, ht⟩
 ·exact ⟨none, 0, 0, by rw [h0], by omega, by omega, fun q => by omega, fun i hi => by omega⟩
 ·have key : ∀ j u, (ivl L)[j]? = some u → w.cell? ⟨g, j, none⟩ = some u := fun j u hj => by
   have := hc g rfl j u hj
   rwa [add_pl, Nat.zero_add] at this
  refine ⟨_, g, cap, rfl, by omega, by unfold maxLen at hm; omega, fun _ => rfl, fun i hi => ?_⟩
  obtain ⟨q0, q1, q2⟩ := ivl_get L i hi
  exact ⟨key _ _ q0, key _ _ q1, key _ _ q2⟩
theorem infoV : (Tryz.prog.info? 60).map (fun i => (i.zero, i.size, i.bytes)) = some (some (.agg #[.int .i64 0, .int .i64 0, .int .i64 0]), 3, 24) := by kernel_rfl
theorem alloc5 (w : World) (oa ob oc od oe : Obj) : ∃ W, W = ((((w.alloc oa).alloc ob).alloc oc).alloc od).alloc oe ∧ W.heap.size = w.heap.size + 1 + 1 + 1 + 1 + 1 ∧ Below w.heap.size w W ∧ W.heap[w.heap.size]? = some oa ∧ W.heap[w.heap.size + 1]? = some ob ∧ W.heap[w.heap.size + 1 + 1]? = some oc ∧ W.heap[w.heap.size + 1 + 1 + 1]? = some od ∧ W.heap[w.heap.size + 1 + 1 + 1 + 1]? = some oe := by
 have q0 := World.alloc_heap_new w oa
 have q1 := World.alloc_heap_new (w.alloc oa) ob
 have q2 := World.alloc_heap_new ((w.alloc oa).alloc ob) oc
 have q3 := World.alloc_heap_new (((w.alloc oa).alloc ob).alloc oc) od
 have q4 := World.alloc_heap_new ((((w.alloc oa).alloc ob).alloc oc).alloc od) oe
 simp only [World.size_alloc] at q1 q2 q3 q4
 exact ⟨_, rfl, by simp, (((((Below.refl _ w).alloc (Nat.le_refl _) _).alloc (by simp <;> omega) _).alloc (by simp <;> omega) _).alloc (by simp <;> omega) _).alloc (by simp <;> omega) _, ((Below.heap_alloc _ _ _ (by simp <;> omega)).trans ((Below.heap_alloc _ _ _ (by simp <;> omega)).trans ((Below.heap_alloc _ _ _ (by simp <;> omega)).trans ((Below.heap_alloc _ _ _ (by simp <;> omega)).trans q0)))), ((Below.heap_alloc _ _ _ (by simp <;> omega)).trans ((Below.heap_alloc _ _ _ (by simp <;> omega)).trans ((Below.heap_alloc _ _ _ (by simp <;> omega)).trans q1))), ((Below.heap_alloc _ _ _ (by simp <;> omega)).trans ((Below.heap_alloc _ _ _ (by simp <;> omega)).trans q2)), ((Below.heap_alloc _ _ _ (by simp <;> omega)).trans q3), q4⟩
theorem run_loadVar_cell {P : Program} (w : World) (g : Nat) (ty : TypeId) (d : TypeDesc) (x : Value) (hc : w.cell? ⟨g, 0, none⟩ = some x) (hu : P.underlying ty = some d) (hd : (match d with | .struct _ | .array _ _ => true | _ => false) = false) : (loadVar ty ⟨g, 0, none⟩).run P w = .ok x w := by
 have hagg : (isAgg ty).run P w = .ok false w := by
  unfold isAgg
  rw [Sem.run_bind, run_underlying hu w]
  cases d <;> simp_all
 simp [loadVar, Sem.run_bind, hagg, go_sem, hc]
theorem results_cells {P : Program} {fn : Func} {p q : Tmp} {ty ty2 : TypeId} (h : fn.results = #[.cell p ty, .cell q ty2]) (tmps : Array Value) (w : World) (g g2 : Nat) (d d2 : TypeDesc) (x y : Value)
  (hp : tmps.getD p undef = .pointer (some ⟨g, 0, none⟩)) (hq : tmps.getD q undef = .pointer (some ⟨g2, 0, none⟩)) (hx : w.cell? ⟨g, 0, none⟩ = some x) (hy : w.cell? ⟨g2, 0, none⟩ = some y)
  (hu : P.underlying ty = some d) (hd : (match d with | .struct _ | .array _ _ => true | _ => false) = false)
  (hu2 : P.underlying ty2 = some d2) (hd2 : (match d2 with | .struct _ | .array _ _ => true | _ => false) = false) :
  (results fn tmps).run P w = .ok (.tuple #[x, y]) w := by
 have hp' : tmps[p]?.getD undef = .pointer (some ⟨g, 0, none⟩) := by simpa using hp
 have hq' : tmps[q]?.getD undef = .pointer (some ⟨g2, 0, none⟩) := by simpa using hq
 simp [results, h, hp', hq', asAddr, run_loadVar_cell w g ty d x hx hu hd, run_loadVar_cell w g2 ty2 d2 y hy hu2 hd2]
noncomputable def mOf (N k : Nat) (H : Hds) (jt : Nat → Bool) (e : Nat) (t : Int) : Int := mth N (fun h e => H.at (h : Nat) (e : Nat) t k) jt (ctlS N fun h e => H.at (h : Nat) (e : Nat) t k) e
def IvGood (M : Int → Int) (L : List Iv) : Prop := ∀ t, goodDate t → (∃ y, y ∈ L ∧ y.fr ≤ t ∧ t < y.to) ∧ ∀ y, y ∈ L → y.fr ≤ t → t < y.to → y.me = M t
def GivesIv (w : World) (M : Int → Int) (en : Ending) (w' : World) : Prop :=
 ∃ (a : Option Addr) (c : Nat) (L : List Iv), en = .returned (.tuple #[.slice a L.length c, .int .i64 0]) ∧ IvR w' (.slice a L.length c) L ∧ IvGood M L ∧ Below w.heap.size w w'
set_option maxRecDepth 100000 in
set_option maxHeartbeats 4000000 in
theorem iv_zero {w : World} {u v : Value} {k N : Nat} {H : Hds} {jt : Nat → Bool} (hE : EntR w u N jt) (hH : HoldR w v k H) (hw : Hwf H k) (hv : H.valid N k) :
  Calls Tryz.prog 81 #[.agg (grp u), v, .int .i64 0] w (GivesIv w (fun _ => 3)) := by
 obtain ⟨a, cp, rfl⟩ : ∃ a c, v = .slice a k c := by obtain ⟨a, b, o, c, h1, _⟩ := hH; exact ⟨a, c, h1⟩
 obtain ⟨ua, uc, rfl⟩ : ∃ a c, u = .slice a N c := by obtain ⟨a, b, o, c, h1, _⟩ := hE; exact ⟨a, c, h1⟩
 have hN1 : 1 ≤ N := by have := hv.1; omega
 have hNz : ¬ (N : Int) ≤ 0 := by omega
 have HH := Lib.hid hH
 have HW := Lib.hid hw
 have HV := Lib.hid hv
 clear hH hw hv
 refine (callsIn_wide (n := 6)).1 (callsIn_of_wp_marks Tryz.func81 rfl trivial ?_ rfl)
 simp only [Tryz.ntmps81, List.size_toArray, List.length_cons, List.length_nil, Nat.reduceAdd, Nat.reduceSub, Array.replicate_succ, Array.replicate_zero, List.push_toArray, List.append_toArray, List.nil_append, List.cons_append]
 obtain ⟨W0, hW0, hsz, hb0, q0, q1, q2, q3, q4⟩ := alloc5 w (.cells (grp (.slice ua N uc)) 49) (.cells #[.slice a k cp] 22) (.cells #[.int .i64 0] 3) (.cells #[.slice none 0 0] 135) (.cells #[.int .i64 0] 27)
 have hx : W0.cell? ⟨w.heap.size, 20, none⟩ = some (.slice ua N uc) := by rw [Lib.cell_of_heap q0]; rfl
 have hx1 : W0.cell? ⟨w.heap.size + 1, 0, none⟩ = some (.slice a k cp) := Boxed.cell (t := 22) q1
 rw [hW0] at hx hx1
 gi_wp2_with (fail)
 rw [← hW0] at hx hx1 ⊢
 have hb0' := hb0
 refine ⟨trivial, ?_⟩
 refine (callsIn_wide.2 (validH_any (b := true) (HH.out.below hb0) HW.out ⟨fun _ => HV.out, fun _ => rfl⟩)).mono ?_
 rintro en w1 ⟨rfl, hb1⟩
 have x2 : Boxed w1 (w.heap.size + 1 + 1) 3 (.int .i64 0) := (hb1.block _ (by omega)).trans q2
 have x3 : Boxed w1 (w.heap.size + 1 + 1 + 1) 135 (.slice none 0 0) := (hb1.block _ (by omega)).trans q3
 have x4 : Boxed w1 (w.heap.size + 1 + 1 + 1 + 1) 27 (.int .i64 0) := (hb1.block _ (by omega)).trans q4
 have c2 := x2.cell
 have c3 := x3.cell
 have c4 := x4.cell
 have f3 := x3.frozen
 have f4 := x4.frozen
 have l3 := x3.lt
 have l4 := x4.lt
 gi_wp2_with (fail)
 have hsz1 := hb1.size
 obtain ⟨W5, hW5⟩ : ∃ W5, W5 = ((w1.setCell ⟨w.heap.size + 1 + 1 + 1, 0, none⟩ (.slice (some ⟨w1.heap.size, 0, none⟩) 1 1)).setCell ⟨w.heap.size + 1 + 1 + 1 + 1, 0, none⟩ (.int .i64 0)).alloc (.cells #[.int .i64 (-25568), .int .i64 84006, .int .i64 3] 60) := ⟨_, rfl⟩
 have r3 : Boxed W5 (w.heap.size + 1 + 1 + 1) 135 (.slice (some ⟨w1.heap.size, 0, none⟩) 1 1) := by rw [hW5]; exact ((x3.set _).other (by omega) _).alloc _
 have r4 : Boxed W5 (w.heap.size + 1 + 1 + 1 + 1) 27 (.int .i64 0) := by rw [hW5]; exact ((x4.other (by omega) _).set _).alloc _
 have r5 : W5.heap[w1.heap.size]? = some (.cells #[.int .i64 (-25568), .int .i64 84006, .int .i64 3] 60) := by
  rw [hW5]
  have := World.alloc_heap_new ((w1.setCell ⟨w.heap.size + 1 + 1 + 1, 0, none⟩ (.slice (some ⟨w1.heap.size, 0, none⟩) 1 1)).setCell ⟨w.heap.size + 1 + 1 + 1 + 1, 0, none⟩ (.int .i64 0)) (.cells #[.int .i64 (-25568), .int .i64 84006, .int .i64 3] 60)
  simpa using this
 have hb5 : Below w.heap.size w W5 := by
  rw [hW5]
  exact (((hb0.trans (hb1.mono (by omega))).setCell (p := ⟨w.heap.size + 1 + 1 + 1, 0, none⟩) (by show w.heap.size ≤ w.heap.size + 1 + 1 + 1; omega) _).setCell (p := ⟨w.heap.size + 1 + 1 + 1 + 1, 0, none⟩) (by show w.heap.size ≤ w.heap.size + 1 + 1 + 1 + 1; omega) _).alloc (by simp; omega) _
 rw [← hW5]
 refine ⟨_, results_cells rfl _ _ (w.heap.size + 1 + 1 + 1) (w.heap.size + 1 + 1 + 1 + 1) _ _ _ _ rfl rfl r3.cell r4.cell Tryz.underlying135 rfl Tryz.underlying27 rfl, ?_⟩
 refine ⟨_, _, [⟨-25568, 84006, 3⟩], rfl, ⟨_, w1.heap.size, 1, rfl, Nat.le_refl _, by omega, fun _ => rfl, fun i hi => ?_⟩, fun t ht => ?_, hb5⟩
 ·obtain rfl : i = 0 := by simpa using hi
  exact ⟨by rw [Lib.cell_of_heap r5]; rfl, by rw [Lib.cell_of_heap r5]; rfl, by rw [Lib.cell_of_heap r5]; rfl⟩
 ·unfold goodDate at ht
  refine ⟨⟨_, List.mem_singleton.2 rfl, by show (-25568 : Int) ≤ t; omega, by show t < (84006 : Int); omega⟩, fun y hy _ _ => ?_⟩
  obtain rfl := List.mem_singleton.1 hy
  rfl
theorem mat_yes {w : World} {u v : Value} {k N e : Nat} {H : Hds} {day : Int} {jt : Nat → Bool} (hE : EntR w u N jt) (hH : HoldR w v k H) (hw : Hwf H k) (hv : H.valid N k) (hd : goodDate day) (he : e < N) :
  Calls Tryz.prog 122 #[.agg (grp u), v, .int .i64 (e : Nat), .int .i64 day] w fun en w' => en = .returned (.tuple #[.int .i64 (mOf N k H jt e day), .int .i64 0]) ∧ Below w.heap.size w w' := by
 obtain ⟨a, cp, rfl⟩ : ∃ a c, v = .slice a k c := by obtain ⟨a, b, o, c, h1, _⟩ := hH; exact ⟨a, c, h1⟩
 obtain ⟨W0, hW0, hs0, hb0, q0⟩ := alloc1 w (.cells (grp u) 49)
 have heI : (e : Int) < (N : Int) := by omega
 have heJ : ¬ (N : Int) ≤ (e : Int) := by omega
 have he0 : ¬ (e : Int) < 0 := by omega
 have hZ := ctlS_is (n := N) (Z := fun h e => H.at (h : Nat) (e : Nat) day k) fun i j hi hj => (at_zrange hv i j hi hj).1
 have HZ := Lib.hid hZ
 have HA := Lib.hid (all_yes (jt := jt) (hE.below hb0) (hH.below hb0) hw hv hd)
 have HQ := Lib.hid q0
 have HB0 := Lib.hid hb0
 clear hE hH hw hv hd hZ q0 hb0
 go_enter Tryz.func122, Tryz.ntmps122
 rw [hW0] at HQ HA
 go_wp2_with (refine wpList_load_row rfl 49 (.tmp 4) rfl w.heap.size rfl 49 (grp u) (0, 0) _ HQ.out Tryz.underlying49 rfl (by kernel_rfl) ?_)
 refine HA.out.mono ?_
 rintro en w1 ⟨B, s, rfl, hrow, hc, hb1⟩
 have c1 := hrow.cell he
 rw [show mth N (fun h e => H.at (h : Nat) (e : Nat) day k) jt s e = mOf N k H jt e day from (mth_same (Y := fun h e => H.at (h : Nat) (e : Nat) day k) HZ.out hc (fun _ _ _ _ => rfl) he)] at c1
 have HB1 := Lib.hid (bt (by have := HB0.out; rw [hW0] at this; exact this) hb1)
 clear hrow hc hb1
 go_wp2
 go_ret2
 exact ⟨rfl, HB1.out⟩
theorem ivs_good {N k e : Nat} {H : Hds} {jt : Nat → Bool} {zs : List GD} (hD : DaysS k H zs) : IvGood (mOf N k H jt e) (ivL (ivF (mOf N k H jt e) (zs.map (·.1)))) := by
 obtain ⟨ss, hso, hmem, hys⟩ := hD
 rw [hys]
 intro t ht
 have hm : ∀ c, c ∈ -25567 :: ss.filter (fun d => decide (-25567 < d)) → c ≤ t → (∀ c', c' ∈ -25567 :: ss.filter (fun d => decide (-25567 < d)) → c' ≤ t → c' ≤ c) → mOf N k H jt e c = mOf N k H jt e t := fun c _ hct hmx => by
  have h0 : (-25567 : Int) ≤ c := hmx _ (by simp) ht.1
  have h1 := at_mid (H := H) hct fun i hi hdt => by
   by_cases q : -25567 < H.da i
   ·exact hmx _ (List.mem_cons_of_mem _ (List.mem_filter.2 ⟨(hmem _).2 ⟨i, hi, rfl⟩, decide_eq_true q⟩)) hdt
   ·omega
  unfold mOf
  rw [show (fun h e => H.at ((h : Nat) : Int) ((e : Nat) : Int) c k) = fun h e => H.at ((h : Nat) : Int) ((e : Nat) : Int) t k from funext fun _ => funext fun _ => h1 _ _]
 obtain ⟨h1, h2⟩ := ivF_at (M := mOf N k H jt e) (h0 := -25567) (ys := ss.filter (fun d => decide (-25567 < d))) (fun d hd => by
  have := of_decide_eq_true (List.mem_filter.1 hd).2
  omega) (hso.filter _) (t := t) ht.1 (by have := ht.2; omega)
 refine ⟨h1, fun y hy a b => ?_⟩
 obtain ⟨c, c1, c2, c3, c4⟩ := h2 y hy a b
 rw [c4]
 exact hm c c1 c2 c3
theorem row_type {w : World} {base : Nat} {e : TypeId} {size : Nat} {v : Value} {n : Nat} {xs : List Value} (h : w.ownsRow base e size v n xs) : ∀ g, v.ownBlock = some g → base ≤ g ∧ ∃ cur, w.heap[g]? = some (.cells cur e (0, 0)) := by
 intro g hg
 rcases h.2 with ⟨rfl, _⟩ | ⟨g', cap, cur, rfl, hb, hh, _⟩
 ·simp [Value.ownBlock] at hg
 ·obtain rfl : g' = g := by simpa [Value.ownBlock] using hg
  exact ⟨hb, cur, hh⟩
theorem KpT.row {n₀ B : Nat} {X Y Z : World} {v u : Value} {n : Nat} {xs : List Value} (h : KpT n₀ B X Y) (hg : Y.grownBy Z v.ownBlock) (hn : n₀ ≤ Y.heap.size) (ho : Y.ownsRow n₀ 60 3 v n xs) (hb : Boxed Y B 22 u) : KpT n₀ B X Z :=
 h.grown hg hn fun g e => by
  obtain ⟨q1, cur, q2⟩ := row_type ho g e
  refine ⟨q1, fun q => ?_, fun cs fr q => ?_⟩
  ·subst q
   have hb' : Y.heap[g]? = _ := hb
   rw [q2] at hb'
   injection hb' with hb'
   injection hb' with _ hb'
   exact absurd hb' (by decide)
  ·rw [q2] at q
   injection q with q
   injection q with _ q
   exact absurd q (by decide)
theorem iv_push {n₀ B : Nat} {X Y w8 : World} {v v' u : Value} {k m : Nat} {xs ys : List Value} {elem : Obj} (hK : KpT n₀ B X Y) (hKO : KeepsOthers X Y) (hn : n₀ ≤ Y.heap.size) (hX : Boxed Y n₀ 135 v) (hO : Y.ownsRow n₀ 60 3 v k xs) (hB : Boxed Y B 22 u) (hne : B ≠ n₀)
  (ho8 : w8.ownsRow n₀ 60 3 v' m ys) (hg8 : (Y.alloc elem).grownBy w8 v.ownBlock) :
  Boxed w8 n₀ 135 v ∧ KeepsOthers X (w8.setCell ⟨n₀, 0, none⟩ v') ∧ KpT n₀ B X (w8.setCell ⟨n₀, 0, none⟩ v') ∧ Boxed (w8.setCell ⟨n₀, 0, none⟩ v') n₀ 135 v' ∧ (w8.setCell ⟨n₀, 0, none⟩ v').ownsRow n₀ 60 3 v' m ys ∧ Boxed (w8.setCell ⟨n₀, 0, none⟩ v') B 22 u := by
 obtain ⟨h1, h2, h3, h4, h5⟩ := hX.appended (by decide) hO hn (Nat.le_refl _) ho8 hg8
 have k1 : KpT n₀ B X (Y.alloc elem) := hK.trans (KpT.of_below hn ((Below.refl _ Y).alloc (Nat.le_refl _) _))
 have k2 : KpT n₀ B X w8 := k1.row hg8 (by simp; omega) (hO.alloc _) (hB.alloc _)
 have b8 : Boxed w8 B 22 u := (hB.alloc elem).kept hg8 ((hB.alloc elem).not_row (by decide) (hO.alloc elem))
 exact ⟨h1, hKO.trans h4, k2.set (Nat.le_refl _) (by omega) h1 (by decide) _, h2, h3, b8.other hne _⟩
theorem new3 (w : World) (x y z : Value) (T : TypeId) : ∀ j r, [x, y, z][j]? = some r → (w.alloc (.cells #[x, y, z] T)).cell? ((⟨w.heap.size, 0, none⟩ : Addr).add j) = some r := by
 intro j r hr
 rw [add_pl, Nat.zero_add, Lib.cell_of_heap (heap_alloc_new w _)]
 simpa using hr
theorem new3s (w : World) {g o : Nat} (q x y z : Value) (T : TypeId) : ∀ j r, [x, y, z][j]? = some r → ((w.setCell ⟨g, o, none⟩ q).alloc (.cells #[x, y, z] T)).cell? ((⟨w.heap.size, 0, none⟩ : Addr).add j) = some r := by
 have h := new3 (w.setCell ⟨g, o, none⟩ q) x y z T
 have hs : (w.setCell ⟨g, o, none⟩ q).heap.size = w.heap.size := by simp
 rw [hs] at h
 exact h
theorem ivl_set (l : List Iv) (x : Iv) (d : Int) : (ivl (l ++ [x])).set (l.length * 3 + 1) (.int .i64 d) = ivl (l ++ [⟨x.fr, d, x.me⟩]) := by
 rw [ivl_app, ivl_app, List.set_append_right _ _ (by rw [ivl_len]; omega), ivl_len, show l.length * 3 + 1 - l.length * 3 = 1 by omega]
 rfl
set_option maxRecDepth 100000 in
set_option maxHeartbeats 4000000 in
theorem iv_pos {w : World} {u v : Value} {k N e : Nat} {H : Hds} {jt : Nat → Bool} (hE : EntR w u N jt) (hH : HoldR w v k H) (hw : Hwf H k) (hv : H.valid N k) (he1 : 1 ≤ e) (heN : e < N) :
  Calls Tryz.prog 81 #[.agg (grp u), v, .int .i64 (e : Nat)] w (GivesIv w (mOf N k H jt e)) := by
 obtain ⟨a, cp, rfl⟩ : ∃ a c, v = .slice a k c := by obtain ⟨a, b, o, c, h1, _⟩ := hH; exact ⟨a, c, h1⟩
 obtain ⟨ua, uc, rfl⟩ : ∃ a c, u = .slice a N c := by obtain ⟨a, b, o, c, h1, _⟩ := hE; exact ⟨a, c, h1⟩
 obtain ⟨i0, hi, hz0, hz1, hz2⟩ := info_parts infoV
 have e0 : ¬ (e : Int) < 0 := by omega
 have e1 : ¬ (N : Int) ≤ (e : Int) := by omega
 have e2 : ((e : Int) == 0) = false := by rw [beq_eq_false_iff_ne]; omega
 have HE := Lib.hid hE
 have HH := Lib.hid hH
 have HW := Lib.hid hw
 have HV := Lib.hid hv
 have HGD := Lib.hid (show ∀ i, i < k → goodDate (H.da i) from fun i hi => (hv.2.2.2.1 i hi).1.2.2.2.2.2.1)
 have hk200 := hv.2.2.1
 clear hE hH hw hv
 refine (callsIn_wide (n := 6)).1 (callsIn_of_wp_marks Tryz.func81 rfl trivial ?_ rfl)
 simp only [Tryz.ntmps81, List.size_toArray, List.length_cons, List.length_nil, Nat.reduceAdd, Nat.reduceSub, Array.replicate_succ, Array.replicate_zero, List.push_toArray, List.append_toArray, List.nil_append, List.cons_append]
 obtain ⟨W0, hW0, hsz, hb0, q0, q1, q2, q3, q4⟩ := alloc5 w (.cells (grp (.slice ua N uc)) 49) (.cells #[.slice a k cp] 22) (.cells #[.int .i64 (e : Nat)] 3) (.cells #[.slice none 0 0] 135) (.cells #[.int .i64 0] 27)
 have hx : W0.cell? ⟨w.heap.size, 20, none⟩ = some (.slice ua N uc) := by rw [Lib.cell_of_heap q0]; rfl
 have hx1 : W0.cell? ⟨w.heap.size + 1, 0, none⟩ = some (.slice a k cp) := Boxed.cell (t := 22) q1
 rw [hW0] at hx hx1
 gi_wp2_with (fail)
 rw [← hW0] at hx hx1 ⊢
 have hb0' := hb0
 refine ⟨trivial, ?_⟩
 refine (callsIn_wide.2 (validH_any (b := true) (HH.out.below hb0) HW.out ⟨fun _ => HV.out, fun _ => rfl⟩)).mono ?_
 rintro en w1 ⟨rfl, hb1⟩
 have hsz1 := hb1.size
 have x0 : w1.heap[w.heap.size]? = some (.cells (grp (.slice ua N uc)) 49 (0, 0)) := (hb1.block _ (by omega)).trans q0
 have x1 : Boxed w1 (w.heap.size + 1) 22 (.slice a k cp) := (hb1.block _ (by omega)).trans q1
 have x2 : Boxed w1 (w.heap.size + 1 + 1) 3 (.int .i64 (e : Nat)) := (hb1.block _ (by omega)).trans q2
 have x3 : Boxed w1 (w.heap.size + 1 + 1 + 1) 135 (.slice none 0 0) := (hb1.block _ (by omega)).trans q3
 have x4 : Boxed w1 (w.heap.size + 1 + 1 + 1 + 1) 27 (.int .i64 0) := (hb1.block _ (by omega)).trans q4
 have HB1 := Lib.hid (hb0.trans (hb1.mono (by omega)))
 clear hx hx1 q0 q1 q2 q3 q4 hb0 hb1 hb0' hW0
 have c1 := x1.cell
 have c2 := x2.cell
 have l1 := x1.lt
 have l2 := x2.lt
 have X0 := Lib.hid x0
 have X1 := Lib.hid x1
 have X2 := Lib.hid x2
 have X3 := Lib.hid x3
 have X4 := Lib.hid x4
 clear x0 x1 x2 x3 x4
 have e0d : decide ((e : Int) < 0) = false := decide_eq_false (by omega)
 have e1d : decide ((N : Int) ≤ (e : Int)) = false := decide_eq_false (by omega)
 have e0 : ¬ (e : Int) < 0 := by omega
 gi_wp2_with (refine ⟨trivial, ?_⟩; gi_at_call 121; refine (days_in _ a _ cp _).mono ?_; rintro en w' ⟨rfl, rfl⟩)
 obtain ⟨W6, hW6, hs6, hb6, p0, p1⟩ := alloc2 w1 (.cells #[.slice none 0 0] 135) (.cells #[.slice a k cp] 22)
 rw [← hW6]
 clear hW6
 refine wpIn_rangeFunc_ownH (encs := fun x : GD => #[.int .i64 x.1]) rfl (by omega) (gf := 157) (lb := #[.pointer (some ⟨w1.heap.size + 1, 0, none⟩)]) rfl trivial (enters_of Tryz.func157 (by kernel_rfl) rfl)
  (days_stops _ (by omega) (w1.heap.size + 1) (w0 := w1) (.slice a k cp) (HH.out.below HB1.out) HGD.out W6 hb6 (Boxed.cell (t := 22) p1)) KpT.trans (KpT.put (by omega) (by omega)) (Below.refl _ _) (fun _ => rfl)
  (fun pre W => (∃ v, Boxed W w1.heap.size 135 v ∧ W.ownsRow w1.heap.size 60 3 v (ivL (ivF (mOf N k H jt e) (pre.map (·.1)))).length (ivl (ivL (ivF (mOf N k H jt e) (pre.map (·.1))))) ∧ True) ∧ Boxed W (w1.heap.size + 1) 22 (.slice a k cp) ∧ Below w1.heap.size w1 W)
  (fun _ _ _ => False)
  (OwnFrom.and (Own.from (holdsRow_own w1.heap.size w1.heap.size 135 60 3 (fun pre : List GD => (ivL (ivF (mOf N k H jt e) (pre.map (·.1)))).length) (fun pre => ivl (ivL (ivF (mOf N k H jt e) (pre.map (·.1))))) (fun _ _ => True)) _) (OwnFrom.and (Own.from (boxed_own _ _ _) _) (ownFrom_below (Nat.le_refl _) (by omega))))
  (fun _ _ _ _ _ hs _ _ => hs)
  ⟨⟨_, p0, World.ownsRow_nil _ _ _ _, trivial⟩, p1, hb6⟩
  (fun x a' W => a' = { tmps := #[.agg (grp (.slice ua N uc)), .slice a k cp, .int .i64 (e : Nat), .pointer (some ⟨w.heap.size, 0, none⟩), .pointer (some ⟨w.heap.size + 1, 0, none⟩), .pointer (some ⟨w.heap.size + 1 + 1, 0, none⟩), .pointer (some ⟨w.heap.size + 1 + 1 + 1, 0, none⟩), .pointer (some ⟨w.heap.size + 1 + 1 + 1 + 1, 0, none⟩), .int .i64 (N : Nat), .pointer (some ⟨w1.heap.size, 0, none⟩), .int .i64 x.1, undef, undef, undef, .pointer (some ⟨w.heap.size, 20, none⟩), .slice ua N uc, .int .i64 (N : Nat), .int .i64 (N : Nat), .slice a k cp, .bool true, .bool false, .int .i64 (e : Nat), .bool false, .bool false, .int .i64 (e : Nat), .int .i64 (N : Nat), .bool false, .bool false, .int .i64 (e : Nat), .bool false, undef, undef, .slice a k cp, .func (.func 157) #[] #[.pointer (some ⟨w1.heap.size + 1, 0, none⟩)], .int .i64 x.1, undef, undef, undef, undef, undef, undef, undef, undef, undef, undef, undef, undef, undef, undef, undef, undef, undef, undef, undef, undef, undef, undef, undef, undef, undef, undef, undef, undef, undef, undef, undef, undef, undef, undef, undef, undef, undef, undef, undef, undef], defers := [] })
  (fun x a' _ X Y row hs hg hr => hs)
  ?assign ?body ?done ?stop
 case assign =>
  rintro l pre x W K ⟨hv, hB⟩ hK
  gi_wp2
  exact hK _ _ (KeepsFrom.refl _ _) (KpT.refl _ _ _) ⟨hv, hB⟩ rfl
 case stop =>
  rintro D c pre W _ _ h _
  exact h.elim
 case body =>
  rintro l pre x a' W hl ⟨r, hr⟩ ⟨⟨v, hbx, hown, _⟩, hbB, hB⟩ rfl hlt
  obtain ⟨d, hgd⟩ := x
  dsimp only
  have hsw := hB.size
  have hlen : (ivL (ivF (mOf N k H jt e) (pre.map (·.1)))).length ≤ 201 := by
   have h1 := ivF_len (mOf N k H jt e) (pre.map (·.1)) none
   simp only [List.length_map, ivL, List.length_nil] at h1
   have h2 : (ivL (ivF (mOf N k H jt e) (pre.map (·.1)))).length ≤ 0 + pre.length := h1
   omega
  have HSN := Lib.hid (show ivF (mOf N k H jt e) ((pre ++ [(⟨d, hgd⟩ : GD)]).map (·.1)) = ivS (mOf N k H jt e) (ivF (mOf N k H jt e) (pre.map (·.1))) d from by rw [List.map_append]; exact ivF_snoc)
  obtain ⟨s, hs⟩ : ∃ s, ivF (mOf N k H jt e) (pre.map (·.1)) = s := ⟨_, rfl⟩
  rw [hs] at hown hlen HSN
  obtain ⟨av, cv, rfl⟩ : ∃ av cv, v = .slice av (ivL s).length cv := by obtain ⟨a, b, c, h1, _⟩ := ivR_own hown; exact ⟨a, c, h1⟩
  have HX := Lib.hid hbx
  have HO := Lib.hid hown
  have HBX := Lib.hid hbB
  have HBB := Lib.hid hB
  have z0 : W.heap[w.heap.size]? = some (.cells (grp (.slice ua N uc)) 49 (0, 0)) := (hB.block _ (by omega)).trans X0.out
  have c1 := keepc hB X1.out.cell
  have c2 := keepc hB X2.out.cell
  have HZ := Lib.hid z0
  clear hbx hown hB hs z0 hbB
  have HEW := Lib.hid (HE.out.below (HB1.out.trans (HBB.out.mono HB1.out.size)))
  have HHW := Lib.hid (HH.out.below (HB1.out.trans (HBB.out.mono HB1.out.size)))
  obtain ⟨m, hm⟩ : ∃ m, mOf N k H jt e d = m := ⟨_, rfl⟩
  have HMM := Lib.hid hm
  clear hm
  cases s with
  | none =>
   simp only [ivL, List.length_nil] at HO HX
   have HS2 := Lib.hid (show ivF (mOf N k H jt e) ((pre ++ [(⟨d, hgd⟩ : GD)]).map (·.1)) = some ([], ⟨d, 84006, m⟩) from by rw [HSN.out, ← HMM.out]; rfl)
   gi_wp2_with (first
    | (refine wpListIn_load_row rfl 49 (.tmp 3) rfl w.heap.size rfl 49 (grp (.slice ua N uc)) (0, 0) _ HZ.out Tryz.underlying49 rfl (by kernel_rfl) ?_)
    | (refine ⟨trivial, ?_⟩; gi_at_call 122; refine (CallsIn.inRound l (callsIn_wide.2 (mat_yes HEW.out HHW.out HW.out HV.out hgd heN))).mono ?_; rintro en w7 ⟨rfl, hb7⟩; rw [HMM.out]; have HO7 := Lib.hid (ownR_below HO.out hb7); have HB7 := Lib.hid hb7; have hX7 : Boxed w7 w1.heap.size 135 (.slice av 0 cv) := (hb7.block _ HX.out.lt).trans HX.out; have hc7 := hX7.cell; have hf7 := hX7.frozen; have hl7 := hX7.lt; have HX7 := Lib.hid hX7; have HBX7 := Lib.hid (show Boxed w7 (w1.heap.size + 1) 22 (.slice a k cp) from (hb7.block _ HBX.out.lt).trans HBX.out); have hs7 := hb7.size; clear hb7 hX7)
    | (gi_at_builtin; refine wpListIn_append_own _ rfl _ _ 135 rfl w1.heap.size 60 i0 (.agg #[.int .i64 0, .int .i64 0, .int .i64 0]) 3 24 Tryz.underlying135 hi hz0 hz1 hz2 rfl (by decide) _ _ _ rfl (HO7.out.alloc _) ⟨w7.heap.size, 0, none⟩ 1 1 [.int .i64 d, .int .i64 84006, .int .i64 m] rfl rfl (new3 _ _ _ _ _) (fun u hu => by simp at hu; rcases hu with rfl | rfl | rfl <;> rfl) (by unfold maxLen; omega) (by omega) (by simp; omega) ?_; intro v8 w8 ho8 hg8 _; obtain ⟨g8, cap8, rfl⟩ := ownsRow_succ ho8; obtain ⟨b1, b2, b3, b4, b5, b6⟩ := iv_push (KpT.of_below hsw HB7.out) (KeepsOthers.of_grownBy (grown_of_below HB7.out) (by simp)) (by omega) HX7.out HO7.out HBX7.out (by omega) ho8 hg8; have hc8 := b1.cell; have hf8 := b1.frozen; have B2 := Lib.hid b2; have B3 := Lib.hid b3; have B4 := Lib.hid b4; have B5 := Lib.hid b5; have B6 := Lib.hid b6; clear ho8 hg8 b1 b2 b3 b4 b5 b6))
   refine ⟨B2.out.from _, B3.out, ⟨⟨_, B4.out, ?_, trivial⟩, B6.out, HBB.out.trans B3.out.1⟩⟩
   rw [HS2.out]
   exact B5.out
  | some q =>
   obtain ⟨ls, x⟩ := q
   have hll : (ivL (some (ls, x))).length = ls.length + 1 := by simp [ivL]
   rw [hll] at HO HX hlen
   rw [show ivL (some (ls, x)) = ls ++ [x] from rfl] at HO
   obtain ⟨g, cg, hsl, hgb, hgl⟩ := HO.out.form (by omega)
   injection hsl with q1 _ q3
   subst q1
   subst q3
   have hgt := ivl_get (ls ++ [x]) ls.length (by simp)
   simp only [List.getElem_concat_length] at hgt
   have YTO := Lib.hid ((HO.out.cellAt (ls.length * 3 + 1) (by omega)).trans hgt.2.1)
   have YME := Lib.hid ((HO.out.cellAt (ls.length * 3 + 2) (by omega)).trans hgt.2.2)
   clear hgt hll
   by_cases hxm : x.me = m
   ·have HS2 := Lib.hid (show ivF (mOf N k H jt e) ((pre ++ [(⟨d, hgd⟩ : GD)]).map (·.1)) = some (ls, x) from by rw [HSN.out]; exact if_pos (by rw [HMM.out]; exact hxm))
    gi_wp2_with (first
     | (refine wpListIn_load_row rfl 49 (.tmp 3) rfl w.heap.size rfl 49 (grp (.slice ua N uc)) (0, 0) _ HZ.out Tryz.underlying49 rfl (by kernel_rfl) ?_)
     | (refine ⟨trivial, ?_⟩; gi_at_call 122; refine (CallsIn.inRound l (callsIn_wide.2 (mat_yes HEW.out HHW.out HW.out HV.out hgd heN))).mono ?_; rintro en w7 ⟨rfl, hb7⟩; rw [HMM.out]; have HO7 := Lib.hid (ownR_below HO.out hb7); have HB7 := Lib.hid hb7; have hX7 : Boxed w7 w1.heap.size 135 (.slice (some ⟨g, 0, none⟩) (ls.length + 1) cv) := (hb7.block _ HX.out.lt).trans HX.out; have hc7 := hX7.cell; have hf7 := hX7.frozen; have hl7 := hX7.lt; have hm7 := keepc hb7 YME.out; have ht7 := keepc hb7 YTO.out; have hg7 := HO7.out.frozenAt (ls.length * 3 + 1); have HX7 := Lib.hid hX7; have HBX7 := Lib.hid (show Boxed w7 (w1.heap.size + 1) 22 (.slice a k cp) from (hb7.block _ HBX.out.lt).trans HBX.out); have hs7 := hb7.size; have hgl7 := (HO7.out.lt g rfl).2; clear hb7 hX7))
    refine ⟨(KeepsOthers.of_grownBy (grown_of_below HB7.out) (by simp)).from _, KpT.of_below hsw HB7.out, ⟨⟨_, HX7.out, ?_, trivial⟩, HBX7.out, HBB.out.trans (HB7.out.mono hsw)⟩⟩
    rw [HS2.out, show ivL (some (ls, x)) = ls ++ [x] from rfl, show (ls ++ [x]).length = ls.length + 1 from by simp]
    exact HO7.out
   ·have HS2 := Lib.hid (show ivF (mOf N k H jt e) ((pre ++ [(⟨d, hgd⟩ : GD)]).map (·.1)) = some (ls ++ [⟨x.fr, d, x.me⟩], ⟨d, 84006, m⟩) from by rw [HSN.out, ← HMM.out]; exact if_neg (by rw [HMM.out]; exact hxm))
    have hg1 : w1.heap.size ≠ g := fun q => HX.out.not_row (by decide) HO.out (by rw [q]; rfl)
    have hg2 : g ≠ w1.heap.size + 1 := fun q => HBX.out.not_row (by decide) HO.out (by rw [← q]; rfl)
    have hxb : (x.me == m) = false := by rw [beq_eq_false_iff_ne]; exact hxm
    have HLS := Lib.hid (show ivl (ls ++ [⟨x.fr, d, x.me⟩] ++ [⟨d, 84006, m⟩]) = (ivl (ls ++ [x])).set (ls.length * 3 + 1) (.int .i64 d) ++ [.int .i64 d, .int .i64 84006, .int .i64 m] from by rw [ivl_app, ivl_set]; rfl)
    gi_wp2_with (first
     | (refine wpListIn_load_row rfl 49 (.tmp 3) rfl w.heap.size rfl 49 (grp (.slice ua N uc)) (0, 0) _ HZ.out Tryz.underlying49 rfl (by kernel_rfl) ?_)
     | (refine ⟨trivial, ?_⟩; gi_at_call 122; refine (CallsIn.inRound l (callsIn_wide.2 (mat_yes HEW.out HHW.out HW.out HV.out hgd heN))).mono ?_; rintro en w7 ⟨rfl, hb7⟩; rw [HMM.out]; have HO7 := Lib.hid (ownR_below HO.out hb7); have HB7 := Lib.hid hb7; have hX7 : Boxed w7 w1.heap.size 135 (.slice (some ⟨g, 0, none⟩) (ls.length + 1) cv) := (hb7.block _ HX.out.lt).trans HX.out; have hc7 := hX7.cell; have hf7 := hX7.frozen; have hl7 := hX7.lt; have hm7 := keepc hb7 YME.out; have ht7 := keepc hb7 YTO.out; have hg7 := HO7.out.frozenAt (ls.length * 3 + 1); have HX7 := Lib.hid hX7; have HBX7 := Lib.hid (show Boxed w7 (w1.heap.size + 1) 22 (.slice a k cp) from (hb7.block _ HBX.out.lt).trans HBX.out); have hs7 := hb7.size; have hgl7 := (HO7.out.lt g rfl).2; clear hb7 hX7; have HOS := Lib.hid (HO7.out.stored (ls.length * 3 + 1) (.int .i64 d)).1; have hS7 : Boxed (w7.setCell ⟨g, ls.length * 3 + 1, none⟩ (.int .i64 d)) w1.heap.size 135 (.slice (some ⟨g, 0, none⟩) (ls.length + 1) cv) := (Below.heap_setCell _ ⟨g, ls.length * 3 + 1, none⟩ _ _ (by show w1.heap.size ≠ g; omega)).trans HX7.out; have hsc7 := hS7.cell; have HS7 := Lib.hid hS7; have HSB7 := Lib.hid (show Boxed (w7.setCell ⟨g, ls.length * 3 + 1, none⟩ (.int .i64 d)) (w1.heap.size + 1) 22 (.slice a k cp) from (Below.heap_setCell _ ⟨g, ls.length * 3 + 1, none⟩ _ _ (by show w1.heap.size + 1 ≠ g; omega)).trans HBX7.out); obtain ⟨_, cur7, hcur7⟩ := row_type HO7.out g rfl; have HKS := Lib.hid ((KpT.of_below (B := w1.heap.size + 1) hsw HB7.out).set (o := ls.length * 3 + 1) hgb hg2 hcur7 (by decide) (.int .i64 d)); have HNW := Lib.hid (new3s w7 (o := ls.length * 3 + 1) (g := g) (.int .i64 d) (.int .i64 d) (.int .i64 84006) (.int .i64 m) 60); clear hS7 hcur7)
     | (gi_at_builtin; refine wpListIn_append_own _ rfl _ _ 135 rfl w1.heap.size 60 i0 (.agg #[.int .i64 0, .int .i64 0, .int .i64 0]) 3 24 Tryz.underlying135 hi hz0 hz1 hz2 rfl (by decide) _ _ _ rfl (HOS.out.alloc _) ⟨w7.heap.size, 0, none⟩ 1 1 [.int .i64 d, .int .i64 84006, .int .i64 m] rfl rfl HNW.out (fun u hu => by simp at hu; rcases hu with rfl | rfl | rfl <;> rfl) (by unfold maxLen; omega) (by omega) (by simp; omega) ?_; intro v8 w8 ho8 hg8 _; obtain ⟨g8, cap8, rfl⟩ := ownsRow_succ ho8; obtain ⟨b1, b2, b3, b4, b5, b6⟩ := iv_push HKS.out ((KeepsOthers.of_grownBy (grown_of_below HB7.out) (by simp)).trans (KeepsOthers.setCell _ _ _)) (by simp; omega) HS7.out HOS.out HSB7.out (by omega) ho8 hg8; have hc8 := b1.cell; have hf8 := b1.frozen; have B2 := Lib.hid b2; have B3 := Lib.hid b3; have B4 := Lib.hid b4; have B5 := Lib.hid b5; have B6 := Lib.hid b6; clear ho8 hg8 b1 b2 b3 b4 b5 b6))
    refine ⟨B2.out.from _, B3.out, ⟨⟨_, B4.out, ?_, trivial⟩, B6.out, HBB.out.trans B3.out.1⟩⟩
    rw [HS2.out, show ivL (some (ls ++ [⟨x.fr, d, x.me⟩], ⟨d, 84006, m⟩)) = ls ++ [⟨x.fr, d, x.me⟩] ++ [⟨d, 84006, m⟩] from rfl, show (ls ++ [(⟨x.fr, d, x.me⟩ : Iv)] ++ [(⟨d, 84006, m⟩ : Iv)]).length = ls.length + 1 + 1 from by simp, HLS.out]
    exact B5.out
 case done =>
  rintro D zs W hD hDS ⟨⟨v, hbx, hown, _⟩, hbB, hB⟩ hK
  obtain ⟨av, cv, rfl⟩ : ∃ av cv, v = .slice av (ivL (ivF (mOf N k H jt e) (zs.map (·.1)))).length cv := by obtain ⟨a, b, c, h1, _⟩ := ivR_own hown; exact ⟨a, c, h1⟩
  obtain ⟨L, hL⟩ : ∃ L, ivL (ivF (mOf N k H jt e) (zs.map (·.1))) = L := ⟨_, rfl⟩
  have hgood := ivs_good (N := N) (e := e) (jt := jt) hDS
  rw [hL] at hbx hown hgood
  have y3 : Boxed W (w.heap.size + 1 + 1 + 1) 135 (.slice none 0 0) := (hB.block _ (by omega)).trans X3.out
  have y4 : Boxed W (w.heap.size + 1 + 1 + 1 + 1) 27 (.int .i64 0) := (hB.block _ (by omega)).trans X4.out
  have HBW := Lib.hid (HB1.out.trans (hB.mono HB1.out.size))
  have HOW := Lib.hid hown
  have HGD' := Lib.hid hgood
  have c9 := hbx.cell
  have c3 := y3.cell
  have c4 := y4.cell
  have f3 := y3.frozen
  have f4 := y4.frozen
  have l3 := y3.lt
  have l4 := y4.lt
  have Y3 := Lib.hid y3
  have Y4 := Lib.hid y4
  clear hbx hown hgood hB hDS hL hbB y3 y4
  gi_wp2_with (fail)
  obtain ⟨W5, hW5⟩ : ∃ W5, W5 = (W.setCell ⟨w.heap.size + 1 + 1 + 1, 0, none⟩ (.slice av L.length cv)).setCell ⟨w.heap.size + 1 + 1 + 1 + 1, 0, none⟩ (.int .i64 0) := ⟨_, rfl⟩
  have r3 : Boxed W5 (w.heap.size + 1 + 1 + 1) 135 (.slice av L.length cv) := by rw [hW5]; exact (Y3.out.set _).other (by omega) _
  have r4 : Boxed W5 (w.heap.size + 1 + 1 + 1 + 1) 27 (.int .i64 0) := by rw [hW5]; exact (Y4.out.other (by omega) _).set _
  have r5 : IvR W5 (.slice av L.length cv) L := by rw [hW5]; exact ivR_own (ownR_set (ownR_set HOW.out (by omega)) (by omega))
  have hb5 : Below w.heap.size w W5 := by
   rw [hW5]
   exact (HBW.out.setCell (p := ⟨w.heap.size + 1 + 1 + 1, 0, none⟩) (by show w.heap.size ≤ w.heap.size + 1 + 1 + 1; omega) _).setCell (p := ⟨w.heap.size + 1 + 1 + 1 + 1, 0, none⟩) (by show w.heap.size ≤ w.heap.size + 1 + 1 + 1 + 1; omega) _
  rw [← hW5]
  have hK5 : W5.heap[D]? = some (.deferred (some [])) := by
   rw [hW5]
   exact (Below.heap_setCell _ ⟨w.heap.size + 1 + 1 + 1 + 1, 0, none⟩ _ _ (by show D ≠ w.heap.size + 1 + 1 + 1 + 1; omega)).trans ((Below.heap_setCell _ ⟨w.heap.size + 1 + 1 + 1, 0, none⟩ _ _ (by show D ≠ w.heap.size + 1 + 1 + 1; omega)).trans hK)
  have hs5 : W5.heap.size = W.heap.size := by rw [hW5]; simp
  refine ⟨by simp, .inl ⟨_, _, rfl, run_takeDeferred hK5, ?_⟩⟩
  have hbp := belowK_b (w := w1) (Nat.le_refl _) W5 D (.deferred (some [])) (.deferred none) (by omega) hK5 rfl rfl
  refine ⟨_, results_cells rfl _ _ (w.heap.size + 1 + 1 + 1) (w.heap.size + 1 + 1 + 1 + 1) _ _ _ _ rfl rfl ((World.cell?_of_block (w := W5) (World.putObj_heap_other (by show w.heap.size + 1 + 1 + 1 ≠ D; omega))).trans r3.cell) ((World.cell?_of_block (w := W5) (World.putObj_heap_other (by show w.heap.size + 1 + 1 + 1 + 1 ≠ D; omega))).trans r4.cell) Tryz.underlying135 rfl Tryz.underlying27 rfl, ?_⟩
  exact ⟨_, _, L, rfl, r5.put hK5, HGD'.out, hb5.trans (hbp.mono HB1.out.size)⟩
end Go.Proofs.YteionhenpehogaaGreatDoor
