import Derived.Test.YteionhenpehogaaGreatDoorLimbs
namespace Go.Proofs.YteionhenpehogaaGreatDoor
open Go.RowKit Tally
def Dg (N : Nat) (z : Int) : Prop := z.natAbs < 10 ^ N
theorem Dg.mono {N M : Nat} {z : Int} (h : Dg N z) (hm : N ≤ M) : Dg M z := Nat.lt_of_lt_of_le h (Nat.pow_le_pow_right (by decide) hm)
theorem Dg.mul {N M : Nat} {x y : Int} (hx : Dg N x) (hy : Dg M y) : Dg (N + M) (x * y) := by
 unfold Dg at *; rw [Int.natAbs_mul, Nat.pow_add]; exact Nat.mul_lt_mul'' hx hy
theorem Dg.add {N : Nat} {x y : Int} (hx : Dg N x) (hy : Dg N y) : Dg (N + 1) (x + y) := by
 unfold Dg at *; rw [Nat.pow_succ]; omega
theorem Dg.neg {N : Nat} {x : Int} (hx : Dg N x) : Dg N (-x) := by unfold Dg at *; omega
theorem Canon.few {k N : Nat} {l : List Nat} {z : Int} (hk : 0 < k) (hc : Canon (10 ^ k) l) (hz : z.natAbs = val (10 ^ k) l) (hd : Dg N z) : l.length ≤ N + 1 := by
 rcases Nat.lt_or_ge (N + 1) l.length with h | h
 ·exfalso
  have hne : l ≠ [] := by rintro rfl; simp at h
  have h1 := hc.pow_le (Nat.pow_pos (by decide)) hne
  have h2 : 10 ^ N ≤ (10 ^ k) ^ (l.length - 1) := by
   rw [← Nat.pow_mul]
   refine Nat.pow_le_pow_right (by decide) ?_
   have : 1 * (l.length - 1) ≤ k * (l.length - 1) := Nat.mul_le_mul_right _ hk
   omega
  unfold Dg at hd
  omega
 ·exact h
theorem abs_of {neg : Bool} {n : Nat} {z : Int} (hz : z = if neg then -(n : Int) else n) : z.natAbs = n := by
 subst hz; cases neg <;> simp
theorem IntR.parts {w : World} {v : Value} {z : Int} (h : IntR w v z) : ∃ (neg : Bool) (s : Value) (l : List Nat), v = .agg #[.bool neg, s] ∧ LR w s l ∧ Canon 1000000000 l ∧ (neg = true → l ≠ []) ∧ z = (if neg then -(val 1000000000 l : Int) else val 1000000000 l) ∧ z.natAbs = val 1000000000 l := by
 obtain ⟨neg, s, l, h1, h2, h3, h4, h5⟩ := h
 exact ⟨neg, s, l, h1, h2, h3, h4, h5, abs_of h5⟩
theorem IntR.few {N : Nat} {l : List Nat} {z : Int} (hc : Canon 1000000000 l) (hz : z.natAbs = val 1000000000 l) (hd : Dg N z) : l.length ≤ N + 1 :=
 Canon.few (k := 9) (by decide) hc hz hd
def GivesZ (w : World) (z : Int) (e : Ending) (w' : World) : Prop :=
 ∃ (n : Bool) (a : Option Addr) (k c : Nat), e = .returned (.agg #[.bool n, .slice a k c]) ∧ IntR w' (.agg #[.bool n, .slice a k c]) z ∧ Below w.heap.size w w'
theorem IntR.shape {w : World} {v : Value} {z : Int} (h : IntR w v z) : ∃ (n : Bool) (a : Option Addr) (k c : Nat), v = .agg #[.bool n, .slice a k c] := by
 obtain ⟨neg, s, l, rfl, ⟨a, b, o, c, rfl, _⟩, _⟩ := h
 exact ⟨neg, a, l.length, c, rfl⟩
theorem signed_gives {w : World} {v : Value} {l : List Nat} {neg : Bool} (h : LR w v l) (hl : Lim 1000000000 l) :
  Calls Tryz.prog 117 #[.bool neg, v] w (GivesZ w (if neg then -(val 1000000000 l : Int) else val 1000000000 l)) :=
 (signed_any (neg := neg) h hl).mono fun e w' ⟨u, he, hu, hb⟩ => by
  obtain ⟨n, a, k, c, rfl⟩ := hu.shape
  exact ⟨n, a, k, c, he, hu, hb⟩
theorem Own.limbs {w : World} {g n : Nat} {l : List Nat} (h : Own .u32 175 w g l) (hn : l.length = n) (hm : n ≤ 9223372036854775807) : LR w (.slice (some ⟨g, 0, none⟩) n n) l := by
 subst hn; exact h.all rfl (Nat.le_refl _) hm
theorem blk_next {w w' : World} {r : Nat} {o : Obj} (h : w.heap[r]? = some o) (hb : Below w.heap.size w w') : w'.heap[r]? = some o := by
 obtain ⟨hlt, _⟩ := Array.getElem?_eq_some_iff.1 h
 rw [hb.block r hlt]; exact h
theorem res_facts {w : World} {r : Nat} {x y : Value} {T : TypeId} (h : w.heap[r]? = some (.cells #[x, y] T (0, 0))) :
  w.cell? ⟨r, 0, none⟩ = some x ∧ w.cell? ⟨r, 1, none⟩ = some y ∧ w.frozen? ⟨r, 0, none⟩ = false ∧ w.frozen? ⟨r, 1, none⟩ = false :=
 ⟨by rw [Lib.cell_of_heap h]; rfl, by rw [Lib.cell_of_heap h]; rfl, Lib.frozen_of_heap h 0, Lib.frozen_of_heap h 1⟩
theorem res_set {w : World} {r : Nat} {x y x' y' : Value} {T : TypeId} (h : w.heap[r]? = some (.cells #[x, y] T (0, 0))) :
  ((w.setCell ⟨r, 0, none⟩ x').setCell ⟨r, 1, none⟩ y').heap[r]? = some (.cells #[x', y'] T (0, 0)) := Joins.block_setCell (Joins.block_setCell h x') y'
theorem RowR.set2 {w : World} {v : Value} {n : Nat} {K : IntKind} {f : Nat → Int} {r : Nat} {b : Bool} {p : Option Addr} {k c : Nat} {x y : Value} {T : TypeId} (h : RowR w v n fun i => .int K (f i))
  (hr : w.heap[r]? = some (.cells #[.bool b, .slice p k c] T (0, 0))) : RowR ((w.setCell ⟨r, 0, none⟩ x).setCell ⟨r, 1, none⟩ y) v n fun i => .int K (f i) := by
 obtain ⟨a, g, o, c, hv, h1, h2, h3, h4⟩ := h
 refine ⟨a, g, o, c, hv, h1, h2, h3, fun i hi => ?_⟩
 have hc := h4 i hi
 have hne : r ≠ g := by
  rintro rfl
  rw [Lib.cell_of_heap hr] at hc
  match o + i, hc with
  | 0, hc => simp at hc
  | 1, hc => simp at hc
  | j + 2, hc => simp at hc
 rw [World.cell?_setCell_other _ _ _ _ (fun e => hne (by injection e)), World.cell?_setCell_other _ _ _ _ (fun e => hne (by injection e))]
 exact hc
theorem IntR.set2 {w : World} {v : Value} {z : Int} {r : Nat} {b : Bool} {p : Option Addr} {k c : Nat} {x y : Value} {T : TypeId} (h : IntR w v z)
  (hr : w.heap[r]? = some (.cells #[.bool b, .slice p k c] T (0, 0))) : IntR ((w.setCell ⟨r, 0, none⟩ x).setCell ⟨r, 1, none⟩ y) v z := by
 obtain ⟨neg, s, l, h1, h2, h3⟩ := h
 exact ⟨neg, s, l, h1, RowR.set2 (f := fun i => (l.getD i 0 : Nat)) h2 hr, h3⟩
theorem held_next {B : Nat} {W w1 w2 : World} (h : Below B W w1) (hB : B ≤ W.heap.size) (hb : Below w1.heap.size w1 w2) : Below B W w2 := h.trans (hb.mono (Nat.le_trans hB h.size))
theorem held_set2 {B b : Nat} {W w1 : World} {x y : Value} (h : Below B W w1) (hb : B ≤ b) : Below B W ((w1.setCell ⟨b, 0, none⟩ x).setCell ⟨b, 1, none⟩ y) :=
 (h.setCell (p := ⟨b, 0, none⟩) hb _).setCell (p := ⟨b, 1, none⟩) hb _
theorem box2_facts (w : World) (n1 n2 : Bool) (s1 s2 : Value) (T : TypeId) :
  Below w.heap.size w (((w.alloc (.cells #[.bool n1, s1] T)).alloc (.cells #[.bool n2, s2] T)).alloc (.cells #[.bool false, .slice none 0 0] T)) ∧
  (((w.alloc (.cells #[.bool n1, s1] T)).alloc (.cells #[.bool n2, s2] T)).alloc (.cells #[.bool false, .slice none 0 0] T)).heap.size = w.heap.size + 1 + 1 + 1 ∧
  (((w.alloc (.cells #[.bool n1, s1] T)).alloc (.cells #[.bool n2, s2] T)).alloc (.cells #[.bool false, .slice none 0 0] T)).cell? ⟨w.heap.size, 0, none⟩ = some (.bool n1) ∧
  (((w.alloc (.cells #[.bool n1, s1] T)).alloc (.cells #[.bool n2, s2] T)).alloc (.cells #[.bool false, .slice none 0 0] T)).cell? ⟨w.heap.size, 1, none⟩ = some s1 ∧
  (((w.alloc (.cells #[.bool n1, s1] T)).alloc (.cells #[.bool n2, s2] T)).alloc (.cells #[.bool false, .slice none 0 0] T)).cell? ⟨w.heap.size + 1, 0, none⟩ = some (.bool n2) ∧
  (((w.alloc (.cells #[.bool n1, s1] T)).alloc (.cells #[.bool n2, s2] T)).alloc (.cells #[.bool false, .slice none 0 0] T)).cell? ⟨w.heap.size + 1, 1, none⟩ = some s2 ∧
  (((w.alloc (.cells #[.bool n1, s1] T)).alloc (.cells #[.bool n2, s2] T)).alloc (.cells #[.bool false, .slice none 0 0] T)).heap[w.heap.size + 1 + 1]? = some (.cells #[.bool false, .slice none 0 0] T (0, 0)) := by
 refine ⟨(((Below.refl _ _).alloc (Nat.le_refl _) _).alloc (by simp) _).alloc (by simp; omega) _, by simp, by go_simp, by go_simp, by go_simp, by go_simp, ?_⟩
 have := heap_alloc_new ((w.alloc (.cells #[.bool n1, s1] T)).alloc (.cells #[.bool n2, s2] T)) (.cells #[.bool false, .slice none 0 0] T)
 simpa using this
set_option maxHeartbeats 1000000 in
theorem mul_any {w : World} {v u : Value} {x y : Int} {N : Nat} (h : IntR w v x) (k : IntR w u y) (hx : Dg N x) (hy : Dg N y) (hN : N ≤ 999999999990) :
  Calls Tryz.prog 74 #[v, u] w (GivesZ w (x * y)) := by
 obtain ⟨n1, s1, l1, rfl, lr1, c1, g1, z1, a1⟩ := h.parts
 obtain ⟨n2, s2, l2, rfl, lr2, c2, g2, z2, a2⟩ := k.parts
 have f1 := IntR.few c1 a1 hx
 have f2 := IntR.few c2 a2 hy
 have fin : (if (n1 != n2) = true then -((val 1000000000 l1 * val 1000000000 l2 : Nat) : Int) else (val 1000000000 l1 * val 1000000000 l2 : Nat)) = x * y := by
  subst z1 z2; cases n1 <;> cases n2 <;> simp [Int.natCast_mul, Int.mul_neg, Int.neg_mul]
 have FIN := Lib.hid fin
 have LA : Lim 1000000000 l1 := c1.1
 have LB : Lim 1000000000 l2 := c2.1
 clear h k z1 z2 g1 g2 a1 a2 fin hx hy
 have BF := Lib.hid (box2_facts w n1 n2 s1 s2 35)
 go_enter Tryz.func74, Tryz.ntmps74
 go_wp2_with fail
 revert BF
 generalize (((w.alloc (.cells #[.bool n1, s1] 35)).alloc (.cells #[.bool n2, s2] 35)).alloc (.cells #[.bool false, .slice none 0 0] 35)) = W
 intro BF
 have HQ := Lib.hid BF.out.1
 have HG := Lib.hid BF.out.2.2.2.2.2.2
 have HBW := Lib.hid (show w.heap.size + 1 + 1 ≤ W.heap.size by have := BF.out.2.1; omega)
 have lt0 : w.heap.size < w.heap.size + 1 + 1 := by omega
 have HL := Lib.hid (fun (w' : World) (hb : Below (w.heap.size + 1 + 1) W w') => (⟨hb, (hb.cell (p := ⟨w.heap.size, 0, none⟩) (show w.heap.size < w.heap.size + 1 + 1 by omega)).trans BF.out.2.2.1, (hb.cell (p := ⟨w.heap.size, 1, none⟩) (show w.heap.size < w.heap.size + 1 + 1 by omega)).trans BF.out.2.2.2.1, (hb.cell (p := ⟨w.heap.size + 1, 0, none⟩) (show w.heap.size + 1 < w.heap.size + 1 + 1 by omega)).trans BF.out.2.2.2.2.1, (hb.cell (p := ⟨w.heap.size + 1, 1, none⟩) (show w.heap.size + 1 < w.heap.size + 1 + 1 by omega)).trans BF.out.2.2.2.2.2.1⟩ : Below (w.heap.size + 1 + 1) W w' ∧ w'.cell? ⟨w.heap.size, 0, none⟩ = some (.bool n1) ∧ w'.cell? ⟨w.heap.size, 1, none⟩ = some s1 ∧ w'.cell? ⟨w.heap.size + 1, 0, none⟩ = some (.bool n2) ∧ w'.cell? ⟨w.heap.size + 1, 1, none⟩ = some s2))
 have HW0 := Lib.hid (fun (w' : World) (hs : Below (w.heap.size + 1 + 1) W w' ∧ w'.cell? ⟨w.heap.size, 0, none⟩ = some (.bool n1) ∧ w'.cell? ⟨w.heap.size, 1, none⟩ = some s1 ∧ w'.cell? ⟨w.heap.size + 1, 0, none⟩ = some (.bool n2) ∧ w'.cell? ⟨w.heap.size + 1, 1, none⟩ = some s2) => HQ.out.trans (hs.1.mono (show w.heap.size ≤ w.heap.size + 1 + 1 by omega)))
 go_region_held3 (fun w' => Below (w.heap.size + 1 + 1) W w' ∧ w'.cell? ⟨w.heap.size, 0, none⟩ = some (.bool n1) ∧ w'.cell? ⟨w.heap.size, 1, none⟩ = some s1 ∧ w'.cell? ⟨w.heap.size + 1, 0, none⟩ = some (.bool n2) ∧ w'.cell? ⟨w.heap.size + 1, 1, none⟩ = some s2)
  (first | exact HL.out _ (Below.drew (Below.refl _ _)) | exact HL.out _ (held_next (And.left (by assumption)) HBW.out (by assumption)) | exact HL.out _ (held_set2 (And.left (by assumption)) (Nat.le_refl _)))
  (first | (go_at_call 118; (with_reducible refine (times_any (lr1.below (HW0.out _ (by assumption))) (lr2.below (HW0.out _ (by assumption))) LA LB (by omega) (by omega)).mono ?_); rintro e w1 ⟨g3, l3, rfl, ho3, hn3, hl3, hv3, hg3, hb3⟩; have HO3 := Lib.hid ho3; have HN3 := Lib.hid hn3; have HV3 := Lib.hid hv3; have HR3 := Lib.hid (blk_next (w := W.drew) HG.out hb3); clear ho3 hn3 hv3) | (go_at_call 117; (with_reducible refine (signed_gives (HO3.out.limbs HN3.out (by omega)) hl3).mono ?_); rintro e w2 ⟨n4, a4, k4, c4, rfl, hu4, hb4⟩; have HU4 := Lib.hid hu4; have HR4 := Lib.hid (blk_next HR3.out hb4); clear hu4; obtain ⟨d0, d1, e0, e1⟩ := res_facts HR4.out))
 go_wp2
 try simp only [Exit.inBlock, Exit.then]
 refine bodyPost_ret (results_cell_row rfl _ _ (w.heap.size + 1 + 1) 35 _ (0, 0) _ rfl (res_set HR4.out) Tryz.underlying35 rfl (by kernel_rfl)) rfl ?_
 have fit := HU4.out
 rw [HV3.out, show (!(n1 == n2)) = (n1 != n2) from rfl, FIN.out] at fit
 exact ⟨n4, a4, k4, c4, rfl, fit.set2 HR4.out, held_set2 (bt (bt (bt HQ.out (Below.drew (Below.refl _ _))) hb3) hb4) (by omega)⟩
theorem add_same {n : Bool} {A B : Nat} : (if n = true then -((A + B : Nat) : Int) else (A + B : Nat)) = (if n = true then -(A : Int) else A) + (if n = true then -(B : Int) else B) := by
 cases n <;> simp; omega
theorem add_diff {n1 n2 : Bool} {A B : Nat} (hn : n1 ≠ n2) (h : B ≤ A) : (if n1 = true then -((A - B : Nat) : Int) else (A - B : Nat)) = (if n1 = true then -(A : Int) else A) + (if n2 = true then -(B : Int) else B) := by
 cases n1 <;> cases n2 <;> simp at hn ⊢ <;> omega
set_option maxHeartbeats 2000000 in
theorem add_any {w : World} {v u : Value} {x y : Int} {N : Nat} (h : IntR w v x) (k : IntR w u y) (hx : Dg N x) (hy : Dg N y) (hN : N ≤ 999999999990) :
  Calls Tryz.prog 82 #[v, u] w (GivesZ w (x + y)) := by
 obtain ⟨n1, s1, l1, rfl, lr1, c1, g1, z1, a1⟩ := h.parts
 obtain ⟨n2, s2, l2, rfl, lr2, c2, g2, z2, a2⟩ := k.parts
 have f1 := IntR.few c1 a1 hx
 have f2 := IntR.few c2 a2 hy
 have LA : Lim 1000000000 l1 := c1.1
 have LB : Lim 1000000000 l2 := c2.1
 have fin1 : n1 = n2 → (if n1 = true then -((val 1000000000 l1 + val 1000000000 l2 : Nat) : Int) else (val 1000000000 l1 + val 1000000000 l2 : Nat)) = x + y := fun e => by
  subst e; rw [z1, z2]; exact add_same
 have fin2 : n1 ≠ n2 → val 1000000000 l2 ≤ val 1000000000 l1 → (if n1 = true then -((val 1000000000 l1 - val 1000000000 l2 : Nat) : Int) else (val 1000000000 l1 - val 1000000000 l2 : Nat)) = x + y := fun e h => by
  rw [z1, z2]; exact add_diff e h
 have fin3 : n1 ≠ n2 → val 1000000000 l1 ≤ val 1000000000 l2 → (if n2 = true then -((val 1000000000 l2 - val 1000000000 l1 : Nat) : Int) else (val 1000000000 l2 - val 1000000000 l1 : Nat)) = x + y := fun e h => by
  rw [z1, z2, Int.add_comm]; exact add_diff (fun q => e q.symm) h
 have F1 := Lib.hid fin1
 have F2 := Lib.hid fin2
 have F3 := Lib.hid fin3
 have len12 : val 1000000000 l2 ≤ val 1000000000 l1 → l2.length ≤ l1.length := fun q => Nat.le_of_not_lt fun q2 => by
  have := Canon.lt_of_length (B := 1000000000) (by decide) c1.1 c2 q2; omega
 have len21 : val 1000000000 l1 ≤ val 1000000000 l2 → l1.length ≤ l2.length := fun q => Nat.le_of_not_lt fun q2 => by
  have := Canon.lt_of_length (B := 1000000000) (by decide) c2.1 c1 q2; omega
 have E12 := Lib.hid len12
 have E21 := Lib.hid len21
 clear h k z1 z2 g1 g2 a1 a2 fin1 fin2 fin3 hx hy len12 len21
 by_cases hn : n1 = n2
 ·have hb : (n1 == n2) = true := by simp [hn]
  have FIN := Lib.hid (F1.out hn)
  clear hn
  have BF := Lib.hid (box2_facts w n1 n2 s1 s2 35)
  go_enter Tryz.func82, Tryz.ntmps82
  go_wp2_with fail
  revert BF
  generalize (((w.alloc (.cells #[.bool n1, s1] 35)).alloc (.cells #[.bool n2, s2] 35)).alloc (.cells #[.bool false, .slice none 0 0] 35)) = W
  intro BF
  have HQ := Lib.hid BF.out.1
  have HG := Lib.hid BF.out.2.2.2.2.2.2
  have HBW := Lib.hid (show w.heap.size + 1 + 1 ≤ W.heap.size by have := BF.out.2.1; omega)
  have HL := Lib.hid (fun (w' : World) (hb : Below (w.heap.size + 1 + 1) W w') => (⟨hb, (hb.cell (p := ⟨w.heap.size, 0, none⟩) (show w.heap.size < w.heap.size + 1 + 1 by omega)).trans BF.out.2.2.1, (hb.cell (p := ⟨w.heap.size, 1, none⟩) (show w.heap.size < w.heap.size + 1 + 1 by omega)).trans BF.out.2.2.2.1, (hb.cell (p := ⟨w.heap.size + 1, 0, none⟩) (show w.heap.size + 1 < w.heap.size + 1 + 1 by omega)).trans BF.out.2.2.2.2.1, (hb.cell (p := ⟨w.heap.size + 1, 1, none⟩) (show w.heap.size + 1 < w.heap.size + 1 + 1 by omega)).trans BF.out.2.2.2.2.2.1⟩ : Below (w.heap.size + 1 + 1) W w' ∧ w'.cell? ⟨w.heap.size, 0, none⟩ = some (.bool n1) ∧ w'.cell? ⟨w.heap.size, 1, none⟩ = some s1 ∧ w'.cell? ⟨w.heap.size + 1, 0, none⟩ = some (.bool n2) ∧ w'.cell? ⟨w.heap.size + 1, 1, none⟩ = some s2))
  have HW0 := Lib.hid (fun (w' : World) (hs : Below (w.heap.size + 1 + 1) W w' ∧ w'.cell? ⟨w.heap.size, 0, none⟩ = some (.bool n1) ∧ w'.cell? ⟨w.heap.size, 1, none⟩ = some s1 ∧ w'.cell? ⟨w.heap.size + 1, 0, none⟩ = some (.bool n2) ∧ w'.cell? ⟨w.heap.size + 1, 1, none⟩ = some s2) => HQ.out.trans (hs.1.mono (show w.heap.size ≤ w.heap.size + 1 + 1 by omega)))
  obtain ⟨w0, hw0⟩ : ∃ w0 : World, w0 = W := ⟨_, rfl⟩
  have HB0 : Hid (Below (w.heap.size + 1 + 1) W w0) := by rw [hw0]; exact Lib.hid (Below.refl _ _)
  have HG0 := Lib.hid (show w0.heap[w.heap.size + 1 + 1]? = some (.cells #[.bool false, .slice none 0 0] 35 (0, 0)) by rw [hw0]; exact HG.out)
  rw [← hw0]
  clear hw0
  go_region_held3 (fun w' => Below (w.heap.size + 1 + 1) W w' ∧ w'.cell? ⟨w.heap.size, 0, none⟩ = some (.bool n1) ∧ w'.cell? ⟨w.heap.size, 1, none⟩ = some s1 ∧ w'.cell? ⟨w.heap.size + 1, 0, none⟩ = some (.bool n2) ∧ w'.cell? ⟨w.heap.size + 1, 1, none⟩ = some s2)
   (first | exact HL.out _ (Below.drew HB0.out) | exact HL.out _ (held_next (And.left (by assumption)) HBW.out (by assumption)) | exact HL.out _ (held_set2 (And.left (by assumption)) (Nat.le_refl _)))
   (first | (go_at_call 123; (with_reducible refine (plus_any (lr1.below (HW0.out _ (by assumption))) (lr2.below (HW0.out _ (by assumption))) LA LB (by omega) (by omega)).mono ?_); rintro e w1 ⟨u3, l3, rfl, hr3, hl3, hv3, hb3⟩; have HX3 := Lib.hid hr3; have HV3 := Lib.hid hv3; have HR3 := Lib.hid (blk_next (w := w0.drew) HG0.out hb3); clear hr3 hv3) | (go_at_call 117; (with_reducible refine (signed_gives HX3.out hl3).mono ?_); rintro e w2 ⟨n4, a4, k4, c4, rfl, hu4, hb4⟩; have HU4 := Lib.hid hu4; have HR4 := Lib.hid (blk_next HR3.out hb4); clear hu4; obtain ⟨d0, d1, e0, e1⟩ := res_facts HR4.out))
  go_wp2
  try simp only [Exit.inBlock, Exit.then]
  refine bodyPost_ret (results_cell_row rfl _ _ (w.heap.size + 1 + 1) 35 _ (0, 0) _ rfl (res_set HR4.out) Tryz.underlying35 rfl (by kernel_rfl)) rfl ?_
  have fit := HU4.out
  rw [HV3.out, FIN.out] at fit
  exact ⟨n4, a4, k4, c4, rfl, fit.set2 HR4.out, held_set2 (bt (bt (bt (HQ.out.trans (HB0.out.mono (show w.heap.size ≤ w.heap.size + 1 + 1 by omega))) (Below.drew (Below.refl _ _))) hb3) hb4) (by omega)⟩
 ·have hb : (n1 == n2) = false := by simp [hn]
  have FN2 := Lib.hid (F2.out hn)
  have FN3 := Lib.hid (F3.out hn)
  clear hn
  have BF := Lib.hid (box2_facts w n1 n2 s1 s2 35)
  go_enter Tryz.func82, Tryz.ntmps82
  go_wp2_with fail
  revert BF
  generalize (((w.alloc (.cells #[.bool n1, s1] 35)).alloc (.cells #[.bool n2, s2] 35)).alloc (.cells #[.bool false, .slice none 0 0] 35)) = W
  intro BF
  have HQ := Lib.hid BF.out.1
  have HG := Lib.hid BF.out.2.2.2.2.2.2
  have HBW := Lib.hid (show w.heap.size + 1 + 1 ≤ W.heap.size by have := BF.out.2.1; omega)
  have HL := Lib.hid (fun (w' : World) (hb : Below (w.heap.size + 1 + 1) W w') => (⟨hb, (hb.cell (p := ⟨w.heap.size, 0, none⟩) (show w.heap.size < w.heap.size + 1 + 1 by omega)).trans BF.out.2.2.1, (hb.cell (p := ⟨w.heap.size, 1, none⟩) (show w.heap.size < w.heap.size + 1 + 1 by omega)).trans BF.out.2.2.2.1, (hb.cell (p := ⟨w.heap.size + 1, 0, none⟩) (show w.heap.size + 1 < w.heap.size + 1 + 1 by omega)).trans BF.out.2.2.2.2.1, (hb.cell (p := ⟨w.heap.size + 1, 1, none⟩) (show w.heap.size + 1 < w.heap.size + 1 + 1 by omega)).trans BF.out.2.2.2.2.2.1⟩ : Below (w.heap.size + 1 + 1) W w' ∧ w'.cell? ⟨w.heap.size, 0, none⟩ = some (.bool n1) ∧ w'.cell? ⟨w.heap.size, 1, none⟩ = some s1 ∧ w'.cell? ⟨w.heap.size + 1, 0, none⟩ = some (.bool n2) ∧ w'.cell? ⟨w.heap.size + 1, 1, none⟩ = some s2))
  have HW0 := Lib.hid (fun (w' : World) (hs : Below (w.heap.size + 1 + 1) W w' ∧ w'.cell? ⟨w.heap.size, 0, none⟩ = some (.bool n1) ∧ w'.cell? ⟨w.heap.size, 1, none⟩ = some s1 ∧ w'.cell? ⟨w.heap.size + 1, 0, none⟩ = some (.bool n2) ∧ w'.cell? ⟨w.heap.size + 1, 1, none⟩ = some s2) => HQ.out.trans (hs.1.mono (show w.heap.size ≤ w.heap.size + 1 + 1 by omega)))
  refine (compare_any (lr1.below HQ.out) (lr2.below HQ.out) c1 c2).mono ?_
  rintro e w0 ⟨rfl, hb0⟩
  have HB0 := Lib.hid (hb0.mono HBW.out)
  have HG0 := Lib.hid (blk_next HG.out hb0)
  obtain ⟨_, q1, q2, q3, q4⟩ := HL.out _ HB0.out
  by_cases hge : val 1000000000 l2 ≤ val 1000000000 l1
  ·have hcm : (0 : Int) ≤ cmpN (val 1000000000 l1) (val 1000000000 l2) := by
    rcases Nat.lt_or_ge (val 1000000000 l2) (val 1000000000 l1) with q | q
    ·rw [cmpN_gt q]; decide
    ·rw [cmpN_eq (by omega)]; decide
   have hlen := E12.out hge
   have FIN := Lib.hid (FN2.out hge)
   go_wp2_with fail
   go_region_held3 (fun w' => Below (w.heap.size + 1 + 1) W w' ∧ w'.cell? ⟨w.heap.size, 0, none⟩ = some (.bool n1) ∧ w'.cell? ⟨w.heap.size, 1, none⟩ = some s1 ∧ w'.cell? ⟨w.heap.size + 1, 0, none⟩ = some (.bool n2) ∧ w'.cell? ⟨w.heap.size + 1, 1, none⟩ = some s2)
    (first | exact HL.out _ (Below.drew HB0.out) | exact HL.out _ (held_next (And.left (by assumption)) HBW.out (by assumption)) | exact HL.out _ (held_set2 (And.left (by assumption)) (Nat.le_refl _)))
    (first | (go_at_call 124; (with_reducible refine (minus_any (lr1.below (HW0.out _ (by assumption))) (lr2.below (HW0.out _ (by assumption))) LA LB (by omega) hlen hge).mono ?_); rintro e w1 ⟨u3, l3, rfl, hr3, hl3, hv3, hb3⟩; have HX3 := Lib.hid hr3; have HV3 := Lib.hid hv3; have HR3 := Lib.hid (blk_next (w := w0.drew) HG0.out hb3); clear hr3 hv3) | (go_at_call 117; (with_reducible refine (signed_gives HX3.out hl3).mono ?_); rintro e w2 ⟨n4, a4, k4, c4, rfl, hu4, hb4⟩; have HU4 := Lib.hid hu4; have HR4 := Lib.hid (blk_next HR3.out hb4); clear hu4; obtain ⟨d0, d1, e0, e1⟩ := res_facts HR4.out))
   go_wp2
   try simp only [Exit.inBlock, Exit.then]
   refine bodyPost_ret (results_cell_row rfl _ _ (w.heap.size + 1 + 1) 35 _ (0, 0) _ rfl (res_set HR4.out) Tryz.underlying35 rfl (by kernel_rfl)) rfl ?_
   have fit := HU4.out
   rw [HV3.out, FIN.out] at fit
   exact ⟨n4, a4, k4, c4, rfl, fit.set2 HR4.out, held_set2 (bt (bt (bt (HQ.out.trans (HB0.out.mono (show w.heap.size ≤ w.heap.size + 1 + 1 by omega))) (Below.drew (Below.refl _ _))) hb3) hb4) (by omega)⟩
  ·have hcm : ¬ (0 : Int) ≤ cmpN (val 1000000000 l1) (val 1000000000 l2) := by
    rw [cmpN_lt (by omega)]; decide
   have hge' : val 1000000000 l1 ≤ val 1000000000 l2 := by omega
   have hlen := E21.out hge'
   have FIN := Lib.hid (FN3.out hge')
   go_wp2_with fail
   go_region_held3 (fun w' => Below (w.heap.size + 1 + 1) W w' ∧ w'.cell? ⟨w.heap.size, 0, none⟩ = some (.bool n1) ∧ w'.cell? ⟨w.heap.size, 1, none⟩ = some s1 ∧ w'.cell? ⟨w.heap.size + 1, 0, none⟩ = some (.bool n2) ∧ w'.cell? ⟨w.heap.size + 1, 1, none⟩ = some s2)
    (first | exact HL.out _ (Below.drew HB0.out) | exact HL.out _ (held_next (And.left (by assumption)) HBW.out (by assumption)) | exact HL.out _ (held_set2 (And.left (by assumption)) (Nat.le_refl _)))
    (first | (go_at_call 124; (with_reducible refine (minus_any (lr2.below (HW0.out _ (by assumption))) (lr1.below (HW0.out _ (by assumption))) LB LA (by omega) hlen hge').mono ?_); rintro e w1 ⟨u3, l3, rfl, hr3, hl3, hv3, hb3⟩; have HX3 := Lib.hid hr3; have HV3 := Lib.hid hv3; have HR3 := Lib.hid (blk_next (w := w0.drew) HG0.out hb3); clear hr3 hv3) | (go_at_call 117; (with_reducible refine (signed_gives HX3.out hl3).mono ?_); rintro e w2 ⟨n4, a4, k4, c4, rfl, hu4, hb4⟩; have HU4 := Lib.hid hu4; have HR4 := Lib.hid (blk_next HR3.out hb4); clear hu4; obtain ⟨d0, d1, e0, e1⟩ := res_facts HR4.out))
   go_wp2
   try simp only [Exit.inBlock, Exit.then]
   refine bodyPost_ret (results_cell_row rfl _ _ (w.heap.size + 1 + 1) 35 _ (0, 0) _ rfl (res_set HR4.out) Tryz.underlying35 rfl (by kernel_rfl)) rfl ?_
   have fit := HU4.out
   rw [HV3.out, FIN.out] at fit
   exact ⟨n4, a4, k4, c4, rfl, fit.set2 HR4.out, held_set2 (bt (bt (bt (HQ.out.trans (HB0.out.mono (show w.heap.size ≤ w.heap.size + 1 + 1 by omega))) (Below.drew (Below.refl _ _))) hb3) hb4) (by omega)⟩
end Go.Proofs.YteionhenpehogaaGreatDoor
namespace Go.Proofs.YteionhenpehogaaGreatDoor
open Go.RowKit Tally
theorem box1_facts (w : World) (n1 : Bool) (s1 : Value) (T : TypeId) :
  Below w.heap.size w ((w.alloc (.cells #[.bool n1, s1] T)).alloc (.cells #[.bool false, .slice none 0 0] T)) ∧
  ((w.alloc (.cells #[.bool n1, s1] T)).alloc (.cells #[.bool false, .slice none 0 0] T)).cell? ⟨w.heap.size, 0, none⟩ = some (.bool n1) ∧
  ((w.alloc (.cells #[.bool n1, s1] T)).alloc (.cells #[.bool false, .slice none 0 0] T)).cell? ⟨w.heap.size, 1, none⟩ = some s1 ∧
  ((w.alloc (.cells #[.bool n1, s1] T)).alloc (.cells #[.bool false, .slice none 0 0] T)).heap[w.heap.size + 1]? = some (.cells #[.bool false, .slice none 0 0] T (0, 0)) := by
 refine ⟨((Below.refl _ _).alloc (Nat.le_refl _) _).alloc (by simp) _, by go_simp, by go_simp, ?_⟩
 have := heap_alloc_new (w.alloc (.cells #[.bool n1, s1] T)) (.cells #[.bool false, .slice none 0 0] T)
 simpa using this
set_option maxHeartbeats 1000000 in
theorem neg_any {w : World} {v : Value} {x : Int} (h : IntR w v x) : Calls Tryz.prog 126 #[v] w (GivesZ w (-x)) := by
 obtain ⟨n1, s1, l1, rfl, lr1, c1, g1, z1, a1⟩ := h.parts
 have LA : Lim 1000000000 l1 := c1.1
 have fin : (if (!n1) = true then -(val 1000000000 l1 : Int) else val 1000000000 l1) = -x := by subst z1; cases n1 <;> simp
 have FIN := Lib.hid fin
 clear h z1 g1 a1 fin
 have BF := Lib.hid (box1_facts w n1 s1 35)
 go_enter Tryz.func126, Tryz.ntmps126
 go_wp2_with fail
 revert BF
 generalize ((w.alloc (.cells #[.bool n1, s1] 35)).alloc (.cells #[.bool false, .slice none 0 0] 35)) = W
 intro BF
 have HQ := Lib.hid BF.out.1
 have HG := Lib.hid BF.out.2.2.2
 obtain ⟨q1, q2⟩ := And.intro BF.out.2.1 BF.out.2.2.1
 refine (signed_gives (lr1.below HQ.out) LA).mono ?_
 rintro e w2 ⟨n4, a4, k4, c4, rfl, hu4, hb4⟩
 have HU4 := Lib.hid hu4
 have HR4 := Lib.hid (blk_next HG.out hb4)
 clear hu4 q1 q2
 obtain ⟨d0, d1, e0, e1⟩ := res_facts HR4.out
 go_wp2
 try simp only [Exit.inBlock, Exit.then]
 refine bodyPost_ret (results_cell_row rfl _ _ (w.heap.size + 1) 35 _ (0, 0) _ rfl (res_set HR4.out) Tryz.underlying35 rfl (by kernel_rfl)) rfl ?_
 have fit := HU4.out
 rw [FIN.out] at fit
 exact ⟨n4, a4, k4, c4, rfl, fit.set2 HR4.out, held_set2 (bt HQ.out hb4) (by omega)⟩
end Go.Proofs.YteionhenpehogaaGreatDoor
namespace Go.Proofs.YteionhenpehogaaGreatDoor
open Go.RowKit Tally
structure OfI (n k : Nat) (L : List Nat) : Prop where
 lim : Lim 1000000000 L
 sum : val 1000000000 L + 1000000000 ^ L.length * k = n
 last : k = 0 → Canon 1000000000 L
theorem OfI.start (n : Nat) : OfI n n [] := ⟨fun x hx => by simp at hx, by simp, fun h => canon_nil _⟩
theorem OfI.few {n k : Nat} {L : List Nat} (h : OfI n k L) (hk : 0 < k) (hn : n ≤ 9223372036854775808) : L.length < 3 := by
 rcases Nat.lt_or_ge L.length 3 with q | q
 ·exact q
 ·have h1 : 1000000000 ^ 3 ≤ 1000000000 ^ L.length := Nat.pow_le_pow_right (by decide) q
  have h2 : 1000000000 ^ L.length * 1 ≤ 1000000000 ^ L.length * k := Nat.mul_le_mul_left _ hk
  have h3 := h.sum
  have h4 : (1000000000 : Nat) ^ 3 = 1000000000000000000000000000 := by decide
  omega
theorem OfI.step {n k : Nat} {L : List Nat} (h : OfI n k L) (hk : 0 < k) : OfI n (k / 1000000000) (L ++ [k % 1000000000]) := by
 refine ⟨h.lim.append (Lim.single (Nat.mod_lt _ (by decide))), ?_, fun h0 => ⟨h.lim.append (Lim.single (Nat.mod_lt _ (by decide))), fun _ => ?_⟩⟩
 ·have := h.sum
  rw [val_snoc, List.length_append, List.length_singleton, pow_succ']
  have p := place_div 1000000000 (1000000000 ^ L.length) k
  omega
 ·simp; omega
theorem of_fit {w : World} {n : Int} {L : List Nat} {s : Value} {N : Nat} (h : OfI N 0 L) (hN : n.natAbs = N) (hs : LR w s L) : IntR w (.agg #[.bool (decide (n < 0)), s]) n := by
 have hv := h.sum
 simp at hv
 refine ⟨_, s, L, rfl, hs, h.last rfl, ?_, ?_⟩
 ·intro hd e
  subst e
  simp at hv hd
  omega
 ·rw [hv]
  by_cases hn : n < 0
  ·simp [hn]; omega
  ·simp [hn]; omega
theorem wrap_neg {n : Int} {N : Nat} (hn : n < 0) (h1 : -9223372036854775808 ≤ n) (hN : n.natAbs = N) : IntKind.u64.wrap (-IntKind.u64.wrap n) = (N : Int) := by
 simp [IntKind.wrap, IntKind.bits, IntKind.signed]
 omega
set_option maxHeartbeats 1000000 in
set_option maxRecDepth 100000 in
theorem of_any {w : World} {n : Int} (h1 : -9223372036854775808 ≤ n) (h2 : n ≤ 9223372036854775807) :
  Calls Tryz.prog 80 #[.int .i64 n] w (GivesZ w n) := by
 obtain ⟨i0, hi, hz0, hz1, hz2⟩ := info_parts infoU
 obtain ⟨N, hN⟩ : ∃ N, n.natAbs = N := ⟨_, rfl⟩
 have HN := Lib.hid hN
 have hN2 : N ≤ 9223372036854775808 := by omega
 have HN2 := Lib.hid hN2
 clear hN
 by_cases hn : n < 0
 ·have HD := Lib.hid (show decide (n < 0) = true by simp [hn])
  go_enter Tryz.func80, Tryz.ntmps80
  go_wp2
  go_loopw [3, 4] (fun u s wr => ∃ (k : Nat) (L : List Nat) (sv : Value), sv = s ∧ u = .int .u64 k ∧ k ≤ 9223372036854775808 ∧ OfI N k L ∧ wr.ownsRow (w.heap.size + 1) 175 1 s L.length (numsOf .u32 L) ∧ Below w.heap.size w wr ∧ wr.heap[w.heap.size]? = some (.cells #[.bool false, .slice none 0 0] 35 (0, 0))) (fun u _ _ => (intOf u).toNat)
  case atStart => exact ⟨N, [], _, rfl, int_eq (wrap_neg hn h1 HN.out), by omega, OfI.start _, World.ownsRow_nil _ _ _ _, (Below.refl _ _).alloc (Nat.le_refl _) _, heap_alloc_new _ _⟩
  case round =>
   obtain ⟨k, L, s, rfl, rfl, hk2, hI, hown, hbr, hres⟩ := hrel
   have HI := Lib.hid hI
   have HB := Lib.hid hbr
   have HR := Lib.hid hres
   have hsz := hbr.size
   have hrs : w.heap.size < wr.heap.size := (Array.getElem?_eq_some_iff.1 hres).1
   clear hI hbr hres
   by_cases hk0 : k = 0
   ·subst hk0
    obtain ⟨a, c, rfl⟩ : ∃ a c, s = .slice a L.length c := by
     rcases hown.2 with ⟨rfl, h0⟩ | ⟨g, cap, cur, rfl, _⟩
     ·exact ⟨none, 0, by rw [h0]⟩
     ·exact ⟨_, _, rfl⟩
    have hs : LR wr (.slice a L.length c) L := RowR.of_owns hown
    have HS := Lib.hid (of_fit HI.out HN.out hs)
    clear hown hs
    obtain ⟨d0, d1, e0, e1⟩ := res_facts HR.out
    go_wp2
    try simp only [Exit.inBlock, Exit.then]
    refine bodyPost_ret (results_cell_row rfl _ _ w.heap.size 35 _ (0, 0) _ rfl (res_set HR.out) Tryz.underlying35 rfl (by kernel_rfl)) rfl ?_
    have fit := HS.out.set2 (x := .bool (decide (n < 0))) (y := .slice a L.length c) HR.out
    rw [HD.out] at fit
    try rw [HD.out]
    exact ⟨_, a, L.length, c, rfl, fit, held_set2 HB.out (Nat.le_refl _)⟩
   ·have hkz : (0 : Int) < (k : Int) := by omega
    have hfew := HI.out.few (by omega) HN2.out
    have hem : (k : Int) % 1000000000 = ((k % 1000000000 : Nat) : Int) := by omega
    have hlm : k % 1000000000 < 1000000000 := Nat.mod_lt _ (by decide)
    have HE := Lib.hid hem
    clear hem
    go_wp2_with (at_builtin; refine wpList_append_own _ rfl _ _ 33 rfl (w.heap.size + 1) 175 i0 (.int .u32 0) 1 4 Tryz.underlying33 hi hz0 hz1 hz2 rfl (by decide) _ _ _ rfl (hown.alloc _) ⟨wr.heap.size, 0, none⟩ 1 1 [.int .u32 ((k : Int) % 1000000000)] rfl rfl (cell_one_new _ _ _) (by simp [Value.oneCell']) (by unfold maxLen; omega) (by omega) (by simp; omega) ?_)
    intro v' w2 hown' hgrow _
    rw [HE.out] at hown'
    have ho2 : w2.ownsRow (w.heap.size + 1) 175 1 v' (L ++ [k % 1000000000]).length (numsOf .u32 (L ++ [k % 1000000000])) := by rw [List.length_append]; exact owns_snoc hown'
    have hb2 : Below w.heap.size w w2 := (HB.out.alloc (by omega) _).grown hgrow (by simp; omega) (fun j hj => by have := (hown.lt j hj).1; omega)
    have hr2 : w2.heap[w.heap.size]? = some (.cells #[.bool false, .slice none 0 0] 35 (0, 0)) := by
     rw [hgrow.block w.heap.size (by simp; omega) (fun e => by have := (hown.lt w.heap.size e.symm).1; omega), Lib.alloc_old wr _ w.heap.size hrs]
     exact HR.out
    have HO2 := Lib.hid ho2
    have HB2 := Lib.hid hb2
    have HR2 := Lib.hid hr2
    clear hown' hgrow hown ho2 hb2 hr2
    go_wp2
    go_roundw
    case rel => exact ⟨k / 1000000000, L ++ [k % 1000000000], _, rfl, by go_num, by omega, HI.out.step (by omega), HO2.out, HB2.out, HR2.out⟩
    case measure => simp [intOf]; omega
 ·have HD := Lib.hid (show decide (n < 0) = false by simp [hn])
  have hn0 : 0 ≤ n := by omega
  go_enter Tryz.func80, Tryz.ntmps80
  go_wp2
  go_loopw [3, 4] (fun u s wr => ∃ (k : Nat) (L : List Nat) (sv : Value), sv = s ∧ u = .int .u64 k ∧ k ≤ 9223372036854775808 ∧ OfI N k L ∧ wr.ownsRow (w.heap.size + 1) 175 1 s L.length (numsOf .u32 L) ∧ Below w.heap.size w wr ∧ wr.heap[w.heap.size]? = some (.cells #[.bool false, .slice none 0 0] 35 (0, 0))) (fun u _ _ => (intOf u).toNat)
  case atStart => exact ⟨N, [], _, rfl, int_eq (by have := HN.out; omega), by omega, OfI.start _, World.ownsRow_nil _ _ _ _, (Below.refl _ _).alloc (Nat.le_refl _) _, heap_alloc_new _ _⟩
  case round =>
   obtain ⟨k, L, s, rfl, rfl, hk2, hI, hown, hbr, hres⟩ := hrel
   have HI := Lib.hid hI
   have HB := Lib.hid hbr
   have HR := Lib.hid hres
   have hsz := hbr.size
   have hrs : w.heap.size < wr.heap.size := (Array.getElem?_eq_some_iff.1 hres).1
   clear hI hbr hres
   by_cases hk0 : k = 0
   ·subst hk0
    obtain ⟨a, c, rfl⟩ : ∃ a c, s = .slice a L.length c := by
     rcases hown.2 with ⟨rfl, h0⟩ | ⟨g, cap, cur, rfl, _⟩
     ·exact ⟨none, 0, by rw [h0]⟩
     ·exact ⟨_, _, rfl⟩
    have hs : LR wr (.slice a L.length c) L := RowR.of_owns hown
    have HS := Lib.hid (of_fit HI.out HN.out hs)
    clear hown hs
    obtain ⟨d0, d1, e0, e1⟩ := res_facts HR.out
    go_wp2
    try simp only [Exit.inBlock, Exit.then]
    refine bodyPost_ret (results_cell_row rfl _ _ w.heap.size 35 _ (0, 0) _ rfl (res_set HR.out) Tryz.underlying35 rfl (by kernel_rfl)) rfl ?_
    have fit := HS.out.set2 (x := .bool (decide (n < 0))) (y := .slice a L.length c) HR.out
    rw [HD.out] at fit
    try rw [HD.out]
    exact ⟨_, a, L.length, c, rfl, fit, held_set2 HB.out (Nat.le_refl _)⟩
   ·have hkz : (0 : Int) < (k : Int) := by omega
    have hfew := HI.out.few (by omega) HN2.out
    have hem : (k : Int) % 1000000000 = ((k % 1000000000 : Nat) : Int) := by omega
    have hlm : k % 1000000000 < 1000000000 := Nat.mod_lt _ (by decide)
    have HE := Lib.hid hem
    clear hem
    go_wp2_with (at_builtin; refine wpList_append_own _ rfl _ _ 33 rfl (w.heap.size + 1) 175 i0 (.int .u32 0) 1 4 Tryz.underlying33 hi hz0 hz1 hz2 rfl (by decide) _ _ _ rfl (hown.alloc _) ⟨wr.heap.size, 0, none⟩ 1 1 [.int .u32 ((k : Int) % 1000000000)] rfl rfl (cell_one_new _ _ _) (by simp [Value.oneCell']) (by unfold maxLen; omega) (by omega) (by simp; omega) ?_)
    intro v' w2 hown' hgrow _
    rw [HE.out] at hown'
    have ho2 : w2.ownsRow (w.heap.size + 1) 175 1 v' (L ++ [k % 1000000000]).length (numsOf .u32 (L ++ [k % 1000000000])) := by rw [List.length_append]; exact owns_snoc hown'
    have hb2 : Below w.heap.size w w2 := (HB.out.alloc (by omega) _).grown hgrow (by simp; omega) (fun j hj => by have := (hown.lt j hj).1; omega)
    have hr2 : w2.heap[w.heap.size]? = some (.cells #[.bool false, .slice none 0 0] 35 (0, 0)) := by
     rw [hgrow.block w.heap.size (by simp; omega) (fun e => by have := (hown.lt w.heap.size e.symm).1; omega), Lib.alloc_old wr _ w.heap.size hrs]
     exact HR.out
    have HO2 := Lib.hid ho2
    have HB2 := Lib.hid hb2
    have HR2 := Lib.hid hr2
    clear hown' hgrow hown ho2 hb2 hr2
    go_wp2
    go_roundw
    case rel => exact ⟨k / 1000000000, L ++ [k % 1000000000], _, rfl, by go_num, by omega, HI.out.step (by omega), HO2.out, HB2.out, HR2.out⟩
    case measure => simp [intOf]; omega
end Go.Proofs.YteionhenpehogaaGreatDoor
namespace Go.Proofs.YteionhenpehogaaGreatDoor
open Go.RowKit Tally
abbrev Blk (w : World) (g : Nat) (cs : Array Value) (T : TypeId) : Prop := w.heap[g]? = some (.cells cs T (0, 0))
theorem alloc1 (w : World) (a : Obj) : ∃ W, W = w.alloc a ∧ W.heap.size = w.heap.size + 1 ∧ Below w.heap.size w W ∧ W.heap[w.heap.size]? = some a :=
 ⟨_, rfl, by simp, (Below.refl _ _).alloc (Nat.le_refl _) _, heap_alloc_new w a⟩
theorem alloc2 (w : World) (a b : Obj) : ∃ W, W = (w.alloc a).alloc b ∧ W.heap.size = w.heap.size + 1 + 1 ∧ Below w.heap.size w W ∧ W.heap[w.heap.size]? = some a ∧ W.heap[w.heap.size + 1]? = some b := by
 obtain ⟨X, hX, s, bx, x0⟩ := alloc1 w a
 obtain ⟨Y, hY, t, by', y0⟩ := alloc1 X b
 refine ⟨Y, by rw [hY, hX], by rw [t, s], bt bx by', blk_next x0 by', ?_⟩
 rwa [s] at y0
theorem alloc3 (w : World) (a b c : Obj) : ∃ W, W = ((w.alloc a).alloc b).alloc c ∧ W.heap.size = w.heap.size + 1 + 1 + 1 ∧ Below w.heap.size w W ∧ W.heap[w.heap.size]? = some a ∧ W.heap[w.heap.size + 1]? = some b ∧ W.heap[w.heap.size + 1 + 1]? = some c := by
 obtain ⟨X, hX, s, bx, x0, x1⟩ := alloc2 w a b
 obtain ⟨Y, hY, t, by', y0⟩ := alloc1 X c
 refine ⟨Y, by rw [hY, hX], by rw [t, s], bt bx by', blk_next x0 by', blk_next x1 by', ?_⟩
 rwa [s] at y0
theorem alloc4 (w : World) (a b c d : Obj) : ∃ W, W = (((w.alloc a).alloc b).alloc c).alloc d ∧ W.heap.size = w.heap.size + 1 + 1 + 1 + 1 ∧ Below w.heap.size w W ∧ W.heap[w.heap.size]? = some a ∧ W.heap[w.heap.size + 1]? = some b ∧ W.heap[w.heap.size + 1 + 1]? = some c ∧ W.heap[w.heap.size + 1 + 1 + 1]? = some d := by
 obtain ⟨X, hX, s, bx, x0, x1, x2⟩ := alloc3 w a b c
 obtain ⟨Y, hY, t, by', y0⟩ := alloc1 X d
 refine ⟨Y, by rw [hY, hX], by rw [t, s], bt bx by', blk_next x0 by', blk_next x1 by', blk_next x2 by', ?_⟩
 rwa [s] at y0
theorem Blk.set_other {w : World} {g r k : Nat} {o : Obj} {v : Value} (h : w.heap[g]? = some o) (hn : g ≠ r) : (w.setCell ⟨r, k, none⟩ v).heap[g]? = some o := by
 rw [Below.heap_setCell _ _ _ _ (show g ≠ (⟨r, k, none⟩ : Addr).block from hn)]; exact h
theorem results_cell2_slot {P : Program} {fn : Func} {p q r : Tmp} {ty ty2 : TypeId} (h : fn.results = #[.cell p ty, .cell q ty2, .tmp r]) (tmps : Array Value) (w : World) (g g2 : Nat) (t t2 : TypeId) (cs cs2 : Array Value) (fr fr2 : Nat × Nat) (d d2 : TypeDesc) (v : Value)
  (hp : tmps.getD p undef = .pointer (some ⟨g, 0, none⟩)) (hq : tmps.getD q undef = .pointer (some ⟨g2, 0, none⟩)) (hr : tmps.getD r undef = v) (hg : w.heap[g]? = some (.cells cs t fr)) (hg2 : w.heap[g2]? = some (.cells cs2 t2 fr2))
  (hu : P.underlying ty = some d) (hd : (match d with | .struct _ | .array _ _ => true | _ => false) = true) (hi : (P.info? ty).map (·.size) = some cs.size)
  (hu2 : P.underlying ty2 = some d2) (hd2 : (match d2 with | .struct _ | .array _ _ => true | _ => false) = true) (hi2 : (P.info? ty2).map (·.size) = some cs2.size) :
  (results fn tmps).run P w = .ok (.tuple #[.agg cs, .agg cs2, v]) w := by
 have hp' : tmps[p]?.getD undef = .pointer (some ⟨g, 0, none⟩) := by simpa using hp
 have hq' : tmps[q]?.getD undef = .pointer (some ⟨g2, 0, none⟩) := by simpa using hq
 have hr' : tmps[r]?.getD undef = v := by simpa using hr
 simp [results, h, hp', hq', hr', asAddr, run_loadVar_row w g t ty cs fr d hg hu hd hi, run_loadVar_row w g2 t2 ty2 cs2 fr2 d2 hg2 hu2 hd2 hi2]
def GivesZZE (w : World) (z y c : Int) (e : Ending) (w' : World) : Prop :=
 ∃ (n : Bool) (a : Option Addr) (k cp : Nat) (n2 : Bool) (a2 : Option Addr) (k2 cp2 : Nat), e = .returned (.tuple #[.agg #[.bool n, .slice a k cp], .agg #[.bool n2, .slice a2 k2 cp2], .int .i64 c]) ∧
  IntR w' (.agg #[.bool n, .slice a k cp]) z ∧ IntR w' (.agg #[.bool n2, .slice a2 k2 cp2]) y ∧ Below w.heap.size w w'
theorem store22 {w : World} {r q : Nat} {x y x' y' z u z' u' : Value} {T T2 : TypeId} (hr : w.heap[r]? = some (.cells #[x, y] T (0, 0))) (hq : w.heap[q]? = some (.cells #[z, u] T2 (0, 0))) (hn : r ≠ q) :
  (((w.setCell ⟨r, 0, none⟩ x').setCell ⟨r, 1, none⟩ y').heap[q]? = some (.cells #[z, u] T2 (0, 0))) ∧
  ((((w.setCell ⟨r, 0, none⟩ x').setCell ⟨r, 1, none⟩ y').setCell ⟨q, 0, none⟩ z').setCell ⟨q, 1, none⟩ u').heap[r]? = some (.cells #[x', y'] T (0, 0)) ∧
  ((((w.setCell ⟨r, 0, none⟩ x').setCell ⟨r, 1, none⟩ y').setCell ⟨q, 0, none⟩ z').setCell ⟨q, 1, none⟩ u').heap[q]? = some (.cells #[z', u'] T2 (0, 0)) := by
 have h1 := res_set (x' := x') (y' := y') hr
 have h2 : ((w.setCell ⟨r, 0, none⟩ x').setCell ⟨r, 1, none⟩ y').heap[q]? = some (.cells #[z, u] T2 (0, 0)) := Blk.set_other (Blk.set_other hq (fun e => hn e.symm)) (fun e => hn e.symm)
 exact ⟨h2, Blk.set_other (Blk.set_other h1 hn) hn, res_set h2⟩
end Go.Proofs.YteionhenpehogaaGreatDoor
