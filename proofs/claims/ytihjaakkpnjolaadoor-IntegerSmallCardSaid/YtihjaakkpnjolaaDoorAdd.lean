/- The program's Neg, Add, Sub, Mul. -/
import Derived.Test.YtihjaakkpnjolaaDoorTimes
import Derived.Test.YtihjaakkpnjolaaDoorSign
import Derived.Test.YtihjaakkpnjolaaDoorSigned
namespace Go.Proofs.YtihjaakkpnjolaaDoor
open Go.RowKit Tally

/-- the integer z has at most N decimal digits -/
def Dg (N : Nat) (z : Int) : Prop := z.natAbs < 10 ^ N

theorem Dg.mono {N M : Nat} {z : Int} (h : Dg N z) (hm : N ≤ M) : Dg M z := Nat.lt_of_lt_of_le h (Nat.pow_le_pow_right (by decide) hm)
theorem Dg.mul {N M : Nat} {x y : Int} (hx : Dg N x) (hy : Dg M y) : Dg (N + M) (x * y) := by
  unfold Dg at *; rw [Int.natAbs_mul, Nat.pow_add]; exact Nat.mul_lt_mul'' hx hy
theorem Dg.add {N : Nat} {x y : Int} (hx : Dg N x) (hy : Dg N y) : Dg (N + 1) (x + y) := by
  unfold Dg at *; rw [Nat.pow_succ]; omega
theorem Dg.neg {N : Nat} {x : Int} (hx : Dg N x) : Dg N (-x) := by unfold Dg at *; omega
theorem Dg.sub {N : Nat} {x y : Int} (hx : Dg N x) (hy : Dg N y) : Dg (N + 1) (x - y) := by
  unfold Dg at *; rw [Nat.pow_succ]; omega
theorem Dg.le {N : Nat} {x y : Int} (hx : Dg N x) (h : y.natAbs ≤ x.natAbs) : Dg N y := Nat.lt_of_le_of_lt h hx

/-- few digits, few limbs -/
theorem Canon.few {k N : Nat} {l : List Nat} {z : Int} (hk : 0 < k) (hc : Canon (10 ^ k) l) (hz : z.natAbs = val (10 ^ k) l) (hd : Dg N z) : l.length ≤ N + 1 := by
  rcases Nat.lt_or_ge (N + 1) l.length with h | h
  · exfalso
    have hne : l ≠ [] := by rintro rfl; simp at h
    have h1 := hc.pow_le (Nat.pow_pos (by decide)) hne
    have h2 : 10 ^ N ≤ (10 ^ k) ^ (l.length - 1) := by
      rw [← Nat.pow_mul]
      refine Nat.pow_le_pow_right (by decide) ?_
      have : 1 * (l.length - 1) ≤ k * (l.length - 1) := Nat.mul_le_mul_right _ hk
      omega
    unfold Dg at hd
    omega
  · exact h

theorem abs_of {neg : Bool} {n : Nat} {z : Int} (hz : z = if neg then -(n : Int) else n) : z.natAbs = n := by
  subst hz; cases neg <;> simp

/-- an integer's parts: sign, limbs, and how they read -/
theorem IntR.parts {w : World} {v : Value} {z : Int} (h : IntR w v z) : ∃ (neg : Bool) (s : Value) (l : List Nat), v = .agg #[.bool neg, s] ∧ LR w s l ∧ Canon 1000000000 l ∧ (neg = true → l ≠ []) ∧ z = (if neg then -(val 1000000000 l : Int) else val 1000000000 l) ∧ z.natAbs = val 1000000000 l := by
  obtain ⟨neg, s, l, h1, h2, h3, h4, h5⟩ := h
  exact ⟨neg, s, l, h1, h2, h3, h4, h5, abs_of h5⟩

theorem IntR.few {N : Nat} {l : List Nat} {z : Int} (hc : Canon 1000000000 l) (hz : z.natAbs = val 1000000000 l) (hd : Dg N z) : l.length ≤ N + 1 :=
  Canon.few (k := 9) (by decide) hc hz hd

/-- what a function that gives an integer leaves -/
def GivesZ (w : World) (z : Int) (e : Ending) (w' : World) : Prop :=
  ∃ (n : Bool) (a : Option Addr) (k c : Nat), e = .returned (.agg #[.bool n, .slice a k c]) ∧ IntR w' (.agg #[.bool n, .slice a k c]) z ∧ Below w.heap.size w w'

theorem IntR.shape {w : World} {v : Value} {z : Int} (h : IntR w v z) : ∃ (n : Bool) (a : Option Addr) (k c : Nat), v = .agg #[.bool n, .slice a k c] := by
  obtain ⟨neg, s, l, rfl, ⟨a, b, o, c, rfl, _⟩, _⟩ := h
  exact ⟨neg, a, l.length, c, rfl⟩

theorem signed_gives {w : World} {v : Value} {l : List Nat} {neg : Bool} (h : LR w v l) (hl : Lim 1000000000 l) :
    Calls Tryd.prog 67 #[.bool neg, v] w (GivesZ w (if neg then -(val 1000000000 l : Int) else val 1000000000 l)) :=
  (signed_any (neg := neg) h hl).mono fun e w' ⟨u, he, hu, hb⟩ => by
    obtain ⟨n, a, k, c, rfl⟩ := hu.shape
    exact ⟨n, a, k, c, he, hu, hb⟩

theorem Own.limbs {w : World} {g n : Nat} {l : List Nat} (h : Own .u32 108 w g l) (hn : l.length = n) (hm : n ≤ 9223372036854775807) : LR w (.slice (some ⟨g, 0, none⟩) n n) l := by
  subst hn; exact h.all rfl (Nat.le_refl _) hm

theorem blk_next {w w' : World} {r : Nat} {o : Obj} (h : w.heap[r]? = some o) (hb : Below w.heap.size w w') : w'.heap[r]? = some o := by
  obtain ⟨hlt, _⟩ := Array.getElem?_eq_some_iff.1 h
  rw [hb.block r hlt]; exact h

theorem res_facts {w : World} {r : Nat} {x y : Value} {T : TypeId} (h : w.heap[r]? = some (.cells #[x, y] T (0, 0))) :
    w.cell? ⟨r, 0, none⟩ = some x ∧ w.cell? ⟨r, 1, none⟩ = some y ∧ w.frozen? ⟨r, 0, none⟩ = false ∧ w.frozen? ⟨r, 1, none⟩ = false :=
  ⟨by rw [Lib.cell_of_heap h]; rfl, by rw [Lib.cell_of_heap h]; rfl, Lib.frozen_of_heap h 0, Lib.frozen_of_heap h 1⟩

theorem res_set {w : World} {r : Nat} {x y x' y' : Value} {T : TypeId} (h : w.heap[r]? = some (.cells #[x, y] T (0, 0))) :
    ((w.setCell ⟨r, 0, none⟩ x').setCell ⟨r, 1, none⟩ y').heap[r]? = some (.cells #[x', y'] T (0, 0)) := Joins.block_setCell (Joins.block_setCell h x') y'

/-- a row of numbers is none of the result's cells -/
theorem RowR.set2 {w : World} {v : Value} {n : Nat} {K : IntKind} {f : Nat → Int} {r : Nat} {b : Bool} {p : Option Addr} {k c : Nat} {x y : Value} {T : TypeId} (h : RowR w v n fun i => .int K (f i))
    (hr : w.heap[r]? = some (.cells #[.bool b, .slice p k c] T (0, 0))) : RowR ((w.setCell ⟨r, 0, none⟩ x).setCell ⟨r, 1, none⟩ y) v n fun i => .int K (f i) := by
  obtain ⟨a, g, o, c, hv, h1, h2, h3, h4⟩ := h
  refine ⟨a, g, o, c, hv, h1, h2, h3, fun i hi => ?_⟩
  have hc := h4 i hi
  have hne : r ≠ g := by
    rintro rfl
    rw [Lib.cell_of_heap hr] at hc
    match o + i, hc with
    | 0, hc => simp at hc
    | 1, hc => simp at hc
    | j + 2, hc => simp at hc
  rw [World.cell?_setCell_other _ _ _ _ (fun e => hne (by injection e)), World.cell?_setCell_other _ _ _ _ (fun e => hne (by injection e))]
  exact hc

theorem IntR.set2 {w : World} {v : Value} {z : Int} {r : Nat} {b : Bool} {p : Option Addr} {k c : Nat} {x y : Value} {T : TypeId} (h : IntR w v z)
    (hr : w.heap[r]? = some (.cells #[.bool b, .slice p k c] T (0, 0))) : IntR ((w.setCell ⟨r, 0, none⟩ x).setCell ⟨r, 1, none⟩ y) v z := by
  obtain ⟨neg, s, l, h1, h2, h3⟩ := h
  exact ⟨neg, s, l, h1, RowR.set2 (f := fun i => (l.getD i 0 : Nat)) h2 hr, h3⟩

/-! ### a world in which the parameters are boxed, and what a drawn region keeps of it -/

theorem held_next {B : Nat} {W w1 w2 : World} (h : Below B W w1) (hB : B ≤ W.heap.size) (hb : Below w1.heap.size w1 w2) : Below B W w2 := h.trans (hb.mono (Nat.le_trans hB h.size))
theorem held_set2 {B b : Nat} {W w1 : World} {x y : Value} (h : Below B W w1) (hb : B ≤ b) : Below B W ((w1.setCell ⟨b, 0, none⟩ x).setCell ⟨b, 1, none⟩ y) :=
  (h.setCell (p := ⟨b, 0, none⟩) hb _).setCell (p := ⟨b, 1, none⟩) hb _

theorem box2_facts (w : World) (n1 n2 : Bool) (s1 s2 : Value) (T : TypeId) :
    Below w.heap.size w (((w.alloc (.cells #[.bool n1, s1] T)).alloc (.cells #[.bool n2, s2] T)).alloc (.cells #[.bool false, .slice none 0 0] T)) ∧
    (((w.alloc (.cells #[.bool n1, s1] T)).alloc (.cells #[.bool n2, s2] T)).alloc (.cells #[.bool false, .slice none 0 0] T)).heap.size = w.heap.size + 1 + 1 + 1 ∧
    (((w.alloc (.cells #[.bool n1, s1] T)).alloc (.cells #[.bool n2, s2] T)).alloc (.cells #[.bool false, .slice none 0 0] T)).cell? ⟨w.heap.size, 0, none⟩ = some (.bool n1) ∧
    (((w.alloc (.cells #[.bool n1, s1] T)).alloc (.cells #[.bool n2, s2] T)).alloc (.cells #[.bool false, .slice none 0 0] T)).cell? ⟨w.heap.size, 1, none⟩ = some s1 ∧
    (((w.alloc (.cells #[.bool n1, s1] T)).alloc (.cells #[.bool n2, s2] T)).alloc (.cells #[.bool false, .slice none 0 0] T)).cell? ⟨w.heap.size + 1, 0, none⟩ = some (.bool n2) ∧
    (((w.alloc (.cells #[.bool n1, s1] T)).alloc (.cells #[.bool n2, s2] T)).alloc (.cells #[.bool false, .slice none 0 0] T)).cell? ⟨w.heap.size + 1, 1, none⟩ = some s2 ∧
    (((w.alloc (.cells #[.bool n1, s1] T)).alloc (.cells #[.bool n2, s2] T)).alloc (.cells #[.bool false, .slice none 0 0] T)).heap[w.heap.size + 1 + 1]? = some (.cells #[.bool false, .slice none 0 0] T (0, 0)) := by
  refine ⟨(((Below.refl _ _).alloc (Nat.le_refl _) _).alloc (by simp) _).alloc (by simp; omega) _, by simp, by go_simp, by go_simp, by go_simp, by go_simp, ?_⟩
  have := heap_alloc_new ((w.alloc (.cells #[.bool n1, s1] T)).alloc (.cells #[.bool n2, s2] T)) (.cells #[.bool false, .slice none 0 0] T)
  simpa using this

set_option maxHeartbeats 1000000 in
theorem mul_any {w : World} {v u : Value} {x y : Int} {N : Nat} (h : IntR w v x) (k : IntR w u y) (hx : Dg N x) (hy : Dg N y) (hN : N ≤ 999999999990) :
    Calls Tryd.prog 19 #[v, u] w (GivesZ w (x * y)) := by
  obtain ⟨n1, s1, l1, rfl, lr1, c1, g1, z1, a1⟩ := h.parts
  obtain ⟨n2, s2, l2, rfl, lr2, c2, g2, z2, a2⟩ := k.parts
  have f1 := IntR.few c1 a1 hx
  have f2 := IntR.few c2 a2 hy
  have fin : (if (n1 != n2) = true then -((val 1000000000 l1 * val 1000000000 l2 : Nat) : Int) else (val 1000000000 l1 * val 1000000000 l2 : Nat)) = x * y := by
    subst z1 z2; cases n1 <;> cases n2 <;> simp [Int.natCast_mul, Int.mul_neg, Int.neg_mul]
  have FIN := Lib.hid fin
  have LA : Lim 1000000000 l1 := c1.1
  have LB : Lim 1000000000 l2 := c2.1
  clear h k z1 z2 g1 g2 a1 a2 fin hx hy
  have BF := Lib.hid (box2_facts w n1 n2 s1 s2 25)
  go_enter Tryd.func19, Tryd.ntmps19
  go_wp2_with fail
  revert BF
  generalize (((w.alloc (.cells #[.bool n1, s1] 25)).alloc (.cells #[.bool n2, s2] 25)).alloc (.cells #[.bool false, .slice none 0 0] 25)) = W
  intro BF
  have HQ := Lib.hid BF.out.1
  have HG := Lib.hid BF.out.2.2.2.2.2.2
  have HBW := Lib.hid (show w.heap.size + 1 + 1 ≤ W.heap.size by have := BF.out.2.1; omega)
  have lt0 : w.heap.size < w.heap.size + 1 + 1 := by omega
  have HL := Lib.hid (fun (w' : World) (hb : Below (w.heap.size + 1 + 1) W w') => (⟨hb, (hb.cell (p := ⟨w.heap.size, 0, none⟩) (show w.heap.size < w.heap.size + 1 + 1 by omega)).trans BF.out.2.2.1, (hb.cell (p := ⟨w.heap.size, 1, none⟩) (show w.heap.size < w.heap.size + 1 + 1 by omega)).trans BF.out.2.2.2.1, (hb.cell (p := ⟨w.heap.size + 1, 0, none⟩) (show w.heap.size + 1 < w.heap.size + 1 + 1 by omega)).trans BF.out.2.2.2.2.1, (hb.cell (p := ⟨w.heap.size + 1, 1, none⟩) (show w.heap.size + 1 < w.heap.size + 1 + 1 by omega)).trans BF.out.2.2.2.2.2.1⟩ : Below (w.heap.size + 1 + 1) W w' ∧ w'.cell? ⟨w.heap.size, 0, none⟩ = some (.bool n1) ∧ w'.cell? ⟨w.heap.size, 1, none⟩ = some s1 ∧ w'.cell? ⟨w.heap.size + 1, 0, none⟩ = some (.bool n2) ∧ w'.cell? ⟨w.heap.size + 1, 1, none⟩ = some s2))
  have HW0 := Lib.hid (fun (w' : World) (hs : Below (w.heap.size + 1 + 1) W w' ∧ w'.cell? ⟨w.heap.size, 0, none⟩ = some (.bool n1) ∧ w'.cell? ⟨w.heap.size, 1, none⟩ = some s1 ∧ w'.cell? ⟨w.heap.size + 1, 0, none⟩ = some (.bool n2) ∧ w'.cell? ⟨w.heap.size + 1, 1, none⟩ = some s2) => HQ.out.trans (hs.1.mono (show w.heap.size ≤ w.heap.size + 1 + 1 by omega)))
  go_region_held3 (fun w' => Below (w.heap.size + 1 + 1) W w' ∧ w'.cell? ⟨w.heap.size, 0, none⟩ = some (.bool n1) ∧ w'.cell? ⟨w.heap.size, 1, none⟩ = some s1 ∧ w'.cell? ⟨w.heap.size + 1, 0, none⟩ = some (.bool n2) ∧ w'.cell? ⟨w.heap.size + 1, 1, none⟩ = some s2)
    (first | exact HL.out _ (Below.drew (Below.refl _ _)) | exact HL.out _ (held_next (And.left (by assumption)) HBW.out (by assumption)) | exact HL.out _ (held_set2 (And.left (by assumption)) (Nat.le_refl _)))
    (first | (go_at_call 68; (with_reducible refine (times_any (lr1.below (HW0.out _ (by assumption))) (lr2.below (HW0.out _ (by assumption))) LA LB (by omega) (by omega)).mono ?_); rintro e w1 ⟨g3, l3, rfl, ho3, hn3, hl3, hv3, hg3, hb3⟩; have HO3 := Lib.hid ho3; have HN3 := Lib.hid hn3; have HV3 := Lib.hid hv3; have HR3 := Lib.hid (blk_next (w := W.drew) HG.out hb3); clear ho3 hn3 hv3) | (go_at_call 67; (with_reducible refine (signed_gives (HO3.out.limbs HN3.out (by omega)) hl3).mono ?_); rintro e w2 ⟨n4, a4, k4, c4, rfl, hu4, hb4⟩; have HU4 := Lib.hid hu4; have HR4 := Lib.hid (blk_next HR3.out hb4); clear hu4; obtain ⟨d0, d1, e0, e1⟩ := res_facts HR4.out))
  go_wp2
  try simp only [Exit.inBlock, Exit.then]
  refine bodyPost_ret (results_cell_row rfl _ _ (w.heap.size + 1 + 1) 25 _ (0, 0) _ rfl (res_set HR4.out) Tryd.underlying25 rfl (by kernel_rfl)) rfl ?_
  have fit := HU4.out
  rw [HV3.out, show (!(n1 == n2)) = (n1 != n2) from rfl, FIN.out] at fit
  exact ⟨n4, a4, k4, c4, rfl, fit.set2 HR4.out, held_set2 (bt (bt (bt HQ.out (Below.drew (Below.refl _ _))) hb3) hb4) (by omega)⟩

theorem add_same {n : Bool} {A B : Nat} : (if n = true then -((A + B : Nat) : Int) else (A + B : Nat)) = (if n = true then -(A : Int) else A) + (if n = true then -(B : Int) else B) := by
  cases n <;> simp; omega
theorem add_diff {n1 n2 : Bool} {A B : Nat} (hn : n1 ≠ n2) (h : B ≤ A) : (if n1 = true then -((A - B : Nat) : Int) else (A - B : Nat)) = (if n1 = true then -(A : Int) else A) + (if n2 = true then -(B : Int) else B) := by
  cases n1 <;> cases n2 <;> simp at hn ⊢ <;> omega

set_option maxHeartbeats 2000000 in
theorem add_any {w : World} {v u : Value} {x y : Int} {N : Nat} (h : IntR w v x) (k : IntR w u y) (hx : Dg N x) (hy : Dg N y) (hN : N ≤ 999999999990) :
    Calls Tryd.prog 30 #[v, u] w (GivesZ w (x + y)) := by
  obtain ⟨n1, s1, l1, rfl, lr1, c1, g1, z1, a1⟩ := h.parts
  obtain ⟨n2, s2, l2, rfl, lr2, c2, g2, z2, a2⟩ := k.parts
  have f1 := IntR.few c1 a1 hx
  have f2 := IntR.few c2 a2 hy
  have LA : Lim 1000000000 l1 := c1.1
  have LB : Lim 1000000000 l2 := c2.1
  have fin1 : n1 = n2 → (if n1 = true then -((val 1000000000 l1 + val 1000000000 l2 : Nat) : Int) else (val 1000000000 l1 + val 1000000000 l2 : Nat)) = x + y := fun e => by
    subst e; rw [z1, z2]; exact add_same
  have fin2 : n1 ≠ n2 → val 1000000000 l2 ≤ val 1000000000 l1 → (if n1 = true then -((val 1000000000 l1 - val 1000000000 l2 : Nat) : Int) else (val 1000000000 l1 - val 1000000000 l2 : Nat)) = x + y := fun e h => by
    rw [z1, z2]; exact add_diff e h
  have fin3 : n1 ≠ n2 → val 1000000000 l1 ≤ val 1000000000 l2 → (if n2 = true then -((val 1000000000 l2 - val 1000000000 l1 : Nat) : Int) else (val 1000000000 l2 - val 1000000000 l1 : Nat)) = x + y := fun e h => by
    rw [z1, z2, Int.add_comm]; exact add_diff (fun q => e q.symm) h
  have F1 := Lib.hid fin1
  have F2 := Lib.hid fin2
  have F3 := Lib.hid fin3
  have len12 : val 1000000000 l2 ≤ val 1000000000 l1 → l2.length ≤ l1.length := fun q => Nat.le_of_not_lt fun q2 => by
    have := Canon.lt_of_length (B := 1000000000) (by decide) c1.1 c2 q2; omega
  have len21 : val 1000000000 l1 ≤ val 1000000000 l2 → l1.length ≤ l2.length := fun q => Nat.le_of_not_lt fun q2 => by
    have := Canon.lt_of_length (B := 1000000000) (by decide) c2.1 c1 q2; omega
  have E12 := Lib.hid len12
  have E21 := Lib.hid len21
  clear h k z1 z2 g1 g2 a1 a2 fin1 fin2 fin3 hx hy len12 len21
  by_cases hn : n1 = n2
  · have hb : (n1 == n2) = true := by simp [hn]
    have FIN := Lib.hid (F1.out hn)
    clear hn
    have BF := Lib.hid (box2_facts w n1 n2 s1 s2 25)
    go_enter Tryd.func30, Tryd.ntmps30
    go_wp2_with fail
    revert BF
    generalize (((w.alloc (.cells #[.bool n1, s1] 25)).alloc (.cells #[.bool n2, s2] 25)).alloc (.cells #[.bool false, .slice none 0 0] 25)) = W
    intro BF
    have HQ := Lib.hid BF.out.1
    have HG := Lib.hid BF.out.2.2.2.2.2.2
    have HBW := Lib.hid (show w.heap.size + 1 + 1 ≤ W.heap.size by have := BF.out.2.1; omega)
    have HL := Lib.hid (fun (w' : World) (hb : Below (w.heap.size + 1 + 1) W w') => (⟨hb, (hb.cell (p := ⟨w.heap.size, 0, none⟩) (show w.heap.size < w.heap.size + 1 + 1 by omega)).trans BF.out.2.2.1, (hb.cell (p := ⟨w.heap.size, 1, none⟩) (show w.heap.size < w.heap.size + 1 + 1 by omega)).trans BF.out.2.2.2.1, (hb.cell (p := ⟨w.heap.size + 1, 0, none⟩) (show w.heap.size + 1 < w.heap.size + 1 + 1 by omega)).trans BF.out.2.2.2.2.1, (hb.cell (p := ⟨w.heap.size + 1, 1, none⟩) (show w.heap.size + 1 < w.heap.size + 1 + 1 by omega)).trans BF.out.2.2.2.2.2.1⟩ : Below (w.heap.size + 1 + 1) W w' ∧ w'.cell? ⟨w.heap.size, 0, none⟩ = some (.bool n1) ∧ w'.cell? ⟨w.heap.size, 1, none⟩ = some s1 ∧ w'.cell? ⟨w.heap.size + 1, 0, none⟩ = some (.bool n2) ∧ w'.cell? ⟨w.heap.size + 1, 1, none⟩ = some s2))
    have HW0 := Lib.hid (fun (w' : World) (hs : Below (w.heap.size + 1 + 1) W w' ∧ w'.cell? ⟨w.heap.size, 0, none⟩ = some (.bool n1) ∧ w'.cell? ⟨w.heap.size, 1, none⟩ = some s1 ∧ w'.cell? ⟨w.heap.size + 1, 0, none⟩ = some (.bool n2) ∧ w'.cell? ⟨w.heap.size + 1, 1, none⟩ = some s2) => HQ.out.trans (hs.1.mono (show w.heap.size ≤ w.heap.size + 1 + 1 by omega)))
    obtain ⟨w0, hw0⟩ : ∃ w0 : World, w0 = W := ⟨_, rfl⟩
    have HB0 : Hid (Below (w.heap.size + 1 + 1) W w0) := by rw [hw0]; exact Lib.hid (Below.refl _ _)
    have HG0 := Lib.hid (show w0.heap[w.heap.size + 1 + 1]? = some (.cells #[.bool false, .slice none 0 0] 25 (0, 0)) by rw [hw0]; exact HG.out)
    rw [← hw0]
    clear hw0
    go_region_held3 (fun w' => Below (w.heap.size + 1 + 1) W w' ∧ w'.cell? ⟨w.heap.size, 0, none⟩ = some (.bool n1) ∧ w'.cell? ⟨w.heap.size, 1, none⟩ = some s1 ∧ w'.cell? ⟨w.heap.size + 1, 0, none⟩ = some (.bool n2) ∧ w'.cell? ⟨w.heap.size + 1, 1, none⟩ = some s2)
      (first | exact HL.out _ (Below.drew HB0.out) | exact HL.out _ (held_next (And.left (by assumption)) HBW.out (by assumption)) | exact HL.out _ (held_set2 (And.left (by assumption)) (Nat.le_refl _)))
      (first | (go_at_call 77; (with_reducible refine (plus_any (lr1.below (HW0.out _ (by assumption))) (lr2.below (HW0.out _ (by assumption))) LA LB (by omega) (by omega)).mono ?_); rintro e w1 ⟨u3, l3, rfl, hr3, hl3, hv3, hb3⟩; have HX3 := Lib.hid hr3; have HV3 := Lib.hid hv3; have HR3 := Lib.hid (blk_next (w := w0.drew) HG0.out hb3); clear hr3 hv3) | (go_at_call 67; (with_reducible refine (signed_gives HX3.out hl3).mono ?_); rintro e w2 ⟨n4, a4, k4, c4, rfl, hu4, hb4⟩; have HU4 := Lib.hid hu4; have HR4 := Lib.hid (blk_next HR3.out hb4); clear hu4; obtain ⟨d0, d1, e0, e1⟩ := res_facts HR4.out))
    go_wp2
    try simp only [Exit.inBlock, Exit.then]
    refine bodyPost_ret (results_cell_row rfl _ _ (w.heap.size + 1 + 1) 25 _ (0, 0) _ rfl (res_set HR4.out) Tryd.underlying25 rfl (by kernel_rfl)) rfl ?_
    have fit := HU4.out
    rw [HV3.out, FIN.out] at fit
    exact ⟨n4, a4, k4, c4, rfl, fit.set2 HR4.out, held_set2 (bt (bt (bt (HQ.out.trans (HB0.out.mono (show w.heap.size ≤ w.heap.size + 1 + 1 by omega))) (Below.drew (Below.refl _ _))) hb3) hb4) (by omega)⟩
  · have hb : (n1 == n2) = false := by simp [hn]
    have FN2 := Lib.hid (F2.out hn)
    have FN3 := Lib.hid (F3.out hn)
    clear hn
    have BF := Lib.hid (box2_facts w n1 n2 s1 s2 25)
    go_enter Tryd.func30, Tryd.ntmps30
    go_wp2_with fail
    revert BF
    generalize (((w.alloc (.cells #[.bool n1, s1] 25)).alloc (.cells #[.bool n2, s2] 25)).alloc (.cells #[.bool false, .slice none 0 0] 25)) = W
    intro BF
    have HQ := Lib.hid BF.out.1
    have HG := Lib.hid BF.out.2.2.2.2.2.2
    have HBW := Lib.hid (show w.heap.size + 1 + 1 ≤ W.heap.size by have := BF.out.2.1; omega)
    have HL := Lib.hid (fun (w' : World) (hb : Below (w.heap.size + 1 + 1) W w') => (⟨hb, (hb.cell (p := ⟨w.heap.size, 0, none⟩) (show w.heap.size < w.heap.size + 1 + 1 by omega)).trans BF.out.2.2.1, (hb.cell (p := ⟨w.heap.size, 1, none⟩) (show w.heap.size < w.heap.size + 1 + 1 by omega)).trans BF.out.2.2.2.1, (hb.cell (p := ⟨w.heap.size + 1, 0, none⟩) (show w.heap.size + 1 < w.heap.size + 1 + 1 by omega)).trans BF.out.2.2.2.2.1, (hb.cell (p := ⟨w.heap.size + 1, 1, none⟩) (show w.heap.size + 1 < w.heap.size + 1 + 1 by omega)).trans BF.out.2.2.2.2.2.1⟩ : Below (w.heap.size + 1 + 1) W w' ∧ w'.cell? ⟨w.heap.size, 0, none⟩ = some (.bool n1) ∧ w'.cell? ⟨w.heap.size, 1, none⟩ = some s1 ∧ w'.cell? ⟨w.heap.size + 1, 0, none⟩ = some (.bool n2) ∧ w'.cell? ⟨w.heap.size + 1, 1, none⟩ = some s2))
    have HW0 := Lib.hid (fun (w' : World) (hs : Below (w.heap.size + 1 + 1) W w' ∧ w'.cell? ⟨w.heap.size, 0, none⟩ = some (.bool n1) ∧ w'.cell? ⟨w.heap.size, 1, none⟩ = some s1 ∧ w'.cell? ⟨w.heap.size + 1, 0, none⟩ = some (.bool n2) ∧ w'.cell? ⟨w.heap.size + 1, 1, none⟩ = some s2) => HQ.out.trans (hs.1.mono (show w.heap.size ≤ w.heap.size + 1 + 1 by omega)))
    refine (compare_any (lr1.below HQ.out) (lr2.below HQ.out) c1 c2).mono ?_
    rintro e w0 ⟨rfl, hb0⟩
    have HB0 := Lib.hid (hb0.mono HBW.out)
    have HG0 := Lib.hid (blk_next HG.out hb0)
    obtain ⟨_, q1, q2, q3, q4⟩ := HL.out _ HB0.out
    by_cases hge : val 1000000000 l2 ≤ val 1000000000 l1
    · have hcm : (0 : Int) ≤ cmpN (val 1000000000 l1) (val 1000000000 l2) := by
        rcases Nat.lt_or_ge (val 1000000000 l2) (val 1000000000 l1) with q | q
        · rw [cmpN_gt q]; decide
        · rw [cmpN_eq (by omega)]; decide
      have hlen := E12.out hge
      have FIN := Lib.hid (FN2.out hge)
      go_wp2_with fail
      go_region_held3 (fun w' => Below (w.heap.size + 1 + 1) W w' ∧ w'.cell? ⟨w.heap.size, 0, none⟩ = some (.bool n1) ∧ w'.cell? ⟨w.heap.size, 1, none⟩ = some s1 ∧ w'.cell? ⟨w.heap.size + 1, 0, none⟩ = some (.bool n2) ∧ w'.cell? ⟨w.heap.size + 1, 1, none⟩ = some s2)
        (first | exact HL.out _ (Below.drew HB0.out) | exact HL.out _ (held_next (And.left (by assumption)) HBW.out (by assumption)) | exact HL.out _ (held_set2 (And.left (by assumption)) (Nat.le_refl _)))
        (first | (go_at_call 79; (with_reducible refine (minus_any (lr1.below (HW0.out _ (by assumption))) (lr2.below (HW0.out _ (by assumption))) LA LB (by omega) hlen hge).mono ?_); rintro e w1 ⟨u3, l3, rfl, hr3, hl3, hv3, hb3⟩; have HX3 := Lib.hid hr3; have HV3 := Lib.hid hv3; have HR3 := Lib.hid (blk_next (w := w0.drew) HG0.out hb3); clear hr3 hv3) | (go_at_call 67; (with_reducible refine (signed_gives HX3.out hl3).mono ?_); rintro e w2 ⟨n4, a4, k4, c4, rfl, hu4, hb4⟩; have HU4 := Lib.hid hu4; have HR4 := Lib.hid (blk_next HR3.out hb4); clear hu4; obtain ⟨d0, d1, e0, e1⟩ := res_facts HR4.out))
      go_wp2
      try simp only [Exit.inBlock, Exit.then]
      refine bodyPost_ret (results_cell_row rfl _ _ (w.heap.size + 1 + 1) 25 _ (0, 0) _ rfl (res_set HR4.out) Tryd.underlying25 rfl (by kernel_rfl)) rfl ?_
      have fit := HU4.out
      rw [HV3.out, FIN.out] at fit
      exact ⟨n4, a4, k4, c4, rfl, fit.set2 HR4.out, held_set2 (bt (bt (bt (HQ.out.trans (HB0.out.mono (show w.heap.size ≤ w.heap.size + 1 + 1 by omega))) (Below.drew (Below.refl _ _))) hb3) hb4) (by omega)⟩
    · have hcm : ¬ (0 : Int) ≤ cmpN (val 1000000000 l1) (val 1000000000 l2) := by
        rw [cmpN_lt (by omega)]; decide
      have hge' : val 1000000000 l1 ≤ val 1000000000 l2 := by omega
      have hlen := E21.out hge'
      have FIN := Lib.hid (FN3.out hge')
      go_wp2_with fail
      go_region_held3 (fun w' => Below (w.heap.size + 1 + 1) W w' ∧ w'.cell? ⟨w.heap.size, 0, none⟩ = some (.bool n1) ∧ w'.cell? ⟨w.heap.size, 1, none⟩ = some s1 ∧ w'.cell? ⟨w.heap.size + 1, 0, none⟩ = some (.bool n2) ∧ w'.cell? ⟨w.heap.size + 1, 1, none⟩ = some s2)
        (first | exact HL.out _ (Below.drew HB0.out) | exact HL.out _ (held_next (And.left (by assumption)) HBW.out (by assumption)) | exact HL.out _ (held_set2 (And.left (by assumption)) (Nat.le_refl _)))
        (first | (go_at_call 79; (with_reducible refine (minus_any (lr2.below (HW0.out _ (by assumption))) (lr1.below (HW0.out _ (by assumption))) LB LA (by omega) hlen hge').mono ?_); rintro e w1 ⟨u3, l3, rfl, hr3, hl3, hv3, hb3⟩; have HX3 := Lib.hid hr3; have HV3 := Lib.hid hv3; have HR3 := Lib.hid (blk_next (w := w0.drew) HG0.out hb3); clear hr3 hv3) | (go_at_call 67; (with_reducible refine (signed_gives HX3.out hl3).mono ?_); rintro e w2 ⟨n4, a4, k4, c4, rfl, hu4, hb4⟩; have HU4 := Lib.hid hu4; have HR4 := Lib.hid (blk_next HR3.out hb4); clear hu4; obtain ⟨d0, d1, e0, e1⟩ := res_facts HR4.out))
      go_wp2
      try simp only [Exit.inBlock, Exit.then]
      refine bodyPost_ret (results_cell_row rfl _ _ (w.heap.size + 1 + 1) 25 _ (0, 0) _ rfl (res_set HR4.out) Tryd.underlying25 rfl (by kernel_rfl)) rfl ?_
      have fit := HU4.out
      rw [HV3.out, FIN.out] at fit
      exact ⟨n4, a4, k4, c4, rfl, fit.set2 HR4.out, held_set2 (bt (bt (bt (HQ.out.trans (HB0.out.mono (show w.heap.size ≤ w.heap.size + 1 + 1 by omega))) (Below.drew (Below.refl _ _))) hb3) hb4) (by omega)⟩

end Go.Proofs.YtihjaakkpnjolaaDoor
