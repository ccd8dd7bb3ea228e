/- awake answers true: an example of the document. -/
import Derived.Test.YtnkdcmloehandaaCyclic
import Derived.Test.YtnkdcmloehandaaSame
namespace Go.Proofs.Ytnkdcmloehandaa
open Go.RowKit Plain

theorem cell_new (w : World) (c : Array Value) (t : TypeId) (i : Nat) : (w.alloc (.cells c t)).cell? ⟨w.heap.size, i, none⟩ = c[i]? := cell_of_row _ _ _ _ _ (0, 0) (heap_alloc_new w _)
theorem cell_keep (w : World) (o : Obj) {b i : Nat} (h : b < w.heap.size) : (w.alloc o).cell? ⟨b, i, none⟩ = w.cell? ⟨b, i, none⟩ :=
  ((Below.refl w.heap.size w).alloc (Nat.le_refl _) o).cell (p := ⟨b, i, none⟩) h

def zAwake : Nat → Nat → Int := fun r c => if r = 0 ∧ c = 1 then 5 else if r = 1 ∧ c = 2 then 7 else if r = 2 ∧ c = 1 then 9 else 0
def bAwake : Nat → Bool := fun i => !(i == 0)

theorem vld_awake : Vld 3 (fun _ => 3) zAwake := by
  refine ⟨by omega, by omega, fun _ _ => rfl, ?_, ?_⟩
  · intro r c _ _; unfold zAwake; split
    · omega
    · split
      · omega
      · split <;> omega
  · intro c hc
    match c, hc with
    | 0, _ => decide
    | 1, _ => decide
    | 2, _ => decide

theorem cB_awake : ∀ i, i < 3 → cB 3 zAwake i = bAwake i := by
  intro i hi
  rw [Bool.eq_iff_iff, cB_iff]
  match i, hi with
  | 0, _ =>
    refine ⟨?_, (fun h => by simp [bAwake] at h)⟩
    rintro ⟨k, h1, h2, h3⟩
    exfalso
    have hk : k ≠ 0 := fun e => by subst e; exact absurd h2 (by decide)
    have := h3 (fun x => x ≠ 0) (fun a ha => by subst ha; exact hk) (fun a b ha hb hS hz => by
      intro e
      subst e
      unfold zAwake at hz
      split at hz
      · omega
      · split at hz
        · omega
        · split at hz <;> omega)
    exact this rfl
  | 1, _ => exact ⟨fun _ => rfl, fun _ => ⟨2, by omega, by decide, R.edge (by omega) (by omega) (by decide)⟩⟩
  | 2, _ => exact ⟨fun _ => rfl, fun _ => ⟨1, by omega, by decide, R.edge (by omega) (by omega) (by decide)⟩⟩

/-- the example's matrix, as the literal lays it -/
theorem mat_awake (w : World) : MatR ((((w.alloc (.cells #[.int .i64 0, .int .i64 5, .int .i64 0] 3)).alloc (.cells #[.int .i64 0, .int .i64 0, .int .i64 7] 3)).alloc (.cells #[.int .i64 0, .int .i64 9, .int .i64 0] 3)).alloc
      (.cells #[.slice (some ⟨w.heap.size, 0, none⟩) 3 3, .slice (some ⟨w.heap.size + 1, 0, none⟩) 3 3, .slice (some ⟨w.heap.size + 1 + 1, 0, none⟩) 3 3] 32))
    (.slice (some ⟨w.heap.size + 1 + 1 + 1, 0, none⟩) 3 3) 3 (fun _ => 3) zAwake := by
  refine ⟨_, w.heap.size + 1 + 1 + 1, 0, 3, fun r => some ⟨w.heap.size + r, 0, none⟩, fun r => w.heap.size + r, fun _ => 0, fun _ => 3, rfl, by omega, by omega, fun _ => rfl, fun r hr => ⟨?_, Nat.le_refl _, (by decide : (3 : Nat) ≤ 9223372036854775807), fun _ => rfl, fun k hk => ?_⟩⟩
  · have := cell_new (((w.alloc (.cells #[.int .i64 0, .int .i64 5, .int .i64 0] 3)).alloc (.cells #[.int .i64 0, .int .i64 0, .int .i64 7] 3)).alloc (.cells #[.int .i64 0, .int .i64 9, .int .i64 0] 3))
      #[.slice (some ⟨w.heap.size, 0, none⟩) 3 3, .slice (some ⟨w.heap.size + 1, 0, none⟩) 3 3, .slice (some ⟨w.heap.size + 1 + 1, 0, none⟩) 3 3] 32 (0 + r)
    simp only [World.size_alloc] at this
    rw [this]
    match r, hr with
    | 0, _ => rfl
    | 1, _ => rfl
    | 2, _ => rfl
  · match r, hr with
    | 0, _ =>
      rw [cell_keep _ _ (by simp only [World.size_alloc]; omega), cell_keep _ _ (by simp only [World.size_alloc]; omega), cell_keep _ _ (by simp only [World.size_alloc]; omega)]
      show (w.alloc _).cell? ⟨w.heap.size, _, none⟩ = _
      rw [cell_new]
      match k, hk with
      | 0, _ => rfl
      | 1, _ => rfl
      | 2, _ => rfl
    | 1, _ =>
      rw [cell_keep _ _ (by simp only [World.size_alloc]; omega), cell_keep _ _ (by simp only [World.size_alloc]; omega)]
      have := cell_new (w.alloc (.cells #[.int .i64 0, .int .i64 5, .int .i64 0] 3)) #[.int .i64 0, .int .i64 0, .int .i64 7] 3 (0 + k)
      simp only [World.size_alloc] at this
      rw [this]
      match k, hk with
      | 0, _ => rfl
      | 1, _ => rfl
      | 2, _ => rfl
    | 2, _ =>
      rw [cell_keep _ _ (by simp only [World.size_alloc]; omega)]
      have := cell_new ((w.alloc (.cells #[.int .i64 0, .int .i64 5, .int .i64 0] 3)).alloc (.cells #[.int .i64 0, .int .i64 0, .int .i64 7] 3)) #[.int .i64 0, .int .i64 9, .int .i64 0] 3 (0 + k)
      simp only [World.size_alloc] at this
      rw [this]
      match k, hk with
      | 0, _ => rfl
      | 1, _ => rfl
      | 2, _ => rfl

def True1 (w : World) (e : Ending) (w' : World) : Prop := e = .returned (.bool true) ∧ Below w.heap.size w w'

set_option maxHeartbeats 400000 in
theorem awake_any (w : World) : Calls Try.prog 10 #[] w (True1 w) := by
  go_enter Try.func10, Try.ntmps10
  go_wp2_with fail
  refine (cyclic_yes vld_awake (mat_awake w)).mono ?_
  rintro e w1 ⟨bk, hbk, rfl, hrow, hb⟩
  have hb0 : Below w.heap.size w w1 := by
    refine Below.trans ?_ (hb.mono (by simp only [World.size_alloc]; omega))
    exact ((((Below.refl _ _).alloc (Nat.le_refl _) _).alloc (by simp only [World.size_alloc]; omega) _).alloc (by simp only [World.size_alloc]; omega) _).alloc (by simp only [World.size_alloc]; omega) _
  have HB := Lib.hid hb0
  have HR := Lib.hid hrow
  clear hb hrow hb0 hbk
  go_wp2_with fail
  refine (sameBools_any (n := 3) (f := bAwake) (RowR.of_rowIs ((HR.out.congr fun i hi => by rw [cB_awake i hi]).alloc _) (by omega)) ?_).mono ?_
  · refine ⟨_, w1.heap.size, 0, 3, rfl, by omega, by omega, fun _ => rfl, fun i hi => ?_⟩
    rw [cell_new]
    match i, hi with
    | 0, _ => rfl
    | 1, _ => rfl
    | 2, _ => rfl
  rintro e w2 ⟨rfl, hb2⟩
  go_wp2
  go_ret
  exact ⟨rfl, HB.out.trans (((Below.refl _ _).alloc (Nat.le_refl _) _ |>.trans (hb2.mono (by simp))).mono HB.out.size)⟩
end Go.Proofs.Ytnkdcmloehandaa
