import Derived.Test.YteionhenpehogaaGreatDoorPlainDil
import Derived.Test.YteionhenpehogaaGreatDoorCheckS
import Derived.Test.YteionhenpehogaaGreatDoorIvls
namespace Go.Proofs.YteionhenpehogaaGreatDoor
open Go.RowKit Tally Graph.Plain
theorem ownD_shares {N : Nat} {Z : Nat → Nat → Int} (h : Sh N Z) : Shares N Z (fun e => dirE N Z e + dirO N Z e) :=
 ⟨fun i k hi hk => (h.range i k hi hk).1, fun e h1 he => Int.add_nonneg ((dirE_shares h).dpos e h1 he) ((dirO_shares h).dpos e h1 he), fun e h1 he => by
  show _ + (dirE N Z e + dirO N Z e) ≤ 10000
  rw [dirE_pos h1, dirO_pos h1]
  have h2 := isum_split (f := fun i => Z i e) h.one
  omega⟩
theorem ownD_full {N : Nat} {Z : Nat → Nat → Int} (h : Sh N Z) : ∀ e, 1 ≤ e → e < N → isum N (fun h => if h = 0 then 0 else Z h e) + (dirE N Z e + dirO N Z e) = 10000 := fun e h1 he => by
 rw [dirE_pos h1, dirO_pos h1]
 have h2 := isum_split (f := fun i => Z i e) h.one
 omega
theorem own_sum {N : Nat} {Z : Nat → Nat → Int} {o p : Nat → Bool} {x y : Nat → Rat} (h : Sh N Z) (ho : IsReach N (inner Z) (direct N (dirE N Z)) o) (hp : IsReach N (inner Z) (direct N (dirO N Z)) p) (hx : Sol N Z (dirE N Z) o x) (hy : Sol N Z (dirO N Z) p y) {e : Nat} (he : e < N) :
  ¬ 0 < cmpQ (eff x e + (if e = 0 then 0 else y e)) 1 := by
 have key : eff x e + (if e = 0 then 0 else y e) ≤ 1 := by
  unfold eff
  by_cases q : e = 0
  ·rw [if_pos q, if_pos q]; decide +kernel
  ·rw [if_neg q, if_neg q]
   have k1 := whole_nonneg (ownD_shares h) (reach_add (dirE_shares h) (dirO_shares h) ho hp) (Sol.add (dirE_shares h) (dirO_shares h) ho hp hx hy) (ownD_full h) e he
   have k1' : 0 ≤ 1 - (x e + y e) := k1
   grind
 intro hc
 rcases cmpQ_three (eff x e + (if e = 0 then 0 else y e)) 1 with q | q | q
 ·omega
 ·omega
 ·by_cases z : eff x e + (if e = 0 then 0 else y e) < 1
  ·have := cmpQ_neg.2 z; omega
  ·have z2 : eff x e + (if e = 0 then 0 else y e) = 1 := by grind
   have := cmpQ_zero.2 z2; omega
theorem eff_pos {N : Nat} {Z : Nat → Nat → Int} {o : Nat → Bool} {x : Nat → Rat} (h : Sh N Z) (ho : IsReach N (inner Z) (direct N (dirE N Z)) o) (hx : Sol N Z (dirE N Z) o x) {e : Nat} (he : e < N) : 0 < (eff x e).num.sign ↔ e = 0 ∨ o e = true := by
 have e1 : 0 < (eff x e).num.sign ↔ 0 < eff x e := by
  rw [Int.sign_pos_iff, Rat.lt_iff]; simp
 rw [e1]
 unfold eff
 by_cases q : e = 0
 ·rw [if_pos q]; exact ⟨fun _ => .inl q, fun _ => by decide +kernel⟩
 ·rw [if_neg q, Sol.pos_iffD (dirE_shares h) ho hx he]
  exact ⟨.inr, fun z => z.resolve_left q⟩
theorem own_ctl {N : Nat} {Z : Nat → Nat → Int} {o s : Nat → Bool} {x : Nat → Rat} (h : Sh N Z) (ho : IsReach N (inner Z) (direct N (dirE N Z)) o) (hx : Sol N Z (dirE N Z) o x) (hs : IsCtl N Z s) {e : Nat} (he : e < N) (hc : s e = true) : 0 < (eff x e).num.sign :=
 (eff_pos h ho hx he).2 (ctl_some hs (fun _ h1 _ => dirE_pos h1) ho e he hc)
theorem ownZ_none {N : Nat} {Z : Nat → Nat → Int} {jt o s : Nat → Bool} {x : Nat → Rat} (h : Sh N Z) (ho : IsReach N (inner Z) (direct N (dirE N Z)) o) (hx : Sol N Z (dirE N Z) o x) (hs : IsCtl N Z s) {e : Nat} (he : e < N) (hc : ¬ 0 < (eff x e).num.sign) : mth N Z jt s e = 0 := by
 have h1 : s e ≠ true := fun q => hc (own_ctl h ho hx hs he q)
 have h2 : ¬ (e = 0 ∨ o e = true) := fun q => hc ((eff_pos h ho hx he).2 q)
 have h3 := ctl_none (fun a b ha hb => (h.range a b ha hb).1) hs (fun _ h1 _ => dirE_pos h1) ho (show 1 ≤ e by omega) he (by cases q : o e; rfl; exact absurd (.inr q) h2)
 unfold mth
 rw [if_neg h1, if_pos (by omega)]
end Go.Proofs.YteionhenpehogaaGreatDoor
