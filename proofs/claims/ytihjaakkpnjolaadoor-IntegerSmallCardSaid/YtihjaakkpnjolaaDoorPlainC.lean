/- Plain steps of limb arithmetic, in lists: what one round of each loop does. -/
import Derived.Test.YtihjaakkpnjolaaDoorPlainB
namespace Tally

theorem getD_eq {l : List Nat} {k : Nat} (h : k < l.length) : l.getD k 0 = l[k] := by
  simp [List.getD, List.getElem?_eq_getElem h]

theorem getD_out {l : List Nat} {k : Nat} (h : l.length ≤ k) : l.getD k 0 = 0 := by
  simp [List.getD, List.getElem?_eq_none h]

/-- limbs under a bound -/
def Lim (B : Nat) (l : List Nat) : Prop := ∀ x ∈ l, x < B

theorem Lim.getD {B : Nat} {l : List Nat} (h : Lim B l) (hB : 0 < B) (k : Nat) : l.getD k 0 < B := by
  by_cases hk : k < l.length
  · rw [getD_eq hk]; exact h _ (List.getElem_mem hk)
  · rw [getD_out (by omega)]; exact hB

theorem Lim.set {B : Nat} {l : List Nat} (h : Lim B l) {x : Nat} (hx : x < B) (k : Nat) : Lim B (l.set k x) := by
  intro y hy
  rcases List.mem_or_eq_of_mem_set hy with q | q
  · exact h y q
  · rw [q]; exact hx

theorem Lim.take {B : Nat} {l : List Nat} (h : Lim B l) (k : Nat) : Lim B (l.take k) := fun x hx => h x (List.mem_of_mem_take hx)
theorem Lim.drop {B : Nat} {l : List Nat} (h : Lim B l) (k : Nat) : Lim B (l.drop k) := fun x hx => h x (List.mem_of_mem_drop hx)
theorem Lim.zeros {B : Nat} (hB : 0 < B) (n : Nat) : Lim B (List.replicate n 0) := fun x hx => by
  rw [List.eq_of_mem_replicate hx]; exact hB
theorem Lim.append {B : Nat} {l m : List Nat} (h : Lim B l) (k : Lim B m) : Lim B (l ++ m) := fun x hx => by
  rcases List.mem_append.1 hx with q | q
  · exact h x q
  · exact k x q
theorem Lim.single {B x : Nat} (h : x < B) : Lim B [x] := fun y hy => by simp at hy; omega
theorem Lim.trimZ {B : Nat} {l : List Nat} (h : Lim B l) : Lim B (trimZ l) := (canon_trimZ B l h).1

theorem val_take_getD (B : Nat) (l : List Nat) (k : Nat) : val B (l.take (k + 1)) = val B (l.take k) + B ^ k * l.getD k 0 := by
  by_cases hk : k < l.length
  · rw [val_take_succ B l k hk, getD_eq hk]
  · rw [List.take_of_length_le (by omega), List.take_of_length_le (by omega), getD_out (by omega)]; simp

theorem val_set_getD (B : Nat) (l : List Nat) (k x : Nat) (h : k < l.length) : val B (l.set k x) + B ^ k * l.getD k 0 = val B l + B ^ k * x := by
  rw [getD_eq h]; exact val_set B l k x h

theorem val_drop_getD (B : Nat) (l : List Nat) (k : Nat) (h : k < l.length) : val B (l.drop k) = l.getD k 0 + B * val B (l.drop (k + 1)) := by
  rw [getD_eq h, List.drop_eq_getElem_cons h]; rfl

theorem getD_of_drop {l m : List Nat} {k : Nat} (h : l.drop k = m.drop k) (i : Nat) (hi : k ≤ i) : l.getD i 0 = m.getD i 0 := by
  have e := congrArg (fun q => q[i - k]?) h
  simp only [List.getElem?_drop, show k + (i - k) = i by omega] at e
  simp [List.getD, e]

theorem drop_set {l : List Nat} {k x : Nat} : (l.set k x).drop (k + 1) = l.drop (k + 1) := by
  rw [List.drop_set]; simp

theorem take_set {l : List Nat} {k x : Nat} : (l.set k x).take k = l.take k := by
  rw [List.take_set]; exact List.set_eq_of_length_le (by simp; omega)

/-- one limb's quotient and remainder at a place -/
theorem place_div (B P n : Nat) : P * n = P * (n % B) + P * B * (n / B) := by
  conv => lhs; rw [← Nat.mod_add_div n B]
  rw [Nat.mul_add, Nat.mul_assoc]

theorem pow_succ' (B k : Nat) : B ^ (k + 1) = B ^ k * B := Nat.pow_succ B k

/-! ### the sum -/

theorem plus_step {B : Nat} {L a b : List Nat} {k c : Nat} (hk : k < L.length) (hd : L.drop k = a.drop k)
    (h : val B L + B ^ k * c = val B a + val B (b.take k)) :
    val B (L.set k ((a.getD k 0 + c + b.getD k 0) % B)) + B ^ (k + 1) * ((a.getD k 0 + c + b.getD k 0) / B) = val B a + val B (b.take (k + 1)) := by
  have e := val_set_getD B L k ((a.getD k 0 + c + b.getD k 0) % B) hk
  rw [getD_of_drop hd k (Nat.le_refl _)] at e
  have p := place_div B (B ^ k) (a.getD k 0 + c + b.getD k 0)
  rw [val_take_getD, pow_succ']
  generalize (a.getD k 0 + c + b.getD k 0) % B = x at *
  generalize (a.getD k 0 + c + b.getD k 0) / B = y at *
  grind

/-! ### the difference -/

/-- the limb n is taken from x, with the base lent where it must be -/
theorem minus_step {B : Nat} {L a b : List Nat} {k c x c' : Nat} (hk : k < L.length) (hd : L.drop k = a.drop k)
    (h : val B L + val B (b.take k) = val B a + B ^ k * c) (hx : x + (b.getD k 0 + c) = a.getD k 0 + B * c') :
    val B (L.set k x) + val B (b.take (k + 1)) = val B a + B ^ (k + 1) * c' := by
  have e := val_set_getD B L k x hk
  rw [getD_of_drop hd k (Nat.le_refl _)] at e
  rw [val_take_getD, pow_succ']
  grind

/-! ### the product -/

theorem times_step {B : Nat} {L b : List Nat} {i k c x T : Nat} (hk : i + k < L.length)
    (h : val B L + B ^ (i + k) * c = T + B ^ i * (x * val B (b.take k))) :
    val B (L.set (i + k) ((x * b.getD k 0 + L.getD (i + k) 0 + c) % B)) + B ^ (i + (k + 1)) * ((x * b.getD k 0 + L.getD (i + k) 0 + c) / B) = T + B ^ i * (x * val B (b.take (k + 1))) := by
  have e := val_set_getD B L (i + k) ((x * b.getD k 0 + L.getD (i + k) 0 + c) % B) hk
  have p := place_div B (B ^ (i + k)) (x * b.getD k 0 + L.getD (i + k) 0 + c)
  rw [val_take_getD, show i + (k + 1) = (i + k) + 1 by omega, pow_succ']
  generalize (x * b.getD k 0 + L.getD (i + k) 0 + c) % B = m at *
  generalize (x * b.getD k 0 + L.getD (i + k) 0 + c) / B = d at *
  rw [Nat.pow_add] at *
  grind

theorem carry_step {B : Nat} {L : List Nat} {k c T : Nat} (hk : k < L.length) (h : val B L + B ^ k * c = T) :
    val B (L.set k ((L.getD k 0 + c) % B)) + B ^ (k + 1) * ((L.getD k 0 + c) / B) = T := by
  have e := val_set_getD B L k ((L.getD k 0 + c) % B) hk
  have p := place_div B (B ^ k) (L.getD k 0 + c)
  rw [pow_succ']
  generalize (L.getD k 0 + c) % B = m at *
  generalize (L.getD k 0 + c) / B = d at *
  grind

/-- a carry never stands behind the last limb -/
theorem carry_in {B n k c v T : Nat} (hc : 0 < c) (h : v + B ^ k * c = T) (hT : T < B ^ n) (hB : 0 < B) : k < n := by
  rcases Nat.lt_or_ge k n with q | q
  · exact q
  · have h1 : B ^ n ≤ B ^ k := Nat.pow_le_pow_right hB q
    have h2 : B ^ k * 1 ≤ B ^ k * c := Nat.mul_le_mul_left _ hc
    omega

theorem prod_lt {B : Nat} {a b : List Nat} (ha : Lim B a) (hb : Lim B b) (i : Nat) (hi : i ≤ a.length) : val B (a.take i) * val B b < B ^ (i + b.length) := by
  have h1 := val_lt B (a.take i) (ha.take i)
  rw [List.length_take, Nat.min_eq_left hi] at h1
  have h2 := val_lt B b hb
  rw [Nat.pow_add]
  exact Nat.mul_lt_mul'' h1 h2

/-- the product's rows so far, and one more -/
theorem rows_step {B : Nat} {a b : List Nat} {i : Nat} : val B (a.take i) * val B b + B ^ i * (a.getD i 0 * val B b) = val B (a.take (i + 1)) * val B b := by
  rw [val_take_getD, Nat.add_mul, Nat.mul_assoc]

/-! ### division by one limb -/

/-- Q holds the quotients of the places from k + 1 on; r is what is left of them -/
theorem short_step {B : Nat} {Q a : List Nat} {k r d T : Nat} (hk : k < Q.length) (h0 : Q.getD k 0 = 0)
    (h : val B Q * d + B ^ (k + 1) * r + val B (a.take (k + 1)) = T) :
    val B (Q.set k ((r * B + a.getD k 0) / d)) * d + B ^ k * ((r * B + a.getD k 0) % d) + val B (a.take k) = T := by
  have e := val_set_getD B Q k ((r * B + a.getD k 0) / d) hk
  rw [h0, Nat.mul_zero, Nat.add_zero] at e
  have p := Nat.div_add_mod (r * B + a.getD k 0) d
  rw [val_take_getD, pow_succ'] at h
  generalize (r * B + a.getD k 0) / d = x at *
  generalize (r * B + a.getD k 0) % d = y at *
  grind

end Tally
