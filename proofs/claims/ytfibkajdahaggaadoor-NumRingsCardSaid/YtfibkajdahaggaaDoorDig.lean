/- Decimal digits, plainly. -/
import Derived.Test.YtfibkajdahaggaaDoorNum0
namespace Go.Proofs.YtfibkajdahaggaaDoor
open Go Go.RowKit
/-- a digit's byte -/
def dc (n : Nat) : UInt8 := UInt8.ofNat (48 + n % 10)
theorem dc_toNat (n : Nat) : (dc n).toNat = 48 + n % 10 := by unfold dc; simp; omega
/-- k digits, the lowest first -/
def pd : Nat → Nat → List UInt8
  | 0, _ => []
  | k + 1, n => dc n :: pd k (n / 10)
/-- the digits of a number without needless ones, the lowest first -/
def dd (n : Nat) : List UInt8 := if h : n = 0 then [] else dc n :: dd (n / 10)
decreasing_by omega
theorem dd_zero : dd 0 = [] := by rw [dd]; simp
theorem dd_pos {n : Nat} (h : 0 < n) : dd n = dc n :: dd (n / 10) := by rw [dd]; simp [Nat.ne_of_gt h]
theorem pd_dd : ∀ (k x y : Nat), x < 10 ^ k → 0 < y → dd (x + 10 ^ k * y) = pd k x ++ dd y
  | 0, x, y, hx, _ => by
    have : x = 0 := by simpa using hx
    subst this; simp [pd]
  | k + 1, x, y, hx, hy => by
    have hp : 0 < 10 ^ k := Nat.pow_pos (by omega)
    have h1 : 0 < x + 10 ^ (k + 1) * y := by
      have : 0 < 10 ^ (k + 1) * y := Nat.mul_pos (Nat.pow_pos (by omega)) hy
      omega
    have e : 10 ^ (k + 1) * y = 10 * (10 ^ k * y) := by rw [Nat.pow_succ]; grind
    rw [dd_pos h1, e]
    have h2 : (x + 10 * (10 ^ k * y)) / 10 = x / 10 + 10 ^ k * y := by omega
    have h3 : dc (x + 10 * (10 ^ k * y)) = dc x := by unfold dc; congr 2; omega
    rw [h2, h3, pd_dd k (x / 10) y (by rw [Nat.pow_succ] at hx; omega) hy]
    rfl
/-- what is still to come of a number whose lower part is v (of 9 - k digits), the upper one y -/
def rest (k v y : Nat) : List UInt8 := if y = 0 then dd v else pd (9 - k) v ++ dd y
theorem rest_start (x y : Nat) (hx : x < 1000000000) : dd (x + 1000000000 * y) = rest 0 x y := by
  unfold rest
  split
  · rename_i h; subst h; simp
  · exact pd_dd 9 x y (by omega) (by omega)
theorem rest_step (k v y : Nat) (hk : k < 9) (h : 0 < v ∨ 0 < y) : rest k v y = dc v :: rest (k + 1) (v / 10) y := by
  unfold rest
  split
  · exact dd_pos (by omega)
  · rw [show 9 - k = (9 - (k + 1)) + 1 by omega]; rfl
theorem rest_end (k v y : Nat) (hk : k ≤ 9) (hv : v < 10 ^ (9 - k)) (h : ¬ (k < 9 ∧ (0 < v ∨ 0 < y))) : rest k v y = dd y := by
  unfold rest
  rcases Nat.lt_or_ge k 9 with h9 | h9
  · have : v = 0 ∧ y = 0 := by omega
    rw [this.1, this.2]; simp
  · obtain rfl : k = 9 := by omega
    have : v = 0 := by simpa using hv
    subst this
    split
    · rename_i h; rw [h]
    · simp [pd]
theorem drop_cons' (l : List Nat) (i : Nat) (h : i < l.length) : val (l.drop i) = l.getD i 0 + 1000000000 * val (l.drop (i + 1)) := by
  rw [List.drop_eq_getElem_cons h]; simp [List.getD, h, val]
theorem drop_pos {l : List Nat} (hC : Can l) (i : Nat) : i < l.length ↔ 0 < val (l.drop i) := by
  constructor
  · intro h
    have hne : l.drop i ≠ [] := by intro e; have := congrArg List.length e; simp at this; omega
    have hC2 : Can (l.drop i) := fun _ => by
      have h1 := hC (by intro e; subst e; simp at h)
      rw [List.length_drop]
      have : (l.drop i).getD (l.length - i - 1) 0 = l.getD (l.length - 1) 0 := by
        simp only [List.getD, List.getElem?_drop]; congr 2; omega
      rw [this]; exact h1
    have := (val_zero hC2)
    rcases Nat.eq_zero_or_pos (val (l.drop i)) with e | e
    · exact absurd (this.mp e) hne
    · exact e
  · intro h
    rcases Nat.lt_or_ge i l.length with h1 | h1
    · exact h1
    · rw [List.drop_eq_nil_of_le h1] at h; simp [val] at h
/-- a number's text -/
def txt (x : Int) : List UInt8 := if x = 0 then [48] else (if x < 0 then [45] else []) ++ (dd x.natAbs).reverse
theorem dd_len : ∀ (m n : Nat), n < 10 ^ m → (dd n).length ≤ m
  | 0, n, h => by
    have : n = 0 := by simpa using h
    subst this; simp [dd_zero]
  | m + 1, n, h => by
    rcases Nat.eq_zero_or_pos n with e | e
    · subst e; simp [dd_zero]
    · rw [dd_pos e]
      have := dd_len m (n / 10) (by rw [Nat.pow_succ] at h; omega)
      simp; omega
end Go.Proofs.YtfibkajdahaggaaDoor
