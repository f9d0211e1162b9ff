/- A number's text, read. -/
import Derived.Test.YtfibkajdahaggaaDoorDig
import Derived.Test.YtfibkajdahaggaaDoorStrs
namespace Go.Proofs.YtfibkajdahaggaaDoor
open Go Go.RowKit
/-- what digits say, the highest first -/
def dval : List UInt8 → Nat := fun t => t.foldl (fun v c => v * 10 + (c.toNat - 48)) 0
theorem dval_from (b : List UInt8) : ∀ v, b.foldl (fun v c => v * 10 + (c.toNat - 48)) v = v * 10 ^ b.length + dval b := by
  induction b with
  | nil => intro v; simp [dval]
  | cons c b ih =>
    intro v
    have h1 := ih (v * 10 + (c.toNat - 48))
    have h2 := ih (0 * 10 + (c.toNat - 48))
    simp only [List.foldl_cons, List.length_cons, dval] at *
    rw [h1, h2, Nat.pow_succ]
    grind
theorem dval_app (a b : List UInt8) : dval (a ++ b) = dval a * 10 ^ b.length + dval b := by
  have := dval_from b (dval a)
  rw [← this]
  simp [dval]
theorem dval_push (a : List UInt8) (c : UInt8) : dval (a ++ [c]) = dval a * 10 + (c.toNat - 48) := by simp [dval]
def digB (c : UInt8) : Bool := decide (48 ≤ c.toNat ∧ c.toNat ≤ 57)
theorem dval_lt : ∀ {b : List UInt8}, b.all digB = true → dval b < 10 ^ b.length := by
  intro b
  induction b with
  | nil => intro _; simp [dval]
  | cons c b ih =>
    intro h
    simp only [List.all_cons, Bool.and_eq_true] at h
    have h1 := ih h.2
    have h2 := of_decide_eq_true h.1
    have := dval_app [c] b
    simp only [List.singleton_append] at this
    rw [this, List.length_cons, Nat.pow_succ]
    have e : dval [c] = c.toNat - 48 := by simp [dval]
    rw [e]
    have : (c.toNat - 48) * 10 ^ b.length ≤ 9 * 10 ^ b.length := Nat.mul_le_mul_right _ (by omega)
    omega
/-- a text's sign and its digits -/
def cutm (s : List UInt8) : List UInt8 := if isPre [45] s then s.drop 1 else s
def lead (t : List UInt8) (neg : Bool) : Bool := decide (t = [] ∨ (t.getD 0 0 = 48 ∧ (1 < t.length ∨ neg = true)))
def shape (s : List UInt8) : Bool := !lead (cutm s) (isPre [45] s) && (cutm s).all digB
def sval (s : List UInt8) : Int := bif isPre [45] s then -(dval (cutm s) : Int) else (dval (cutm s) : Int)
/-- the limb below e, and what is above -/
theorem limb_cut (t : List UInt8) (e : Nat) (he : e ≤ t.length) : dval (t.take e) = dval ((t.take e).drop (e - 9)) + (if 9 < e then 1000000000 * dval (t.take (e - 9)) else 0) := by
  split
  · rename_i h
    have h1 := dval_app (t.take (e - 9)) ((t.take e).drop (e - 9))
    have h2 : t.take (e - 9) ++ (t.take e).drop (e - 9) = t.take e := by
      have := List.take_append_drop (e - 9) (t.take e)
      rw [List.take_take, Nat.min_eq_left (by omega)] at this
      exact this
    rw [h2] at h1
    rw [h1]
    have h3 : ((t.take e).drop (e - 9)).length = 9 := by simp; omega
    rw [h3]; omega
  · rename_i h
    have h1 := dval_app (t.take (e - 9)) ((t.take e).drop (e - 9))
    have h2 : t.take (e - 9) ++ (t.take e).drop (e - 9) = t.take e := by
      have := List.take_append_drop (e - 9) (t.take e)
      rw [List.take_take, Nat.min_eq_left (by omega)] at this
      exact this
    rw [h2] at h1
    rcases Nat.lt_or_ge e 9 with h9 | h9
    · rw [show e - 9 = 0 by omega] at h1 ⊢
      simp
    · obtain rfl : e = 9 := by omega
      simp
end Go.Proofs.YtfibkajdahaggaaDoor
