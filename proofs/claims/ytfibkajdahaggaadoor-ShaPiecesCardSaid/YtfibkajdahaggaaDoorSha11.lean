import Derived.Test.YtfibkajdahaggaaDoorSha10
import Derived.Test.YtfibkajdahaggaaDoorEq
namespace Go.Proofs.YtfibkajdahaggaaDoor
open Go Go.RowKit
attribute [local irreducible] WL WC WX WQ WK Yld Eff Ef0 Fn
/-! a digest's digits are parsed as it -/
def pairV (x y : UInt8) : Option UInt8 := match digV x, digV y with
  | some a, some b => some (u8v (bits .or .u8 (shlV .u8 (a : Int) 4) (b : Int)))
  | _, _ => none
theorem pair_hex (b : UInt8) : pairV ((hexB b).getD 0 0) ((hexB b).getD 1 0) = some b := by
  have h : (List.range 256).all (fun n => pairV ((hexB (UInt8.ofNat n)).getD 0 0) ((hexB (UInt8.ofNat n)).getD 1 0) == some (UInt8.ofNat n)) = true := by kernel_rfl
  have := List.all_eq_true.mp h b.toNat (List.mem_range.mpr b.toNat_lt)
  have e : UInt8.ofNat b.toNat = b := UInt8.ofNat_toNat
  rw [e] at this
  simpa using this
theorem parN_step (s : List UInt8) (n : Nat) : parN s (n + 1) = match parN s n, pairV (s.getD (2 * n) 0) (s.getD (2 * n + 1) 0) with
    | some l, some x => some (l ++ [x])
    | _, _ => none := by
  rw [parN, pairV]
  cases parN s n <;> cases digV (s.getD (2 * n) 0) <;> cases digV (s.getD (2 * n + 1) 0) <;> rfl
theorem hexS_at : ∀ (l : List UInt8) (i : Nat), i < l.length → (hexS l).getD (2 * i) 0 = (hexB (l.getD i 0)).getD 0 0 ∧ (hexS l).getD (2 * i + 1) 0 = (hexB (l.getD i 0)).getD 1 0
  | [], i, h => by simp at h
  | b :: l, 0, _ => ⟨rfl, rfl⟩
  | b :: l, i + 1, h => by
    have := hexS_at l i (by simpa using h)
    have e1 : (hexS (b :: l)).getD (2 * (i + 1)) 0 = (hexS l).getD (2 * i) 0 := rfl
    have e2 : (hexS (b :: l)).getD (2 * (i + 1) + 1) 0 = (hexS l).getD (2 * i + 1) 0 := rfl
    rw [e1, e2]
    exact this
theorem parN_hex (l : List UInt8) : ∀ n, n ≤ l.length → parN (hexS l) n = some (l.take n)
  | 0, _ => rfl
  | n + 1, h => by
    have ih := parN_hex l n (by omega)
    have hp := hexS_at l n (by omega)
    rw [parN_step, ih, hp.1, hp.2, pair_hex]
    show some (l.take n ++ [l.getD n 0]) = _
    rw [List.take_succ_eq_append_getElem (by omega)]
    simp [List.getD, show n < l.length by omega]
theorem parS_hex (l : List UInt8) (h : l.length = 32) : parS (hexS l) = some l := by
  unfold parS
  rw [if_pos (by rw [hexS_len]; omega), parN_hex l 32 (by omega), List.take_of_length_le (by omega)]
theorem parR_hex (E : Value) (l : List UInt8) (h : l.length = 32) : parR E (hexS l) = .tuple #[.agg ⟨l.map vb⟩, .nilIface] := by
  unfold parR
  rw [parS_hex l h]
/-- the state that has taken bytes in -/
def StB (w : World) (g : Nat) (b : List UInt8) : Prop := St w g (wrS h0s [] b).1 (wrS h0s [] b).2 (b.length : Int)
theorem StB.keep {w w' : World} {g : Nat} {b : List UInt8} {row : Option Nat} (h : StB w g b) (hg : w.grownBy w' row) (hr : row ≠ some g) (hr2 : ∀ q, row = some q → w.heap.size ≤ q) : StB w' g b := by
  obtain ⟨q1, A', c', q2, q3, q4⟩ := h
  refine ⟨q1, A', c', q2.keep hg hr, q3.keep' hg (fun hne q hq e => ?_), q4⟩
  have := q3.lt hne e
  have := hr2 q hq
  omega
theorem StB.grown {w w' : World} {g : Nat} {b : List UInt8} (h : StB w g b) (hg : w.grownBy w' none) : StB w' g b := h.keep hg (by simp) (by simp)
theorem writeB_fn (g : Nat) (a b : List UInt8) (A2 : Option Addr) (c2 : Nat) (w : World) (hS : StB w g a) (hR2 : Rd vb w A2 c2 b) (hA2 : b ≠ [] → blk A2 ≠ some g) (ha : a.length ≤ 1000000) (hb : b.length ≤ 1000000) :
    Fn Tryd.prog 10 ⟨[.pointer (some ⟨g, 0, none⟩), .slice A2 b.length c2]⟩ w fun v w' => v = .tuple #[] ∧ StB w' g (a ++ b) ∧ w.grownBy w' (some g) :=
  (write_fn g _ _ _ A2 c2 b w hS hR2 hA2 (by omega) (by omega) (by have := wrS_len h0s [] a; omega) hb).mono (fun v w' ⟨h1, h2, h3⟩ => ⟨h1, by
    unfold StB
    rw [wrS_app, List.length_append]
    have e : (((a.length + b.length : Nat)) : Int) = (a.length : Int) + (b.length : Int) := by omega
    rw [e]
    exact h2, h3⟩)
theorem sumB_fn (g : Nat) (b : List UInt8) (w : World) (hS : StB w g b) (hb : b.length ≤ 1000000) : Fn Tryd.prog 12 ⟨[.pointer (some ⟨g, 0, none⟩)]⟩ w fun v w' => v = .agg ⟨(shaS b).map vb⟩ ∧ w.grownBy w' none :=
  sum_fn g _ _ _ w hS (by omega) (by omega) (by have := wrS_len h0s [] b; omega)
theorem newB_fn (w : World) : Fn Tryd.prog 9 ⟨[]⟩ w fun v w' => ∃ g, v = .pointer (some ⟨g, 0, none⟩) ∧ StB w' g [] ∧ w.grownBy w' none ∧ w.heap.size ≤ g :=
  (new_fn w).mono (fun v w' ⟨g, h1, h2, h3, h4⟩ => ⟨g, h1, ⟨rfl, none, 0, h2, Rd.nil _ _ (by simp [maxLen]), by simp [blk]⟩, h3, h4⟩)
end Go.Proofs.YtfibkajdahaggaaDoor
