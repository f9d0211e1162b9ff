/- The contracts of package num (walked by hand) in the generator's form. -/
import Derived.Test.YtfibkajdahaggaaDoorErr
import Derived.Test.YtfibkajdahaggaaDoorNum12
import Derived.Test.YtfibkajdahaggaaDoorNum13
import Derived.Test.YtfibkajdahaggaaDoorNum14
import Derived.Test.YtfibkajdahaggaaDoorNum15
import Derived.Test.YtfibkajdahaggaaDoorNum16
import Derived.Test.YtfibkajdahaggaaDoorNum7
import Derived.Test.YtfibkajdahaggaaDoorNum9
import Derived.Test.YtfibkajdahaggaaDoorPar
namespace Go.Proofs.YtfibkajdahaggaaDoor
open Go Go.RowKit
abbrev RNum (K : Int → Nat → Prop) (w : World) (v : Value) (w' : World) : Prop := w.grownBy w' none ∧ ∃ (a b : Value) (z : Int) (m : Nat), v = .agg ⟨[a, b]⟩ ∧ Nm w' (.agg ⟨[a, b]⟩) z m ∧ a.oneCell' = true ∧ b.oneCell' = true ∧ K z m
theorem rnum {K : Int → Nat → Prop} {w w' : World} {v : Value} {z : Int} {m : Nat} (h : Nm w' v z m) (hg : w.grownBy w' none) (H : K z m) : RNum K w v w' := by
  obtain ⟨a, b, rfl, ha, hb⟩ := h.agg
  exact ⟨hg, a, b, z, m, rfl, h, ha, hb, H⟩
def M_num_Num_Add (x : Int) (m : Nat) (y : Int) (k : Nat) (K : Int → Nat → Prop) : Prop := max m k ≤ 900000 ∧ K (x + y) (max m k + 1)
theorem W_num_Num_Add {w : World} {a b c d : Value} {x y : Int} {m k : Nat} {K : Int → Nat → Prop} (h1 : Nm w (.agg ⟨[a, b]⟩) x m) (h2 : Nm w (.agg ⟨[c, d]⟩) y k) (H : M_num_Num_Add x m y k K) : Fn Tryd.prog 24 ⟨[.agg ⟨[a, b]⟩, .agg ⟨[c, d]⟩]⟩ w (RNum K w) :=
  (add_fn _ _ x y (max m k) w (h1.mono (by omega)) (h2.mono (by omega)) H.1).mono fun _ _ ⟨hN, hg⟩ => rnum hN hg H.2
def M_num_Num_Sub (x : Int) (m : Nat) (y : Int) (k : Nat) (K : Int → Nat → Prop) : Prop := max m k ≤ 900000 ∧ K (x - y) (max m k + 1)
theorem W_num_Num_Sub {w : World} {a b c d : Value} {x y : Int} {m k : Nat} {K : Int → Nat → Prop} (h1 : Nm w (.agg ⟨[a, b]⟩) x m) (h2 : Nm w (.agg ⟨[c, d]⟩) y k) (H : M_num_Num_Sub x m y k K) : Fn Tryd.prog 27 ⟨[.agg ⟨[a, b]⟩, .agg ⟨[c, d]⟩]⟩ w (RNum K w) :=
  (sub_fn _ _ x y (max m k) w (h1.mono (by omega)) (h2.mono (by omega)) H.1).mono fun _ _ ⟨hN, hg⟩ => rnum hN hg H.2
def M_num_Num_Mul (x : Int) (m : Nat) (y : Int) (k : Nat) (K : Int → Nat → Prop) : Prop := max m k ≤ 400000 ∧ K (x * y) (2 * max m k)
theorem W_num_Num_Mul {w : World} {a b c d : Value} {x y : Int} {m k : Nat} {K : Int → Nat → Prop} (h1 : Nm w (.agg ⟨[a, b]⟩) x m) (h2 : Nm w (.agg ⟨[c, d]⟩) y k) (H : M_num_Num_Mul x m y k K) : Fn Tryd.prog 26 ⟨[.agg ⟨[a, b]⟩, .agg ⟨[c, d]⟩]⟩ w (RNum K w) :=
  (mul_nm _ _ x y (max m k) w (h1.mono (by omega)) (h2.mono (by omega)) H.1).mono fun _ _ ⟨hN, hg⟩ => rnum (hN.mono (by omega)) hg H.2
def M_num_Num_Neg (x : Int) (m : Nat) (K : Int → Nat → Prop) : Prop := m ≤ 1000000 ∧ K (-x) m
theorem W_num_Num_Neg {w : World} {a b : Value} {x : Int} {m : Nat} {K : Int → Nat → Prop} (h1 : Nm w (.agg ⟨[a, b]⟩) x m) (H : M_num_Num_Neg x m K) : Fn Tryd.prog 31 ⟨[.agg ⟨[a, b]⟩]⟩ w (RNum K w) :=
  (neg_fn _ x m w h1 H.1).mono fun _ _ ⟨hN, hg⟩ => rnum hN hg H.2
def M_num_Of (n : Int) (K : Int → Nat → Prop) : Prop := -9223372036854775808 ≤ n ∧ n ≤ 9223372036854775807 ∧ K n 3
theorem W_num_Of {w : World} {n : Int} {K : Int → Nat → Prop} (H : M_num_Of n K) : Fn Tryd.prog 33 ⟨[.int .i64 n]⟩ w (RNum K w) :=
  (of_fn n w H.1 H.2.1).mono fun _ _ ⟨hN, hg⟩ => rnum hN hg H.2.2
def M_num_Num_Cmp (x : Int) (m : Nat) (y : Int) (k : Nat) (K : Int → Prop) : Prop := max m k ≤ 900000 ∧ K (if x < y then -1 else if y < x then 1 else 0)
theorem W_num_Num_Cmp {w : World} {a b c d : Value} {x y : Int} {m k : Nat} {K : Int → Prop} (h1 : Nm w (.agg ⟨[a, b]⟩) x m) (h2 : Nm w (.agg ⟨[c, d]⟩) y k) (H : M_num_Num_Cmp x m y k K) : Fn Tryd.prog 28 ⟨[.agg ⟨[a, b]⟩, .agg ⟨[c, d]⟩]⟩ w (fun v w' => w.grownBy w' none ∧ ∃ r : Int, v = .int .i64 r ∧ K r) :=
  (ncmp_fn _ _ x y (max m k) w (h1.mono (by omega)) (h2.mono (by omega)) H.1).mono fun _ _ ⟨hv, hg⟩ => ⟨hg, _, hv, H.2⟩
def M_num_Num_Text (x : Int) (m : Nat) (K : List UInt8 → Prop) : Prop := m ≤ 90000 ∧ K (txt x)
theorem W_num_Num_Text {w : World} {a b : Value} {x : Int} {m : Nat} {K : List UInt8 → Prop} (h1 : Nm w (.agg ⟨[a, b]⟩) x m) (H : M_num_Num_Text x m K) : Fn Tryd.prog 25 ⟨[.agg ⟨[a, b]⟩]⟩ w (fun v w' => w.grownBy w' none ∧ ∃ r : List UInt8, v = vs r ∧ K r) :=
  (text_fn _ x m w h1 H.1).mono fun _ _ ⟨hv, hg⟩ => ⟨hg, _, hv, H.2⟩
def M_num_Num_Div (x : Int) (m : Nat) (y : Int) (k : Nat) (K : Int → Nat → Bool → Prop) : Prop := max m k ≤ 90000 ∧ ∀ z, (y ≠ 0 → ∃ r, Floor x y z r) → K z (max m k + 4) (!decide (y = 0))
theorem W_num_Num_Div {w : World} {a b c d : Value} {x y : Int} {m k : Nat} {K : Int → Nat → Bool → Prop} (h1 : Nm w (.agg ⟨[a, b]⟩) x m) (h2 : Nm w (.agg ⟨[c, d]⟩) y k) (H : M_num_Num_Div x m y k K) : Fn Tryd.prog 29 ⟨[.agg ⟨[a, b]⟩, .agg ⟨[c, d]⟩]⟩ w
    (fun v w' => w.grownBy w' none ∧ ∃ (a b : Value) (z : Int) (m : Nat) (r : Bool), v = .tuple #[.agg ⟨[a, b]⟩, .bool r] ∧ Nm w' (.agg ⟨[a, b]⟩) z m ∧ a.oneCell' = true ∧ b.oneCell' = true ∧ K z m r) :=
  (div_fn _ _ x y (max m k) w (h1.mono (by omega)) (h2.mono (by omega)) H.1).mono fun _ _ ⟨⟨u, uz, hv, hN, hf⟩, hg⟩ => by
    obtain ⟨a, b, rfl, ha, hb⟩ := hN.agg
    exact ⟨hg, a, b, uz, _, _, hv, hN, ha, hb, H.2 uz hf⟩
def M_num_Num_Mod (x : Int) (m : Nat) (y : Int) (k : Nat) (K : Int → Nat → Bool → Prop) : Prop := max m k ≤ 90000 ∧ ∀ z, (y ≠ 0 → ∃ q, Floor x y q z) → K z (max m k + 4) (!decide (y = 0))
theorem W_num_Num_Mod {w : World} {a b c d : Value} {x y : Int} {m k : Nat} {K : Int → Nat → Bool → Prop} (h1 : Nm w (.agg ⟨[a, b]⟩) x m) (h2 : Nm w (.agg ⟨[c, d]⟩) y k) (H : M_num_Num_Mod x m y k K) : Fn Tryd.prog 30 ⟨[.agg ⟨[a, b]⟩, .agg ⟨[c, d]⟩]⟩ w
    (fun v w' => w.grownBy w' none ∧ ∃ (a b : Value) (z : Int) (m : Nat) (r : Bool), v = .tuple #[.agg ⟨[a, b]⟩, .bool r] ∧ Nm w' (.agg ⟨[a, b]⟩) z m ∧ a.oneCell' = true ∧ b.oneCell' = true ∧ K z m r) :=
  (mod_fn _ _ x y (max m k) w (h1.mono (by omega)) (h2.mono (by omega)) H.1).mono fun _ _ ⟨⟨u, uz, hv, hN, hf⟩, hg⟩ => by
    obtain ⟨a, b, rfl, ha, hb⟩ := hN.agg
    exact ⟨hg, a, b, uz, _, _, hv, hN, ha, hb, H.2 uz hf⟩
def M_num_Num_Int (x : Int) (m : Nat) (K : Int → Bool → Prop) : Prop := m ≤ 90000 ∧ (In64 x → K x true) ∧ (¬ In64 x → K 0 false)
theorem W_num_Num_Int {w : World} {a b : Value} {x : Int} {m : Nat} {K : Int → Bool → Prop} (h1 : Nm w (.agg ⟨[a, b]⟩) x m) (H : M_num_Num_Int x m K) : Fn Tryd.prog 38 ⟨[.agg ⟨[a, b]⟩]⟩ w (fun v w' => w.grownBy w' none ∧ ∃ (r : Int) (s : Bool), v = .tuple #[.int .i64 r, .bool s] ∧ K r s) :=
  (int_fn _ x m w h1 H.1).mono fun _ _ ⟨hv, hg⟩ => by
    rcases hv with ⟨h, rfl⟩ | ⟨h, rfl⟩
    · exact ⟨hg, _, _, rfl, H.2.1 h⟩
    · exact ⟨hg, _, _, rfl, H.2.2 h⟩
theorem Nm.zero {w : World} : Nm w (.agg ⟨[.bool false, .slice none 0 0]⟩) 0 0 := ⟨false, none, 0, [], rfl, Rd.nil _ _ (by simp [maxLen]), fun i => by simp, by simp [Can], by simp, (fun h => by cases h), rfl⟩
def M_num_Parse (s : List UInt8) (K : Int → Nat → Er → Prop) : Prop := s.length ≤ maxLen ∧ (shape s = true → (cutm s).length ≤ 2400 → K (sval s) (cutm s).length .ok) ∧ (shape s = true → 2400 < (cutm s).length → K 0 0 (.e 7)) ∧ (shape s = false → K 0 0 (.e 12))
theorem W_num_Parse {S : List Nat} {w : World} {s : List UInt8} {K : Int → Nat → Er → Prop} (hG : GOK S w) (h7 : 7 ∈ S) (h12 : 12 ∈ S) (H : M_num_Parse s K) : Fn Tryd.prog 23 ⟨[vs s]⟩ w
    (fun v w' => w.grownBy w' none ∧ ∃ (a b : Value) (z : Int) (m : Nat) (u : Value) (e : Er), v = .tuple #[.agg ⟨[a, b]⟩, u] ∧ Nm w' (.agg ⟨[a, b]⟩) z m ∧ ErrR S w' u e ∧ a.oneCell' = true ∧ b.oneCell' = true ∧ K z m e) := by
  obtain ⟨E, hE, hE'⟩ := hG.get 12 0 h12 rfl
  obtain ⟨EL, hL, hL'⟩ := hG.get 7 1 h7 rfl
  refine (nparse_fn s E EL w H.1 hE hL).mono fun v w' ⟨hv, hg⟩ => ?_
  rcases hv with ⟨h1, h2, a, rfl, hN⟩ | ⟨h, rfl⟩
  · obtain ⟨x, y, rfl, hx, hy⟩ := hN.agg
    exact ⟨hg, x, y, _, _, .nilIface, .ok, rfl, hN, rfl, hx, hy, H.2.1 h1 h2⟩
  · cases hs : shape s with
    | true =>
      rcases h with h | h
      · rw [hs] at h; cases h
      · exact ⟨hg, _, _, 0, 0, EL, .e 7, by simp, Nm.zero, hL'.grown hg, rfl, rfl, H.2.2.1 hs h⟩
    | false => exact ⟨hg, _, _, 0, 0, E, .e 12, by simp, Nm.zero, hE'.grown hg, rfl, rfl, H.2.2.2 hs⟩
def M_smithylaw9_first (K : Bool → Prop) : Prop := K true
theorem W_smithylaw9_first {w : World} {K : Bool → Prop} (H : M_smithylaw9_first K) : Fn Tryd.prog 22 ⟨[]⟩ w (fun v w' => w.grownBy w' none ∧ ∃ r : Bool, v = .bool r ∧ K r) :=
  (nfirst_fn w).mono fun _ _ ⟨hv, hg⟩ => ⟨hg, _, hv, H⟩
def M_strings_TrimPrefix (s p : List UInt8) (K : List UInt8 → Prop) : Prop := s.length ≤ maxLen ∧ K (if isPre p s then s.drop p.length else s)
theorem W_strings_TrimPrefix {w : World} {s p : List UInt8} {K : List UInt8 → Prop} (H : M_strings_TrimPrefix s p K) : Fn Tryd.prog 63 ⟨[vs s, vs p]⟩ w (fun v w' => w = w' ∧ ∃ r : List UInt8, v = vs r ∧ K r) :=
  (strimPrefix_fn s p w H.1).mono fun _ _ ⟨hv, hg⟩ => ⟨hg.symm, _, hv, H.2⟩
end Go.Proofs.YtfibkajdahaggaaDoor
