/- Texts of this claim, joined by a program: GVa, Vis, See, PathG, Srt, PathH, Ord, GVs, VisS. -/
import Derived.Test.YtilphcippnfklaaDoorJ3
import Derived.Lib.SlicesCompact
import Derived.Sort.Walk0
/- Printed by a program (wip/vg): what the functions mean, plainly, and their walks. -/
namespace Go.Proofs.YtilphcippnfklaaDoor
open Go Go.RowKit
attribute [local irreducible] WL WC WX WQ WK WJ Yld Eff Ef0 Fn
def M_vis_group (s : List UInt8) (K : (List UInt8) → (List UInt8) → Bool → Prop) : Prop :=
 M_strings_CutPrefix s ([47, 47] : List UInt8) (fun (t120 : List UInt8) (t121 : Bool) =>
 M_strings_Cut t120 ([58] : List UInt8) (fun (t170 : List UInt8) (t171 : List UInt8) (t172 : Bool) =>
 ∃ J1 : Bool → Prop, ((((t121 && t172) = true → (((decide (t170 = ([] : List UInt8))) = true → J1 true) ∧
 ((decide (t170 = ([] : List UInt8))) = false → M_path_Valid t170 (fun (t32 : Bool) =>
 J1 t32)))) ∧
 ((t121 && t172) = false → J1 false))) ∧
 (∀ q2 : Bool, J1 q2 → K t170 t171 (q2 && ((decide (t171 = ([95, 95, 112, 107, 103, 95, 95] : List UInt8))) || (decide (t171 = ([95, 95, 115, 117, 98, 112, 97, 99, 107, 97, 103, 101, 115, 95, 95] : List UInt8))))))))

def M_vis_fair (s : List UInt8) (K : Bool → Prop) : Prop :=
 M_vis_group s (fun (t80 : List UInt8) (t81 : List UInt8) (t82 : Bool) =>
 K ((t82 || (decide (s = ([47, 47, 118, 105, 115, 105, 98, 105, 108, 105, 116, 121, 58, 112, 117, 98, 108, 105, 99] : List UInt8)))) || (decide (s = ([47, 47, 118, 105, 115, 105, 98, 105, 108, 105, 116, 121, 58, 112, 114, 105, 118, 97, 116, 101] : List UInt8)))))

def M_vis_lets (s : List UInt8) (pkg : List UInt8) (K : Bool → Prop) : Prop :=
 ((s = ([47, 47, 118, 105, 115, 105, 98, 105, 108, 105, 116, 121, 58, 112, 117, 98, 108, 105, 99] : List UInt8) → K true) ∧
 (¬ (s = ([47, 47, 118, 105, 115, 105, 98, 105, 108, 105, 116, 121, 58, 112, 117, 98, 108, 105, 99] : List UInt8)) → M_vis_group s (fun (t120 : List UInt8) (t121 : List UInt8) (t122 : Bool) =>
 ∃ J1 : Bool → Prop, (((t122 = true → (((decide (t120 = pkg)) = true → J1 true) ∧
 ((decide (t120 = pkg)) = false → (((decide (t121 = ([95, 95, 115, 117, 98, 112, 97, 99, 107, 97, 103, 101, 115, 95, 95] : List UInt8))) = true → M_path_Under pkg t120 (fun (t27 : Bool) =>
 J1 t27)) ∧
 ((decide (t121 = ([95, 95, 115, 117, 98, 112, 97, 99, 107, 97, 103, 101, 115, 95, 95] : List UInt8))) = false → J1 false))))) ∧
 (t122 = false → J1 false))) ∧
 (∀ q1 : Bool, J1 q1 → K q1))))

def M_vis_May_1 (s : List UInt8) (cap0_Pkg : List UInt8) (cap0_Name : List UInt8) (K : Bool → Prop) : Prop :=
 M_vis_lets s cap0_Pkg (fun (t3 : Bool) =>
 K t3)

def M_vis_Valid_1 (s : List UInt8) (K : Bool → Prop) : Prop :=
 M_vis_fair s (fun (t4 : Bool) =>
 K (!t4))

def M_slices_IndexFunc_string_string_vis_May_1 (s : List (List UInt8)) (cap0_Pkg : List UInt8) (cap0_Name : List UInt8) (K : Int → Prop) : Prop :=
 (s.length ≤ maxLen →
 Lp1 (fun (t8 : Int) k_1 => ((t8 < (s.length : Int) → (0 ≤ t8 ∧ t8 < (s.length : Nat)) ∧
 M_vis_May_1 (s.getD t8.toNat []) cap0_Pkg cap0_Name (fun (t16 : Bool) =>
 ((t16 = true → K t8) ∧
 (t16 = false → (In .i64 (t8 + (1 : Int))) ∧
 k_1 (t8 + (1 : Int)))))) ∧
 (¬ (t8 < (s.length : Int)) → K (-1 : Int)))) (0 : Int))

def M_slices_ContainsFunc_string_string_vis_May_1 (s : List (List UInt8)) (cap0_Pkg : List UInt8) (cap0_Name : List UInt8) (K : Bool → Prop) : Prop :=
 (s.length ≤ maxLen →
 M_slices_IndexFunc_string_string_vis_May_1 s cap0_Pkg cap0_Name (fun (t7 : Int) =>
 K (decide ((0 : Int) ≤ t7))))

def M_slices_IndexFunc_string_string_vis_Valid_1 (s : List (List UInt8)) (K : Int → Prop) : Prop :=
 (s.length ≤ maxLen →
 Lp1 (fun (t8 : Int) k_1 => ((t8 < (s.length : Int) → (0 ≤ t8 ∧ t8 < (s.length : Nat)) ∧
 M_vis_Valid_1 (s.getD t8.toNat []) (fun (t16 : Bool) =>
 ((t16 = true → K t8) ∧
 (t16 = false → (In .i64 (t8 + (1 : Int))) ∧
 k_1 (t8 + (1 : Int)))))) ∧
 (¬ (t8 < (s.length : Int)) → K (-1 : Int)))) (0 : Int))

def M_vis_Valid (specs : List (List UInt8)) (K : Er → Prop) : Prop :=
 (specs.length ≤ maxLen →
 M_slices_IndexFunc_string_string_vis_Valid_1 specs (fun (k : Int) =>
 (((0 : Int) ≤ k → ∃ n : Nat, (Er.e 5) = Er.e n ∧
 K (Er.at_ k n)) ∧
 (¬ ((0 : Int) ≤ k) → K Er.ok))))

def M_vis_Groups (specs : List (List UInt8)) (K : (List (List UInt8)) → Prop) : Prop :=
 (specs.length ≤ maxLen →
 Lp2 (fun (l : List (List UInt8)) (t8 : Int) k_1 => ((t8 < (specs.length : Int) → ∃ J1 : (List (List UInt8)) → Prop, ((0 ≤ t8 ∧ t8 < (specs.length : Nat)) ∧
 M_vis_fair (specs.getD t8.toNat []) (fun (t13 : Bool) =>
 ((t13 = true → ((l.length + (([specs.getD t8.toNat []] : List (List UInt8))).length) * 16 ≤ 140737488355328) ∧
 J1 (l ++ ([specs.getD t8.toNat []] : List (List UInt8)))) ∧
 (t13 = false → J1 l)))) ∧
 (∀ l2 : List (List UInt8), J1 l2 → (In .i64 (t8 + (1 : Int))) ∧
 k_1 l2 (t8 + (1 : Int)))) ∧
 (¬ (t8 < (specs.length : Int)) → M_slices_Sort_string_string l (fun (ys : List (List UInt8)) =>
 M_slices_Compact_string_string ys (fun (t2 : List (List UInt8)) =>
 K t2))))) [] (0 : Int))

def M_vis_May (specs : List (List UInt8)) (of_Pkg : List UInt8) (of_Name : List UInt8) (from_Pkg : List UInt8) (from_Name : List UInt8) (K : Bool → Prop) : Prop :=
 (specs.length ≤ maxLen →
 ∃ J1 : Bool → Prop, ((((decide (of_Pkg = from_Pkg)) = true → J1 true) ∧
 ((decide (of_Pkg = from_Pkg)) = false → M_slices_ContainsFunc_string_string_vis_May_1 specs from_Pkg from_Name (fun (t15 : Bool) =>
 J1 t15)))) ∧
 (∀ q1 : Bool, J1 q1 → K q1))

def M_smithylaw20_first (K : Bool → Prop) : Prop :=
 M_vis_May ([([47, 47, 97, 58, 95, 95, 115, 117, 98, 112, 97, 99, 107, 97, 103, 101, 115, 95, 95] : List UInt8)] : List (List UInt8)) ([98] : List UInt8) ([120] : List UInt8) ([97, 47, 99] : List UInt8) ([121] : List UInt8) (fun (t0 : Bool) =>
 K t0)

def M_smithyworld_Texts (l : List (List UInt8)) (most : Int) (long : Int) (K : Bool → Prop) : Prop :=
 (l.length ≤ maxLen →
 ((most < (l.length : Int) → K false) ∧
 (¬ (most < (l.length : Int)) → Lp1 (fun (i : Int) k_1 => ((i < (l.length : Int) → (0 ≤ i ∧ i < (l.length : Nat)) ∧
 ((long < ((l.getD i.toNat []).length : Int) → K false) ∧
 (¬ (long < ((l.getD i.toNat []).length : Int)) → (In .i64 (i + (1 : Int))) ∧
 k_1 (i + (1 : Int))))) ∧
 (¬ (i < (l.length : Int)) → K true))) (0 : Int))))

set_option maxHeartbeats 8000000 in
theorem W_vis_group {S : List Nat} {w : World} {s : List UInt8} {K : (List UInt8) → (List UInt8) → Bool → Prop} (hG : GOK S w) (hS100 : 100 ∈ S) (H : M_vis_group s K) : Fn Tryd.prog 119 ⟨[vs s]⟩ w (fun v w' => w.grownBy w' none ∧ ∃ (r0 : List UInt8), ∃ (r1 : List UInt8), ∃ (r2 : Bool), v = .tuple #[vs r0, vs r1, .bool r2] ∧ K r0 r1 r2) := by
  unfold M_vis_group at H
  refine Fn.enter (by kernel_rfl) Tryd.func119 rfl Tryd.ntmps119 rfl ?_
  refine WC.seq ?_
  refine WC.region ?_
  refine WL.y rfl (Yld.pure tab_ok rfl) ?_
  refine WL.y rfl (Yld.pure tab_ok rfl) ?_
  refine WL.y rfl (Yld.pure tab_ok rfl) ?_
  refine WL.nil (WX.then_normal ?_)
  refine WC.seq ?_
  refine WC.region ?_
  refine WL.y rfl (Yld.pure tab_ok rfl) ?_
  refine WL.call rfl rfl (W_strings_CutPrefix H) ?_
  rintro _ _ ⟨rfl, t120, t121, rfl, H⟩
  refine WL.y rfl (Yld.pure tab_ok rfl) ?_
  refine WL.y rfl (Yld.pure tab_ok rfl) ?_
  refine WL.y rfl (Yld.pure tab_ok rfl) ?_
  refine WL.y rfl (Yld.pure tab_ok rfl) ?_
  refine WL.y rfl (Yld.pure tab_ok rfl) ?_
  refine WL.nil (WX.then_normal ?_)
  refine WC.seq ?_
  refine WC.region ?_
  refine WL.y rfl (Yld.pure tab_ok rfl) ?_
  refine WL.call rfl rfl (W_strings_Cut hG hS100 H) ?_
  rintro _ _ ⟨rfl, t170, t171, t172, rfl, H⟩
  refine WL.y rfl (Yld.pure tab_ok rfl) ?_
  refine WL.y rfl (Yld.pure tab_ok rfl) ?_
  refine WL.y rfl (Yld.pure tab_ok rfl) ?_
  refine WL.y rfl (Yld.pure tab_ok rfl) ?_
  refine WL.y rfl (Yld.pure tab_ok rfl) ?_
  refine WL.y rfl (Yld.pure tab_ok rfl) ?_
  refine WL.y rfl (Yld.pure tab_ok rfl) ?_
  refine WL.nil (WX.then_normal ?_)
  refine WC.seq ?_
  refine WC.region ?_
  refine WL.y rfl (Yld.pure tab_ok rfl) ?_
  refine WL.y rfl (Yld.pure tab_ok rfl) ?_
  refine WL.y rfl (Yld.pure tab_ok rfl) ?_
  refine WL.y rfl (Yld.pure tab_ok rfl) ?_
  refine WL.midF 2 (fun L' w' => ∃ q1 : Bool, L' = [(26, .bool q1), (7, vs t170), (8, vs t171), (21, vs t170), (22, vs t171)] ∧ q1 = (t121 && t172) ∧ w = w') ?_ (fun hQ => ?_)
  · rintro _ _ ⟨q1, rfl, rfl, rfl⟩
    refine WL.y rfl (Yld.pure tab_ok rfl) ?_
    obtain ⟨J1, H, hJ1⟩ := H
    refine WL.midF 7 (fun L' w' => ∃ q2 : Bool, L' = [(34, .bool q2), (8, vs t171), (21, vs t170), (22, vs t171)] ∧ J1 q2 ∧ w.grownBy w' none) ?_ (fun hQ => ?_)
    · clear H
      rintro _ w1 ⟨q2, rfl, H, gr1⟩
      replace H := hJ1 q2 H
      refine WL.y rfl (Yld.pure tab_ok rfl) ?_
      refine WL.midF 7 (fun L' w' => ∃ q3 : Bool, L' = [(42, .bool q3), (21, vs t170), (22, vs t171)] ∧ q3 = (q2 && ((decide (t171 = ([95, 95, 112, 107, 103, 95, 95] : List UInt8))) || (decide (t171 = ([95, 95, 115, 117, 98, 112, 97, 99, 107, 97, 103, 101, 115, 95, 95] : List UInt8))))) ∧ w1 = w') ?_ (fun hQ => ?_)
      · rintro _ _ ⟨q3, rfl, rfl, rfl⟩
        refine WL.y rfl (Yld.pure tab_ok rfl) ?_
        refine WL.y rfl (Yld.pure tab_ok rfl) ?_
        refine WL.y rfl (Yld.pure tab_ok rfl) ?_
        refine WL.nil (WX.then_normal ?_)
        refine WC.ret ?_
        exact WX.ret3 rfl rfl rfl rfl ⟨gr1, t170, t171, q2 && ((decide (t171 = ([95, 95, 112, 107, 103, 95, 95] : List UInt8))) || (decide (t171 = ([95, 95, 115, 117, 98, 112, 97, 99, 107, 97, 103, 101, 115, 95, 95] : List UInt8)))), rfl, H⟩
      · clear H
        rcases Bool.eq_false_or_eq_true (q2) with b1 | b1
        · refine WL.gyes rfl rfl (okb b1) rfl (Yld.pure tab_ok rfl) ?_
          refine WL.gyes rfl rfl (okb b1) rfl (Yld.pure tab_ok rfl) ?_
          refine WL.gyes rfl rfl (okb b1) rfl (Yld.pure tab_ok rfl) ?_
          rcases Bool.eq_false_or_eq_true (decide (t171 = ([95, 95, 112, 107, 103, 95, 95] : List UInt8))) with b2 | b2
          · refine WL.gno rfl rfl (okb b2) rfl ?_
            refine WL.gno rfl rfl (okb b2) rfl ?_
            refine WL.gyes rfl rfl (okb b1) rfl (Yld.pickT (okb b2) rfl) ?_
            refine WL.y rfl (Yld.pickT (okb b1) rfl) ?_
            exact WL.weaken (by repeat (first | exact Sub.nil | refine Sub.cons rfl ?_)) (hQ _ _ ⟨true, rfl, by rw [b1, b2] <;> rfl, rfl⟩)
          · refine WL.gyes rfl rfl (okb b2) rfl (Yld.pure tab_ok rfl) ?_
            refine WL.gyes rfl rfl (okb b2) rfl (Yld.pure tab_ok rfl) ?_
            refine WL.gyes rfl rfl (okb b1) rfl (Yld.pickF (okb b2) rfl) ?_
            refine WL.y rfl (Yld.pickT (okb b1) rfl) ?_
            exact WL.weaken (by repeat (first | exact Sub.nil | refine Sub.cons rfl ?_)) (hQ _ _ ⟨decide (t171 = ([95, 95, 115, 117, 98, 112, 97, 99, 107, 97, 103, 101, 115, 95, 95] : List UInt8)), rfl, by rw [b1, b2] <;> rfl, rfl⟩)
        · refine WL.gno rfl rfl (okb b1) rfl ?_
          refine WL.gno rfl rfl (okb b1) rfl ?_
          refine WL.gno rfl rfl (okb b1) rfl ?_
          refine WL.gun rfl rfl rfl rfl ?_
          refine WL.gun rfl rfl rfl rfl ?_
          refine WL.gno rfl rfl (okb b1) rfl ?_
          refine WL.y rfl (Yld.pickF (okb b1) rfl) ?_
          exact WL.weaken (by repeat (first | exact Sub.nil | refine Sub.cons rfl ?_)) (hQ _ _ ⟨false, rfl, by rw [b1] <;> rfl, rfl⟩)
    · clear hJ1
      rcases Bool.eq_false_or_eq_true (t121 && t172) with b3 | b3
      · replace H := H.1 b3
        refine WL.gyes rfl rfl (okb b3) rfl (Yld.pure tab_ok rfl) ?_
        refine WL.gyes rfl rfl (okb b3) rfl (Yld.pure tab_ok rfl) ?_
        refine WL.gyes rfl rfl (okb b3) rfl (Yld.pure tab_ok rfl) ?_
        rcases Bool.eq_false_or_eq_true (decide (t170 = ([] : List UInt8))) with b4 | b4
        · replace H := H.1 b4
          refine WL.gno rfl rfl (okb b4) rfl ?_
          refine WL.gno rfl rfl (okb b4) rfl ?_
          refine WL.gyes rfl rfl (okb b3) rfl (Yld.pickT (okb b4) rfl) ?_
          refine WL.y rfl (Yld.pickT (okb b3) rfl) ?_
          exact WL.weaken (by repeat (first | exact Sub.nil | refine Sub.cons rfl ?_)) (hQ _ _ ⟨true, rfl, H, (gr_refl _ _)⟩)
        · replace H := H.2 b4
          refine WL.gyes rfl rfl (okb b4) rfl (Yld.pure tab_ok rfl) ?_
          refine WL.callw (wants_some rfl rfl (okb b4)) rfl rfl (W_path_Valid hG hS100 H) ?_
          rintro _ w2 ⟨hg1, t32, rfl, H⟩
          have gr2 := hg1
          refine WL.gyes rfl rfl (okb b3) rfl (Yld.pickF (okb b4) rfl) ?_
          refine WL.y rfl (Yld.pickT (okb b3) rfl) ?_
          exact WL.weaken (by repeat (first | exact Sub.nil | refine Sub.cons rfl ?_)) (hQ _ _ ⟨t32, rfl, H, gr2⟩)
      · replace H := H.2 b3
        refine WL.gno rfl rfl (okb b3) rfl ?_
        refine WL.gno rfl rfl (okb b3) rfl ?_
        refine WL.gno rfl rfl (okb b3) rfl ?_
        refine WL.gun rfl rfl rfl rfl ?_
        refine WL.gun rfl rfl rfl rfl ?_
        refine WL.gno rfl rfl (okb b3) rfl ?_
        refine WL.y rfl (Yld.pickF (okb b3) rfl) ?_
        exact WL.weaken (by repeat (first | exact Sub.nil | refine Sub.cons rfl ?_)) (hQ _ _ ⟨false, rfl, H, (gr_refl _ _)⟩)
  · clear H
    rcases Bool.eq_false_or_eq_true (t121) with b5 | b5
    · refine WL.gyes rfl rfl (okb b5) rfl (Yld.pure tab_ok rfl) ?_
      refine WL.y rfl (Yld.pickT (okb b5) rfl) ?_
      exact WL.weaken (by repeat (first | exact Sub.nil | refine Sub.cons rfl ?_)) (hQ _ _ ⟨t172, rfl, by rw [b5] <;> rfl, rfl⟩)
    · refine WL.gno rfl rfl (okb b5) rfl ?_
      refine WL.y rfl (Yld.pickF (okb b5) rfl) ?_
      exact WL.weaken (by repeat (first | exact Sub.nil | refine Sub.cons rfl ?_)) (hQ _ _ ⟨false, rfl, by rw [b5] <;> rfl, rfl⟩)

set_option maxHeartbeats 8000000 in
theorem W_vis_fair {S : List Nat} {w : World} {s : List UInt8} {K : Bool → Prop} (hG : GOK S w) (hS100 : 100 ∈ S) (H : M_vis_fair s K) : Fn Tryd.prog 94 ⟨[vs s]⟩ w (fun v w' => w.grownBy w' none ∧ ∃ (r : Bool), v = .bool r ∧ K r) := by
  unfold M_vis_fair at H
  refine Fn.enter (by kernel_rfl) Tryd.func94 rfl Tryd.ntmps94 rfl ?_
  refine WC.seq ?_
  refine WC.region ?_
  refine WL.y rfl (Yld.pure tab_ok rfl) ?_
  refine WL.nil (WX.then_normal ?_)
  refine WC.seq ?_
  refine WC.region ?_
  refine WL.y rfl (Yld.pure tab_ok rfl) ?_
  refine WL.call rfl rfl (W_vis_group hG hS100 H) ?_
  rintro _ w1 ⟨hg1, t80, t81, t82, rfl, H⟩
  have gr1 := hg1
  refine WL.y rfl (Yld.pure tab_ok rfl) ?_
  refine WL.y rfl (Yld.pure tab_ok rfl) ?_
  refine WL.y rfl (Yld.pure tab_ok rfl) ?_
  refine WL.y rfl (Yld.pure tab_ok rfl) ?_
  refine WL.y rfl (Yld.pure tab_ok rfl) ?_
  refine WL.y rfl (Yld.pure tab_ok rfl) ?_
  refine WL.y rfl (Yld.pure tab_ok rfl) ?_
  refine WL.nil (WX.then_normal ?_)
  refine WC.seq ?_
  refine WC.region ?_
  refine WL.y rfl (Yld.pure tab_ok rfl) ?_
  refine WL.y rfl (Yld.pure tab_ok rfl) ?_
  refine WL.midF 3 (fun L' w' => ∃ q1 : Bool, L' = [(16, .bool q1), (0, vs s)] ∧ q1 = (t82 || (decide (s = ([47, 47, 118, 105, 115, 105, 98, 105, 108, 105, 116, 121, 58, 112, 117, 98, 108, 105, 99] : List UInt8)))) ∧ w1 = w') ?_ (fun hQ => ?_)
  · rintro _ _ ⟨q1, rfl, rfl, rfl⟩
    refine WL.y rfl (Yld.pure tab_ok rfl) ?_
    refine WL.midF 3 (fun L' w' => ∃ q2 : Bool, L' = [(20, .bool q2)] ∧ q2 = ((t82 || (decide (s = ([47, 47, 118, 105, 115, 105, 98, 105, 108, 105, 116, 121, 58, 112, 117, 98, 108, 105, 99] : List UInt8)))) || (decide (s = ([47, 47, 118, 105, 115, 105, 98, 105, 108, 105, 116, 121, 58, 112, 114, 105, 118, 97, 116, 101] : List UInt8)))) ∧ w1 = w') ?_ (fun hQ => ?_)
    · rintro _ _ ⟨q2, rfl, rfl, rfl⟩
      refine WL.y rfl (Yld.pure tab_ok rfl) ?_
      refine WL.nil (WX.then_normal ?_)
      refine WC.ret ?_
      exact WX.ret1 rfl rfl ⟨gr1, (t82 || (decide (s = ([47, 47, 118, 105, 115, 105, 98, 105, 108, 105, 116, 121, 58, 112, 117, 98, 108, 105, 99] : List UInt8)))) || (decide (s = ([47, 47, 118, 105, 115, 105, 98, 105, 108, 105, 116, 121, 58, 112, 114, 105, 118, 97, 116, 101] : List UInt8))), rfl, H⟩
    · clear H
      rcases Bool.eq_false_or_eq_true (t82 || (decide (s = ([47, 47, 118, 105, 115, 105, 98, 105, 108, 105, 116, 121, 58, 112, 117, 98, 108, 105, 99] : List UInt8)))) with b1 | b1
      · refine WL.gno rfl rfl (okb b1) rfl ?_
        refine WL.gno rfl rfl (okb b1) rfl ?_
        refine WL.y rfl (Yld.pickT (okb b1) rfl) ?_
        exact WL.weaken (by repeat (first | exact Sub.nil | refine Sub.cons rfl ?_)) (hQ _ _ ⟨true, rfl, by rw [b1] <;> rfl, rfl⟩)
      · refine WL.gyes rfl rfl (okb b1) rfl (Yld.pure tab_ok rfl) ?_
        refine WL.gyes rfl rfl (okb b1) rfl (Yld.pure tab_ok rfl) ?_
        refine WL.y rfl (Yld.pickF (okb b1) rfl) ?_
        exact WL.weaken (by repeat (first | exact Sub.nil | refine Sub.cons rfl ?_)) (hQ _ _ ⟨decide (s = ([47, 47, 118, 105, 115, 105, 98, 105, 108, 105, 116, 121, 58, 112, 114, 105, 118, 97, 116, 101] : List UInt8)), rfl, by rw [b1] <;> rfl, rfl⟩)
  · clear H
    rcases Bool.eq_false_or_eq_true (t82) with b2 | b2
    · refine WL.gno rfl rfl (okb b2) rfl ?_
      refine WL.gno rfl rfl (okb b2) rfl ?_
      refine WL.y rfl (Yld.pickT (okb b2) rfl) ?_
      exact WL.weaken (by repeat (first | exact Sub.nil | refine Sub.cons rfl ?_)) (hQ _ _ ⟨true, rfl, by rw [b2] <;> rfl, rfl⟩)
    · refine WL.gyes rfl rfl (okb b2) rfl (Yld.pure tab_ok rfl) ?_
      refine WL.gyes rfl rfl (okb b2) rfl (Yld.pure tab_ok rfl) ?_
      refine WL.y rfl (Yld.pickF (okb b2) rfl) ?_
      exact WL.weaken (by repeat (first | exact Sub.nil | refine Sub.cons rfl ?_)) (hQ _ _ ⟨decide (s = ([47, 47, 118, 105, 115, 105, 98, 105, 108, 105, 116, 121, 58, 112, 117, 98, 108, 105, 99] : List UInt8)), rfl, by rw [b2] <;> rfl, rfl⟩)

set_option maxHeartbeats 8000000 in
theorem W_vis_lets {S : List Nat} {w : World} {s : List UInt8} {pkg : List UInt8} {K : Bool → Prop} (hG : GOK S w) (hS100 : 100 ∈ S) (H : M_vis_lets s pkg K) : Fn Tryd.prog 97 ⟨[vs s, vs pkg]⟩ w (fun v w' => w.grownBy w' none ∧ ∃ (r : Bool), v = .bool r ∧ K r) := by
  unfold M_vis_lets at H
  refine Fn.enter (by kernel_rfl) Tryd.func97 rfl Tryd.ntmps97 rfl ?_
  refine WC.seq ?_
  refine WC.region ?_
  refine WL.y rfl (Yld.pure tab_ok rfl) ?_
  refine WL.nil (WX.then_normal ?_)
  refine WC.seq ?_
  refine WC.seq ?_
  refine WC.region ?_
  refine WL.y rfl (Yld.pure tab_ok rfl) ?_
  refine WL.y rfl (Yld.pure tab_ok rfl) ?_
  refine WL.nil (WX.then_normal ?_)
  refine WC.cond rfl (fun b1 => ?_) (fun b1 => ?_)
  · replace H := H.1 (of_decide_eq_true b1)
    refine WC.seq ?_
    refine WC.region ?_
    refine WL.y rfl (Yld.pure tab_ok rfl) ?_
    refine WL.nil (WX.then_normal ?_)
    refine WC.ret (WX.then_ret ?_)
    exact WX.ret1 rfl rfl ⟨(gr_refl _ _), true, rfl, H⟩
  · replace H := H.2 (of_decide_eq_false b1)
    refine WC.skip (WX.then_normal ?_)
    refine WC.seq ?_
    refine WC.region ?_
    refine WL.y rfl (Yld.pure tab_ok rfl) ?_
    refine WL.call rfl rfl (W_vis_group hG hS100 H) ?_
    rintro _ w1 ⟨hg1, t120, t121, t122, rfl, H⟩
    have gr1 := hg1
    refine WL.y rfl (Yld.pure tab_ok rfl) ?_
    refine WL.y rfl (Yld.pure tab_ok rfl) ?_
    refine WL.y rfl (Yld.pure tab_ok rfl) ?_
    refine WL.y rfl (Yld.pure tab_ok rfl) ?_
    refine WL.y rfl (Yld.pure tab_ok rfl) ?_
    refine WL.y rfl (Yld.pure tab_ok rfl) ?_
    refine WL.y rfl (Yld.pure tab_ok rfl) ?_
    refine WL.nil (WX.then_normal ?_)
    refine WC.seq ?_
    refine WC.region ?_
    refine WL.y rfl (Yld.pure tab_ok rfl) ?_
    refine WL.y rfl (Yld.pure tab_ok rfl) ?_
    obtain ⟨J1, H, hJ1⟩ := H
    refine WL.midF 13 (fun L' w' => ∃ q1 : Bool, L' = [(30, .bool q1)] ∧ J1 q1 ∧ w1 = w') ?_ (fun hQ => ?_)
    · clear H
      rintro _ _ ⟨q1, rfl, H, rfl⟩
      replace H := hJ1 q1 H
      refine WL.y rfl (Yld.pure tab_ok rfl) ?_
      refine WL.nil (WX.then_normal ?_)
      refine WC.ret ?_
      exact WX.ret1 rfl rfl ⟨gr1, q1, rfl, H⟩
    · clear hJ1
      rcases Bool.eq_false_or_eq_true (t122) with b2 | b2
      · replace H := H.1 b2
        refine WL.gyes rfl rfl (okb b2) rfl (Yld.pure tab_ok rfl) ?_
        refine WL.gyes rfl rfl (okb b2) rfl (Yld.pure tab_ok rfl) ?_
        refine WL.gyes rfl rfl (okb b2) rfl (Yld.pure tab_ok rfl) ?_
        refine WL.gyes rfl rfl (okb b2) rfl (Yld.pure tab_ok rfl) ?_
        rcases Bool.eq_false_or_eq_true (decide (t120 = pkg)) with b3 | b3
        · replace H := H.1 b3
          refine WL.gno rfl rfl (okb b3) rfl ?_
          refine WL.gno rfl rfl (okb b3) rfl ?_
          refine WL.gno rfl rfl (okb b3) rfl ?_
          refine WL.gun rfl rfl rfl rfl ?_
          refine WL.gun rfl rfl rfl rfl ?_
          refine WL.gun rfl rfl rfl rfl ?_
          refine WL.gno rfl rfl (okb b3) rfl ?_
          refine WL.gyes rfl rfl (okb b2) rfl (Yld.pickT (okb b3) rfl) ?_
          refine WL.y rfl (Yld.pickT (okb b2) rfl) ?_
          exact WL.weaken (by repeat (first | exact Sub.nil | refine Sub.cons rfl ?_)) (hQ _ _ ⟨true, rfl, H, rfl⟩)
        · replace H := H.2 b3
          refine WL.gyes rfl rfl (okb b3) rfl (Yld.pure tab_ok rfl) ?_
          refine WL.gyes rfl rfl (okb b3) rfl (Yld.pure tab_ok rfl) ?_
          refine WL.gyes rfl rfl (okb b3) rfl (Yld.pure tab_ok rfl) ?_
          rcases Bool.eq_false_or_eq_true (decide (t121 = ([95, 95, 115, 117, 98, 112, 97, 99, 107, 97, 103, 101, 115, 95, 95] : List UInt8))) with b4 | b4
          · replace H := H.1 b4
            refine WL.gyes rfl rfl (okb b4) rfl (Yld.pure tab_ok rfl) ?_
            refine WL.gyes rfl rfl (okb b4) rfl (Yld.pure tab_ok rfl) ?_
            refine WL.callw (wants_some rfl rfl (okb b4)) rfl rfl (W_path_Under H) ?_
            rintro _ _ ⟨rfl, t27, rfl, H⟩
            refine WL.gyes rfl rfl (okb b3) rfl (Yld.pickT (okb b4) rfl) ?_
            refine WL.gyes rfl rfl (okb b2) rfl (Yld.pickF (okb b3) rfl) ?_
            refine WL.y rfl (Yld.pickT (okb b2) rfl) ?_
            exact WL.weaken (by repeat (first | exact Sub.nil | refine Sub.cons rfl ?_)) (hQ _ _ ⟨t27, rfl, H, rfl⟩)
          · replace H := H.2 b4
            refine WL.gno rfl rfl (okb b4) rfl ?_
            refine WL.gno rfl rfl (okb b4) rfl ?_
            refine WL.gno rfl rfl (okb b4) rfl ?_
            refine WL.gyes rfl rfl (okb b3) rfl (Yld.pickF (okb b4) rfl) ?_
            refine WL.gyes rfl rfl (okb b2) rfl (Yld.pickF (okb b3) rfl) ?_
            refine WL.y rfl (Yld.pickT (okb b2) rfl) ?_
            exact WL.weaken (by repeat (first | exact Sub.nil | refine Sub.cons rfl ?_)) (hQ _ _ ⟨false, rfl, H, rfl⟩)
      · replace H := H.2 b2
        refine WL.gno rfl rfl (okb b2) rfl ?_
        refine WL.gno rfl rfl (okb b2) rfl ?_
        refine WL.gno rfl rfl (okb b2) rfl ?_
        refine WL.gno rfl rfl (okb b2) rfl ?_
        refine WL.gun rfl rfl rfl rfl ?_
        refine WL.gun rfl rfl rfl rfl ?_
        refine WL.gun rfl rfl rfl rfl ?_
        refine WL.gun rfl rfl rfl rfl ?_
        refine WL.gun rfl rfl rfl rfl ?_
        refine WL.gun rfl rfl rfl rfl ?_
        refine WL.gun rfl rfl rfl rfl ?_
        refine WL.gno rfl rfl (okb b2) rfl ?_
        refine WL.y rfl (Yld.pickF (okb b2) rfl) ?_
        exact WL.weaken (by repeat (first | exact Sub.nil | refine Sub.cons rfl ?_)) (hQ _ _ ⟨false, rfl, H, rfl⟩)

set_option maxHeartbeats 8000000 in
theorem W_vis_May_1 {S : List Nat} {w : World} {s : List UInt8} {g_cap0 : Nat} {cap0_Pkg : List UInt8} {cap0_Name : List UInt8} {K : Bool → Prop} (hG : GOK S w) (hS100 : 100 ∈ S) (hcap0 : Bl w g_cap0 77 [vs cap0_Pkg, vs cap0_Name]) (H : M_vis_May_1 s cap0_Pkg cap0_Name K) : Fn Tryd.prog 96 ⟨[vs s, .pointer (some ⟨g_cap0, 0, none⟩)]⟩ w (fun v w' => w.grownBy w' none ∧ ∃ (r : Bool), v = .bool r ∧ K r) := by
  unfold M_vis_May_1 at H
  refine Fn.enter (by kernel_rfl) Tryd.func96 rfl Tryd.ntmps96 rfl ?_
  refine WC.seq ?_
  refine WC.region ?_
  refine WL.y rfl (Yld.pure tab_ok rfl) ?_
  refine WL.nil (WX.then_normal ?_)
  refine WC.seq ?_
  refine WC.region ?_
  refine WL.y rfl (Yld.pure tab_ok rfl) ?_
  refine WL.y rfl (Yld.pure tab_ok rfl) ?_
  refine WL.y rfl (Yld.bload tab_ok hcap0 rfl rfl rfl) ?_
  refine WL.call rfl rfl (W_vis_lets hG hS100 H) ?_
  rintro _ w1 ⟨hg1, t3, rfl, H⟩
  have gr1 := hg1
  refine WL.y rfl (Yld.pure tab_ok rfl) ?_
  refine WL.nil (WX.then_normal ?_)
  refine WC.ret ?_
  exact WX.ret1 rfl rfl ⟨gr1, t3, rfl, H⟩

set_option maxHeartbeats 8000000 in
theorem W_vis_Valid_1 {S : List Nat} {w : World} {s : List UInt8} {K : Bool → Prop} (hG : GOK S w) (hS100 : 100 ∈ S) (H : M_vis_Valid_1 s K) : Fn Tryd.prog 93 ⟨[vs s]⟩ w (fun v w' => w.grownBy w' none ∧ ∃ (r : Bool), v = .bool r ∧ K r) := by
  unfold M_vis_Valid_1 at H
  refine Fn.enter (by kernel_rfl) Tryd.func93 rfl Tryd.ntmps93 rfl ?_
  refine WC.seq ?_
  refine WC.region ?_
  refine WL.y rfl (Yld.pure tab_ok rfl) ?_
  refine WL.nil (WX.then_normal ?_)
  refine WC.seq ?_
  refine WC.region ?_
  refine WL.y rfl (Yld.pure tab_ok rfl) ?_
  refine WL.call rfl rfl (W_vis_fair hG hS100 H) ?_
  rintro _ w1 ⟨hg1, t4, rfl, H⟩
  have gr1 := hg1
  refine WL.y rfl (Yld.pure tab_ok rfl) ?_
  refine WL.y rfl (Yld.pure tab_ok rfl) ?_
  refine WL.nil (WX.then_normal ?_)
  refine WC.ret ?_
  exact WX.ret1 rfl rfl ⟨gr1, !t4, rfl, H⟩

set_option maxHeartbeats 8000000 in
theorem W_slices_IndexFunc_string_string_vis_May_1 {S : List Nat} {w : World} {s : List (List UInt8)} {A_s : Option Addr} {c_s : Nat} {g_cap0 : Nat} {cap0_Pkg : List UInt8} {cap0_Name : List UInt8} {n_s : Nat} {K : Int → Prop} (hG : GOK S w) (hS100 : 100 ∈ S) (hs : Rd vs w A_s c_s s) (hn_s : n_s = s.length) (hcap0 : Bl w g_cap0 77 [vs cap0_Pkg, vs cap0_Name]) (H : M_slices_IndexFunc_string_string_vis_May_1 s cap0_Pkg cap0_Name K) : Fn Tryd.prog 92 ⟨[.slice A_s n_s c_s, .func (.func 96) #[] #[.pointer (some ⟨g_cap0, 0, none⟩)]]⟩ w (fun v w' => w.grownBy w' none ∧ ∃ (r : Int), v = .int .i64 r ∧ K r) := by
  subst hn_s
  unfold M_slices_IndexFunc_string_string_vis_May_1 at H
  refine Fn.enter (by kernel_rfl) Tryd.func92 rfl Tryd.ntmps92 rfl ?_
  replace H := H (Nat.le_trans hs.cap hs.max)
  refine WC.seq ?_
  refine WC.region ?_
  refine WL.y rfl (Yld.pure tab_ok rfl) ?_
  refine WL.nil (WX.then_normal ?_)
  refine WC.seq ?_
  refine WC.seq ?_
  refine WC.region ?_
  refine WL.y rfl (Yld.pure tab_ok rfl) ?_
  refine WL.y rfl (Yld.pure tab_ok rfl) ?_
  refine WL.y rfl (Yld.pure tab_ok rfl) ?_
  refine WL.nil (WX.then_normal ?_)
  refine WC.block ?_
  obtain ⟨I1, mu1, h0_1, HR1⟩ := H
  refine WC.loopF (fun n' L' w' => ∃ (t8 : Int), n' = mu1 t8 ∧ L' = [(0, .slice A_s s.length c_s), (1, .func (.func 96) #[] #[.pointer (some ⟨g_cap0, 0, none⟩)]), (7, .int .i64 (s.length : Int)), (8, .int .i64 t8)] ∧ I1 t8 ∧ w.grownBy w' none) _ _ ⟨(0 : Int), rfl, rfl, h0_1, (gr_refl _ _)⟩ (by repeat (first | exact Sub.nil | refine Sub.cons rfl ?_)) ?_
  clear h0_1
  rintro _ _ w1 ⟨t8, rfl, rfl, hI1, gr1⟩
  have H := HR1 t8 hI1
  refine WC.seq ?_
  refine WC.region ?_
  refine WL.y rfl (Yld.pure tab_ok rfl) ?_
  refine WL.nil (WX.then_normal ?_)
  refine WC.seq ?_
  refine WC.cond rfl (fun b1 => ?_) (fun b1 => ?_)
  · replace H := H.1 (of_decide_eq_true b1)
    refine WC.skip (WX.then_normal ?_)
    refine WC.seq ?_
    refine WC.block ?_
    refine WC.seq ?_
    refine WC.region ?_
    refine WL.y rfl (Yld.pure tab_ok rfl) ?_
    refine WL.y rfl (Yld.pure tab_ok rfl) ?_
    refine WL.nil (WX.then_normal ?_)
    refine WC.seq ?_
    refine WC.region ?_
    refine WL.y rfl (Yld.pure tab_ok rfl) ?_
    refine WL.y rfl (Yld.pure tab_ok rfl) ?_
    refine WL.y rfl (Yld.pure tab_ok rfl) ?_
    obtain ⟨h1, H⟩ := H
    refine WL.y rfl (Yld.iaddrW tab_ok (hs.grown gr1) rfl rfl rfl rfl h1.1 h1.2) ?_
    refine WL.y rfl (Yld.iload [] tab_ok (hs.grown gr1) rfl rfl (iltN h1 rfl)) ?_
    refine WL.callv rfl rfl rfl (W_vis_May_1 (hG.grown gr1) hS100 (hcap0.g0 gr1) H) ?_
    rintro _ w2 ⟨hg1, t16, rfl, H⟩
    have gr2 := gr_trans gr1 hg1
    refine WL.nil (WX.then_normal ?_)
    refine WC.cond rfl (fun b2 => ?_) (fun b2 => ?_)
    · replace H := H.1 (b2)
      refine WC.seq ?_
      refine WC.region ?_
      refine WL.y rfl (Yld.pure tab_ok rfl) ?_
      refine WL.y rfl (Yld.pure tab_ok rfl) ?_
      refine WL.nil (WX.then_normal ?_)
      refine WC.ret (WX.block_ret (WX.then_ret (WX.then_ret (WX.block_ret (WX.then_ret ?_)))))
      exact WX.ret1 rfl rfl ⟨gr2, t8, rfl, H⟩
    · replace H := H.2 (b2)
      refine WC.skip (WX.block_normal (WX.then_normal ?_))
      refine WC.region ?_
      obtain ⟨h2, H⟩ := H
      refine WL.y rfl (Yld.add rfl rfl h2) ?_
      refine WL.y rfl (Yld.pure tab_ok rfl) ?_
      refine WL.nil ?_
      exact WX.roundF _ ⟨t8 + (1 : Int), rfl, rfl, H.1, gr2⟩ (by repeat (first | exact Sub.nil | refine Sub.cons rfl ?_)) H.2
  · replace H := H.2 (of_decide_eq_false b1)
    refine WC.exit (WX.then_exit (WX.then_exit (WX.block_same (WX.then_normal ?_))))
    refine WC.seq ?_
    refine WC.region ?_
    refine WL.y rfl (Yld.pure tab_ok rfl) ?_
    refine WL.nil (WX.then_normal ?_)
    refine WC.ret ?_
    exact WX.ret1 rfl rfl ⟨gr1, (-1 : Int), rfl, H⟩

set_option maxHeartbeats 8000000 in
theorem W_slices_ContainsFunc_string_string_vis_May_1 {S : List Nat} {w : World} {s : List (List UInt8)} {A_s : Option Addr} {c_s : Nat} {g_cap0 : Nat} {cap0_Pkg : List UInt8} {cap0_Name : List UInt8} {n_s : Nat} {K : Bool → Prop} (hG : GOK S w) (hS100 : 100 ∈ S) (hs : Rd vs w A_s c_s s) (hn_s : n_s = s.length) (hcap0 : Bl w g_cap0 77 [vs cap0_Pkg, vs cap0_Name]) (H : M_slices_ContainsFunc_string_string_vis_May_1 s cap0_Pkg cap0_Name K) : Fn Tryd.prog 95 ⟨[.slice A_s n_s c_s, .func (.func 96) #[] #[.pointer (some ⟨g_cap0, 0, none⟩)]]⟩ w (fun v w' => w.grownBy w' none ∧ ∃ (r : Bool), v = .bool r ∧ K r) := by
  subst hn_s
  unfold M_slices_ContainsFunc_string_string_vis_May_1 at H
  refine Fn.enter (by kernel_rfl) Tryd.func95 rfl Tryd.ntmps95 rfl ?_
  replace H := H (Nat.le_trans hs.cap hs.max)
  refine WC.seq ?_
  refine WC.region ?_
  refine WL.y rfl (Yld.pure tab_ok rfl) ?_
  refine WL.nil (WX.then_normal ?_)
  refine WC.seq ?_
  refine WC.region ?_
  refine WL.y rfl (Yld.pure tab_ok rfl) ?_
  refine WL.y rfl (Yld.pure tab_ok rfl) ?_
  refine WL.call rfl rfl (W_slices_IndexFunc_string_string_vis_May_1 hG hS100 hs rfl hcap0 H) ?_
  rintro _ w1 ⟨hg1, t7, rfl, H⟩
  have gr1 := hg1
  refine WL.y rfl (Yld.pure tab_ok rfl) ?_
  refine WL.y rfl (Yld.pure tab_ok rfl) ?_
  refine WL.nil (WX.then_normal ?_)
  refine WC.ret ?_
  exact WX.ret1 rfl rfl ⟨gr1, decide ((0 : Int) ≤ t7), rfl, H⟩

set_option maxHeartbeats 8000000 in
theorem W_slices_IndexFunc_string_string_vis_Valid_1 {S : List Nat} {w : World} {s : List (List UInt8)} {A_s : Option Addr} {c_s : Nat} {n_s : Nat} {K : Int → Prop} (hG : GOK S w) (hS100 : 100 ∈ S) (hs : Rd vs w A_s c_s s) (hn_s : n_s = s.length) (H : M_slices_IndexFunc_string_string_vis_Valid_1 s K) : Fn Tryd.prog 92 ⟨[.slice A_s n_s c_s, .func (.func 93) #[] #[]]⟩ w (fun v w' => w.grownBy w' none ∧ ∃ (r : Int), v = .int .i64 r ∧ K r) := by
  subst hn_s
  unfold M_slices_IndexFunc_string_string_vis_Valid_1 at H
  refine Fn.enter (by kernel_rfl) Tryd.func92 rfl Tryd.ntmps92 rfl ?_
  replace H := H (Nat.le_trans hs.cap hs.max)
  refine WC.seq ?_
  refine WC.region ?_
  refine WL.y rfl (Yld.pure tab_ok rfl) ?_
  refine WL.nil (WX.then_normal ?_)
  refine WC.seq ?_
  refine WC.seq ?_
  refine WC.region ?_
  refine WL.y rfl (Yld.pure tab_ok rfl) ?_
  refine WL.y rfl (Yld.pure tab_ok rfl) ?_
  refine WL.y rfl (Yld.pure tab_ok rfl) ?_
  refine WL.nil (WX.then_normal ?_)
  refine WC.block ?_
  obtain ⟨I1, mu1, h0_1, HR1⟩ := H
  refine WC.loopF (fun n' L' w' => ∃ (t8 : Int), n' = mu1 t8 ∧ L' = [(0, .slice A_s s.length c_s), (1, .func (.func 93) #[] #[]), (7, .int .i64 (s.length : Int)), (8, .int .i64 t8)] ∧ I1 t8 ∧ w.grownBy w' none) _ _ ⟨(0 : Int), rfl, rfl, h0_1, (gr_refl _ _)⟩ (by repeat (first | exact Sub.nil | refine Sub.cons rfl ?_)) ?_
  clear h0_1
  rintro _ _ w1 ⟨t8, rfl, rfl, hI1, gr1⟩
  have H := HR1 t8 hI1
  refine WC.seq ?_
  refine WC.region ?_
  refine WL.y rfl (Yld.pure tab_ok rfl) ?_
  refine WL.nil (WX.then_normal ?_)
  refine WC.seq ?_
  refine WC.cond rfl (fun b1 => ?_) (fun b1 => ?_)
  · replace H := H.1 (of_decide_eq_true b1)
    refine WC.skip (WX.then_normal ?_)
    refine WC.seq ?_
    refine WC.block ?_
    refine WC.seq ?_
    refine WC.region ?_
    refine WL.y rfl (Yld.pure tab_ok rfl) ?_
    refine WL.y rfl (Yld.pure tab_ok rfl) ?_
    refine WL.nil (WX.then_normal ?_)
    refine WC.seq ?_
    refine WC.region ?_
    refine WL.y rfl (Yld.pure tab_ok rfl) ?_
    refine WL.y rfl (Yld.pure tab_ok rfl) ?_
    refine WL.y rfl (Yld.pure tab_ok rfl) ?_
    obtain ⟨h1, H⟩ := H
    refine WL.y rfl (Yld.iaddrW tab_ok (hs.grown gr1) rfl rfl rfl rfl h1.1 h1.2) ?_
    refine WL.y rfl (Yld.iload [] tab_ok (hs.grown gr1) rfl rfl (iltN h1 rfl)) ?_
    refine WL.callv rfl rfl rfl (W_vis_Valid_1 (hG.grown gr1) hS100 H) ?_
    rintro _ w2 ⟨hg1, t16, rfl, H⟩
    have gr2 := gr_trans gr1 hg1
    refine WL.nil (WX.then_normal ?_)
    refine WC.cond rfl (fun b2 => ?_) (fun b2 => ?_)
    · replace H := H.1 (b2)
      refine WC.seq ?_
      refine WC.region ?_
      refine WL.y rfl (Yld.pure tab_ok rfl) ?_
      refine WL.y rfl (Yld.pure tab_ok rfl) ?_
      refine WL.nil (WX.then_normal ?_)
      refine WC.ret (WX.block_ret (WX.then_ret (WX.then_ret (WX.block_ret (WX.then_ret ?_)))))
      exact WX.ret1 rfl rfl ⟨gr2, t8, rfl, H⟩
    · replace H := H.2 (b2)
      refine WC.skip (WX.block_normal (WX.then_normal ?_))
      refine WC.region ?_
      obtain ⟨h2, H⟩ := H
      refine WL.y rfl (Yld.add rfl rfl h2) ?_
      refine WL.y rfl (Yld.pure tab_ok rfl) ?_
      refine WL.nil ?_
      exact WX.roundF _ ⟨t8 + (1 : Int), rfl, rfl, H.1, gr2⟩ (by repeat (first | exact Sub.nil | refine Sub.cons rfl ?_)) H.2
  · replace H := H.2 (of_decide_eq_false b1)
    refine WC.exit (WX.then_exit (WX.then_exit (WX.block_same (WX.then_normal ?_))))
    refine WC.seq ?_
    refine WC.region ?_
    refine WL.y rfl (Yld.pure tab_ok rfl) ?_
    refine WL.nil (WX.then_normal ?_)
    refine WC.ret ?_
    exact WX.ret1 rfl rfl ⟨gr1, (-1 : Int), rfl, H⟩

set_option maxHeartbeats 8000000 in
theorem W_vis_Valid {S : List Nat} {w : World} {specs : List (List UInt8)} {A_specs : Option Addr} {c_specs : Nat} {n_specs : Nat} {K : Er → Prop} (hG : GOK S w) (hS5 : 5 ∈ S) (hS100 : 100 ∈ S) (hspecs : Rd vs w A_specs c_specs specs) (hn_specs : n_specs = specs.length) (H : M_vis_Valid specs K) : Fn Tryd.prog 53 ⟨[.slice A_specs n_specs c_specs]⟩ w (fun v w' => w.grownBy w' none ∧ ∃ (v_r : Value), ∃ (r : Er), v = v_r ∧ ErrR S w' v_r r ∧ K r) := by
  subst hn_specs
  unfold M_vis_Valid at H
  refine Fn.enter (by kernel_rfl) Tryd.func53 rfl Tryd.ntmps53 rfl ?_
  replace H := H (Nat.le_trans hspecs.cap hspecs.max)
  refine WC.seq ?_
  refine WC.region ?_
  refine WL.y rfl (Yld.pure tab_ok rfl) ?_
  refine WL.nil (WX.then_normal ?_)
  refine WC.seq ?_
  refine WC.seq ?_
  refine WC.region ?_
  refine WL.y rfl (Yld.pure tab_ok rfl) ?_
  refine WL.call rfl rfl (W_slices_IndexFunc_string_string_vis_Valid_1 hG hS100 hspecs rfl H) ?_
  rintro _ w1 ⟨hg1, k, rfl, H⟩
  have gr1 := hg1
  refine WL.y rfl (Yld.pure tab_ok rfl) ?_
  refine WL.nil (WX.then_normal ?_)
  refine WC.seq ?_
  refine WC.region ?_
  refine WL.y rfl (Yld.pure tab_ok rfl) ?_
  refine WL.y rfl (Yld.pure tab_ok rfl) ?_
  refine WL.nil (WX.then_normal ?_)
  refine WC.cond rfl (fun b1 => ?_) (fun b1 => ?_)
  · replace H := H.1 (of_decide_eq_true b1)
    refine WC.seq ?_
    refine WC.region ?_
    refine WL.y rfl (Yld.pure tab_ok rfl) ?_
    obtain ⟨vE1, _, hE1⟩ := GOK.get (hG.grown gr1) 5 4 hS5 rfl rfl
    refine WL.y rfl (Yld.cell tab_ok (ErrR.cell hE1 rfl) rfl rfl) ?_
    refine WL.y rfl (Yld.struct (us := [.int .i64 k, vE1]) (vs := [(0, .int .i64 k), (1, vE1)]) zero132 places132 rfl (by simp only [fillL, cells1 (ErrR.one hE1)]; rfl)) ?_
    refine WL.box (us := [.int .i64 k, vE1]) rfl rfl rfl (fun g1 w2 hB1 hg2 hl1 => ?_)
    have gr2 := gr_trans gr1 hg2
    have k1 := hE1.grown hg2
    obtain ⟨n, he1, H⟩ := H
    have hE2 := ErrR.mkAt hB1 (he1 ▸ k1)
    refine WL.y rfl (Yld.mki Tryd.underlying130 rfl rfl) ?_
    refine WL.y rfl (Yld.pure tab_ok rfl) ?_
    refine WL.nil (WX.then_normal ?_)
    refine WC.ret (WX.then_ret ?_)
    exact WX.ret1 rfl rfl ⟨gr2, (.iface 130 (.pointer (some ⟨g1, 0, none⟩))), (Er.at_ k n), rfl, hE2, H⟩
  · replace H := H.2 (of_decide_eq_false b1)
    refine WC.skip (WX.then_normal ?_)
    refine WC.seq ?_
    refine WC.region ?_
    refine WL.y rfl (Yld.pure tab_ok rfl) ?_
    refine WL.nil (WX.then_normal ?_)
    refine WC.ret ?_
    exact WX.ret1 rfl rfl ⟨gr1, .nilIface, Er.ok, rfl, (ErrR.okR (S := S) (w := w1)), H⟩

set_option maxHeartbeats 8000000 in
theorem W_vis_Groups {S : List Nat} {w : World} {specs : List (List UInt8)} {A_specs : Option Addr} {c_specs : Nat} {n_specs : Nat} {K : (List (List UInt8)) → Prop} (hG : GOK S w) (hS100 : 100 ∈ S) (hspecs : Rd vs w A_specs c_specs specs) (hn_specs : n_specs = specs.length) (H : M_vis_Groups specs K) : Fn Tryd.prog 57 ⟨[.slice A_specs n_specs c_specs]⟩ w (fun v w' => w.grownBy w' none ∧ ∃ (r : List (List UInt8)), ∃ (A_r : Option Addr), ∃ (c_r : Nat), v = .slice A_r r.length c_r ∧ Own vs w' w.heap.size 9 A_r c_r r ∧ K r) := by
  subst hn_specs
  unfold M_vis_Groups at H
  refine Fn.enter (by kernel_rfl) Tryd.func57 rfl Tryd.ntmps57 rfl ?_
  replace H := H (Nat.le_trans hspecs.cap hspecs.max)
  refine WC.seq ?_
  refine WC.region ?_
  refine WL.y rfl (Yld.pure tab_ok rfl) ?_
  refine WL.nil (WX.then_normal ?_)
  refine WC.seq ?_
  refine WC.region ?_
  refine WL.y rfl (Yld.pure tab_ok rfl) ?_
  refine WL.nil (WX.then_normal ?_)
  refine WC.seq ?_
  refine WC.seq ?_
  refine WC.region ?_
  refine WL.y rfl (Yld.pure tab_ok rfl) ?_
  refine WL.y rfl (Yld.pure tab_ok rfl) ?_
  refine WL.y rfl (Yld.pure tab_ok rfl) ?_
  refine WL.nil (WX.then_normal ?_)
  refine WC.block ?_
  obtain ⟨I1, mu1, h0_1, HR1⟩ := H
  refine WC.loopF (fun n' L' w' => ∃ (l : List (List UInt8)), ∃ (A_l : Option Addr), ∃ (c_l : Nat), ∃ (n_l : Nat), ∃ (t8 : Int), n' = mu1 l t8 ∧ L' = [(3, .slice A_l n_l c_l), (6, .slice A_specs specs.length c_specs), (7, .int .i64 (specs.length : Int)), (8, .int .i64 t8)] ∧ I1 l t8 ∧ n_l = l.length ∧ w.grownBy w' none ∧ Own vs w' w.heap.size 9 A_l c_l l) _ _ ⟨[], none, 0, 0, (0 : Int), rfl, rfl, h0_1, rfl, (gr_refl _ _), (Own.nil vs w w.heap.size 9)⟩ (by repeat (first | exact Sub.nil | refine Sub.cons rfl ?_)) ?_
  clear h0_1
  rintro _ _ w1 ⟨l, A_l, c_l, n_l, t8, rfl, rfl, hI1, rfl, gr1, k1⟩
  have H := HR1 l t8 hI1
  refine WC.seq ?_
  refine WC.region ?_
  refine WL.y rfl (Yld.pure tab_ok rfl) ?_
  refine WL.nil (WX.then_normal ?_)
  refine WC.seq ?_
  refine WC.cond rfl (fun b1 => ?_) (fun b1 => ?_)
  · replace H := H.1 (of_decide_eq_true b1)
    refine WC.skip (WX.then_normal ?_)
    refine WC.seq ?_
    obtain ⟨J1, H, hJ1⟩ := H
    refine WC.midF (fun L' w' => ∃ (l2 : List (List UInt8)), ∃ (A_l2 : Option Addr), ∃ (c_l2 : Nat), ∃ (n_l2 : Nat), L' = [(3, .slice A_l2 n_l2 c_l2), (6, .slice A_specs specs.length c_specs), (7, .int .i64 (specs.length : Int)), (8, .int .i64 t8)] ∧ J1 l2 ∧ n_l2 = l2.length ∧ w.grownBy w' none ∧ Own vs w' w.heap.size 9 A_l2 c_l2 l2) ?_ (fun hQ => ?_)
    · clear H
      rintro _ w2 ⟨l2, A_l2, c_l2, n_l2, rfl, H, rfl, gr2, k2⟩
      replace H := hJ1 l2 H
      refine WX.then_normal ?_
      refine WC.region ?_
      obtain ⟨h1, H⟩ := H
      refine WL.y rfl (Yld.add rfl rfl h1) ?_
      refine WL.y rfl (Yld.pure tab_ok rfl) ?_
      refine WL.nil ?_
      exact WX.roundF _ ⟨l2, A_l2, c_l2, l2.length, t8 + (1 : Int), rfl, rfl, H.1, rfl, gr2, k2⟩ (by repeat (first | exact Sub.nil | refine Sub.cons rfl ?_)) H.2
    · clear hJ1
      refine WC.block ?_
      refine WC.seq ?_
      refine WC.region ?_
      obtain ⟨h2, H⟩ := H
      refine WL.y rfl (Yld.iaddrW tab_ok (hspecs.grown gr1) rfl rfl rfl rfl h2.1 h2.2) ?_
      refine WL.y rfl (Yld.iload [] tab_ok (hspecs.grown gr1) rfl rfl (iltN h2 rfl)) ?_
      refine WL.y rfl (Yld.pure tab_ok rfl) ?_
      refine WL.nil (WX.then_normal ?_)
      refine WC.seq ?_
      refine WC.region ?_
      refine WL.y rfl (Yld.pure tab_ok rfl) ?_
      refine WL.call rfl rfl (W_vis_fair (hG.grown gr1) hS100 H) ?_
      rintro _ w3 ⟨hg1, t13, rfl, H⟩
      have gr3 := gr_trans gr1 hg1
      have k3 := k1.grown hg1
      refine WL.nil (WX.then_normal ?_)
      refine WC.cond rfl (fun b2 => ?_) (fun b2 => ?_)
      · replace H := H.1 (b2)
        refine WC.region ?_
        refine WL.y rfl (Yld.pure tab_ok rfl) ?_
        refine WL.y rfl (Yld.pure tab_ok rfl) ?_
        refine WL.lit tab_ok rfl rfl rfl (all1c rfl all1n) rfl (by omega) (fun g1 w4 hB1 hg2 hl1 => ?_)
        have hO1 : Own vs w4 w.heap.size 9 (some ⟨g1, 0, none⟩) 1 ([specs.getD t8.toNat []] : List (List UInt8)) := Own.ofBl hB1 (Nat.le_trans (size_le gr3) hl1) (by simp [maxLen]) rfl
        have gr4 := gr_trans gr3 hg2
        have k4 := k3.grown hg2
        obtain ⟨h3, H⟩ := H
        refine WL.append tab_ok rfl rfl One.s k4 rfl rfl hO1.rd rfl rfl h3 (applen h3) (size_le gr4) (fun A_l3 c_l3 w5 hO2 hg3 hk1 => ?_)
        have gr5 := gr_mod gr4 hg3 k4.ge'
        refine WL.y rfl (Yld.pure tab_ok rfl) ?_
        refine WL.nil (WX.block_normal ?_)
        exact WX.weaken (by repeat (first | exact Sub.nil | refine Sub.cons rfl ?_)) (hQ _ _ ⟨l ++ ([specs.getD t8.toNat []] : List (List UInt8)), A_l3, c_l3, (l ++ ([specs.getD t8.toNat []] : List (List UInt8))).length, rfl, H, rfl, gr5, hO2⟩)
      · replace H := H.2 (b2)
        refine WC.skip (WX.block_normal ?_)
        exact WX.weaken (by repeat (first | exact Sub.nil | refine Sub.cons rfl ?_)) (hQ _ _ ⟨l, A_l, c_l, l.length, rfl, H, rfl, gr3, k3⟩)
  · replace H := H.2 (of_decide_eq_false b1)
    refine WC.exit (WX.then_exit (WX.then_exit (WX.block_same (WX.then_normal ?_))))
    refine WC.seq ?_
    refine WC.region ?_
    refine WL.y rfl (Yld.pure tab_ok rfl) ?_
    refine WL.call rfl rfl (W_slices_Sort_string_string k1 rfl H) ?_
    rintro _ w6 ⟨ys, rfl, hO3, hg4, hl2, H⟩
    have gr6 := gr_mod gr1 hg4 k1.ge'
    refine WL.nil (WX.then_normal ?_)
    refine WC.seq ?_
    refine WC.region ?_
    refine WL.y rfl (Yld.pure tab_ok rfl) ?_
    refine WL.call rfl rfl (W_slices_Compact_string_string hO3 ((rfl : l.length = l.length).trans hl2.symm) H) ?_
    rintro _ w7 ⟨t2, rfl, hO4, hg5, H⟩
    have gr7 := gr_mod gr6 hg5 hO3.ge'
    refine WL.y rfl (Yld.pure tab_ok rfl) ?_
    refine WL.nil (WX.then_normal ?_)
    refine WC.ret ?_
    exact WX.ret1 rfl rfl ⟨gr7, t2, A_l, c_l, rfl, hO4, H⟩

set_option maxHeartbeats 8000000 in
theorem W_vis_May {S : List Nat} {w : World} {specs : List (List UInt8)} {A_specs : Option Addr} {c_specs : Nat} {of_Pkg : List UInt8} {of_Name : List UInt8} {from_Pkg : List UInt8} {from_Name : List UInt8} {n_specs : Nat} {K : Bool → Prop} (hG : GOK S w) (hS100 : 100 ∈ S) (hspecs : Rd vs w A_specs c_specs specs) (hn_specs : n_specs = specs.length) (H : M_vis_May specs of_Pkg of_Name from_Pkg from_Name K) : Fn Tryd.prog 54 ⟨[.slice A_specs n_specs c_specs, .agg ⟨[vs of_Pkg, vs of_Name]⟩, .agg ⟨[vs from_Pkg, vs from_Name]⟩]⟩ w (fun v w' => w.grownBy w' none ∧ ∃ (r : Bool), v = .bool r ∧ K r) := by
  subst hn_specs
  unfold M_vis_May at H
  refine Fn.enter (by kernel_rfl) Tryd.func54 rfl Tryd.ntmps54 rfl ?_
  replace H := H (Nat.le_trans hspecs.cap hspecs.max)
  refine WC.seq ?_
  refine WC.region ?_
  refine WL.box (us := [vs of_Pkg, vs of_Name]) rfl rfl rfl (fun g1 w1 hB1 hg1 hl1 => ?_)
  have gr1 := hg1
  refine WL.box (us := [vs from_Pkg, vs from_Name]) rfl rfl rfl (fun g2 w2 hB2 hg2 hl2 => ?_)
  have gr2 := gr_trans gr1 hg2
  have k1 := hB1.g0 hg2
  refine WL.y rfl (Yld.pure tab_ok rfl) ?_
  refine WL.nil (WX.then_normal ?_)
  refine WC.seq ?_
  refine WC.region ?_
  refine WL.y rfl (Yld.pure tab_ok rfl) ?_
  refine WL.y rfl (Yld.bload tab_ok k1 rfl rfl rfl) ?_
  refine WL.y rfl (Yld.pure tab_ok rfl) ?_
  refine WL.y rfl (Yld.bload tab_ok hB2 rfl rfl rfl) ?_
  refine WL.y rfl (Yld.pure tab_ok rfl) ?_
  refine WL.y rfl (Yld.pure tab_ok rfl) ?_
  obtain ⟨J1, H, hJ1⟩ := H
  refine WL.midF 4 (fun L' w' => ∃ q1 : Bool, L' = [(16, .bool q1)] ∧ J1 q1 ∧ w.grownBy w' none) ?_ (fun hQ => ?_)
  · clear H
    rintro _ w3 ⟨q1, rfl, H, gr3⟩
    replace H := hJ1 q1 H
    refine WL.y rfl (Yld.pure tab_ok rfl) ?_
    refine WL.nil (WX.then_normal ?_)
    refine WC.ret ?_
    exact WX.ret1 rfl rfl ⟨gr3, q1, rfl, H⟩
  · clear hJ1
    rcases Bool.eq_false_or_eq_true (decide (of_Pkg = from_Pkg)) with b1 | b1
    · replace H := H.1 b1
      refine WL.gno rfl rfl (okb b1) rfl ?_
      refine WL.gno rfl rfl (okb b1) rfl ?_
      refine WL.gno rfl rfl (okb b1) rfl ?_
      refine WL.y rfl (Yld.pickT (okb b1) rfl) ?_
      exact WL.weaken (by repeat (first | exact Sub.nil | refine Sub.cons rfl ?_)) (hQ _ _ ⟨true, rfl, H, gr2⟩)
    · replace H := H.2 b1
      refine WL.gyes rfl rfl (okb b1) rfl (Yld.pure tab_ok rfl) ?_
      refine WL.gyes rfl rfl (okb b1) rfl (Yld.mkf rfl) ?_
      refine WL.callw (wants_some rfl rfl (okb b1)) rfl rfl (W_slices_ContainsFunc_string_string_vis_May_1 (hG.grown gr2) hS100 (hspecs.grown gr2) rfl hB2 H) ?_
      rintro _ w4 ⟨hg3, t15, rfl, H⟩
      have gr4 := gr_trans gr2 hg3
      have k2 := hB2.g0 hg3
      refine WL.y rfl (Yld.pickF (okb b1) rfl) ?_
      exact WL.weaken (by repeat (first | exact Sub.nil | refine Sub.cons rfl ?_)) (hQ _ _ ⟨t15, rfl, H, gr4⟩)

set_option maxHeartbeats 8000000 in
theorem W_smithylaw20_first {S : List Nat} {w : World} {K : Bool → Prop} (hG : GOK S w) (hS100 : 100 ∈ S) (H : M_smithylaw20_first  K) : Fn Tryd.prog 48 ⟨[]⟩ w (fun v w' => w.grownBy w' none ∧ ∃ (r : Bool), v = .bool r ∧ K r) := by
  unfold M_smithylaw20_first at H
  refine Fn.enter (by kernel_rfl) Tryd.func48 rfl Tryd.ntmps48 rfl ?_
  refine WC.seq ?_
  refine WC.region ?_
  refine WL.y rfl (Yld.pure tab_ok rfl) ?_
  refine WL.nil (WX.then_normal ?_)
  refine WC.seq ?_
  refine WC.region ?_
  refine WL.lit tab_ok rfl rfl rfl (all1c rfl all1n) rfl (by omega) (fun g1 w1 hB1 hg1 hl1 => ?_)
  have hO1 : Own vs w1 w.heap.size 9 (some ⟨g1, 0, none⟩) 1 ([([47, 47, 97, 58, 95, 95, 115, 117, 98, 112, 97, 99, 107, 97, 103, 101, 115, 95, 95] : List UInt8)] : List (List UInt8)) := Own.ofBl hB1 (Nat.le_trans (Nat.le_refl _) hl1) (by simp [maxLen]) rfl
  have gr1 := hg1
  refine WL.y rfl (Yld.struct (us := [vs ([98] : List UInt8), vs ([120] : List UInt8)]) zero77 places77 rfl rfl) ?_
  refine WL.y rfl (Yld.struct (us := [vs ([97, 47, 99] : List UInt8), vs ([121] : List UInt8)]) zero77 places77 rfl rfl) ?_
  refine WL.call rfl rfl (W_vis_May (hG.grown gr1) hS100 hO1.rd rfl H) ?_
  rintro _ w2 ⟨hg2, t0, rfl, H⟩
  have gr2 := gr_trans gr1 hg2
  refine WL.y rfl (Yld.pure tab_ok rfl) ?_
  refine WL.nil (WX.then_normal ?_)
  refine WC.ret ?_
  exact WX.ret1 rfl rfl ⟨gr2, t0, rfl, H⟩

set_option maxHeartbeats 8000000 in
theorem W_smithyworld_Texts {w : World} {l : List (List UInt8)} {A_l : Option Addr} {c_l : Nat} {most : Int} {long : Int} {n_l : Nat} {K : Bool → Prop} (hl : Rd vs w A_l c_l l) (hn_l : n_l = l.length) (H : M_smithyworld_Texts l most long K) : Fn Tryd.prog 44 ⟨[.slice A_l n_l c_l, .int .i64 most, .int .i64 long]⟩ w (fun v w' => w = w' ∧ ∃ (r : Bool), v = .bool r ∧ K r) := by
  subst hn_l
  unfold M_smithyworld_Texts at H
  refine Fn.enter (by kernel_rfl) Tryd.func44 rfl Tryd.ntmps44 rfl ?_
  replace H := H (Nat.le_trans hl.cap hl.max)
  refine WC.seq ?_
  refine WC.region ?_
  refine WL.y rfl (Yld.pure tab_ok rfl) ?_
  refine WL.nil (WX.then_normal ?_)
  refine WC.seq ?_
  refine WC.seq ?_
  refine WC.region ?_
  refine WL.y rfl (Yld.pure tab_ok rfl) ?_
  refine WL.y rfl (Yld.pure tab_ok rfl) ?_
  refine WL.y rfl (Yld.pure tab_ok rfl) ?_
  refine WL.y rfl (Yld.pure tab_ok rfl) ?_
  refine WL.nil (WX.then_normal ?_)
  refine WC.cond rfl (fun b1 => ?_) (fun b1 => ?_)
  · replace H := H.1 (of_decide_eq_true b1)
    refine WC.seq ?_
    refine WC.region ?_
    refine WL.y rfl (Yld.pure tab_ok rfl) ?_
    refine WL.nil (WX.then_normal ?_)
    refine WC.ret (WX.then_ret ?_)
    exact WX.ret1 rfl rfl ⟨rfl, false, rfl, H⟩
  · replace H := H.2 (of_decide_eq_false b1)
    refine WC.skip (WX.then_normal ?_)
    refine WC.seq ?_
    refine WC.seq ?_
    refine WC.region ?_
    refine WL.y rfl (Yld.pure tab_ok rfl) ?_
    refine WL.nil (WX.then_normal ?_)
    refine WC.block ?_
    obtain ⟨I1, mu1, h0_1, HR1⟩ := H
    refine WC.loopF (fun n' L' w' => ∃ (i : Int), n' = mu1 i ∧ L' = [(0, .slice A_l l.length c_l), (2, .int .i64 long), (7, .int .i64 i)] ∧ I1 i ∧ w = w') _ _ ⟨(0 : Int), rfl, rfl, h0_1, rfl⟩ (by repeat (first | exact Sub.nil | refine Sub.cons rfl ?_)) ?_
    clear h0_1
    rintro _ _ _ ⟨i, rfl, rfl, hI1, rfl⟩
    have H := HR1 i hI1
    refine WC.seq ?_
    refine WC.seq ?_
    refine WC.region ?_
    refine WL.y rfl (Yld.pure tab_ok rfl) ?_
    refine WL.y rfl (Yld.pure tab_ok rfl) ?_
    refine WL.y rfl (Yld.pure tab_ok rfl) ?_
    refine WL.y rfl (Yld.pure tab_ok rfl) ?_
    refine WL.nil (WX.then_normal ?_)
    refine WC.cond rfl (fun b2 => ?_) (fun b2 => ?_)
    · replace H := H.1 (of_decide_eq_true b2)
      refine WC.skip (WX.then_normal ?_)
      refine WC.seq ?_
      refine WC.block ?_
      refine WC.seq ?_
      refine WC.region ?_
      refine WL.y rfl (Yld.pure tab_ok rfl) ?_
      refine WL.y rfl (Yld.pure tab_ok rfl) ?_
      obtain ⟨h1, H⟩ := H
      refine WL.y rfl (Yld.iaddrW tab_ok hl rfl rfl rfl rfl h1.1 h1.2) ?_
      refine WL.y rfl (Yld.iload [] tab_ok hl rfl rfl (iltN h1 rfl)) ?_
      refine WL.y rfl (Yld.pure tab_ok rfl) ?_
      refine WL.y rfl (Yld.pure tab_ok rfl) ?_
      refine WL.y rfl (Yld.pure tab_ok rfl) ?_
      refine WL.nil (WX.then_normal ?_)
      refine WC.cond rfl (fun b3 => ?_) (fun b3 => ?_)
      · replace H := H.1 (of_decide_eq_true b3)
        refine WC.seq ?_
        refine WC.region ?_
        refine WL.y rfl (Yld.pure tab_ok rfl) ?_
        refine WL.nil (WX.then_normal ?_)
        refine WC.ret (WX.block_ret (WX.then_ret (WX.then_ret (WX.block_ret (WX.then_ret ?_)))))
        exact WX.ret1 rfl rfl ⟨rfl, false, rfl, H⟩
      · replace H := H.2 (of_decide_eq_false b3)
        refine WC.skip (WX.block_normal (WX.then_normal ?_))
        refine WC.region ?_
        refine WL.y rfl (Yld.pure tab_ok rfl) ?_
        obtain ⟨h2, H⟩ := H
        refine WL.y rfl (Yld.add rfl rfl h2) ?_
        refine WL.y rfl (Yld.pure tab_ok rfl) ?_
        refine WL.nil ?_
        exact WX.roundF _ ⟨i + (1 : Int), rfl, rfl, H.1, rfl⟩ (by repeat (first | exact Sub.nil | refine Sub.cons rfl ?_)) H.2
    · replace H := H.2 (of_decide_eq_false b2)
      refine WC.exit (WX.then_exit (WX.then_exit (WX.block_same (WX.then_normal ?_))))
      refine WC.seq ?_
      refine WC.region ?_
      refine WL.y rfl (Yld.pure tab_ok rfl) ?_
      refine WL.nil (WX.then_normal ?_)
      refine WC.ret ?_
      exact WX.ret1 rfl rfl ⟨rfl, true, rfl, H⟩

end Go.Proofs.YtilphcippnfklaaDoor
 /- Who may use what: the plain side. -/
namespace Go.Proofs.YtilphcippnfklaaDoor
open Go Go.RowKit
theorem cutPrefix_M {s t : List UInt8} {K : List UInt8 → Bool → Prop} (h : K (if t.isPrefixOf s = true then s.drop t.length else s) (t.isPrefixOf s)) : M_strings_CutPrefix s t K := by
  have e : ((decide ((t.length : Int) ≤ (s.length : Int))) && (decide ((s.take (t.length : Int).toNat) = t))) = t.isPrefixOf s := by
    rw [Bool.eq_iff_iff, Bool.and_eq_true, decide_eq_true_eq, decide_eq_true_eq, List.isPrefixOf_iff_prefix, Int.toNat_natCast]
    exact ⟨fun h => List.prefix_iff_eq_take.2 h.2.symm, fun h => ⟨by have := h.length_le; omega, (List.prefix_iff_eq_take.1 h).symm⟩⟩
  refine ⟨fun h1 => ?_, ?_⟩
  · have := of_decide_eq_true h1; omega
  · rw [e]
    cases hp : t.isPrefixOf s with
    | false => rw [hp] at h; exact ⟨fun _ => h, fun h1 => by cases h1⟩
    | true =>
      rw [hp] at h
      have hl : t.length ≤ s.length := (List.isPrefixOf_iff_prefix.1 hp).length_le
      refine ⟨fun h1 => (by cases h1), fun _ => ⟨by omega, ?_⟩⟩
      rw [Int.toNat_natCast]
      exact h
theorem cut_M {s t : List UInt8} {K : List UInt8 → List UInt8 → Bool → Prop} (hs : s.length ≤ 1000000) (h : K (Lib.cut s t).1 (Lib.cut s t).2.1 (Lib.cut s t).2.2) : M_strings_Cut s t K := ⟨by omega, h⟩
theorem index_colon : ∀ (b t : List UInt8), (58 : UInt8) ∉ b → Lib.index (b ++ 58 :: t) [58] = b.length
  | [], t, _ => by simp [Lib.index, List.isPrefixOf]
  | c :: b, t, h => by
    have hc : c ≠ 58 := fun e => h (by simp [e])
    have ih := index_colon b t (fun e => h (by simp [e]))
    have hp : ([58] : List UInt8).isPrefixOf (c :: (b ++ 58 :: t)) = false := by simp [List.isPrefixOf, Ne.symm hc]
    rw [List.cons_append, Lib.index, hp, ih]
    have : ((b.length : Int) == -1) = false := by rw [beq_eq_false_iff_ne]; omega
    simp [this]
theorem cut_colon (b t : List UInt8) (h : (58 : UInt8) ∉ b) : Lib.cut (b ++ 58 :: t) [58] = (b, t, true) := by
  unfold Lib.cut
  rw [index_colon b t h, if_pos (by omega)]
  simp
def wPub : List UInt8 := [47, 47, 118, 105, 115, 105, 98, 105, 108, 105, 116, 121, 58, 112, 117, 98, 108, 105, 99]
def wPriv : List UInt8 := [47, 47, 118, 105, 115, 105, 98, 105, 108, 105, 116, 121, 58, 112, 114, 105, 118, 97, 116, 101]
def wPkg : List UInt8 := [95, 95, 112, 107, 103, 95, 95]
def wSub : List UInt8 := [95, 95, 115, 117, 98, 112, 97, 99, 107, 97, 103, 101, 115, 95, 95]
def rootB (p : List UInt8) : Bool := decide (p = []) || validB p
def restB (s : List UInt8) : List UInt8 := if ([47, 47] : List UInt8).isPrefixOf s = true then s.drop 2 else s
def groupB (s : List UInt8) : Bool := ((([47, 47] : List UInt8).isPrefixOf s && (Lib.cut (restB s) [58]).2.2) && rootB (Lib.cut (restB s) [58]).1) && (decide ((Lib.cut (restB s) [58]).2.1 = wPkg) || decide ((Lib.cut (restB s) [58]).2.1 = wSub))
theorem cut_len (s : List UInt8) : (Lib.cut s [58]).1.length ≤ s.length := by
  unfold Lib.cut
  split
  · simp only [List.length_take]
    exact Nat.min_le_right _ _
  · exact Nat.le_refl _
theorem restB_len (s : List UInt8) : (restB s).length ≤ s.length := by
  unfold restB
  split
  · simp
  · exact Nat.le_refl _
theorem group_M {s : List UInt8} {K : List UInt8 → List UInt8 → Bool → Prop} (hs : s.length ≤ 100000) (h : K (Lib.cut (restB s) [58]).1 (Lib.cut (restB s) [58]).2.1 (groupB s)) : M_vis_group s K := by
  have h1 := restB_len s
  have h2 := cut_len (restB s)
  refine cutPrefix_M (cut_M (show (restB s).length ≤ 1000000 by omega) ?_)
  show ∃ J1 : Bool → Prop, _
  have key : ∀ r, r = (Lib.cut (restB s) [58]) → ∃ J1 : Bool → Prop, ((((([47, 47] : List UInt8).isPrefixOf s && r.2.2) = true → (((decide (r.1 = ([] : List UInt8))) = true → J1 true) ∧ ((decide (r.1 = ([] : List UInt8))) = false → M_path_Valid r.1 (fun (t32 : Bool) => J1 t32)))) ∧ ((([47, 47] : List UInt8).isPrefixOf s && r.2.2) = false → J1 false))) ∧
      (∀ q2 : Bool, J1 q2 → K r.1 r.2.1 (q2 && ((decide (r.2.1 = ([95, 95, 112, 107, 103, 95, 95] : List UInt8))) || (decide (r.2.1 = ([95, 95, 115, 117, 98, 112, 97, 99, 107, 97, 103, 101, 115, 95, 95] : List UInt8)))))) := by
    intro r hr
    unfold groupB at h
    rw [← hr] at h h2
    refine ⟨fun b => b = ((([47, 47] : List UInt8).isPrefixOf s && r.2.2) && rootB r.1), ⟨fun ht => ⟨fun hn => ?_, fun hn => valid_M (by omega) ?_⟩, fun hf => ?_⟩, fun q hq => ?_⟩
    · show true = _
      rw [ht, rootB, hn]; rfl
    · show _ = _
      rw [ht, rootB, hn]; rfl
    · show false = _
      rw [hf]; rfl
    · rw [hq]; exact h
  exact key _ rfl
def fairS (s : List UInt8) : Bool := (groupB s || decide (s = wPub)) || decide (s = wPriv)
theorem fairS_M {s : List UInt8} {K : Bool → Prop} (hs : s.length ≤ 100000) (h : K (fairS s)) : M_vis_fair s K := group_M hs h
def letsB (s pkg : List UInt8) : Bool := decide (s = wPub) || (groupB s && (decide ((Lib.cut (restB s) [58]).1 = pkg) || (decide ((Lib.cut (restB s) [58]).2.1 = wSub) && underB pkg (Lib.cut (restB s) [58]).1)))
theorem lets_M {s pkg : List UInt8} {K : Bool → Prop} (hs : s.length ≤ 100000) (h : K (letsB s pkg)) : M_vis_lets s pkg K := by
  have h1 := restB_len s
  have h2 := cut_len (restB s)
  unfold letsB at h
  refine ⟨fun e => ?_, fun e => group_M hs ?_⟩
  · rw [decide_eq_true (show s = wPub from e), Bool.true_or] at h
    exact h
  · rw [decide_eq_false (show ¬ s = wPub from e), Bool.false_or] at h
    refine ⟨fun b => b = (groupB s && (decide ((Lib.cut (restB s) [58]).1 = pkg) || (decide ((Lib.cut (restB s) [58]).2.1 = wSub) && underB pkg (Lib.cut (restB s) [58]).1))), ⟨fun ht => ⟨fun he => ?_, fun he => ⟨fun hw => under_M (by omega) ?_, fun hw => ?_⟩⟩, fun hf => ?_⟩, fun q hq => by rw [hq]; exact h⟩
    · rw [ht, he]; rfl
    · rw [ht, he, show decide ((Lib.cut (restB s) [58]).2.1 = wSub) = true from hw]; rfl
    · rw [ht, he, show decide ((Lib.cut (restB s) [58]).2.1 = wSub) = false from hw]; rfl
    · rw [hf]; rfl
def mayB (specs : List (List UInt8)) (a b : List UInt8) : Bool := decide (a = b) || specs.any fun s => letsB s b
theorem may_M {specs : List (List UInt8)} {a x b y : List UInt8} {K : Bool → Prop} (h1 : specs.length ≤ 100000) (h2 : ∀ s ∈ specs, s.length ≤ 100000) (h : K (mayB specs a b)) : M_vis_May specs a x b y K := by
  intro _
  unfold mayB at h
  refine ⟨fun q => q = (decide (a = b) || specs.any fun s => letsB s b), ⟨fun ht => by rw [ht]; rfl, fun hf => ?_⟩, fun q hq => by rw [hq]; exact h⟩
  intro _ _
  refine ⟨fun i => 0 ≤ i ∧ i ≤ specs.length ∧ ∀ j, j < i.toNat → letsB (specs.getD j []) b = false, fun i => specs.length - i.toNat, ⟨by omega, by omega, by intro j hj; simp at hj⟩, fun i ⟨a0, a1, a2⟩ => ⟨fun hlt => ⟨by omega, ?_⟩, fun hge => ?_⟩⟩
  · have hm : specs.getD i.toNat [] ∈ specs := getD_mem (by omega)
    refine lets_M (h2 _ hm) ⟨fun ht => ?_, fun hff => ⟨by simp only [In]; omega, ⟨by omega, by omega, fun j hj => ?_⟩, by (try dsimp only); omega⟩⟩
    · show decide (0 ≤ i) = _
      rw [hf, decide_eq_true a0, Bool.false_or, List.any_eq_true.2 ⟨_, hm, ht⟩]
    · by_cases e : j = i.toNat
      · rw [e]; exact hff
      · exact a2 j (by omega)
  · show decide ((0 : Int) ≤ -1) = _
    have : (specs.any fun s => letsB s b) = false := by
      rw [← Bool.not_eq_true, List.any_eq_true]
      rintro ⟨x, hx, he⟩
      obtain ⟨j, hj, rfl⟩ := List.getElem_of_mem hx
      have := a2 j (by omega)
      simp only [List.getD, List.getElem?_eq_getElem hj, Option.getD_some] at this
      rw [this] at he; cases he
    rw [hf, this]; rfl
theorem validOne_M {s : List UInt8} {K : Er → Prop} (hs : s.length ≤ 100000) (h0 : fairS s = true → K .ok) (h1 : fairS s = false → K (.at_ 0 5)) : M_vis_Valid [s] K := by
  intro _ _
  refine ⟨fun i => (i = 0 ∨ i = 1) ∧ (i = 1 → fairS s = true), fun i => 1 - i.toNat, ⟨by omega, by omega⟩, fun i ⟨a0, a1⟩ => ⟨fun hlt => ⟨by simp only [List.length_cons, List.length_nil] at hlt ⊢; omega, ?_⟩, fun hge => ⟨fun h => by omega, fun _ => h0 (a1 (by simp only [List.length_cons, List.length_nil] at hge; omega))⟩⟩⟩
  have e : i = 0 := by simp only [List.length_cons, List.length_nil] at hlt; omega
  subst e
  refine fairS_M hs ⟨fun ht => ⟨fun _ => ⟨5, rfl, h1 (by simpa using ht)⟩, fun h => absurd (by omega) h⟩, fun hf => ⟨by simp only [In]; omega, ⟨by omega, fun _ => by simpa using hf⟩, by (try dsimp only); omega⟩⟩
theorem vtexts_M {l : List (List UInt8)} {most long : Int} {K : Bool → Prop} (h0 : K false) (h1 : (l.length : Int) ≤ most → l.length ≤ 1000000 → (∀ x ∈ l, (x.length : Int) ≤ long) → K true) (hl : most ≤ 1000000) : M_smithyworld_Texts l most long K := by
  intro _
  refine ⟨fun _ => h0, fun hm => ⟨fun i => 0 ≤ i ∧ i ≤ l.length ∧ ∀ j, j < i.toNat → ((l.getD j []).length : Int) ≤ long, fun i => l.length - i.toNat, ⟨by omega, by omega, by intro j hj; simp at hj⟩, fun i ⟨a0, a1, a2⟩ => ⟨fun hlt => ⟨by omega, fun _ => h0, fun hle => ⟨by simp only [In]; omega, ⟨by omega, by omega, fun j hj => ?_⟩, by (try dsimp only); omega⟩⟩, fun hge => h1 (by omega) (by omega) fun x hx => ?_⟩⟩⟩
  · by_cases e : j = i.toNat
    · rw [e]; omega
    · exact a2 j (by omega)
  · obtain ⟨j, hj, rfl⟩ := List.getElem_of_mem hx
    have := a2 j (by omega)
    simpa [List.getD, hj] using this
/-! a spec written out -/
theorem ends_ne {a b c d : List UInt8} (h : a ++ b = c) (hd : d.length = b.length) (hc : c.drop (c.length - d.length) ≠ b) : False := by
  apply hc
  subst h
  rw [hd, List.length_append, Nat.add_sub_cancel]
  exact List.drop_left
theorem restB_full (b t : List UInt8) : restB ([47, 47] ++ b ++ 58 :: t) = b ++ 58 :: t := by
  unfold restB
  simp [List.isPrefixOf]
theorem group_full (b t : List UInt8) (ht : t = wPkg ∨ t = wSub) (hb : (58 : UInt8) ∉ b) : groupB ([47, 47] ++ b ++ 58 :: t) = rootB b ∧ (Lib.cut (restB ([47, 47] ++ b ++ 58 :: t)) [58]) = (b, t, true) := by
  have hc : Lib.cut (restB ([47, 47] ++ b ++ 58 :: t)) [58] = (b, t, true) := by rw [restB_full, cut_colon b t hb]
  refine ⟨?_, hc⟩
  unfold groupB
  rw [hc]
  rcases ht with rfl | rfl <;> simp [List.isPrefixOf]
theorem group_colon (b t : List UInt8) (hb : (58 : UInt8) ∈ b) : groupB ([47, 47] ++ b ++ 58 :: t) = false := by
  obtain ⟨x, y, rfl, hx⟩ := List.eq_append_cons_of_mem hb
  unfold groupB
  have e : (x ++ 58 :: y) ++ 58 :: t = x ++ 58 :: (y ++ 58 :: t) := by simp
  rw [restB_full, e, cut_colon x _ hx]
  have h1 : (y ++ 58 :: t) ≠ wPkg := fun e => by
    have : (58 : UInt8) ∈ wPkg := by rw [← e]; simp
    revert this; decide
  have h2 : (y ++ 58 :: t) ≠ wSub := fun e => by
    have : (58 : UInt8) ∈ wSub := by rw [← e]; simp
    revert this; decide
  simp [h1, h2]
theorem full_ne {b t w : List UInt8} (h : w.drop (w.length - t.length) ≠ t) : [47, 47] ++ b ++ 58 :: t ≠ w := fun e => ends_ne (a := [47, 47] ++ b ++ [58]) (b := t) (c := w) (d := t) (by rw [← e]; simp) rfl h
def specOk (b : List UInt8) : Bool := !b.contains 58 && rootB b
theorem group_spec (b t : List UInt8) (ht : t = wPkg ∨ t = wSub) : groupB ([47, 47] ++ b ++ 58 :: t) = specOk b := by
  unfold specOk
  by_cases hb : (58 : UInt8) ∈ b
  · rw [group_colon b t hb]; simp [hb]
  · rw [(group_full b t ht hb).1]; simp [hb]
theorem lets_spec (b t : List UInt8) (ht : t = wPkg ∨ t = wSub) : letsB ([47, 47] ++ b ++ 58 :: t) b = specOk b := by
  have hp : decide ([47, 47] ++ b ++ 58 :: t = wPub) = false := decide_eq_false (full_ne (by rcases ht with rfl | rfl <;> decide))
  unfold letsB
  rw [hp, Bool.false_or, group_spec b t ht]
  by_cases hb : (58 : UInt8) ∈ b
  · simp [specOk, hb]
  · rw [(group_full b t ht hb).2]; simp
theorem fair_spec (b : List UInt8) : fairS ([47, 47] ++ b ++ 58 :: wPkg) = specOk b := by
  unfold fairS
  rw [group_spec b wPkg (.inl rfl), decide_eq_false (full_ne (b := b) (t := wPkg) (w := wPub) (by decide)), decide_eq_false (full_ne (b := b) (t := wPkg) (w := wPriv) (by decide))]
  simp
theorem lets_priv (b : List UInt8) : letsB wPriv b = false := by
  have : groupB wPriv = false := by decide +kernel
  unfold letsB
  rw [this, decide_eq_false (by decide)]
  rfl
theorem lets_pub (b : List UInt8) : letsB wPub b = true := by
  unfold letsB
  simp
theorem vfirst_M {K : Bool → Prop} (h : K true) : M_smithylaw20_first K := by
  refine may_M (by simp) (fun s hs => by simp at hs; subst hs; simp) ?_
  have : mayB [([47, 47, 97, 58, 95, 95, 115, 117, 98, 112, 97, 99, 107, 97, 103, 101, 115, 95, 95] : List UInt8)] [98] [97, 47, 99] = true := by decide +kernel
  rw [this]; exact h
end Go.Proofs.YtilphcippnfklaaDoor

 /- smithysee.Is, plainly. -/
namespace Go.Proofs.YtilphcippnfklaaDoor
open Go Go.RowKit
def isB : Er → Int → Bool
  | .ok, c => decide (0 = c)
  | .e n, c => decide (101 + (n : Int) = c)
  | .at_ _ _, _ => false
theorem is_M {e : Er} {code : Int} {K : Bool → Prop} (h : K (isB e code)) : M_smithysee_Is e code K := by
  unfold M_smithysee_Is M_smithyref_Bare M_smithysee_Same M_smithysee_Fault M_smithyref_None M_smithyref_SameFault M_smithysee_placed M_smithysee_sentinel M_smithyref_Bare M_smithyref_Placed M_smithyref_None
  cases e with
  | ok => refine ⟨fun _ => ?_, fun h2 => absurd rfl h2⟩; exact (congrArg K (show isB .ok code = _ by simp [isB])).mp h
  | e n => refine ⟨fun h2 => (by cases h2), fun _ => ⟨fun p m h2 => (by cases h2), fun _ => ?_⟩⟩; exact (congrArg K (show isB (.e n) code = _ by rw [Bool.eq_iff_iff]; simp [isB, sentV]; exact decide_eq_true_iff.symm)).mp h
  | at_ p n =>
    refine ⟨fun h2 => (by cases h2), fun _ => ⟨fun p' m h2 => ?_, fun h2 => absurd rfl (h2 p n)⟩⟩
    cases h2
    refine ⟨fun h2 => (by simp at h2), fun _ => ⟨fun h2 => (by simp only [sentV] at h2; omega), fun _ => ?_⟩⟩
    exact (congrArg K (show isB (.at_ p n) code = _ by simp [isB])).mp h
end Go.Proofs.YtilphcippnfklaaDoor
 /- The chapter's own words for paths (smithyref1), and PathSays. -/
namespace Go.Proofs.YtilphcippnfklaaDoor
open Go Go.RowKit
theorem letNat (c : UInt8) : letB c = ((((((((((((((decide (97 ≤ c.toNat) && decide (c.toNat ≤ 122)) || (decide (65 ≤ c.toNat) && decide (c.toNat ≤ 90))) || (decide (48 ≤ c.toNat) && decide (c.toNat ≤ 57))) || decide (c.toNat = 33)) || decide (c.toNat = 35)) || decide (c.toNat = 37)) || decide (c.toNat = 43)) || decide (c.toNat = 44)) || decide (c.toNat = 45)) || decide (c.toNat = 46)) || decide (c.toNat = 61)) || decide (c.toNat = 64)) || decide (c.toNat = 95)) || decide (c.toNat = 126)) := by
  have h : ∀ n : Fin 256, letB (UInt8.ofNat n.val) = ((((((((((((((decide (97 ≤ n.val) && decide (n.val ≤ 122)) || (decide (65 ≤ n.val) && decide (n.val ≤ 90))) || (decide (48 ≤ n.val) && decide (n.val ≤ 57))) || decide (n.val = 33)) || decide (n.val = 35)) || decide (n.val = 37)) || decide (n.val = 43)) || decide (n.val = 44)) || decide (n.val = 45)) || decide (n.val = 46)) || decide (n.val = 61)) || decide (n.val = 64)) || decide (n.val = 95)) || decide (n.val = 126)) := by decide +kernel
  have := h ⟨c.toNat, c.toNat_lt⟩
  simpa using this
theorem rletter_M {c : UInt8} {K : Bool → Prop} (h : K (letB c)) : M_smithyref1_letter (c.toNat : Int) K := by
  unfold M_smithyref1_letter
  rw [letNat] at h
  have d : ∀ a b : Nat, decide ((a : Int) ≤ (b : Int)) = decide (a ≤ b) := fun a b => by rw [decide_eq_decide]; omega
  have e : ∀ a b : Nat, decide ((a : Int) = (b : Int)) = decide (a = b) := fun a b => by rw [decide_eq_decide]; omega
  have d1 : decide ((97 : Int) ≤ (c.toNat : Int)) = decide (97 ≤ c.toNat) := d 97 c.toNat
  have d2 : decide ((c.toNat : Int) ≤ (122 : Int)) = decide (c.toNat ≤ 122) := d c.toNat 122
  have d3 : decide ((65 : Int) ≤ (c.toNat : Int)) = decide (65 ≤ c.toNat) := d 65 c.toNat
  have d4 : decide ((c.toNat : Int) ≤ (90 : Int)) = decide (c.toNat ≤ 90) := d c.toNat 90
  have d5 : decide ((48 : Int) ≤ (c.toNat : Int)) = decide (48 ≤ c.toNat) := d 48 c.toNat
  have d6 : decide ((c.toNat : Int) ≤ (57 : Int)) = decide (c.toNat ≤ 57) := d c.toNat 57
  have e1 : decide ((c.toNat : Int) = (33 : Int)) = decide (c.toNat = 33) := e c.toNat 33
  have e2 : decide ((c.toNat : Int) = (35 : Int)) = decide (c.toNat = 35) := e c.toNat 35
  have e3 : decide ((c.toNat : Int) = (37 : Int)) = decide (c.toNat = 37) := e c.toNat 37
  have e4 : decide ((c.toNat : Int) = (43 : Int)) = decide (c.toNat = 43) := e c.toNat 43
  have e5 : decide ((c.toNat : Int) = (44 : Int)) = decide (c.toNat = 44) := e c.toNat 44
  have e6 : decide ((c.toNat : Int) = (45 : Int)) = decide (c.toNat = 45) := e c.toNat 45
  have e7 : decide ((c.toNat : Int) = (46 : Int)) = decide (c.toNat = 46) := e c.toNat 46
  have e8 : decide ((c.toNat : Int) = (61 : Int)) = decide (c.toNat = 61) := e c.toNat 61
  have e9 : decide ((c.toNat : Int) = (64 : Int)) = decide (c.toNat = 64) := e c.toNat 64
  have e10 : decide ((c.toNat : Int) = (95 : Int)) = decide (c.toNat = 95) := e c.toNat 95
  have e11 : decide ((c.toNat : Int) = (126 : Int)) = decide (c.toNat = 126) := e c.toNat 126
  rw [d1, d2, d3, d4, d5, d6, e1, e2, e3, e4, e5, e6, e7, e8, e9, e10, e11]
  exact h
theorem rpart_M {s : List UInt8} {K : Bool → Prop} (hs : s.length ≤ 4000000000) (h : K (fairB s)) : M_smithyref1_part s false K := by
  unfold M_smithyref1_part
  refine ⟨fun i => ∃ k : Nat, i = k ∧ k ≤ s.length ∧ (s.take k).all letB = true, fun i => (s.length - i.toNat), ⟨0, rfl, by omega, by simp⟩, ?_⟩
  rintro _ ⟨k, rfl, hk, hall⟩
  refine ⟨fun hlt => ⟨by omega, rletter_M ?_⟩, fun hge => ?_⟩
  · have hk' : k < s.length := by omega
    rw [Int.toNat_natCast]
    cases hl : letB (s.getD k 0) with
    | false =>
      refine ⟨fun _ h => (by cases h), fun _ => ?_, fun h1 => by simp at h1⟩
      have : s.all letB = false := by
        rw [List.all_eq_false]
        exact ⟨s.getD k 0, getD_mem hk', by rw [hl]; simp⟩
      unfold fairB at h
      rw [this] at h
      exact h
    | true => exact ⟨fun h1 => by simp at h1, fun h1 => by simp at h1, fun _ => ⟨by simp only [In]; omega, ⟨k + 1, by omega, by omega, take_all_succ hall hk' hl⟩, by dsimp only; omega⟩⟩
  · obtain rfl : k = s.length := by omega
    rw [List.take_length] at hall
    unfold fairB dotsB at h
    rw [hall, Bool.true_and, Bool.not_or, Bool.not_or] at h
    exact h
theorem rparts_M {p : List UInt8} {K : List (List UInt8) → Prop} (hp : p.length ≤ 4000000000) (h : K (cuts p)) : M_smithyref1_Parts p K := by
  unfold M_smithyref1_Parts
  have hn := cuts_length p
  refine ⟨fun out f i => ∃ (a k : Nat), f = a ∧ i = k ∧ ((a ≤ k ∧ k ≤ p.length ∧ out ++ cuts (p.drop a) = cuts p ∧ ∀ j, a ≤ j → j < k → p.getD j 0 ≠ 47) ∨ (k = p.length + 1 ∧ out = cuts p)), fun _ _ i => p.length + 1 - i.toNat, ⟨0, 0, rfl, rfl, .inl ⟨by omega, by omega, by simp, fun j _ h => by omega⟩⟩, ?_⟩
  rintro out _ _ ⟨a, k, rfl, rfl, hI⟩
  refine ⟨fun hlt => ?_, fun hge => ?_⟩
  · rcases hI with ⟨hak, hk, hc, hno⟩ | ⟨hk, _⟩
    · have ho : out.length ≤ (cuts p).length := by rw [← hc, List.length_append]; omega
      have hpiece : cuts ((p.drop a).take (k - a)) = [(p.drop a).take (k - a)] := cuts_none fun c hcm => by
        obtain ⟨j, hj, rfl⟩ := List.getElem_of_mem hcm
        rw [List.length_take, List.length_drop] at hj
        have := hno (a + j) (by omega) (by omega)
        rw [List.getElem_take, List.getElem_drop]
        simpa [List.getD, show a + j < p.length by omega] using this
      refine ⟨fun out' f' => ∃ a' : Nat, f' = a' ∧ ((a' ≤ k + 1 ∧ k + 1 ≤ p.length ∧ out' ++ cuts (p.drop a') = cuts p ∧ ∀ j, a' ≤ j → j < k + 1 → p.getD j 0 ≠ 47) ∨ (k = p.length ∧ out' = cuts p)), ⟨fun h1 => ?_, fun h1 => ?_, fun h1 => ?_⟩, ?_⟩
      · have := of_decide_eq_false h1; omega
      · rw [Int.toNat_natCast] at h1
        simp only [Int.toNat_natCast]
        refine ⟨by omega, by simp only [List.length_cons, List.length_nil]; omega, by simp only [In]; omega, k + 1, by omega, ?_⟩
        by_cases e : k = p.length
        · refine .inr ⟨e, ?_⟩
          rw [← hc]
          have : (p.drop a).take (k - a) = p.drop a := List.take_of_length_le (by rw [List.length_drop]; omega)
          rw [this] at hpiece ⊢
          rw [hpiece]
        · have hk' : k < p.length := by omega
          have h47 : p.getD k 0 = 47 := by
            rw [decide_eq_false (by omega : ¬ (k : Int) = (p.length : Int)), Bool.false_or] at h1
            exact UInt8.toNat_inj.mp (show (p.getD k 0).toNat = 47 by have := of_decide_eq_true h1; omega)
          refine .inl ⟨by omega, by omega, ?_, fun j h2 h3 => by omega⟩
          rw [← hc, List.append_assoc]
          congr 1
          have h2 : p[k] = 47 := by simpa [List.getD, hk'] using h47
          have : p.drop a = (p.drop a).take (k - a) ++ 47 :: p.drop (k + 1) := by
            conv => lhs; rw [← List.take_append_drop (k - a) (p.drop a)]
            congr 1
            rw [List.drop_drop, show a + (k - a) = k by omega, List.drop_eq_getElem_cons hk', h2]
          conv => rhs; rw [this]
          rw [cuts_append, hpiece]
      · rw [Int.toNat_natCast, Bool.or_eq_false_iff] at h1
        have h2 := of_decide_eq_false h1.1
        have h3 := of_decide_eq_false h1.2
        refine ⟨a, rfl, .inl ⟨by omega, by omega, hc, fun j h4 h5 => ?_⟩⟩
        by_cases e : j = k
        · rw [e]; exact fun h6 => h3 (by rw [h6]; rfl)
        · exact hno j h4 (by omega)
      · rintro out' _ ⟨a', rfl, hI'⟩
        refine ⟨by simp only [In]; omega, ⟨a', k + 1, rfl, by omega, ?_⟩, by dsimp only; omega⟩
        rcases hI' with h1 | ⟨h1, h2⟩
        · exact .inl h1
        · exact .inr ⟨by omega, h2⟩
    · omega
  · rcases hI with ⟨_, hk, _⟩ | ⟨_, rfl⟩
    · omega
    · exact h
theorem glue_snoc {l : List (List UInt8)} {x : List UInt8} (h : l ≠ []) : glue (l ++ [x]) = glue l ++ 47 :: x := by
  induction l with
  | nil => exact absurd rfl h
  | cons y l ih =>
    cases l with
    | nil => simp [glue]
    | cons z l =>
      have := ih (by simp)
      simp only [List.cons_append] at this ⊢
      simp only [glue]
      rw [this]
      simp
theorem rglue_M {l : List (List UInt8)} {K : List UInt8 → Prop} (hw : wt l ≤ 4000000000) (h : K (glue l)) : M_smithyref1_glue l K := by
  intro _
  have hl := length_wt l
  refine ⟨fun s i => ∃ k : Nat, i = k ∧ k ≤ l.length ∧ s = glue (l.take k), fun _ i => l.length - i.toNat, ⟨0, rfl, by omega, by simp [glue]⟩, ?_⟩
  rintro _ _ ⟨k, rfl, hk, rfl⟩
  have hg := glue_length (l.take k)
  have ht := wt_take l k
  refine ⟨fun hlt => ⟨fun s => s = if k = 0 then [] else glue (l.take k) ++ [47], ⟨fun h1 => ⟨by simp only [List.length_cons, List.length_nil]; omega, ?_⟩, fun h1 => ?_⟩, ?_⟩, fun hge => ?_⟩
  · dsimp only
    rw [if_neg (by omega)]
  · dsimp only
    rw [if_pos (by omega)]
    obtain rfl : k = 0 := by omega
    simp [glue]
  · rintro _ rfl
    have hk' : k < l.length := by omega
    rw [Int.toNat_natCast]
    have hx : (l.getD k []).length ≤ wt l := by
      have h1 : wt (l.drop k) ≤ wt l := by
        conv => rhs; rw [← List.take_append_drop k l]
        rw [wt_append]; omega
      rw [List.drop_eq_getElem_cons hk'] at h1
      simp only [wt] at h1
      have : l.getD k [] = l[k] := by simp [List.getD, hk']
      rw [this]; omega
    have hs : l.take (k + 1) = l.take k ++ [l.getD k []] := by
      rw [List.take_succ_eq_append_getElem hk']
      simp [List.getD, hk']
    refine ⟨by omega, ?_, by simp only [In]; omega, ⟨k + 1, by omega, by omega, ?_⟩, by dsimp only; omega⟩
    · split
      · simp only [List.length_nil]; omega
      · rw [List.length_append]; simp only [List.length_cons, List.length_nil]; omega
    · rw [hs]
      split
      · rename_i e
        subst e
        simp [glue]
      · rename_i e
        rw [glue_snoc (fun h1 => by have := congrArg List.length h1; rw [List.length_take, List.length_nil] at this; omega)]
        simp
  · obtain rfl : k = l.length := by omega
    rw [List.take_length]
    exact h
def KR (K : List UInt8 → Bool → Prop) : Option (List UInt8) → Prop
  | none => K [] false
  | some o => K o true
theorem rclean_M {p : List UInt8} {K : List UInt8 → Bool → Prop} (hp : p.length ≤ 4000000000 - 1) (h : KR K (cleanP p)) : M_smithyref1_Clean p K := by
  unfold M_smithyref1_Clean
  refine rparts_M (by omega) ?_
  have hw := wt_cuts p
  have hn := length_wt (cuts p)
  refine ⟨fun l i => ∃ k : Nat, i = k ∧ k ≤ (cuts p).length ∧ wt l + wt ((cuts p).drop k) ≤ p.length + 1 ∧ cl l ((cuts p).drop k) = cl [] (cuts p), fun l i => (cuts p).length - i.toNat, ⟨0, rfl, by omega, by simp [wt, hw], by simp⟩, ?_⟩
  rintro l _ ⟨k, rfl, hk, hb, hc⟩
  have hl := length_wt l
  refine ⟨fun hlt => ?_, fun hge => ?_⟩
  · have hk' : k < (cuts p).length := by omega
    have hd : (cuts p).drop k = (cuts p).getD k [] :: (cuts p).drop (k + 1) := by
      rw [List.drop_eq_getElem_cons hk']
      simp [List.getD, hk']
    have hm : (cuts p).getD k [] ∈ cuts p := getD_mem hk'
    have hx := cuts_part hm
    rw [hd] at hb hc
    rw [Int.toNat_natCast]
    generalize (cuts p).getD k [] = x at hb hc hx hm
    simp only [wt, cl] at hb hc
    refine ⟨fun l' => wt l' + wt ((cuts p).drop (k + 1)) ≤ p.length + 1 ∧ cl l' ((cuts p).drop (k + 1)) = cl [] (cuts p), ⟨by omega, fun _ => by omega, fun h1 => ?_, fun h1 => ⟨by omega, fun h2 => ⟨fun h3 => ?_, fun h3 => ?_⟩, fun h2 => ⟨by omega, ?_⟩⟩⟩, ?_⟩
    · rw [if_pos h1] at hc
      exact ⟨by omega, hc⟩
    · rw [if_neg (by rw [h1]; simp), if_neg (by rw [decide_eq_false (by omega : ¬ 0 < l.length)]; simp), if_neg (by rw [h2]; decide)] at hc
      unfold cleanP at h
      rw [← hc] at h
      exact h
    · rw [if_neg (by rw [h1]; simp), if_pos (by rw [decide_eq_true h2, decide_eq_true (by omega : 0 < l.length)]; rfl)] at hc
      have ht := wt_take l (l.length - 1)
      rw [show ((l.length : Int) - 1).toNat = l.length - 1 by omega]
      exact ⟨by simp only [In]; omega, by omega, by omega, hc⟩
    · rw [if_neg (by rw [h1]; simp), if_neg (by rw [decide_eq_false h2]; simp)] at hc
      refine rpart_M (by omega) ⟨fun h3 => ?_, fun h3 => ?_⟩
      · have h4 : fairB x = false := by simpa using h3
        rw [if_neg (by rw [h4]; simp)] at hc
        unfold cleanP at h
        rw [← hc] at h
        exact h
      · have h4 : fairB x = true := by simpa using h3
        rw [if_pos h4] at hc
        refine ⟨by omega, by simp only [List.length_cons, List.length_nil]; omega, ?_, hc⟩
        rw [wt_append]
        simp only [wt]
        omega
    · intro l' h'
      exact ⟨by simp only [In]; omega, ⟨k + 1, by omega, by omega, h'.1, h'.2⟩, by dsimp only; omega⟩
  · obtain rfl : k = (cuts p).length := by omega
    rw [List.drop_length] at hb hc
    simp only [cl, wt] at hb hc
    refine rglue_M (by omega) ?_
    unfold cleanP at h
    rw [← hc] at h
    dsimp only at h
    refine ⟨fun h1 => ?_, fun h1 => ?_⟩
    · rw [if_neg (by omega)] at h
      exact h
    · rw [if_pos (by omega)] at h
      exact h
def oS : Option (List UInt8) → List UInt8
  | none => []
  | some o => o
def oE : Option (List UInt8) → Er
  | none => .e 11
  | some _ => .ok
theorem kc {K : List UInt8 → Er → Prop} {x : Option (List UInt8)} (h : K (oS x) (oE x)) : KC K x := by cases x <;> exact h
theorem kr {K : List UInt8 → Bool → Prop} {x : Option (List UInt8)} (h : K (oS x) x.isSome) : KR K x := by cases x <;> exact h
theorem valid_is (p : List UInt8) : ((cleanP p).isSome && decide (oS (cleanP p) = p) && !decide (p = [])) = validB p := by
  cases hv : validB p with
  | true =>
    have hl : p.length ≤ 200 := by
      unfold validB at hv
      rw [Bool.and_eq_true] at hv
      exact of_decide_eq_true hv.1
    rw [clean_fairs hl (valid_parts hv)]
    simp [oS, (valid_head hv).1]
  | false =>
    cases hc : cleanP p with
    | none => rfl
    | some o =>
      by_cases e : o = p
      · subst e
        have ho := cln_of hc
        rcases ho.2 with rfl | ⟨_, h4⟩
        · simp
        · rw [valid_of ho.1 h4] at hv; cases hv
      · simp [oS, e]
theorem last_uniq {o : List UInt8} {r s : Int} (hr : LastIs o 47 r) (hs : LastIs o 47 s) : r = s := by
  rcases hr with ⟨rfl, h1⟩ | ⟨i, rfl, hi, hc, hno⟩
  · rcases hs with ⟨rfl, _⟩ | ⟨j, rfl, hj, hd, _⟩
    · rfl
    · exact absurd hd (h1 j hj)
  · rcases hs with ⟨rfl, h1⟩ | ⟨j, rfl, hj, hd, hno'⟩
    · exact absurd hc (h1 i hi)
    · rcases Nat.lt_trichotomy i j with h2 | h2 | h2
      · exact absurd hd (hno j h2 hj)
      · rw [h2]
      · exact absurd hc (hno' i h2 hi)
theorem runder_M {p d : List UInt8} {K : Bool → Prop} (h : K (underB p d)) : M_smithyref1_Under p d K := by
  unfold M_smithyref1_Under
  unfold underB at h
  refine ⟨fun e => ?_, fun e => ⟨fun h1 => ?_, fun h1 => ?_, ?_⟩⟩
  · rw [if_pos e] at h; exact h
  · have := of_decide_eq_true h1; omega
  · rw [Bool.and_eq_true] at h1
    have := of_decide_eq_true h1.1; omega
  · rw [if_neg e] at h
    have heq : ((decide ((d.length : Int) < (p.length : Int)) && decide (p.take (d.length : Int).toNat = d)) && decide (((p.getD (d.length : Int).toNat 0).toNat : Int) = 47)) = (d ++ [47]).isPrefixOf p := by
      rw [Bool.eq_iff_iff, Bool.and_eq_true, Bool.and_eq_true, decide_eq_true_eq, decide_eq_true_eq, decide_eq_true_eq, List.isPrefixOf_iff_prefix, Int.toNat_natCast]
      constructor
      · rintro ⟨⟨h1, h2⟩, h3⟩
        have hlt : d.length < p.length := by omega
        have h4 : p[d.length] = 47 := by
          have : p.getD d.length 0 = 47 := UInt8.toNat_inj.mp (show (p.getD d.length 0).toNat = 47 by omega)
          simpa [List.getD, hlt] using this
        have : d ++ [47] = p.take (d.length + 1) := by rw [List.take_succ_eq_append_getElem hlt, h2, h4]
        rw [this]
        exact List.take_prefix _ _
      · rintro ⟨t, rfl⟩
        refine ⟨⟨by simp; omega, by simp⟩, by simp [List.getD]⟩
    rw [heq]
    exact h
theorem wt_le {l : List (List UInt8)} (h : ∀ x ∈ l, x.length ≤ 300) : wt l ≤ 301 * l.length := by
  induction l with
  | nil => simp [wt]
  | cons x l ih =>
    have h1 := h x (by simp)
    have h2 := ih (fun y hy => h y (by simp [hy]))
    simp only [wt, List.length_cons]
    omega
theorem is_oE (x : Option (List UInt8)) : isB (oE x) (if x.isSome then 0 else 112) = true := by cases x <;> rfl
end Go.Proofs.YtilphcippnfklaaDoor

 /- Texts in order, each once: plain, no program. -/
namespace Go.Proofs.YtilphcippnfklaaDoor
open Go
abbrev Bs := List UInt8
theorem bs_lt_or (a b : Bs) : a < b ∨ a = b ∨ b < a := by
  by_cases h : a < b
  · exact .inl h
  · by_cases k : b < a
    · exact .inr (.inr k)
    · exact .inr (.inl (List.le_antisymm (List.not_lt.1 k) (List.not_lt.1 h)))
theorem bs_lt_of {a b : Bs} (h : a ≤ b) (hne : a ≠ b) : a < b := by
  rcases bs_lt_or a b with h1 | h1 | h1
  · exact h1
  · exact absurd h1 hne
  · exact absurd h1 (List.not_lt.2 h)
theorem bs_le_lt {a b c : Bs} (h : a ≤ b) (k : b < c) : a < c := by
  by_cases e : a = b
  · rw [e]; exact k
  · exact List.lt_trans (bs_lt_of h e) k
def Strict (l : List Bs) : Prop := l.Pairwise (· < ·)
theorem Strict.nodup {l : List Bs} (h : Strict l) : l.Nodup := List.Pairwise.imp (fun {a b} (hab : a < b) (e : a = b) => List.lt_irrefl b (e ▸ hab)) h
theorem strict_uniq : ∀ {a b : List Bs}, Strict a → Strict b → (∀ x, x ∈ a ↔ x ∈ b) → a = b
  | [], [], _, _, _ => rfl
  | [], y :: b, _, _, h => by have := (h y).2 (by simp); simp at this
  | x :: a, [], _, _, h => by have := (h x).1 (by simp); simp at this
  | x :: a, y :: b, ha, hb, h => by
    have ha' := List.pairwise_cons.1 ha
    have hb' := List.pairwise_cons.1 hb
    have hxy : x = y := by
      rcases List.mem_cons.1 ((h x).1 (by simp)) with e | hx
      · exact e
      · rcases List.mem_cons.1 ((h y).2 (by simp)) with e | hy
        · exact e.symm
        · exact absurd (ha'.1 y hy) (List.lt_asymm (hb'.1 x hx))
    subst hxy
    rw [strict_uniq ha'.2 hb'.2 (fun z => ?_)]
    constructor
    · intro hz
      rcases List.mem_cons.1 ((h z).1 (by simp [hz])) with e | hz'
      · subst e; exact absurd (ha'.1 z hz) (List.lt_irrefl z)
      · exact hz'
    · intro hz
      rcases List.mem_cons.1 ((h z).2 (by simp [hz])) with e | hz'
      · subst e; exact absurd (hb'.1 z hz) (List.lt_irrefl z)
      · exact hz'
def sortB (l : List Bs) : List Bs := l.mergeSort fun x y => decide (x ≤ y)
theorem sortB_le (l : List Bs) : (sortB l).Pairwise (· ≤ ·) := by
  have h := List.pairwise_mergeSort (le := fun (x y : Bs) => decide (x ≤ y)) (fun a b c h k => by
    simp only [decide_eq_true_eq] at h k ⊢
    exact List.le_trans h k) (fun a b => by
    simp only [Bool.or_eq_true, decide_eq_true_eq]
    exact List.le_total a b) l
  exact h.imp fun h => by simpa using h
theorem sortB_mem (l : List Bs) (x : Bs) : x ∈ sortB l ↔ x ∈ l := (List.mergeSort_perm l _).mem_iff
theorem compactUpTo_strict {ys : List Bs} (h : ys.Pairwise (· ≤ ·)) : ∀ m, m ≤ ys.length → Strict (Lib.compactUpTo ys.toArray m) ∧ ∀ x, x ∈ Lib.compactUpTo ys.toArray m ↔ x ∈ ys.take m
  | 0, _ => ⟨List.Pairwise.nil, fun x => by simp [Lib.compactUpTo]⟩
  | m + 1, hm => by
    obtain ⟨h1, h2⟩ := compactUpTo_strict h m (by omega)
    have hget : ∀ i, i < ys.length → ys.toArray[i]! = ys.getD i [] := fun i hi => by simp [List.getD, hi]
    have hlast : ys.take (m + 1) = ys.take m ++ [ys.getD m []] := by rw [List.take_succ_eq_append_getElem (by omega)]; simp [List.getD, show m < ys.length by omega]
    rw [Lib.compactUpTo_succ, hlast, hget m (by omega)]
    cases hk : Lib.keeps ys.toArray m with
    | true =>
      simp only [if_true]
      refine ⟨List.pairwise_append.2 ⟨h1, List.pairwise_singleton _ _, fun x hx y hy => ?_⟩, fun x => by rw [List.mem_append, List.mem_append, h2]⟩
      simp only [List.mem_singleton] at hy
      subst hy
      have hx' := (h2 x).1 hx
      obtain ⟨i, hi, he⟩ := List.getElem_of_mem hx'
      simp only [List.length_take] at hi
      simp only [List.getElem_take] at he
      have hpw := List.pairwise_iff_getElem.1 h
      have h0 : m ≠ 0 := by omega
      simp only [Lib.keeps, h0, false_or, decide_eq_true_eq, ne_eq] at hk
      rw [hget m (by omega), hget (m - 1) (by omega)] at hk
      have hle : x ≤ ys.getD (m - 1) [] := by
        have e1 : ys.getD (m - 1) [] = ys[m - 1]'(by omega) := by simp [List.getD, show m - 1 < ys.length by omega]
        rw [e1, ← he]
        by_cases e : i = m - 1
        · subst e; exact List.le_refl _
        · exact hpw i (m - 1) (by omega) (by omega) (by omega)
      refine bs_le_lt hle (bs_lt_of ?_ (fun e => hk e.symm))
      have e1 : ys.getD (m - 1) [] = ys[m - 1]'(by omega) := by simp [List.getD, show m - 1 < ys.length by omega]
      have e2 : ys.getD m [] = ys[m]'(by omega) := by simp [List.getD, show m < ys.length by omega]
      rw [e1, e2]
      exact hpw (m - 1) m (by omega) (by omega) (by omega)
    | false =>
      simp only [Bool.false_eq_true, if_false, List.append_nil]
      refine ⟨h1, fun x => ?_⟩
      rw [h2, List.mem_append]
      refine ⟨.inl, fun hx => hx.elim id fun hx => ?_⟩
      simp only [List.mem_singleton] at hx
      subst hx
      simp only [Lib.keeps, decide_eq_false_iff_not, not_or, ne_eq, Classical.not_not] at hk
      have h0 : m ≠ 0 := hk.1
      have he := hk.2
      rw [hget m (by omega), hget (m - 1) (by omega)] at he
      rw [he]
      have : ys.getD (m - 1) [] = (ys.take m)[m - 1]'(by simp; omega) := by simp [List.getD, show m - 1 < ys.length by omega]
      rw [this]
      exact List.getElem_mem _
/-- sorted, each once -/
def sortU (l : List Bs) : List Bs := Lib.compact (sortB l)
theorem sortU_strict (l : List Bs) : Strict (sortU l) := (compactUpTo_strict (sortB_le l) _ (Nat.le_refl _)).1
theorem sortU_mem (l : List Bs) (x : Bs) : x ∈ sortU l ↔ x ∈ l := by
  have := (compactUpTo_strict (sortB_le l) _ (Nat.le_refl _)).2 x
  rw [List.take_length, sortB_mem] at this
  exact this
theorem sortU_of {a l : List Bs} (h : Strict a) (k : ∀ x, x ∈ a ↔ x ∈ l) : a = sortU l := strict_uniq h (sortU_strict l) fun x => (k x).trans (sortU_mem l x).symm
theorem sortU_filter (l : List Bs) (p : Bs → Bool) : sortU (l.filter p) = (sortU l).filter p := (sortU_of (List.Pairwise.filter p (sortU_strict l)) fun x => by
  rw [List.mem_filter, List.mem_filter, sortU_mem]).symm
theorem compactUpTo_len {α : Type} [Inhabited α] [DecidableEq α] (d : Array α) (m : Nat) : (Lib.compactUpTo d m).length ≤ m := by
  unfold Lib.compactUpTo
  rw [List.length_map]
  exact Nat.le_trans (List.length_filter_le _ _) (by simp)
theorem sortU_length (l : List Bs) : (sortU l).length ≤ l.length := by
  have h := compactUpTo_len (sortB l).toArray (sortB l).length
  have h2 : (sortB l).length = l.length := List.length_mergeSort l
  unfold sortU Lib.compact
  omega
/-- laid in where it belongs -/
theorem strict_insert {out : List Bs} {x : Bs} {k : Nat} (h : Strict out) (hk : k ≤ out.length) (h1 : ∀ j, j < k → out.getD j [] < x) (h2 : k < out.length → x < out.getD k []) : Strict (out.take k ++ ([x] ++ out.drop k)) := by
  have hp := List.pairwise_iff_getElem.1 h
  refine List.pairwise_append.2 ⟨List.Pairwise.take h, List.pairwise_append.2 ⟨List.pairwise_singleton _ _, List.Pairwise.drop h, fun a ha b hb => ?_⟩, fun a ha b hb => ?_⟩
  · simp only [List.mem_singleton] at ha
    subst ha
    obtain ⟨i, hi, rfl⟩ := List.getElem_of_mem hb
    simp only [List.length_drop] at hi
    rw [List.getElem_drop]
    have hk' : k < out.length := by omega
    have e : out.getD k [] = out[k] := by simp [List.getD, hk']
    have h3 := h2 hk'
    rw [e] at h3
    by_cases h0 : i = 0
    · subst h0; exact h3
    · exact List.lt_trans h3 (hp k (k + i) hk' (by omega) (by omega))
  · obtain ⟨i, hi, rfl⟩ := List.getElem_of_mem ha
    simp only [List.length_take] at hi
    rw [List.getElem_take]
    have h3 : out[i]'(by omega) < x := by
      have := h1 i (by omega)
      rwa [show out.getD i [] = out[i]'(by omega) by simp [List.getD, show i < out.length by omega]] at this
    rcases List.mem_append.1 hb with hb | hb
    · simp only [List.mem_singleton] at hb
      subst hb; exact h3
    · obtain ⟨j, hj, rfl⟩ := List.getElem_of_mem hb
      simp only [List.length_drop] at hj
      rw [List.getElem_drop]
      exact hp i (k + j) (by omega) (by omega) (by omega)
end Go.Proofs.YtilphcippnfklaaDoor
 /- Globs: the plain side. -/
namespace Go.Proofs.YtilphcippnfklaaDoor
open Go Go.RowKit
theorem sameTexts_M {a b : List Bs} {K : Bool → Prop} (ha : a.length ≤ 1000000000) (h : K (decide (a = b))) : M_smithyref_SameTexts a b K := by
  intro _ _
  refine ⟨fun hne => ?_, fun he => ?_⟩
  · rw [decide_eq_false (fun e => hne (by rw [e]))] at h
    exact h
  · refine ⟨fun i => 0 ≤ i ∧ i ≤ a.length ∧ ∀ j, j < i.toNat → a.getD j [] = b.getD j [], fun i => a.length - i.toNat, ⟨by omega, by omega, by intro j hj; simp at hj⟩, fun i ⟨h0, h1, h2⟩ => ⟨fun hlt => ⟨by omega, by omega, fun hne => ?_, fun hee => ⟨by simp only [In]; omega, ⟨by omega, by omega, fun j hj => ?_⟩, by (try dsimp only); omega⟩⟩, fun hge => ?_⟩⟩
    · rw [decide_eq_false (fun e => hne (by rw [e]))] at h
      exact h
    · by_cases e : j = i.toNat
      · rw [e]; exact hee
      · exact h2 j (by omega)
    · have e : a = b := List.ext_getElem (by omega) fun j h3 h4 => by
        have := h2 j (by omega)
        simpa [List.getD, h3, h4] using this
      rw [decide_eq_true e] at h
      exact h
theorem bytesLess_lt (a b : Bs) : Op.bytesLess a b = decide (a < b) := bytesLess_eq a b
theorem sortedTexts_M {l : List Bs} {K : List Bs → Prop} (hl : l.length ≤ 1000000) (h : K (sortU l)) : M_smithyref_SortedTexts l K := by
  intro _
  refine ⟨fun out i => 0 ≤ i ∧ i ≤ l.length ∧ Strict out ∧ (∀ x, x ∈ out ↔ x ∈ l.take i.toNat) ∧ out.length ≤ i.toNat, fun _ i => l.length - i.toNat, ⟨by omega, by omega, List.Pairwise.nil, by simp, by simp⟩, fun out i ⟨a0, a1, a2, a3, a4⟩ => ⟨fun hlt => ?_, fun hge => ?_⟩⟩
  · generalize hx : l.getD i.toNat [] = x
    have htk : ∀ y, y ∈ l.take (i + 1).toNat ↔ y ∈ l.take i.toNat ∨ y = x := fun y => by
      rw [show (i + 1).toNat = i.toNat + 1 by omega, List.take_succ_eq_append_getElem (by omega), List.mem_append, List.mem_singleton, ← hx]
      simp [List.getD, show i.toNat < l.length by omega]
    refine ⟨fun o => Strict o ∧ (∀ y, y ∈ o ↔ y ∈ l.take (i + 1).toNat) ∧ o.length ≤ i.toNat + 1, ?_, fun o ⟨h1, h2, h3⟩ => ⟨by simp only [In]; omega, ⟨by omega, by omega, h1, h2, by omega⟩, by (try dsimp only); omega⟩⟩
    refine ⟨fun k => 0 ≤ k ∧ k ≤ out.length ∧ ∀ j, j < k.toNat → out.getD j [] < x, fun k => out.length - k.toNat, ⟨by omega, by omega, by intro j hj; simp at hj⟩, fun k ⟨b0, b1, b2⟩ => ⟨fun hd => ?_, fun hd => ?_, fun hc => ?_, fun hc => ⟨fun hd => ?_, fun hd => ?_, fun he => ?_, fun he => ?_⟩⟩⟩
    · simp only [decide_eq_true_eq] at hd; omega
    · omega
    · rw [Bool.and_eq_true, bytesLess_lt, decide_eq_true_eq, decide_eq_true_eq] at hc
      refine ⟨by simp only [In]; omega, ⟨by omega, by omega, fun j hj => ?_⟩, by (try dsimp only); omega⟩
      by_cases e : j = k.toNat
      · rw [e]; exact hc.2
      · exact b2 j (by omega)
    · simp only [decide_eq_true_eq] at hd; omega
    · omega
    · rw [Bool.and_eq_true, decide_eq_true_eq, decide_eq_true_eq] at he
      refine ⟨a2, fun y => ?_, by omega⟩
      rw [htk, a3]
      refine ⟨.inl, fun h => h.elim id fun h => ?_⟩
      rw [h, ← a3, ← he.2]
      exact getD_mem (by omega)
    · have hlen : (out.take k.toNat).length = k.toNat := by simp; omega
      refine ⟨by simp only [In]; omega, by omega, by omega, ?_, by omega, ?_, by omega, ?_, ?_⟩
      · simp only [List.length_nil, hlen]; omega
      · simp only [List.nil_append, List.length_cons, List.length_nil, hlen]; omega
      · simp only [List.nil_append, List.length_append, List.length_cons, List.length_nil, List.length_drop, hlen]; omega
      · rw [List.nil_append, List.append_assoc]
        refine ⟨strict_insert a2 (by omega) b2 fun hk => ?_, fun y => ?_, ?_⟩
        · have hk' : k < out.length := by omega
          rw [bytesLess_lt, decide_eq_true hk', Bool.true_and, decide_eq_false_iff_not] at hc
          rw [decide_eq_true hk', Bool.true_and, decide_eq_false_iff_not] at he
          rcases bs_lt_or (out.getD k.toNat []) x with h1 | h1 | h1
          · exact absurd h1 hc
          · exact absurd h1 he
          · exact h1
        · rw [htk, ← a3, List.mem_append, List.mem_append, List.mem_singleton]
          conv => rhs; lhs; rw [← List.take_append_drop k.toNat out, List.mem_append]
          constructor
          · rintro (h | h | h)
            · exact .inl (.inl h)
            · exact .inr h
            · exact .inl (.inr h)
          · rintro ((h | h) | h)
            · exact .inl h
            · exact .inr (.inr h)
            · exact .inr (.inl h)
        · simp only [List.length_append, List.length_cons, List.length_nil, List.length_drop, hlen]; omega
  · have e : i.toNat = l.length := by omega
    rw [e, List.take_length] at a3
    rw [sortU_of a2 a3]
    exact h
def oneB (pats : List Bs) (p : Bs) : Bool := pats.any fun x => patB x && matchB x p
theorem oneB_mem {pats : List Bs} {p : Bs} : oneB pats p = true ↔ ∃ x ∈ pats, (patB x && matchB x p) = true := by unfold oneB; exact List.any_eq_true
/-! ## the chapter's patterns -/
theorem contains_two (x : Bs) : Lib.contains x [42, 42] = true ↔ ∃ k, k + 1 < x.length ∧ x.getD k 0 = 42 ∧ x.getD (k + 1) 0 = 42 := by
  induction x with
  | nil => simp [Lib.contains, Lib.index]
  | cons b l ih =>
    unfold Lib.contains at ih ⊢
    rw [Lib.index]
    cases hp : ([42, 42] : List UInt8).isPrefixOf (b :: l) with
    | true =>
      simp only [if_true, Int.le_refl, decide_true, true_iff]
      cases l with
      | nil => simp [List.isPrefixOf] at hp
      | cons c l =>
        simp only [List.isPrefixOf, Bool.and_true, Bool.and_eq_true, beq_iff_eq] at hp
        exact ⟨0, by simp, by simp [hp.1], by simp [hp.2]⟩
    | false =>
      simp only [Bool.false_eq_true, if_false]
      have hge := Lib.index_ge l [42, 42]
      have e1 : decide (0 ≤ (if (Lib.index l [42, 42] == -1) = true then -1 else Lib.index l [42, 42] + 1)) = decide (0 ≤ Lib.index l [42, 42]) := by
        rw [decide_eq_decide]
        split
        · rename_i h; rw [beq_iff_eq] at h; omega
        · rename_i h; rw [beq_iff_eq] at h; omega
      rw [e1, ih]
      constructor
      · rintro ⟨k, h1, h2, h3⟩
        exact ⟨k + 1, by simp; omega, by simpa using h2, by simpa using h3⟩
      · rintro ⟨k, h1, h2, h3⟩
        cases k with
        | zero =>
          exfalso
          cases l with
          | nil => simp at h1
          | cons c l =>
            simp at h2 h3
            subst h2; subst h3
            simp [List.isPrefixOf] at hp
        | succ k => exact ⟨k, by simp at h1; omega, by simpa using h2, by simpa using h3⟩
def starB (c : UInt8) : Bool := letB c || decide (c = 42)
theorem starB_map (x : Bs) : fairB (x.map fun c => if c = 42 then 95 else c) = (x.all starB && !dotsB (x.map fun c => if c = 42 then 95 else c)) := by
  unfold fairB
  rw [List.all_map]
  congr 2
  funext c
  unfold starB
  by_cases h : c = 42
  · subst h; decide
  · simp [h]
theorem dots_map (x : Bs) : dotsB (x.map fun c => if c = 42 then 95 else c) = dotsB x := by
  have h46 : ∀ c : UInt8, (if c = 42 then (95 : UInt8) else c) = 46 ↔ c = 46 := fun c => by
    by_cases h : c = 42
    · subst h; decide
    · simp [h]
  unfold dotsB
  congr 1
  · congr 1
    · simp
    · rw [decide_eq_decide]
      match x with
      | [] => simp
      | [a] => simp [h46]
      | a :: b :: l => simp
  · rw [decide_eq_decide]
    match x with
    | [] => simp
    | [a] => simp
    | [a, b] => simp [h46]
    | a :: b :: c :: l => simp
theorem patPart_eq (x : Bs) : patPart x = ((x.all starB && !dotsB x) && !(Lib.contains x [42, 42] && !decide (x = [42, 42]))) := by
  unfold patPart
  rw [starB_map, dots_map]
  cases Lib.contains x [42, 42] && !decide (x = [42, 42]) <;> cases dotsB x <;> cases x.all starB <;> rfl
theorem rpartS_M {s : Bs} {K : Bool → Prop} (hs : s.length ≤ 4000000000) (h : K (s.all starB && !dotsB s)) : M_smithyref1_part s true K := by
  unfold M_smithyref1_part
  refine ⟨fun i => ∃ k : Nat, i = k ∧ k ≤ s.length ∧ (s.take k).all starB = true, fun i => (s.length - i.toNat), ⟨0, rfl, by omega, by simp⟩, ?_⟩
  rintro _ ⟨k, rfl, hk, hall⟩
  refine ⟨fun hlt => ⟨by omega, rletter_M ?_⟩, fun hge => ?_⟩
  · have hk' : k < s.length := by omega
    rw [Int.toNat_natCast]
    have hb : decide (((s.getD k 0).toNat : Int) = (42 : Int)) = decide (s.getD k 0 = 42) := byteEq (s.getD k 0) 42
    have hno : starB (s.getD k 0) = false → s.all starB = false := fun hf => by
      rw [List.all_eq_false]
      exact ⟨s.getD k 0, getD_mem hk', by rw [hf]; simp⟩
    have hgo : starB (s.getD k 0) = true → In .i64 ((k : Int) + 1) ∧ (∃ j : Nat, (k : Int) + 1 = j ∧ j ≤ s.length ∧ (s.take j).all starB = true) ∧ s.length - ((k : Int) + 1).toNat < s.length - (k : Int).toNat := fun ht => ⟨by simp only [In]; omega, ⟨k + 1, by omega, by omega, take_all_succ hall hk' ht⟩, by (try dsimp only); omega⟩
    have hsb : starB (s.getD k 0) = (letB (s.getD k 0) || decide (s.getD k 0 = 42)) := rfl
    rw [hsb] at hno hgo
    cases hl : letB (s.getD k 0) with
    | true => rw [hl] at hgo; exact ⟨fun h1 => by simp at h1, fun h1 => by simp at h1, fun _ => hgo rfl⟩
    | false =>
      rw [hl, Bool.false_or] at hgo hno
      refine ⟨fun _ _ => by omega, fun hc => ?_, fun hc => ?_⟩
      · have hf : decide (s.getD k 0 = 42) = false := by rw [hb] at hc; simpa using hc
        rw [hno hf] at h
        exact h
      · have ht : decide (s.getD k 0 = 42) = true := by rw [hb] at hc; simpa using hc
        exact hgo ht
  · obtain rfl : k = s.length := by omega
    rw [List.take_length] at hall
    unfold dotsB at h
    rw [hall, Bool.true_and, Bool.not_or, Bool.not_or] at h
    exact h
end Go.Proofs.YtilphcippnfklaaDoor

 /- Regions some of whose operations may come in several orders: the floats once, the others order by order, what stands behind once. -/
namespace Go.Proofs.YtilphcippnfklaaDoor
open Go Go.RowKit
section
variable {P : Program} {N : Nat} {ops : Array Oper} {fl : Nat → Bool} {D : World → Prop} {n g : Nat} {K : Act → World → Prop} {Q : Post} {L : Slots} {w : World} {f : Nat} {listed : Array Bool} {d : Nat} {op : Op} {ty : TypeId} {pos : String} {af : Array Edge} {gd : Option (Nat × Bool)}
structure HeadOk (ops : Array Oper) (n : Nat) : Prop where
  sel : Region.noSelect ops = true
  sink : Region.sinkB .any ops n = true
  chain : Region.chainB .any ops n = true
  lt : n < ops.size
def WA (P : Program) (N : Nat) (ops : Array Oper) (fl : Nat → Bool) (D : World → Prop) (n g : Nat) (K : Act → World → Prop) (f : Nat) (listed : Array Bool) (L : Slots) (w : World) : Prop :=
  HeadOk ops n → HeadInv .any ops n listed → ∀ a w1, Eqv w w1 → D w1 → Has N L a → anyT P .any ops fl D n (fun l' a' w' => Region.seqB .any ops g n l' = true ∧ K a' w') f listed a w1
def WI (P : Program) (N : Nat) (ops : Array Oper) (fl : Nat → Bool) (D : World → Prop) (n g : Nat) (K : Act → World → Prop) (f : Nat) (listed : Array Bool) (L : Slots) (w : World) (i : Nat) : Prop :=
  HeadOk ops n → HeadInv .any ops n (listed.setIfInBounds i true) → ∀ a w1, Eqv w w1 → D w1 → Has N L a → ∃ o, ops[i]? = some o ∧ fl i = false ∧ sRun P ops D o a w1 fun a' w' => anyT P .any ops fl D n (fun l' a' w' => Region.seqB .any ops g n l' = true ∧ K a' w') f (listed.setIfInBounds i true) a' w'
theorem WC.ordersK {i : Nat} {l : List Oper} (n : Nat) (fl : Nat → Bool) (D : World → Prop) (K : Act → World → Prop) (hm : P.follows .mixedOrders = true) (hB : (Region.noSelect l.toArray && (Region.sinkB .any l.toArray n && (Region.chainB .any l.toArray n && Nat.blt n l.length))) = true) (hE : ∀ w', Eqv w w' → D w')
    (h : WA P N l.toArray fl D n (l.length - n) K n (Array.replicate l.length false) L w)
    (ht : ∀ a w', K a w' → wpList P l.toArray Q (l.drop n) a w') : WC P N Q (.region i l.toArray true) L w := fun a wx e ha => by
  simp only [Bool.and_eq_true] at hB
  obtain ⟨hsel, hs, hc, hlt⟩ := hB
  have hn' : n < l.length := by simpa [Nat.blt_eq] using hlt
  refine wp_region_any hm ?_
  have inv0 : HeadInv .any l.toArray n (Array.replicate l.length false) :=
    ⟨by simp, fun j oj _ hl => (by rw [getD_replicate_false] at hl; cases hl), fun t _ ht => getD_in (by simpa using ht) (getD_replicate_false _ _)⟩
  have H := h ⟨hsel, hs, hc, by simpa using hn'⟩ inv0 a { wx with drawn := wx.drawn + 1 } (e.drawn _) (hE _ (e.drawn _)) ha
  have h2 := any_of_anyT (Q' := Q) (g := l.length - n) (fun listed a' w' _ hL => by
    obtain ⟨hq, hK⟩ := hL
    have := wpAny_of_seq (md := .any) (Q' := Q) (l.drop n) n listed a' w' (fun j => by simp [List.getElem?_drop]) (by rw [List.length_drop]; exact hq) (ht a' w' hK)
    rwa [List.length_drop] at this) _ _ _ _ (hE { wx with drawn := wx.drawn + 1 } (e.drawn _)) H
  rw [show n + (l.length - n) = l.length by omega] at h2
  simpa using h2
def Ends4 {S1 S2 S3 S4 : Type} (N : Nat) (Ls : S1 → S2 → S3 → S4 → Slots) (I : S1 → S2 → S3 → S4 → World → Prop) (a : Act) (w : World) : Prop := ∃ p q r s w0, I p q r s w0 ∧ Eqv w0 w ∧ Has N (Ls p q r s) a
theorem WC.orders4 {S1 S2 S3 S4 : Type} {i : Nat} {l : List Oper} (n : Nat) (fl : Nat → Bool) (D : World → Prop) (Ls : S1 → S2 → S3 → S4 → Slots) (I : S1 → S2 → S3 → S4 → World → Prop) (hm : P.follows .mixedOrders = true) (hB : (Region.noSelect l.toArray && (Region.sinkB .any l.toArray n && (Region.chainB .any l.toArray n && Nat.blt n l.length))) = true) (hE : ∀ w', Eqv w w' → D w')
    (h : WA P N l.toArray fl D n (l.length - n) (Ends4 N Ls I) n (Array.replicate l.length false) L w)
    (ht : ∀ p q r s w0, I p q r s w0 → WL P N l.toArray Q (l.drop n) (Ls p q r s) w0) : WC P N Q (.region i l.toArray true) L w :=
  WC.ordersK n fl D _ hm hB hE h fun a w' ⟨p, q, r, s, w0, hI, he, hh⟩ => ht p q r s w0 hI a w' he hh
theorem WA.done4 {S1 S2 S3 S4 : Type} {Ls : S1 → S2 → S3 → S4 → Slots} {I : S1 → S2 → S3 → S4 → World → Prop} (p : S1) (q : S2) (r : S3) (s : S4) (hq : Region.seqB .any ops g n listed = true) (hI : I p q r s w) (hs : Sub L (Ls p q r s)) : WA P N ops fl D n g (Ends4 N Ls I) 0 listed L w := fun _ _ _ _ e _ ha => ⟨hq, p, q, r, s, w, hI, e, ha.sub hs⟩
def EndsF (N : Nat) (F : Slots → World → Prop) (a : Act) (w : World) : Prop := ∃ L w0, F L w0 ∧ Eqv w0 w ∧ Has N L a
theorem WC.ordersF {i : Nat} {l : List Oper} (n : Nat) (fl : Nat → Bool) (D : World → Prop) (F : Slots → World → Prop) (hm : P.follows .mixedOrders = true) (hB : (Region.noSelect l.toArray && (Region.sinkB .any l.toArray n && (Region.chainB .any l.toArray n && Nat.blt n l.length))) = true) (hE : ∀ w', Eqv w w' → D w')
    (ht : ∀ L' w', F L' w' → WL P N l.toArray Q (l.drop n) L' w')
    (h : WA P N l.toArray fl D n (l.length - n) (EndsF N F) n (Array.replicate l.length false) L w) : WC P N Q (.region i l.toArray true) L w :=
  WC.ordersK n fl D _ hm hB hE h fun a w' ⟨L', w0, hI, he, hh⟩ => ht L' w0 hI a w' he hh
theorem WA.doneF {F : Slots → World → Prop} (L' : Slots) (hq : Region.seqB .any ops g n listed = true) (hI : F L' w) (hs : Sub L L') : WA P N ops fl D n g (EndsF N F) 0 listed L w := fun _ _ _ _ e _ ha => ⟨hq, L', w, hI, e, ha.sub hs⟩
theorem WA.y {v : Value} (k : Nat) (ho : ops[k]? = some ⟨some d, op, ty, pos, af, none⟩) (hf : (fl k && ((Region.ready .any ops listed).contains k && (Region.free .any ops listed k && Nat.blt k n))) = true) (hd : Nat.blt d N = true) (hy : ∀ w', D w' → Yld P N w' ⟨some d, op, ty, pos, af, none⟩ L v)
    (h : WA P N ops fl D n g K f (listed.setIfInBounds k true) ((d, v) :: L) w) : WA P N ops fl D n g K (f + 1) listed L w := fun ok inv a w1 e hw ha => by
  simp only [Bool.and_eq_true] at hf
  obtain ⟨hfl, hr, hfr, hkn⟩ := hf
  have hr' : k ∈ Region.ready .any ops listed := by simpa using hr
  have hkn' : k < n := by simpa [Nat.blt_eq] using hkn
  exact float_firstT ho hfl (Region.noSelect_spec ok.sel) ok.sink ok.chain ok.lt hkn' (fun _ _ _ hL => seqB_ready hL.1) f listed a w1 hw inv (Region.free_spec ho hfr) hr'
    (.inl ⟨by simp [Region.wanted], fun w' hw' => hy w' hw' a w' (Eqv.refl _) ha⟩) (h ok (inv.set hr' hkn') _ _ e hw (ha.put hd v))
def AllL {α : Type} (p : α → Prop) : List α → Prop
  | [] => True
  | [x] => p x
  | x :: y :: l => p x ∧ AllL p (y :: l)
theorem AllL.mem {α : Type} {p : α → Prop} : ∀ {l : List α}, AllL p l → ∀ x ∈ l, p x
  | [], _, x, h => by simp at h
  | [y], h, x, hx => by simp at hx; subst hx; exact h
  | y :: z :: l, h, x, hx => by
    rcases List.mem_cons.1 hx with rfl | hx
    · exact h.1
    · exact AllL.mem h.2 x hx
theorem WA.split (is : List Nat) (hr : Region.ready .any ops listed = is) (hc : (!is.isEmpty && is.all fun i => Nat.blt i n) = true) (h : AllL (WI P N ops fl D n g K f listed L w) is) : WA P N ops fl D n g K (f + 1) listed L w := fun ok inv a w1 e hw ha => by
  simp only [Bool.and_eq_true] at hc
  refine ⟨fun h0 => ?_, fun i hi => ?_⟩
  · rw [hr] at h0; subst h0; simp at hc
  · have hi' := hi
    rw [hr] at hi'
    have hin : i < n := by have := List.all_eq_true.1 hc.2 i hi'; simpa [Nat.blt_eq] using this
    obtain ⟨o, ho, hfl, hs⟩ := h.mem i hi' ok (inv.set hi hin) a w1 e hw ha
    exact ⟨hin, o, ho, .inr ⟨hfl, hs⟩⟩
theorem WI.put {i : Nat} {R : Value → World → Prop} (ho : ops[i]? = some ⟨some d, op, ty, pos, af, none⟩) (hf : fl i = false) (hd : Nat.blt d N = true) (hr : Eff P N w ⟨some d, op, ty, pos, af, none⟩ L R) (hD : ∀ v w', R v w' → D w')
    (hk : ∀ v w', R v w' → WA P N ops fl D n g K f (listed.setIfInBounds i true) ((d, v) :: L) w') : WI P N ops fl D n g K f listed L w i := fun ok inv a w1 e hw ha => by
  refine ⟨_, ho, hf, ?_⟩
  unfold sRun
  rw [if_pos (by simp [Region.wanted])]
  obtain ⟨v, w', h, hR⟩ := hr a w1 e ha
  rw [h]
  exact ⟨hD v w' hR, hk v w' hR ok inv _ w' (Eqv.refl _) (hD v w' hR) (ha.put hd v)⟩
theorem WI.eff {i : Nat} {R : World → Prop} (ho : ops[i]? = some ⟨none, op, ty, pos, af, none⟩) (hf : fl i = false) (hr : Ef0 P N w ⟨none, op, ty, pos, af, none⟩ L R) (hD : ∀ w', R w' → D w')
    (hk : ∀ w', R w' → WA P N ops fl D n g K f (listed.setIfInBounds i true) L w') : WI P N ops fl D n g K f listed L w i := fun ok inv a w1 e hw ha => by
  refine ⟨_, ho, hf, ?_⟩
  unfold sRun
  rw [if_pos (by simp [Region.wanted])]
  obtain ⟨w', h, hR⟩ := hr a w1 e ha
  rw [h]
  exact ⟨hD w' hR, hk w' hR ok inv _ w' (Eqv.refl _) (hD w' hR) ha⟩
theorem WI.call {i : Nat} {R : Value → World → Prop} {fn : FuncId} {as_ : List Operand} {ts : Array TypeId} {vs : List Value} (ho : ops[i]? = some ⟨some d, .call ⟨.value (.func fn), ⟨as_⟩, ts⟩, ty, pos, af, gd⟩) (hf : fl i = false) (hg : Wants N ops L gd) (hd : Nat.blt d N = true) (hv : opvs L as_ = some vs) (hc : Fn P fn ⟨vs⟩ w R) (hD : ∀ v w', R v w' → ∀ w2, Eqv w' w2 → D w2)
    (hk : ∀ v w', R v w' → WA P N ops fl D n g K f (listed.setIfInBounds i true) ((d, v) :: L) w') : WI P N ops fl D n g K f listed L w i := fun ok inv a w1 e hw ha => by
  refine ⟨_, ho, hf, ?_⟩
  unfold sRun
  rw [if_pos (Wants.wanted (o := ⟨some d, .call ⟨.value (.func fn), ⟨as_⟩, ts⟩, ty, pos, af, gd⟩) hg ha), run_enter ha hv hc.1]
  refine (hc.2 w1 e).mono ?_
  rintro en w' ⟨v, w0, rfl, h0, hR⟩
  exact ⟨v, rfl, hD v w0 hR w' h0, hk v w0 hR ok inv _ w' h0 (hD v w0 hR w' h0) (ha.put hd v)⟩
end
end Go.Proofs.YtilphcippnfklaaDoor
 /- Printed by a program (wip/vg): what the functions mean, plainly, and their walks. -/
namespace Go.Proofs.YtilphcippnfklaaDoor
open Go Go.RowKit
attribute [local irreducible] WL WC WX WQ WK WJ Yld Eff Ef0 Fn
def M_smithyref17_fits (p : List UInt8) (K : Bool → Prop) : Prop :=
 ∃ J1 : Bool → Prop, ((((decide (p = ([] : List UInt8))) = true → J1 true) ∧
 ((decide (p = ([] : List UInt8))) = false → M_smithyref1_Valid p (fun (t7 : Bool) =>
 J1 t7)))) ∧
 (∀ q1 : Bool, J1 q1 → K q1)

def M_smithyref17_spec (s : List UInt8) (K : (List UInt8) → Int → Prop) : Prop :=
 ((s = ([47, 47, 118, 105, 115, 105, 98, 105, 108, 105, 116, 121, 58, 112, 117, 98, 108, 105, 99] : List UInt8) → K ([] : List UInt8) (1 : Int)) ∧
 (¬ (s = ([47, 47, 118, 105, 115, 105, 98, 105, 108, 105, 116, 121, 58, 112, 117, 98, 108, 105, 99] : List UInt8)) → ((s = ([47, 47, 118, 105, 115, 105, 98, 105, 108, 105, 116, 121, 58, 112, 114, 105, 118, 97, 116, 101] : List UInt8) → K ([] : List UInt8) (2 : Int)) ∧
 (¬ (s = ([47, 47, 118, 105, 115, 105, 98, 105, 108, 105, 116, 121, 58, 112, 114, 105, 118, 97, 116, 101] : List UInt8)) → Lp1 (fun (i : Int) k_1 => ((i < (2 : Int) → (0 ≤ i ∧ i < (2 : Nat)) ∧
 (In .i64 ((s.length : Int) - ((([([58, 95, 95, 112, 107, 103, 95, 95] : List UInt8), ([58, 95, 95, 115, 117, 98, 112, 97, 99, 107, 97, 103, 101, 115, 95, 95] : List UInt8)] : List (List UInt8)).getD i.toNat []).length : Int))) ∧
 ((decide ((2 : Int) ≤ ((s.length : Int) - ((([([58, 95, 95, 112, 107, 103, 95, 95] : List UInt8), ([58, 95, 95, 115, 117, 98, 112, 97, 99, 107, 97, 103, 101, 115, 95, 95] : List UInt8)] : List (List UInt8)).getD i.toNat []).length : Int)))) = true → (0 ≤ (2 : Int) ∧ (2 : Int) ≤ s.length)) ∧
 (((decide ((2 : Int) ≤ ((s.length : Int) - ((([([58, 95, 95, 112, 107, 103, 95, 95] : List UInt8), ([58, 95, 95, 115, 117, 98, 112, 97, 99, 107, 97, 103, 101, 115, 95, 95] : List UInt8)] : List (List UInt8)).getD i.toNat []).length : Int)))) && (decide ((s.take 2) = ([47, 47] : List UInt8)))) = true → (0 ≤ (s.length : Int) - ((([([58, 95, 95, 112, 107, 103, 95, 95] : List UInt8), ([58, 95, 95, 115, 117, 98, 112, 97, 99, 107, 97, 103, 101, 115, 95, 95] : List UInt8)] : List (List UInt8)).getD i.toNat []).length : Int) ∧ (s.length : Int) - ((([([58, 95, 95, 112, 107, 103, 95, 95] : List UInt8), ([58, 95, 95, 115, 117, 98, 112, 97, 99, 107, 97, 103, 101, 115, 95, 95] : List UInt8)] : List (List UInt8)).getD i.toNat []).length : Int) ≤ s.length)) ∧
 (((decide ((2 : Int) ≤ ((s.length : Int) - ((([([58, 95, 95, 112, 107, 103, 95, 95] : List UInt8), ([58, 95, 95, 115, 117, 98, 112, 97, 99, 107, 97, 103, 101, 115, 95, 95] : List UInt8)] : List (List UInt8)).getD i.toNat []).length : Int)))) && (decide ((s.take 2) = ([47, 47] : List UInt8)))) = true → (0 ≤ i ∧ i < (2 : Nat))) ∧
 ∃ J1 : Bool → Prop, ((((((decide ((2 : Int) ≤ ((s.length : Int) - ((([([58, 95, 95, 112, 107, 103, 95, 95] : List UInt8), ([58, 95, 95, 115, 117, 98, 112, 97, 99, 107, 97, 103, 101, 115, 95, 95] : List UInt8)] : List (List UInt8)).getD i.toNat []).length : Int)))) && (decide ((s.take 2) = ([47, 47] : List UInt8)))) && (decide ((s.drop ((s.length : Int) - ((([([58, 95, 95, 112, 107, 103, 95, 95] : List UInt8), ([58, 95, 95, 115, 117, 98, 112, 97, 99, 107, 97, 103, 101, 115, 95, 95] : List UInt8)] : List (List UInt8)).getD i.toNat []).length : Int)).toNat) = (([([58, 95, 95, 112, 107, 103, 95, 95] : List UInt8), ([58, 95, 95, 115, 117, 98, 112, 97, 99, 107, 97, 103, 101, 115, 95, 95] : List UInt8)] : List (List UInt8)).getD i.toNat [])))) = true → (0 ≤ (2 : Int) ∧ (2 : Int) ≤ (s.length : Int) - ((([([58, 95, 95, 112, 107, 103, 95, 95] : List UInt8), ([58, 95, 95, 115, 117, 98, 112, 97, 99, 107, 97, 103, 101, 115, 95, 95] : List UInt8)] : List (List UInt8)).getD i.toNat []).length : Int) ∧ (s.length : Int) - ((([([58, 95, 95, 112, 107, 103, 95, 95] : List UInt8), ([58, 95, 95, 115, 117, 98, 112, 97, 99, 107, 97, 103, 101, 115, 95, 95] : List UInt8)] : List (List UInt8)).getD i.toNat []).length : Int) ≤ s.length) ∧
 M_smithyref17_fits ((s.drop 2).take (((s.length : Int) - ((([([58, 95, 95, 112, 107, 103, 95, 95] : List UInt8), ([58, 95, 95, 115, 117, 98, 112, 97, 99, 107, 97, 103, 101, 115, 95, 95] : List UInt8)] : List (List UInt8)).getD i.toNat []).length : Int)).toNat - 2)) (fun (t45 : Bool) =>
 J1 t45)) ∧
 ((((decide ((2 : Int) ≤ ((s.length : Int) - ((([([58, 95, 95, 112, 107, 103, 95, 95] : List UInt8), ([58, 95, 95, 115, 117, 98, 112, 97, 99, 107, 97, 103, 101, 115, 95, 95] : List UInt8)] : List (List UInt8)).getD i.toNat []).length : Int)))) && (decide ((s.take 2) = ([47, 47] : List UInt8)))) && (decide ((s.drop ((s.length : Int) - ((([([58, 95, 95, 112, 107, 103, 95, 95] : List UInt8), ([58, 95, 95, 115, 117, 98, 112, 97, 99, 107, 97, 103, 101, 115, 95, 95] : List UInt8)] : List (List UInt8)).getD i.toNat []).length : Int)).toNat) = (([([58, 95, 95, 112, 107, 103, 95, 95] : List UInt8), ([58, 95, 95, 115, 117, 98, 112, 97, 99, 107, 97, 103, 101, 115, 95, 95] : List UInt8)] : List (List UInt8)).getD i.toNat [])))) = false → J1 false))) ∧
 (∀ q3 : Bool, J1 q3 → ((q3 = true → (0 ≤ (2 : Int) ∧ (2 : Int) ≤ (s.length : Int) - ((([([58, 95, 95, 112, 107, 103, 95, 95] : List UInt8), ([58, 95, 95, 115, 117, 98, 112, 97, 99, 107, 97, 103, 101, 115, 95, 95] : List UInt8)] : List (List UInt8)).getD i.toNat []).length : Int) ∧ (s.length : Int) - ((([([58, 95, 95, 112, 107, 103, 95, 95] : List UInt8), ([58, 95, 95, 115, 117, 98, 112, 97, 99, 107, 97, 103, 101, 115, 95, 95] : List UInt8)] : List (List UInt8)).getD i.toNat []).length : Int) ≤ s.length) ∧
 (In .i64 ((3 : Int) + i)) ∧
 K ((s.drop 2).take (((s.length : Int) - ((([([58, 95, 95, 112, 107, 103, 95, 95] : List UInt8), ([58, 95, 95, 115, 117, 98, 112, 97, 99, 107, 97, 103, 101, 115, 95, 95] : List UInt8)] : List (List UInt8)).getD i.toNat []).length : Int)).toNat - 2)) ((3 : Int) + i)) ∧
 (q3 = false → (In .i64 (i + (1 : Int))) ∧
 k_1 (i + (1 : Int)))))) ∧
 (¬ (i < (2 : Int)) → K ([] : List UInt8) (0 : Int)))) (0 : Int)))))

def M_smithyref17_Visible (specs : List (List UInt8)) (K : Int → Prop) : Prop :=
 (specs.length ≤ maxLen →
 Lp1 (fun (i : Int) k_1 => ((i < (specs.length : Int) → (0 ≤ i ∧ i < (specs.length : Nat)) ∧
 M_smithyref17_spec (specs.getD i.toNat []) (fun (t170 : List UInt8) (t171 : Int) =>
 ((t171 = (0 : Int) → K i) ∧
 (¬ (t171 = (0 : Int)) → (In .i64 (i + (1 : Int))) ∧
 k_1 (i + (1 : Int)))))) ∧
 (¬ (i < (specs.length : Int)) → K (-1 : Int)))) (0 : Int))

def M_smithyref17_May (specs : List (List UInt8)) (of_Pkg : List UInt8) (of_Name : List UInt8) (from_Pkg : List UInt8) (from_Name : List UInt8) (K : Bool → Prop) : Prop :=
 (specs.length ≤ maxLen →
 ((of_Pkg = from_Pkg → K true) ∧
 (¬ (of_Pkg = from_Pkg) → Lp1 (fun (i : Int) k_1 => ((i < (specs.length : Int) → (0 ≤ i ∧ i < (specs.length : Nat)) ∧
 M_smithyref17_spec (specs.getD i.toNat []) (fun (t260 : List UInt8) (t261 : Int) =>
 ∃ J1 : Bool → Prop, (((((decide (t261 = (1 : Int))) || ((decide ((3 : Int) ≤ t261)) && (decide (t260 = from_Pkg)))) = true → J1 true) ∧
 (((decide (t261 = (1 : Int))) || ((decide ((3 : Int) ≤ t261)) && (decide (t260 = from_Pkg)))) = false → (((decide (t261 = (4 : Int))) = true → M_smithyref1_Under from_Pkg t260 (fun (t48 : Bool) =>
 J1 t48)) ∧
 ((decide (t261 = (4 : Int))) = false → J1 false))))) ∧
 (∀ q2 : Bool, J1 q2 → ((q2 = true → K true) ∧
 (q2 = false → (In .i64 (i + (1 : Int))) ∧
 k_1 (i + (1 : Int))))))) ∧
 (¬ (i < (specs.length : Int)) → K false))) (0 : Int))))

def M_smithyref17_Groups (specs : List (List UInt8)) (K : (List (List UInt8)) → Prop) : Prop :=
 (specs.length ≤ maxLen →
 Lp2 (fun (out : List (List UInt8)) (i : Int) k_1 => ((i < (specs.length : Int) → ∃ J1 : (List (List UInt8)) → Prop, ((0 ≤ i ∧ i < (specs.length : Nat)) ∧
 M_smithyref17_spec (specs.getD i.toNat []) (fun (t180 : List UInt8) (t181 : Int) =>
 (((0 : Int) < t181 → (0 ≤ i ∧ i < (specs.length : Nat)) ∧
 ((out.length + (([specs.getD i.toNat []] : List (List UInt8))).length) * 16 ≤ 140737488355328) ∧
 J1 (out ++ ([specs.getD i.toNat []] : List (List UInt8)))) ∧
 (¬ ((0 : Int) < t181) → J1 out)))) ∧
 (∀ out2 : List (List UInt8), J1 out2 → (In .i64 (i + (1 : Int))) ∧
 k_1 out2 (i + (1 : Int)))) ∧
 (¬ (i < (specs.length : Int)) → M_smithyref_SortedTexts out (fun (t2 : List (List UInt8)) =>
 K t2)))) [] (0 : Int))

def M_smithylaw20_VisSays (specs : List (List UInt8)) (a_Pkg : List UInt8) (a_Name : List UInt8) (b_Pkg : List UInt8) (b_Name : List UInt8) (K : Bool → Prop) : Prop :=
 (specs.length ≤ maxLen →
 M_smithylaw20_first (fun (ok : Bool) =>
 (((!ok) = true → K false) ∧
 ((!ok) = false → M_smithyworld_Texts specs (12 : Int) (300 : Int) (fun (t16 : Bool) =>
 ((((((!t16) || (decide ((200 : Int) < (a_Pkg.length : Int)))) || (decide ((200 : Int) < (b_Pkg.length : Int)))) || (!ok)) = true → K ok) ∧
 (((((!t16) || (decide ((200 : Int) < (a_Pkg.length : Int)))) || (decide ((200 : Int) < (b_Pkg.length : Int)))) || (!ok)) = false → M_smithyref_None (fun (t35_Code : Int) (t35_Placed : Bool) (t35_Pos : Int) (t35_Filed : Bool) (t35_File : List UInt8) =>
 M_smithyref17_Visible specs (fun (k : Int) =>
 ∃ J1 : Int → Bool → Int → Bool → (List UInt8) → Prop, ((((0 : Int) ≤ k → M_smithyref_Placed (106 : Int) k (fun (t41_Code : Int) (t41_Placed : Bool) (t41_Pos : Int) (t41_Filed : Bool) (t41_File : List UInt8) =>
 J1 t41_Code t41_Placed t41_Pos t41_Filed t41_File)) ∧
 (¬ ((0 : Int) ≤ k) → J1 t35_Code t35_Placed t35_Pos t35_Filed t35_File))) ∧
 (∀ want0 : Int, ∀ want1 : Bool, ∀ want2 : Int, ∀ want3 : Bool, ∀ want4 : List UInt8, J1 want0 want1 want2 want3 want4 → M_vis_Valid specs (fun (t53 : Er) =>
 M_smithysee_Same t53 want0 want1 want2 want3 want4 (fun (t55 : Bool) =>
 ∃ J2 : Bool → Prop, (((t55 = true → M_vis_May specs a_Pkg a_Name b_Pkg b_Name (fun (t60 : Bool) =>
 M_smithyref17_May specs a_Pkg a_Name b_Pkg b_Name (fun (t64 : Bool) =>
 J2 (t60 == t64)))) ∧
 (t55 = false → J2 false))) ∧
 (∀ q4 : Bool, J2 q4 → ∃ J3 : Bool → Prop, (((q4 = true → M_vis_Groups specs (fun (t69 : List (List UInt8)) =>
 M_smithyref17_Groups specs (fun (t71 : List (List UInt8)) =>
 M_smithyref_SameTexts t69 t71 (fun (t72 : Bool) =>
 J3 t72)))) ∧
 (q4 = false → J3 false))) ∧
 (∀ q5 : Bool, J3 q5 → K q5))))))))))))))

set_option maxHeartbeats 8000000 in
theorem W_smithyref17_fits {w : World} {p : List UInt8} {K : Bool → Prop} (H : M_smithyref17_fits p K) : Fn Tryd.prog 117 ⟨[vs p]⟩ w (fun v w' => w.grownBy w' none ∧ ∃ (r : Bool), v = .bool r ∧ K r) := by
  unfold M_smithyref17_fits at H
  refine Fn.enter (by kernel_rfl) Tryd.func117 rfl Tryd.ntmps117 rfl ?_
  refine WC.seq ?_
  refine WC.region ?_
  refine WL.y rfl (Yld.pure tab_ok rfl) ?_
  refine WL.nil (WX.then_normal ?_)
  refine WC.seq ?_
  refine WC.region ?_
  refine WL.y rfl (Yld.pure tab_ok rfl) ?_
  refine WL.y rfl (Yld.pure tab_ok rfl) ?_
  refine WL.y rfl (Yld.pure tab_ok rfl) ?_
  obtain ⟨J1, H, hJ1⟩ := H
  refine WL.midF 3 (fun L' w' => ∃ q1 : Bool, L' = [(8, .bool q1)] ∧ J1 q1 ∧ w.grownBy w' none) ?_ (fun hQ => ?_)
  · clear H
    rintro _ w1 ⟨q1, rfl, H, gr1⟩
    replace H := hJ1 q1 H
    refine WL.y rfl (Yld.pure tab_ok rfl) ?_
    refine WL.nil (WX.then_normal ?_)
    refine WC.ret ?_
    exact WX.ret1 rfl rfl ⟨gr1, q1, rfl, H⟩
  · clear hJ1
    rcases Bool.eq_false_or_eq_true (decide (p = ([] : List UInt8))) with b1 | b1
    · replace H := H.1 b1
      refine WL.gno rfl rfl (okb b1) rfl ?_
      refine WL.gno rfl rfl (okb b1) rfl ?_
      refine WL.y rfl (Yld.pickT (okb b1) rfl) ?_
      exact WL.weaken (by repeat (first | exact Sub.nil | refine Sub.cons rfl ?_)) (hQ _ _ ⟨true, rfl, H, (gr_refl _ _)⟩)
    · replace H := H.2 b1
      refine WL.gyes rfl rfl (okb b1) rfl (Yld.pure tab_ok rfl) ?_
      refine WL.callw (wants_some rfl rfl (okb b1)) rfl rfl (W_smithyref1_Valid H) ?_
      rintro _ w2 ⟨hg1, t7, rfl, H⟩
      have gr2 := hg1
      refine WL.y rfl (Yld.pickF (okb b1) rfl) ?_
      exact WL.weaken (by repeat (first | exact Sub.nil | refine Sub.cons rfl ?_)) (hQ _ _ ⟨t7, rfl, H, gr2⟩)

set_option maxHeartbeats 8000000 in
theorem W_smithyref17_spec {w : World} {s : List UInt8} {K : (List UInt8) → Int → Prop} (H : M_smithyref17_spec s K) : Fn Tryd.prog 89 ⟨[vs s]⟩ w (fun v w' => w.grownBy w' none ∧ ∃ (r0 : List UInt8), ∃ (r1 : Int), v = .tuple #[vs r0, .int .i64 r1] ∧ K r0 r1) := by
  unfold M_smithyref17_spec at H
  refine Fn.enter (by kernel_rfl) Tryd.func89 rfl Tryd.ntmps89 rfl ?_
  refine WC.seq ?_
  refine WC.region ?_
  refine WL.y rfl (Yld.pure tab_ok rfl) ?_
  refine WL.y rfl (Yld.pure tab_ok rfl) ?_
  refine WL.nil (WX.then_normal ?_)
  refine WC.seq ?_
  refine WC.seq ?_
  refine WC.region ?_
  refine WL.y rfl (Yld.pure tab_ok rfl) ?_
  refine WL.y rfl (Yld.pure tab_ok rfl) ?_
  refine WL.nil (WX.then_normal ?_)
  refine WC.cond rfl (fun b1 => ?_) (fun b1 => ?_)
  · replace H := H.1 (of_decide_eq_true b1)
    refine WC.seq ?_
    refine WC.region ?_
    refine WL.y rfl (Yld.pure tab_ok rfl) ?_
    refine WL.y rfl (Yld.pure tab_ok rfl) ?_
    refine WL.nil (WX.then_normal ?_)
    refine WC.ret (WX.then_ret ?_)
    exact WX.ret2 rfl rfl rfl ⟨(gr_refl _ _), ([] : List UInt8), (1 : Int), rfl, H⟩
  · replace H := H.2 (of_decide_eq_false b1)
    refine WC.skip (WX.then_normal ?_)
    refine WC.seq ?_
    refine WC.seq ?_
    refine WC.region ?_
    refine WL.y rfl (Yld.pure tab_ok rfl) ?_
    refine WL.y rfl (Yld.pure tab_ok rfl) ?_
    refine WL.nil (WX.then_normal ?_)
    refine WC.cond rfl (fun b2 => ?_) (fun b2 => ?_)
    · replace H := H.1 (of_decide_eq_true b2)
      refine WC.seq ?_
      refine WC.region ?_
      refine WL.y rfl (Yld.pure tab_ok rfl) ?_
      refine WL.y rfl (Yld.pure tab_ok rfl) ?_
      refine WL.nil (WX.then_normal ?_)
      refine WC.ret (WX.then_ret ?_)
      exact WX.ret2 rfl rfl rfl ⟨(gr_refl _ _), ([] : List UInt8), (2 : Int), rfl, H⟩
    · replace H := H.2 (of_decide_eq_false b2)
      refine WC.skip (WX.then_normal ?_)
      refine WC.seq ?_
      refine WC.region ?_
      refine WL.lit tab_ok rfl rfl rfl (all1c rfl (all1c rfl all1n)) rfl (by omega) (fun g1 w1 hB1 hg1 hl1 => ?_)
      have hO1 : Own vs w1 w.heap.size 9 (some ⟨g1, 0, none⟩) 2 ([([58, 95, 95, 112, 107, 103, 95, 95] : List UInt8), ([58, 95, 95, 115, 117, 98, 112, 97, 99, 107, 97, 103, 101, 115, 95, 95] : List UInt8)] : List (List UInt8)) := Own.ofBl hB1 (Nat.le_trans (Nat.le_refl _) hl1) (by simp [maxLen]) rfl
      have gr1 := hg1
      refine WL.y rfl (Yld.pure tab_ok rfl) ?_
      refine WL.nil (WX.then_normal ?_)
      refine WC.seq ?_
      refine WC.seq ?_
      refine WC.region ?_
      refine WL.y rfl (Yld.pure tab_ok rfl) ?_
      refine WL.nil (WX.then_normal ?_)
      refine WC.block ?_
      obtain ⟨I1, mu1, h0_1, HR1⟩ := H
      refine WC.loopF (fun n' L' w' => ∃ (i : Int), n' = mu1 i ∧ L' = [(0, vs s), (4, .slice (some ⟨g1, 0, none⟩) 2 2), (5, .int .i64 i)] ∧ I1 i ∧ w.grownBy w' none ∧ Own vs w' w.heap.size 9 (some ⟨g1, 0, none⟩) 2 ([([58, 95, 95, 112, 107, 103, 95, 95] : List UInt8), ([58, 95, 95, 115, 117, 98, 112, 97, 99, 107, 97, 103, 101, 115, 95, 95] : List UInt8)] : List (List UInt8))) _ _ ⟨(0 : Int), rfl, rfl, h0_1, gr1, hO1⟩ (by repeat (first | exact Sub.nil | refine Sub.cons rfl ?_)) ?_
      clear h0_1
      rintro _ _ w2 ⟨i, rfl, rfl, hI1, gr2, k1⟩
      have H := HR1 i hI1
      refine WC.seq ?_
      refine WC.seq ?_
      refine WC.region ?_
      refine WL.y rfl (Yld.pure tab_ok rfl) ?_
      refine WL.y rfl (Yld.pure tab_ok rfl) ?_
      refine WL.nil (WX.then_normal ?_)
      refine WC.cond rfl (fun b3 => ?_) (fun b3 => ?_)
      · replace H := H.1 (of_decide_eq_true b3)
        refine WC.skip (WX.then_normal ?_)
        refine WC.seq ?_
        refine WC.block ?_
        refine WC.seq ?_
        refine WC.region ?_
        refine WL.y rfl (Yld.pure tab_ok rfl) ?_
        refine WL.y rfl (Yld.pure tab_ok rfl) ?_
        refine WL.y rfl (Yld.pure tab_ok rfl) ?_
        refine WL.y rfl (Yld.pure tab_ok rfl) ?_
        obtain ⟨h1, H⟩ := H
        refine WL.y rfl (Yld.iaddrW tab_ok k1.rd rfl rfl rfl rfl h1.1 h1.2) ?_
        refine WL.y rfl (Yld.iload [] tab_ok k1.rd rfl rfl (iltN h1 rfl)) ?_
        refine WL.y rfl (Yld.pure tab_ok rfl) ?_
        obtain ⟨h2, H⟩ := H
        refine WL.y rfl (Yld.sub rfl rfl h2) ?_
        refine WL.y rfl (Yld.pure tab_ok rfl) ?_
        refine WL.nil (WX.then_normal ?_)
        refine WC.seq ?_
        refine WC.chainF (fun k => !(Nat.beq k 21)) (LD [14] (fun w' => Rd vs w' (some ⟨g1, 0, none⟩) 2 ([([58, 95, 95, 112, 107, 103, 95, 95] : List UInt8), ([58, 95, 95, 115, 117, 98, 112, 97, 99, 107, 97, 103, 101, 115, 95, 95] : List UInt8)] : List (List UInt8)))) mixed (by kernel_rfl) (fun k w' h _ => (rd_eqv h k1.rd)) ?_
        refine WJ.y rfl rfl (fun w' hw' => Yld.pure tab_ok rfl) ?_
        refine WJ.y rfl rfl (fun w' hw' => Yld.pure tab_ok rfl) ?_
        refine WJ.y rfl rfl (fun w' hw' => Yld.pure tab_ok rfl) ?_
        obtain ⟨h3, H⟩ := H
        refine WJ.midF 4 (fun L' w' => ∃ q1 : Bool, L' = [(30, .bool q1), (0, vs s), (4, .slice (some ⟨g1, 0, none⟩) 2 2), (5, .int .i64 i), (6, .int .i64 ((s.length : Int) - ((([([58, 95, 95, 112, 107, 103, 95, 95] : List UInt8), ([58, 95, 95, 115, 117, 98, 112, 97, 99, 107, 97, 103, 101, 115, 95, 95] : List UInt8)] : List (List UInt8)).getD i.toNat []).length : Int)))] ∧ q1 = ((decide ((2 : Int) ≤ ((s.length : Int) - ((([([58, 95, 95, 112, 107, 103, 95, 95] : List UInt8), ([58, 95, 95, 115, 117, 98, 112, 97, 99, 107, 97, 103, 101, 115, 95, 95] : List UInt8)] : List (List UInt8)).getD i.toNat []).length : Int)))) && (decide ((s.take 2) = ([47, 47] : List UInt8)))) ∧ w2 = w') ?_ (fun hQ => ?_)
        · rintro _ _ ⟨q1, rfl, rfl, rfl⟩
          refine WJ.y rfl rfl (fun w' hw' => Yld.pure tab_ok rfl) ?_
          obtain ⟨h4, H⟩ := H
          obtain ⟨h5, H⟩ := H
          refine WJ.midF 9 (fun L' w' => ∃ q2 : Bool, L' = [(40, .bool q2), (0, vs s), (4, .slice (some ⟨g1, 0, none⟩) 2 2), (5, .int .i64 i), (6, .int .i64 ((s.length : Int) - ((([([58, 95, 95, 112, 107, 103, 95, 95] : List UInt8), ([58, 95, 95, 115, 117, 98, 112, 97, 99, 107, 97, 103, 101, 115, 95, 95] : List UInt8)] : List (List UInt8)).getD i.toNat []).length : Int)))] ∧ q2 = (((decide ((2 : Int) ≤ ((s.length : Int) - ((([([58, 95, 95, 112, 107, 103, 95, 95] : List UInt8), ([58, 95, 95, 115, 117, 98, 112, 97, 99, 107, 97, 103, 101, 115, 95, 95] : List UInt8)] : List (List UInt8)).getD i.toNat []).length : Int)))) && (decide ((s.take 2) = ([47, 47] : List UInt8)))) && (decide ((s.drop ((s.length : Int) - ((([([58, 95, 95, 112, 107, 103, 95, 95] : List UInt8), ([58, 95, 95, 115, 117, 98, 112, 97, 99, 107, 97, 103, 101, 115, 95, 95] : List UInt8)] : List (List UInt8)).getD i.toNat []).length : Int)).toNat) = (([([58, 95, 95, 112, 107, 103, 95, 95] : List UInt8), ([58, 95, 95, 115, 117, 98, 112, 97, 99, 107, 97, 103, 101, 115, 95, 95] : List UInt8)] : List (List UInt8)).getD i.toNat [])))) ∧ w2 = w') ?_ (fun hQ => ?_)
          · rintro _ _ ⟨q2, rfl, rfl, rfl⟩
            refine WJ.y rfl rfl (fun w' hw' => Yld.pure tab_ok rfl) ?_
            obtain ⟨J1, H, hJ1⟩ := H
            refine WJ.midF 5 (fun L' w' => ∃ q3 : Bool, L' = [(46, .bool q3), (0, vs s), (4, .slice (some ⟨g1, 0, none⟩) 2 2), (5, .int .i64 i), (6, .int .i64 ((s.length : Int) - ((([([58, 95, 95, 112, 107, 103, 95, 95] : List UInt8), ([58, 95, 95, 115, 117, 98, 112, 97, 99, 107, 97, 103, 101, 115, 95, 95] : List UInt8)] : List (List UInt8)).getD i.toNat []).length : Int)))] ∧ J1 q3 ∧ w.grownBy w' none ∧ Own vs w' w.heap.size 9 (some ⟨g1, 0, none⟩) 2 ([([58, 95, 95, 112, 107, 103, 95, 95] : List UInt8), ([58, 95, 95, 115, 117, 98, 112, 97, 99, 107, 97, 103, 101, 115, 95, 95] : List UInt8)] : List (List UInt8))) ?_ (fun hQ => ?_)
            · clear H
              rintro _ w3 ⟨q3, rfl, H, gr3, k2⟩
              replace H := hJ1 q3 H
              refine WJ.nil (WX.then_normal ?_)
              refine WC.cond rfl (fun b4 => ?_) (fun b4 => ?_)
              · replace H := H.1 (b4)
                refine WC.seq ?_
                refine WC.region ?_
                refine WL.y rfl (Yld.pure tab_ok rfl) ?_
                refine WL.y rfl (Yld.pure tab_ok rfl) ?_
                obtain ⟨h6, H⟩ := H
                refine WL.y rfl (Yld.scut tab_ok rfl rfl rfl rfl h6.1 h6.2.1 h6.2.2) ?_
                refine WL.y rfl (Yld.pure tab_ok rfl) ?_
                obtain ⟨h7, H⟩ := H
                refine WL.y rfl (Yld.add rfl rfl h7) ?_
                refine WL.y rfl (Yld.pure tab_ok rfl) ?_
                refine WL.y rfl (Yld.pure tab_ok rfl) ?_
                refine WL.nil (WX.then_normal ?_)
                refine WC.ret (WX.block_ret (WX.then_ret (WX.then_ret (WX.block_ret (WX.then_ret ?_)))))
                exact WX.ret2 rfl rfl rfl ⟨gr3, (s.drop 2).take (((s.length : Int) - ((([([58, 95, 95, 112, 107, 103, 95, 95] : List UInt8), ([58, 95, 95, 115, 117, 98, 112, 97, 99, 107, 97, 103, 101, 115, 95, 95] : List UInt8)] : List (List UInt8)).getD i.toNat []).length : Int)).toNat - 2), (3 : Int) + i, rfl, H⟩
              · replace H := H.2 (b4)
                refine WC.skip (WX.block_normal (WX.then_normal ?_))
                refine WC.region ?_
                refine WL.y rfl (Yld.pure tab_ok rfl) ?_
                obtain ⟨h8, H⟩ := H
                refine WL.y rfl (Yld.add rfl rfl h8) ?_
                refine WL.y rfl (Yld.pure tab_ok rfl) ?_
                refine WL.nil ?_
                exact WX.roundF _ ⟨i + (1 : Int), rfl, rfl, H.1, gr3, k2⟩ (by repeat (first | exact Sub.nil | refine Sub.cons rfl ?_)) H.2
            · clear hJ1
              rcases Bool.eq_false_or_eq_true (((decide ((2 : Int) ≤ ((s.length : Int) - ((([([58, 95, 95, 112, 107, 103, 95, 95] : List UInt8), ([58, 95, 95, 115, 117, 98, 112, 97, 99, 107, 97, 103, 101, 115, 95, 95] : List UInt8)] : List (List UInt8)).getD i.toNat []).length : Int)))) && (decide ((s.take 2) = ([47, 47] : List UInt8)))) && (decide ((s.drop ((s.length : Int) - ((([([58, 95, 95, 112, 107, 103, 95, 95] : List UInt8), ([58, 95, 95, 115, 117, 98, 112, 97, 99, 107, 97, 103, 101, 115, 95, 95] : List UInt8)] : List (List UInt8)).getD i.toNat []).length : Int)).toNat) = (([([58, 95, 95, 112, 107, 103, 95, 95] : List UInt8), ([58, 95, 95, 115, 117, 98, 112, 97, 99, 107, 97, 103, 101, 115, 95, 95] : List UInt8)] : List (List UInt8)).getD i.toNat [])))) with b5 | b5
              · replace H := H.1 b5
                refine WJ.yw rfl (wants_some rfl rfl (okb b5)) rfl (fun w' hw' => Yld.pure tab_ok rfl) ?_
                refine WJ.yw rfl (wants_some rfl rfl (okb b5)) rfl (fun w' hw' => Yld.pure tab_ok rfl) ?_
                obtain ⟨h9, H⟩ := H
                refine WJ.yw rfl (wants_some rfl rfl (okb b5)) rfl (fun w' hw' => Yld.scut tab_ok rfl rfl rfl rfl h9.1 h9.2.1 h9.2.2) ?_
                refine WJ.call rfl (wants_some rfl rfl (okb b5)) rfl rfl (W_smithyref17_fits H) (fun v w' h w2 e => DD.keep (Rd.grown k1.rd (gr_eqv h.1 e))) ?_
                rintro _ w4 ⟨hg2, t45, rfl, H⟩
                have gr4 := gr_trans gr2 hg2
                have k3 := k1.grown hg2
                refine WJ.y rfl rfl (fun w' hw' => Yld.pickT (okb b5) rfl) ?_
                exact WJ.weaken (by repeat (first | exact Sub.nil | refine Sub.cons rfl ?_)) (hQ _ _ ⟨t45, rfl, H, gr4, k3⟩)
              · replace H := H.2 b5
                refine WJ.no rfl rfl (okb b5) rfl ?_
                refine WJ.no rfl rfl (okb b5) rfl ?_
                refine WJ.no rfl rfl (okb b5) rfl ?_
                refine WJ.no rfl rfl (okb b5) rfl ?_
                refine WJ.y rfl rfl (fun w' hw' => Yld.pickF (okb b5) rfl) ?_
                exact WJ.weaken (by repeat (first | exact Sub.nil | refine Sub.cons rfl ?_)) (hQ _ _ ⟨false, rfl, H, gr2, k1⟩)
          · clear H
            rcases Bool.eq_false_or_eq_true ((decide ((2 : Int) ≤ ((s.length : Int) - ((([([58, 95, 95, 112, 107, 103, 95, 95] : List UInt8), ([58, 95, 95, 115, 117, 98, 112, 97, 99, 107, 97, 103, 101, 115, 95, 95] : List UInt8)] : List (List UInt8)).getD i.toNat []).length : Int)))) && (decide ((s.take 2) = ([47, 47] : List UInt8)))) with b6 | b6
            · refine WJ.yw rfl (wants_some rfl rfl (okb b6)) rfl (fun w' hw' => Yld.pure tab_ok rfl) ?_
              refine WJ.yw rfl (wants_some rfl rfl (okb b6)) rfl (fun w' hw' => Yld.pure tab_ok rfl) ?_
              refine WJ.yw rfl (wants_some rfl rfl (okb b6)) rfl (fun w' hw' => Yld.scutF tab_ok rfl rfl rfl (h4 b6).1 (h4 b6).2) ?_
              refine WJ.yw rfl (wants_some rfl rfl (okb b6)) rfl (fun w' hw' => Yld.pure tab_ok rfl) ?_
              refine WJ.yw rfl (wants_some rfl rfl (okb b6)) rfl (fun w' hw' => Yld.pure tab_ok rfl) ?_
              refine WJ.yw rfl (wants_some rfl rfl (okb b6)) rfl (fun w' hw' => Yld.iaddrW tab_ok k1.rd rfl rfl rfl rfl (h5 b6).1 (h5 b6).2) ?_
              refine WJ.yw rfl (wants_some rfl rfl (okb b6)) rfl (fun w' hw' => Yld.iload [] tab_ok (hw' rfl) rfl rfl (iltN (h5 b6) rfl)) ?_
              refine WJ.yw rfl (wants_some rfl rfl (okb b6)) rfl (fun w' hw' => Yld.pure tab_ok rfl) ?_
              refine WJ.y rfl rfl (fun w' hw' => Yld.pickT (okb b6) rfl) ?_
              exact WJ.weaken (by repeat (first | exact Sub.nil | refine Sub.cons rfl ?_)) (hQ _ _ ⟨decide ((s.drop ((s.length : Int) - ((([([58, 95, 95, 112, 107, 103, 95, 95] : List UInt8), ([58, 95, 95, 115, 117, 98, 112, 97, 99, 107, 97, 103, 101, 115, 95, 95] : List UInt8)] : List (List UInt8)).getD i.toNat []).length : Int)).toNat) = (([([58, 95, 95, 112, 107, 103, 95, 95] : List UInt8), ([58, 95, 95, 115, 117, 98, 112, 97, 99, 107, 97, 103, 101, 115, 95, 95] : List UInt8)] : List (List UInt8)).getD i.toNat [])), rfl, by rw [b6] <;> rfl, rfl⟩)
            · refine WJ.no rfl rfl (okb b6) rfl ?_
              refine WJ.no rfl rfl (okb b6) rfl ?_
              refine WJ.no rfl rfl (okb b6) rfl ?_
              refine WJ.no rfl rfl (okb b6) rfl ?_
              refine WJ.no rfl rfl (okb b6) rfl ?_
              refine WJ.no rfl rfl (okb b6) rfl ?_
              refine WJ.no rfl rfl (okb b6) rfl ?_
              refine WJ.no rfl rfl (okb b6) rfl ?_
              refine WJ.y rfl rfl (fun w' hw' => Yld.pickF (okb b6) rfl) ?_
              exact WJ.weaken (by repeat (first | exact Sub.nil | refine Sub.cons rfl ?_)) (hQ _ _ ⟨false, rfl, by rw [b6] <;> rfl, rfl⟩)
        · clear H
          rcases Bool.eq_false_or_eq_true (decide ((2 : Int) ≤ ((s.length : Int) - ((([([58, 95, 95, 112, 107, 103, 95, 95] : List UInt8), ([58, 95, 95, 115, 117, 98, 112, 97, 99, 107, 97, 103, 101, 115, 95, 95] : List UInt8)] : List (List UInt8)).getD i.toNat []).length : Int)))) with b7 | b7
          · refine WJ.yw rfl (wants_some rfl rfl (okb b7)) rfl (fun w' hw' => Yld.pure tab_ok rfl) ?_
            refine WJ.yw rfl (wants_some rfl rfl (okb b7)) rfl (fun w' hw' => Yld.scut tab_ok rfl rfl rfl rfl (Int.le_refl 0) (h3 b7).1 (h3 b7).2) ?_
            refine WJ.yw rfl (wants_some rfl rfl (okb b7)) rfl (fun w' hw' => Yld.pure tab_ok rfl) ?_
            refine WJ.y rfl rfl (fun w' hw' => Yld.pickT (okb b7) rfl) ?_
            exact WJ.weaken (by repeat (first | exact Sub.nil | refine Sub.cons rfl ?_)) (hQ _ _ ⟨decide ((s.take 2) = ([47, 47] : List UInt8)), rfl, by rw [b7] <;> rfl, rfl⟩)
          · refine WJ.no rfl rfl (okb b7) rfl ?_
            refine WJ.no rfl rfl (okb b7) rfl ?_
            refine WJ.no rfl rfl (okb b7) rfl ?_
            refine WJ.y rfl rfl (fun w' hw' => Yld.pickF (okb b7) rfl) ?_
            exact WJ.weaken (by repeat (first | exact Sub.nil | refine Sub.cons rfl ?_)) (hQ _ _ ⟨false, rfl, by rw [b7] <;> rfl, rfl⟩)
      · replace H := H.2 (of_decide_eq_false b3)
        refine WC.exit (WX.then_exit (WX.then_exit (WX.block_same (WX.then_normal ?_))))
        refine WC.seq ?_
        refine WC.region ?_
        refine WL.y rfl (Yld.pure tab_ok rfl) ?_
        refine WL.y rfl (Yld.pure tab_ok rfl) ?_
        refine WL.nil (WX.then_normal ?_)
        refine WC.ret ?_
        exact WX.ret2 rfl rfl rfl ⟨gr2, ([] : List UInt8), (0 : Int), rfl, H⟩

set_option maxHeartbeats 8000000 in
theorem W_smithyref17_Visible {w : World} {specs : List (List UInt8)} {A_specs : Option Addr} {c_specs : Nat} {n_specs : Nat} {K : Int → Prop} (hspecs : Rd vs w A_specs c_specs specs) (hn_specs : n_specs = specs.length) (H : M_smithyref17_Visible specs K) : Fn Tryd.prog 50 ⟨[.slice A_specs n_specs c_specs]⟩ w (fun v w' => w.grownBy w' none ∧ ∃ (r : Int), v = .int .i64 r ∧ K r) := by
  subst hn_specs
  unfold M_smithyref17_Visible at H
  refine Fn.enter (by kernel_rfl) Tryd.func50 rfl Tryd.ntmps50 rfl ?_
  replace H := H (Nat.le_trans hspecs.cap hspecs.max)
  refine WC.seq ?_
  refine WC.region ?_
  refine WL.y rfl (Yld.pure tab_ok rfl) ?_
  refine WL.nil (WX.then_normal ?_)
  refine WC.seq ?_
  refine WC.seq ?_
  refine WC.region ?_
  refine WL.y rfl (Yld.pure tab_ok rfl) ?_
  refine WL.nil (WX.then_normal ?_)
  refine WC.block ?_
  obtain ⟨I1, mu1, h0_1, HR1⟩ := H
  refine WC.loopF (fun n' L' w' => ∃ (i : Int), n' = mu1 i ∧ L' = [(0, .slice A_specs specs.length c_specs), (3, .int .i64 i)] ∧ I1 i ∧ w.grownBy w' none) _ _ ⟨(0 : Int), rfl, rfl, h0_1, (gr_refl _ _)⟩ (by repeat (first | exact Sub.nil | refine Sub.cons rfl ?_)) ?_
  clear h0_1
  rintro _ _ w1 ⟨i, rfl, rfl, hI1, gr1⟩
  have H := HR1 i hI1
  refine WC.seq ?_
  refine WC.seq ?_
  refine WC.region ?_
  refine WL.y rfl (Yld.pure tab_ok rfl) ?_
  refine WL.y rfl (Yld.pure tab_ok rfl) ?_
  refine WL.y rfl (Yld.pure tab_ok rfl) ?_
  refine WL.y rfl (Yld.pure tab_ok rfl) ?_
  refine WL.nil (WX.then_normal ?_)
  refine WC.cond rfl (fun b1 => ?_) (fun b1 => ?_)
  · replace H := H.1 (of_decide_eq_true b1)
    refine WC.skip (WX.then_normal ?_)
    refine WC.seq ?_
    refine WC.block ?_
    refine WC.seq ?_
    refine WC.region ?_
    refine WL.y rfl (Yld.pure tab_ok rfl) ?_
    refine WL.y rfl (Yld.pure tab_ok rfl) ?_
    obtain ⟨h1, H⟩ := H
    refine WL.y rfl (Yld.iaddrW tab_ok (hspecs.grown gr1) rfl rfl rfl rfl h1.1 h1.2) ?_
    refine WL.y rfl (Yld.iload [] tab_ok (hspecs.grown gr1) rfl rfl (iltN h1 rfl)) ?_
    refine WL.call rfl rfl (W_smithyref17_spec H) ?_
    rintro _ w2 ⟨hg1, t170, t171, rfl, H⟩
    have gr2 := gr_trans gr1 hg1
    refine WL.y rfl (Yld.pure tab_ok rfl) ?_
    refine WL.y rfl (Yld.pure tab_ok rfl) ?_
    refine WL.y rfl (Yld.pure tab_ok rfl) ?_
    refine WL.y rfl (Yld.pure tab_ok rfl) ?_
    refine WL.y rfl (Yld.pure tab_ok rfl) ?_
    refine WL.nil (WX.then_normal ?_)
    refine WC.seq ?_
    refine WC.region ?_
    refine WL.y rfl (Yld.pure tab_ok rfl) ?_
    refine WL.y rfl (Yld.pure tab_ok rfl) ?_
    refine WL.nil (WX.then_normal ?_)
    refine WC.cond rfl (fun b2 => ?_) (fun b2 => ?_)
    · replace H := H.1 (of_decide_eq_true b2)
      refine WC.seq ?_
      refine WC.region ?_
      refine WL.y rfl (Yld.pure tab_ok rfl) ?_
      refine WL.y rfl (Yld.pure tab_ok rfl) ?_
      refine WL.nil (WX.then_normal ?_)
      refine WC.ret (WX.block_ret (WX.then_ret (WX.then_ret (WX.block_ret (WX.then_ret ?_)))))
      exact WX.ret1 rfl rfl ⟨gr2, i, rfl, H⟩
    · replace H := H.2 (of_decide_eq_false b2)
      refine WC.skip (WX.block_normal (WX.then_normal ?_))
      refine WC.region ?_
      refine WL.y rfl (Yld.pure tab_ok rfl) ?_
      obtain ⟨h2, H⟩ := H
      refine WL.y rfl (Yld.add rfl rfl h2) ?_
      refine WL.y rfl (Yld.pure tab_ok rfl) ?_
      refine WL.nil ?_
      exact WX.roundF _ ⟨i + (1 : Int), rfl, rfl, H.1, gr2⟩ (by repeat (first | exact Sub.nil | refine Sub.cons rfl ?_)) H.2
  · replace H := H.2 (of_decide_eq_false b1)
    refine WC.exit (WX.then_exit (WX.then_exit (WX.block_same (WX.then_normal ?_))))
    refine WC.seq ?_
    refine WC.region ?_
    refine WL.y rfl (Yld.pure tab_ok rfl) ?_
    refine WL.nil (WX.then_normal ?_)
    refine WC.ret ?_
    exact WX.ret1 rfl rfl ⟨gr1, (-1 : Int), rfl, H⟩

set_option maxHeartbeats 8000000 in
theorem W_smithyref17_May {w : World} {specs : List (List UInt8)} {A_specs : Option Addr} {c_specs : Nat} {of_Pkg : List UInt8} {of_Name : List UInt8} {from_Pkg : List UInt8} {from_Name : List UInt8} {n_specs : Nat} {K : Bool → Prop} (hspecs : Rd vs w A_specs c_specs specs) (hn_specs : n_specs = specs.length) (H : M_smithyref17_May specs of_Pkg of_Name from_Pkg from_Name K) : Fn Tryd.prog 55 ⟨[.slice A_specs n_specs c_specs, .agg ⟨[vs of_Pkg, vs of_Name]⟩, .agg ⟨[vs from_Pkg, vs from_Name]⟩]⟩ w (fun v w' => w.grownBy w' none ∧ ∃ (r : Bool), v = .bool r ∧ K r) := by
  subst hn_specs
  unfold M_smithyref17_May at H
  refine Fn.enter (by kernel_rfl) Tryd.func55 rfl Tryd.ntmps55 rfl ?_
  replace H := H (Nat.le_trans hspecs.cap hspecs.max)
  refine WC.seq ?_
  refine WC.region ?_
  refine WL.box (us := [vs of_Pkg, vs of_Name]) rfl rfl rfl (fun g1 w1 hB1 hg1 hl1 => ?_)
  have gr1 := hg1
  refine WL.box (us := [vs from_Pkg, vs from_Name]) rfl rfl rfl (fun g2 w2 hB2 hg2 hl2 => ?_)
  have gr2 := gr_trans gr1 hg2
  have k1 := hB1.g0 hg2
  refine WL.y rfl (Yld.pure tab_ok rfl) ?_
  refine WL.nil (WX.then_normal ?_)
  refine WC.seq ?_
  refine WC.seq ?_
  refine WC.region ?_
  refine WL.y rfl (Yld.pure tab_ok rfl) ?_
  refine WL.y rfl (Yld.bload tab_ok k1 rfl rfl rfl) ?_
  refine WL.y rfl (Yld.pure tab_ok rfl) ?_
  refine WL.y rfl (Yld.bload tab_ok hB2 rfl rfl rfl) ?_
  refine WL.y rfl (Yld.pure tab_ok rfl) ?_
  refine WL.nil (WX.then_normal ?_)
  refine WC.cond rfl (fun b1 => ?_) (fun b1 => ?_)
  · replace H := H.1 (of_decide_eq_true b1)
    refine WC.seq ?_
    refine WC.region ?_
    refine WL.y rfl (Yld.pure tab_ok rfl) ?_
    refine WL.nil (WX.then_normal ?_)
    refine WC.ret (WX.then_ret ?_)
    exact WX.ret1 rfl rfl ⟨gr2, true, rfl, H⟩
  · replace H := H.2 (of_decide_eq_false b1)
    refine WC.skip (WX.then_normal ?_)
    refine WC.seq ?_
    refine WC.seq ?_
    refine WC.region ?_
    refine WL.y rfl (Yld.pure tab_ok rfl) ?_
    refine WL.nil (WX.then_normal ?_)
    refine WC.block ?_
    obtain ⟨I1, mu1, h0_1, HR1⟩ := H
    refine WC.loopF (fun n' L' w' => ∃ (i : Int), n' = mu1 i ∧ L' = [(0, .slice A_specs specs.length c_specs), (5, .pointer (some ⟨g2, 0, none⟩)), (7, .int .i64 i)] ∧ I1 i ∧ w.grownBy w' none ∧ Bl w' g2 83 [vs from_Pkg, vs from_Name]) _ _ ⟨(0 : Int), rfl, rfl, h0_1, gr2, hB2⟩ (by repeat (first | exact Sub.nil | refine Sub.cons rfl ?_)) ?_
    clear h0_1
    rintro _ _ w3 ⟨i, rfl, rfl, hI1, gr3, k2⟩
    have H := HR1 i hI1
    refine WC.seq ?_
    refine WC.seq ?_
    refine WC.region ?_
    refine WL.y rfl (Yld.pure tab_ok rfl) ?_
    refine WL.y rfl (Yld.pure tab_ok rfl) ?_
    refine WL.y rfl (Yld.pure tab_ok rfl) ?_
    refine WL.y rfl (Yld.pure tab_ok rfl) ?_
    refine WL.nil (WX.then_normal ?_)
    refine WC.cond rfl (fun b2 => ?_) (fun b2 => ?_)
    · replace H := H.1 (of_decide_eq_true b2)
      refine WC.skip (WX.then_normal ?_)
      refine WC.seq ?_
      refine WC.block ?_
      refine WC.seq ?_
      refine WC.region ?_
      refine WL.y rfl (Yld.pure tab_ok rfl) ?_
      refine WL.y rfl (Yld.pure tab_ok rfl) ?_
      obtain ⟨h1, H⟩ := H
      refine WL.y rfl (Yld.iaddrW tab_ok (hspecs.grown gr3) rfl rfl rfl rfl h1.1 h1.2) ?_
      refine WL.y rfl (Yld.iload [] tab_ok (hspecs.grown gr3) rfl rfl (iltN h1 rfl)) ?_
      refine WL.call rfl rfl (W_smithyref17_spec H) ?_
      rintro _ w4 ⟨hg3, t260, t261, rfl, H⟩
      have gr4 := gr_trans gr3 hg3
      have k3 := k2.g0 hg3
      refine WL.y rfl (Yld.pure tab_ok rfl) ?_
      refine WL.y rfl (Yld.pure tab_ok rfl) ?_
      refine WL.y rfl (Yld.pure tab_ok rfl) ?_
      refine WL.y rfl (Yld.pure tab_ok rfl) ?_
      refine WL.y rfl (Yld.pure tab_ok rfl) ?_
      refine WL.nil (WX.then_normal ?_)
      refine WC.seq ?_
      refine WC.region ?_
      refine WL.y rfl (Yld.pure tab_ok rfl) ?_
      refine WL.y rfl (Yld.pure tab_ok rfl) ?_
      refine WL.y rfl (Yld.pure tab_ok rfl) ?_
      refine WL.midF 9 (fun L' w' => ∃ q1 : Bool, L' = [(40, .bool q1), (0, .slice A_specs specs.length c_specs), (5, .pointer (some ⟨g2, 0, none⟩)), (7, .int .i64 i), (8, vs t260), (9, .int .i64 t261)] ∧ q1 = ((decide (t261 = (1 : Int))) || ((decide ((3 : Int) ≤ t261)) && (decide (t260 = from_Pkg)))) ∧ w4 = w') ?_ (fun hQ => ?_)
      · rintro _ _ ⟨q1, rfl, rfl, rfl⟩
        refine WL.y rfl (Yld.pure tab_ok rfl) ?_
        obtain ⟨J1, H, hJ1⟩ := H
        refine WL.midF 9 (fun L' w' => ∃ q2 : Bool, L' = [(50, .bool q2), (0, .slice A_specs specs.length c_specs), (5, .pointer (some ⟨g2, 0, none⟩)), (7, .int .i64 i)] ∧ J1 q2 ∧ w4 = w') ?_ (fun hQ => ?_)
        · clear H
          rintro _ _ ⟨q2, rfl, H, rfl⟩
          replace H := hJ1 q2 H
          refine WL.nil (WX.then_normal ?_)
          refine WC.cond rfl (fun b3 => ?_) (fun b3 => ?_)
          · replace H := H.1 (b3)
            refine WC.seq ?_
            refine WC.region ?_
            refine WL.y rfl (Yld.pure tab_ok rfl) ?_
            refine WL.nil (WX.then_normal ?_)
            refine WC.ret (WX.block_ret (WX.then_ret (WX.then_ret (WX.block_ret (WX.then_ret ?_)))))
            exact WX.ret1 rfl rfl ⟨gr4, true, rfl, H⟩
          · replace H := H.2 (b3)
            refine WC.skip (WX.block_normal (WX.then_normal ?_))
            refine WC.region ?_
            refine WL.y rfl (Yld.pure tab_ok rfl) ?_
            obtain ⟨h2, H⟩ := H
            refine WL.y rfl (Yld.add rfl rfl h2) ?_
            refine WL.y rfl (Yld.pure tab_ok rfl) ?_
            refine WL.nil ?_
            exact WX.roundF _ ⟨i + (1 : Int), rfl, rfl, H.1, gr4, k3⟩ (by repeat (first | exact Sub.nil | refine Sub.cons rfl ?_)) H.2
        · clear hJ1
          rcases Bool.eq_false_or_eq_true ((decide (t261 = (1 : Int))) || ((decide ((3 : Int) ≤ t261)) && (decide (t260 = from_Pkg)))) with b4 | b4
          · replace H := H.1 b4
            refine WL.gno rfl rfl (okb b4) rfl ?_
            refine WL.gno rfl rfl (okb b4) rfl ?_
            refine WL.gno rfl rfl (okb b4) rfl ?_
            refine WL.gun rfl rfl rfl rfl ?_
            refine WL.gun rfl rfl rfl rfl ?_
            refine WL.gun rfl rfl rfl rfl ?_
            refine WL.gun rfl rfl rfl rfl ?_
            refine WL.gno rfl rfl (okb b4) rfl ?_
            refine WL.y rfl (Yld.pickT (okb b4) rfl) ?_
            exact WL.weaken (by repeat (first | exact Sub.nil | refine Sub.cons rfl ?_)) (hQ _ _ ⟨true, rfl, H, rfl⟩)
          · replace H := H.2 b4
            refine WL.gyes rfl rfl (okb b4) rfl (Yld.pure tab_ok rfl) ?_
            refine WL.gyes rfl rfl (okb b4) rfl (Yld.pure tab_ok rfl) ?_
            refine WL.gyes rfl rfl (okb b4) rfl (Yld.pure tab_ok rfl) ?_
            rcases Bool.eq_false_or_eq_true (decide (t261 = (4 : Int))) with b5 | b5
            · replace H := H.1 b5
              refine WL.gyes rfl rfl (okb b5) rfl (Yld.pure tab_ok rfl) ?_
              refine WL.gyes rfl rfl (okb b5) rfl (Yld.bload tab_ok k3 rfl rfl rfl) ?_
              refine WL.gyes rfl rfl (okb b5) rfl (Yld.pure tab_ok rfl) ?_
              refine WL.callw (wants_some rfl rfl (okb b5)) rfl rfl (W_smithyref1_Under H) ?_
              rintro _ _ ⟨rfl, t48, rfl, H⟩
              refine WL.gyes rfl rfl (okb b4) rfl (Yld.pickT (okb b5) rfl) ?_
              refine WL.y rfl (Yld.pickF (okb b4) rfl) ?_
              exact WL.weaken (by repeat (first | exact Sub.nil | refine Sub.cons rfl ?_)) (hQ _ _ ⟨t48, rfl, H, rfl⟩)
            · replace H := H.2 b5
              refine WL.gno rfl rfl (okb b5) rfl ?_
              refine WL.gno rfl rfl (okb b5) rfl ?_
              refine WL.gno rfl rfl (okb b5) rfl ?_
              refine WL.gno rfl rfl (okb b5) rfl ?_
              refine WL.gyes rfl rfl (okb b4) rfl (Yld.pickF (okb b5) rfl) ?_
              refine WL.y rfl (Yld.pickF (okb b4) rfl) ?_
              exact WL.weaken (by repeat (first | exact Sub.nil | refine Sub.cons rfl ?_)) (hQ _ _ ⟨false, rfl, H, rfl⟩)
      · clear H
        rcases Bool.eq_false_or_eq_true (decide (t261 = (1 : Int))) with b6 | b6
        · refine WL.gno rfl rfl (okb b6) rfl ?_
          refine WL.gno rfl rfl (okb b6) rfl ?_
          refine WL.gno rfl rfl (okb b6) rfl ?_
          refine WL.gun rfl rfl rfl rfl ?_
          refine WL.gun rfl rfl rfl rfl ?_
          refine WL.gun rfl rfl rfl rfl ?_
          refine WL.gun rfl rfl rfl rfl ?_
          refine WL.gno rfl rfl (okb b6) rfl ?_
          refine WL.y rfl (Yld.pickT (okb b6) rfl) ?_
          exact WL.weaken (by repeat (first | exact Sub.nil | refine Sub.cons rfl ?_)) (hQ _ _ ⟨true, rfl, by rw [b6] <;> rfl, rfl⟩)
        · refine WL.gyes rfl rfl (okb b6) rfl (Yld.pure tab_ok rfl) ?_
          refine WL.gyes rfl rfl (okb b6) rfl (Yld.pure tab_ok rfl) ?_
          refine WL.gyes rfl rfl (okb b6) rfl (Yld.pure tab_ok rfl) ?_
          rcases Bool.eq_false_or_eq_true (decide ((3 : Int) ≤ t261)) with b7 | b7
          · refine WL.gyes rfl rfl (okb b7) rfl (Yld.pure tab_ok rfl) ?_
            refine WL.gyes rfl rfl (okb b7) rfl (Yld.pure tab_ok rfl) ?_
            refine WL.gyes rfl rfl (okb b7) rfl (Yld.bload tab_ok k3 rfl rfl rfl) ?_
            refine WL.gyes rfl rfl (okb b7) rfl (Yld.pure tab_ok rfl) ?_
            refine WL.gyes rfl rfl (okb b6) rfl (Yld.pickT (okb b7) rfl) ?_
            refine WL.y rfl (Yld.pickF (okb b6) rfl) ?_
            exact WL.weaken (by repeat (first | exact Sub.nil | refine Sub.cons rfl ?_)) (hQ _ _ ⟨decide (t260 = from_Pkg), rfl, by rw [b6, b7] <;> rfl, rfl⟩)
          · refine WL.gno rfl rfl (okb b7) rfl ?_
            refine WL.gno rfl rfl (okb b7) rfl ?_
            refine WL.gno rfl rfl (okb b7) rfl ?_
            refine WL.gno rfl rfl (okb b7) rfl ?_
            refine WL.gyes rfl rfl (okb b6) rfl (Yld.pickF (okb b7) rfl) ?_
            refine WL.y rfl (Yld.pickF (okb b6) rfl) ?_
            exact WL.weaken (by repeat (first | exact Sub.nil | refine Sub.cons rfl ?_)) (hQ _ _ ⟨false, rfl, by rw [b6, b7] <;> rfl, rfl⟩)
    · replace H := H.2 (of_decide_eq_false b2)
      refine WC.exit (WX.then_exit (WX.then_exit (WX.block_same (WX.then_normal ?_))))
      refine WC.seq ?_
      refine WC.region ?_
      refine WL.y rfl (Yld.pure tab_ok rfl) ?_
      refine WL.nil (WX.then_normal ?_)
      refine WC.ret ?_
      exact WX.ret1 rfl rfl ⟨gr3, false, rfl, H⟩

set_option maxHeartbeats 8000000 in
theorem W_smithyref17_Groups {w : World} {specs : List (List UInt8)} {A_specs : Option Addr} {c_specs : Nat} {n_specs : Nat} {K : (List (List UInt8)) → Prop} (hspecs : Rd vs w A_specs c_specs specs) (hn_specs : n_specs = specs.length) (H : M_smithyref17_Groups specs K) : Fn Tryd.prog 58 ⟨[.slice A_specs n_specs c_specs]⟩ w (fun v w' => w.grownBy w' none ∧ ∃ (r : List (List UInt8)), ∃ (A_r : Option Addr), ∃ (c_r : Nat), v = .slice A_r r.length c_r ∧ Own vs w' w.heap.size 9 A_r c_r r ∧ K r) := by
  subst hn_specs
  unfold M_smithyref17_Groups at H
  refine Fn.enter (by kernel_rfl) Tryd.func58 rfl Tryd.ntmps58 rfl ?_
  replace H := H (Nat.le_trans hspecs.cap hspecs.max)
  refine WC.seq ?_
  refine WC.region ?_
  refine WL.y rfl (Yld.pure tab_ok rfl) ?_
  refine WL.nil (WX.then_normal ?_)
  refine WC.seq ?_
  refine WC.region ?_
  refine WL.y rfl (Yld.pure tab_ok rfl) ?_
  refine WL.nil (WX.then_normal ?_)
  refine WC.seq ?_
  refine WC.seq ?_
  refine WC.region ?_
  refine WL.y rfl (Yld.pure tab_ok rfl) ?_
  refine WL.nil (WX.then_normal ?_)
  refine WC.block ?_
  obtain ⟨I1, mu1, h0_1, HR1⟩ := H
  refine WC.loopF (fun n' L' w' => ∃ (out : List (List UInt8)), ∃ (A_out : Option Addr), ∃ (c_out : Nat), ∃ (n_out : Nat), ∃ (i : Int), n' = mu1 out i ∧ L' = [(0, .slice A_specs specs.length c_specs), (3, .slice A_out n_out c_out), (4, .int .i64 i)] ∧ I1 out i ∧ n_out = out.length ∧ w.grownBy w' none ∧ Own vs w' w.heap.size 9 A_out c_out out) _ _ ⟨[], none, 0, 0, (0 : Int), rfl, rfl, h0_1, rfl, (gr_refl _ _), (Own.nil vs w w.heap.size 9)⟩ (by repeat (first | exact Sub.nil | refine Sub.cons rfl ?_)) ?_
  clear h0_1
  rintro _ _ w1 ⟨out, A_out, c_out, n_out, i, rfl, rfl, hI1, rfl, gr1, k1⟩
  have H := HR1 out i hI1
  refine WC.seq ?_
  refine WC.seq ?_
  refine WC.region ?_
  refine WL.y rfl (Yld.pure tab_ok rfl) ?_
  refine WL.y rfl (Yld.pure tab_ok rfl) ?_
  refine WL.y rfl (Yld.pure tab_ok rfl) ?_
  refine WL.y rfl (Yld.pure tab_ok rfl) ?_
  refine WL.nil (WX.then_normal ?_)
  refine WC.cond rfl (fun b1 => ?_) (fun b1 => ?_)
  · replace H := H.1 (of_decide_eq_true b1)
    refine WC.skip (WX.then_normal ?_)
    refine WC.seq ?_
    obtain ⟨J1, H, hJ1⟩ := H
    refine WC.midF (fun L' w' => ∃ (out2 : List (List UInt8)), ∃ (A_out2 : Option Addr), ∃ (c_out2 : Nat), ∃ (n_out2 : Nat), L' = [(0, .slice A_specs specs.length c_specs), (3, .slice A_out2 n_out2 c_out2), (4, .int .i64 i)] ∧ J1 out2 ∧ n_out2 = out2.length ∧ w.grownBy w' none ∧ Own vs w' w.heap.size 9 A_out2 c_out2 out2) ?_ (fun hQ => ?_)
    · clear H
      rintro _ w2 ⟨out2, A_out2, c_out2, n_out2, rfl, H, rfl, gr2, k2⟩
      replace H := hJ1 out2 H
      refine WX.then_normal ?_
      refine WC.region ?_
      refine WL.y rfl (Yld.pure tab_ok rfl) ?_
      obtain ⟨h1, H⟩ := H
      refine WL.y rfl (Yld.add rfl rfl h1) ?_
      refine WL.y rfl (Yld.pure tab_ok rfl) ?_
      refine WL.nil ?_
      exact WX.roundF _ ⟨out2, A_out2, c_out2, out2.length, i + (1 : Int), rfl, rfl, H.1, rfl, gr2, k2⟩ (by repeat (first | exact Sub.nil | refine Sub.cons rfl ?_)) H.2
    · clear hJ1
      refine WC.block ?_
      refine WC.seq ?_
      refine WC.region ?_
      refine WL.y rfl (Yld.pure tab_ok rfl) ?_
      refine WL.y rfl (Yld.pure tab_ok rfl) ?_
      obtain ⟨h2, H⟩ := H
      refine WL.y rfl (Yld.iaddrW tab_ok (hspecs.grown gr1) rfl rfl rfl rfl h2.1 h2.2) ?_
      refine WL.y rfl (Yld.iload [] tab_ok (hspecs.grown gr1) rfl rfl (iltN h2 rfl)) ?_
      refine WL.call rfl rfl (W_smithyref17_spec H) ?_
      rintro _ w3 ⟨hg1, t180, t181, rfl, H⟩
      have gr3 := gr_trans gr1 hg1
      have k3 := k1.grown hg1
      refine WL.y rfl (Yld.pure tab_ok rfl) ?_
      refine WL.y rfl (Yld.pure tab_ok rfl) ?_
      refine WL.y rfl (Yld.pure tab_ok rfl) ?_
      refine WL.y rfl (Yld.pure tab_ok rfl) ?_
      refine WL.y rfl (Yld.pure tab_ok rfl) ?_
      refine WL.nil (WX.then_normal ?_)
      refine WC.seq ?_
      refine WC.region ?_
      refine WL.y rfl (Yld.pure tab_ok rfl) ?_
      refine WL.y rfl (Yld.pure tab_ok rfl) ?_
      refine WL.nil (WX.then_normal ?_)
      refine WC.cond rfl (fun b2 => ?_) (fun b2 => ?_)
      · replace H := H.1 (of_decide_eq_true b2)
        refine WC.region ?_
        refine WL.y rfl (Yld.pure tab_ok rfl) ?_
        refine WL.y rfl (Yld.pure tab_ok rfl) ?_
        refine WL.y rfl (Yld.pure tab_ok rfl) ?_
        obtain ⟨h3, H⟩ := H
        refine WL.y rfl (Yld.iaddrW tab_ok (hspecs.grown gr3) rfl rfl rfl rfl h3.1 h3.2) ?_
        refine WL.y rfl (Yld.iload [] tab_ok (hspecs.grown gr3) rfl rfl (iltN h3 rfl)) ?_
        refine WL.lit tab_ok rfl rfl rfl (all1c rfl all1n) rfl (by omega) (fun g1 w4 hB1 hg2 hl1 => ?_)
        have hO1 : Own vs w4 w.heap.size 9 (some ⟨g1, 0, none⟩) 1 ([specs.getD i.toNat []] : List (List UInt8)) := Own.ofBl hB1 (Nat.le_trans (size_le gr3) hl1) (by simp [maxLen]) rfl
        have gr4 := gr_trans gr3 hg2
        have k4 := k3.grown hg2
        obtain ⟨h4, H⟩ := H
        refine WL.append tab_ok rfl rfl One.s k4 rfl rfl hO1.rd rfl rfl h4 (applen h4) (size_le gr4) (fun A_out3 c_out3 w5 hO2 hg3 hk1 => ?_)
        have gr5 := gr_mod gr4 hg3 k4.ge'
        refine WL.y rfl (Yld.pure tab_ok rfl) ?_
        refine WL.nil (WX.block_normal ?_)
        exact WX.weaken (by repeat (first | exact Sub.nil | refine Sub.cons rfl ?_)) (hQ _ _ ⟨out ++ ([specs.getD i.toNat []] : List (List UInt8)), A_out3, c_out3, (out ++ ([specs.getD i.toNat []] : List (List UInt8))).length, rfl, H, rfl, gr5, hO2⟩)
      · replace H := H.2 (of_decide_eq_false b2)
        refine WC.skip (WX.block_normal ?_)
        exact WX.weaken (by repeat (first | exact Sub.nil | refine Sub.cons rfl ?_)) (hQ _ _ ⟨out, A_out, c_out, out.length, rfl, H, rfl, gr3, k3⟩)
  · replace H := H.2 (of_decide_eq_false b1)
    refine WC.exit (WX.then_exit (WX.then_exit (WX.block_same (WX.then_normal ?_))))
    refine WC.seq ?_
    refine WC.region ?_
    refine WL.y rfl (Yld.pure tab_ok rfl) ?_
    refine WL.call rfl rfl (W_smithyref_SortedTexts k1.rd rfl H) ?_
    rintro _ w6 ⟨hg4, t2, A_t2, c_t2, rfl, ht2, H⟩
    have hb1 := ht2.ge'
    have k5 := ht2.base (fun g hg => Nat.le_trans (size_le gr1) (hb1 g hg))
    have gr6 := gr_trans gr1 hg4
    refine WL.y rfl (Yld.pure tab_ok rfl) ?_
    refine WL.nil (WX.then_normal ?_)
    refine WC.ret ?_
    exact WX.ret1 rfl rfl ⟨gr6, t2, A_t2, c_t2, rfl, k5, H⟩

set_option maxHeartbeats 8000000 in
theorem W_smithylaw20_VisSays {S : List Nat} {w : World} {specs : List (List UInt8)} {A_specs : Option Addr} {c_specs : Nat} {a_Pkg : List UInt8} {a_Name : List UInt8} {b_Pkg : List UInt8} {b_Name : List UInt8} {n_specs : Nat} {K : Bool → Prop} (hG : GOK S w) (hS0 : 0 ∈ S) (hS1 : 1 ∈ S) (hS2 : 2 ∈ S) (hS3 : 3 ∈ S) (hS4 : 4 ∈ S) (hS5 : 5 ∈ S) (hS6 : 6 ∈ S) (hS7 : 7 ∈ S) (hS8 : 8 ∈ S) (hS9 : 9 ∈ S) (hS10 : 10 ∈ S) (hS11 : 11 ∈ S) (hS12 : 12 ∈ S) (hS13 : 13 ∈ S) (hS14 : 14 ∈ S) (hS15 : 15 ∈ S) (hS16 : 16 ∈ S) (hS100 : 100 ∈ S) (hspecs : Rd vs w A_specs c_specs specs) (hn_specs : n_specs = specs.length) (H : M_smithylaw20_VisSays specs a_Pkg a_Name b_Pkg b_Name K) : Fn Tryd.prog 8 ⟨[.slice A_specs n_specs c_specs, .agg ⟨[vs a_Pkg, vs a_Name]⟩, .agg ⟨[vs b_Pkg, vs b_Name]⟩]⟩ w (fun v w' => w.grownBy w' none ∧ ∃ (r : Bool), v = .bool r ∧ K r) := by
  subst hn_specs
  unfold M_smithylaw20_VisSays at H
  refine Fn.enter (by kernel_rfl) Tryd.func8 rfl Tryd.ntmps8 rfl ?_
  replace H := H (Nat.le_trans hspecs.cap hspecs.max)
  refine WC.seq ?_
  refine WC.region ?_
  refine WL.box (us := [vs a_Pkg, vs a_Name]) rfl rfl rfl (fun g1 w1 hB1 hg1 hl1 => ?_)
  have gr1 := hg1
  refine WL.box (us := [vs b_Pkg, vs b_Name]) rfl rfl rfl (fun g2 w2 hB2 hg2 hl2 => ?_)
  have gr2 := gr_trans gr1 hg2
  have k1 := hB1.g0 hg2
  refine WL.y rfl (Yld.pure tab_ok rfl) ?_
  refine WL.nil (WX.then_normal ?_)
  refine WC.seq ?_
  refine WC.region ?_
  refine WL.call rfl rfl (W_smithylaw20_first (hG.grown gr2) hS100 H) ?_
  rintro _ w3 ⟨hg3, ok, rfl, H⟩
  have gr3 := gr_trans gr2 hg3
  have k2 := k1.g0 hg3
  have k3 := hB2.g0 hg3
  refine WL.y rfl (Yld.pure tab_ok rfl) ?_
  refine WL.nil (WX.then_normal ?_)
  refine WC.seq ?_
  refine WC.seq ?_
  refine WC.region ?_
  refine WL.y rfl (Yld.pure tab_ok rfl) ?_
  refine WL.y rfl (Yld.pure tab_ok rfl) ?_
  refine WL.nil (WX.then_normal ?_)
  refine WC.cond rfl (fun b1 => ?_) (fun b1 => ?_)
  · replace H := H.1 (b1)
    refine WC.seq ?_
    refine WC.region ?_
    refine WL.y rfl (Yld.pure tab_ok rfl) ?_
    refine WL.nil (WX.then_normal ?_)
    refine WC.ret (WX.then_ret ?_)
    exact WX.ret1 rfl rfl ⟨gr3, false, rfl, H⟩
  · replace H := H.2 (b1)
    refine WC.skip (WX.then_normal ?_)
    refine WC.seq ?_
    refine WC.seq ?_
    refine WC.region ?_
    refine WL.y rfl (Yld.pure tab_ok rfl) ?_
    refine WL.call rfl rfl (W_smithyworld_Texts (hspecs.grown gr3) rfl H) ?_
    rintro _ _ ⟨rfl, t16, rfl, H⟩
    refine WL.y rfl (Yld.pure tab_ok rfl) ?_
    refine WL.y rfl (Yld.pure tab_ok rfl) ?_
    refine WL.midF 5 (fun L' w' => ∃ q1 : Bool, L' = [(23, .bool q1), (0, .slice A_specs specs.length c_specs), (4, .pointer (some ⟨g1, 0, none⟩)), (5, .pointer (some ⟨g2, 0, none⟩)), (7, .bool ok)] ∧ q1 = ((!t16) || (decide ((200 : Int) < (a_Pkg.length : Int)))) ∧ w3 = w') ?_ (fun hQ => ?_)
    · rintro _ _ ⟨q1, rfl, rfl, rfl⟩
      refine WL.y rfl (Yld.pure tab_ok rfl) ?_
      refine WL.midF 5 (fun L' w' => ∃ q2 : Bool, L' = [(29, .bool q2), (0, .slice A_specs specs.length c_specs), (4, .pointer (some ⟨g1, 0, none⟩)), (5, .pointer (some ⟨g2, 0, none⟩)), (7, .bool ok)] ∧ q2 = (((!t16) || (decide ((200 : Int) < (a_Pkg.length : Int)))) || (decide ((200 : Int) < (b_Pkg.length : Int)))) ∧ w3 = w') ?_ (fun hQ => ?_)
      · rintro _ _ ⟨q2, rfl, rfl, rfl⟩
        refine WL.y rfl (Yld.pure tab_ok rfl) ?_
        refine WL.midF 3 (fun L' w' => ∃ q3 : Bool, L' = [(33, .bool q3), (0, .slice A_specs specs.length c_specs), (4, .pointer (some ⟨g1, 0, none⟩)), (5, .pointer (some ⟨g2, 0, none⟩)), (7, .bool ok)] ∧ q3 = ((((!t16) || (decide ((200 : Int) < (a_Pkg.length : Int)))) || (decide ((200 : Int) < (b_Pkg.length : Int)))) || (!ok)) ∧ w3 = w') ?_ (fun hQ => ?_)
        · rintro _ _ ⟨q3, rfl, rfl, rfl⟩
          refine WL.nil (WX.then_normal ?_)
          refine WC.cond rfl (fun b2 => ?_) (fun b2 => ?_)
          · replace H := H.1 (b2)
            refine WC.seq ?_
            refine WC.region ?_
            refine WL.y rfl (Yld.pure tab_ok rfl) ?_
            refine WL.y rfl (Yld.pure tab_ok rfl) ?_
            refine WL.nil (WX.then_normal ?_)
            refine WC.ret (WX.then_ret ?_)
            exact WX.ret1 rfl rfl ⟨gr3, ok, rfl, H⟩
          · replace H := H.2 (b2)
            refine WC.skip (WX.then_normal ?_)
            refine WC.seq ?_
            refine WC.region ?_
            refine WL.call rfl rfl (W_smithyref_None H) ?_
            rintro _ w4 ⟨hg4, t35_Code, t35_Placed, t35_Pos, t35_Filed, t35_File, rfl, H⟩
            have gr4 := gr_trans gr3 hg4
            have k4 := k2.g0 hg4
            have k5 := k3.g0 hg4
            refine WL.alloc rfl zero79 (fun g3 w5 hB3 hg5 hl3 => ?_)
            have gr5 := gr_trans gr4 hg5
            have k6 := k4.g0 hg5
            have k7 := k5.g0 hg5
            refine WL.storeW (vs := [.int .i64 t35_Code, .bool t35_Placed, .int .i64 t35_Pos, .bool t35_Filed, vs t35_File]) tab_ok rfl rfl rfl (all1c rfl (all1c rfl (all1c rfl (all1c rfl (all1c rfl all1n))))) hB3 rfl rfl (fun w6 hB4 hg6 => ?_)
            have gr6 := gr_mod gr5 hg6 (Ge.le (Ge.box hl3) (size_le gr4))
            have k8 := k6.go hg6 (Dj.new k4.lt' (Ge.box hl3))
            have k9 := k7.go hg6 (Dj.new k5.lt' (Ge.box hl3))
            refine WL.nil (WX.then_normal ?_)
            refine WC.seq ?_
            refine WC.region ?_
            refine WL.y rfl (Yld.pure tab_ok rfl) ?_
            refine WL.call rfl rfl (W_smithyref17_Visible (hspecs.grown gr6) rfl H) ?_
            rintro _ w7 ⟨hg7, k, rfl, H⟩
            have gr7 := gr_trans gr6 hg7
            have k10 := k8.g0 hg7
            have k11 := k9.g0 hg7
            have k12 := hB4.g0 hg7
            refine WL.y rfl (Yld.pure tab_ok rfl) ?_
            refine WL.nil (WX.then_normal ?_)
            refine WC.seq ?_
            obtain ⟨J1, H, hJ1⟩ := H
            refine WC.midF (fun L' w' => ∃ (want0 : Int), ∃ (want1 : Bool), ∃ (want2 : Int), ∃ (want3 : Bool), ∃ (want4 : List UInt8), L' = [(0, .slice A_specs specs.length c_specs), (4, .pointer (some ⟨g1, 0, none⟩)), (5, .pointer (some ⟨g2, 0, none⟩)), (8, .pointer (some ⟨g3, 0, none⟩))] ∧ J1 want0 want1 want2 want3 want4 ∧ w.grownBy w' none ∧ Bl w' g1 77 [vs a_Pkg, vs a_Name] ∧ Bl w' g2 77 [vs b_Pkg, vs b_Name] ∧ Bl w' g3 79 [.int .i64 want0, .bool want1, .int .i64 want2, .bool want3, vs want4] ∧ Dj (some g1) (some g2) ∧ Dj (some g1) (some g3) ∧ Dj (some g2) (some g3)) ?_ (fun hQ => ?_)
            · clear H
              rintro _ w8 ⟨want0, want1, want2, want3, want4, rfl, H, gr8, k13, k14, k15, dj1, dj2, dj3⟩
              replace H := hJ1 want0 want1 want2 want3 want4 H
              refine WX.then_normal ?_
              refine WC.seq ?_
              refine WC.region ?_
              refine WL.y rfl (Yld.pure tab_ok rfl) ?_
              refine WL.y rfl (Yld.bload tab_ok k13 rfl rfl rfl) ?_
              refine WL.y rfl (Yld.pure tab_ok rfl) ?_
              refine WL.y rfl (Yld.bload tab_ok k13 rfl rfl rfl) ?_
              refine WL.y rfl (Yld.struct (us := [vs a_Pkg, vs a_Name]) zero83 places83 rfl rfl) ?_
              refine WL.alloc rfl zero83 (fun g4 w9 hB5 hg8 hl4 => ?_)
              have gr9 := gr_trans gr8 hg8
              have k16 := k13.g0 hg8
              have k17 := k14.g0 hg8
              have k18 := k15.g0 hg8
              refine WL.storeW (vs := [vs a_Pkg, vs a_Name]) tab_ok rfl rfl rfl (all1c rfl (all1c rfl all1n)) hB5 rfl rfl (fun w10 hB6 hg9 => ?_)
              have gr10 := gr_mod gr9 hg9 (Ge.le (Ge.box hl4) (size_le gr8))
              have k19 := k16.go hg9 (Dj.new k13.lt' (Ge.box hl4))
              have k20 := k17.go hg9 (Dj.new k14.lt' (Ge.box hl4))
              have k21 := k18.go hg9 (Dj.new k15.lt' (Ge.box hl4))
              refine WL.nil (WX.then_normal ?_)
              refine WC.seq ?_
              refine WC.region ?_
              refine WL.y rfl (Yld.pure tab_ok rfl) ?_
              refine WL.y rfl (Yld.bload tab_ok k20 rfl rfl rfl) ?_
              refine WL.y rfl (Yld.pure tab_ok rfl) ?_
              refine WL.y rfl (Yld.bload tab_ok k20 rfl rfl rfl) ?_
              refine WL.y rfl (Yld.struct (us := [vs b_Pkg, vs b_Name]) zero83 places83 rfl rfl) ?_
              refine WL.alloc rfl zero83 (fun g5 w11 hB7 hg10 hl5 => ?_)
              have gr11 := gr_trans gr10 hg10
              have k22 := k19.g0 hg10
              have k23 := k20.g0 hg10
              have k24 := k21.g0 hg10
              have k25 := hB6.g0 hg10
              refine WL.storeW (vs := [vs b_Pkg, vs b_Name]) tab_ok rfl rfl rfl (all1c rfl (all1c rfl all1n)) hB7 rfl rfl (fun w12 hB8 hg11 => ?_)
              have gr12 := gr_mod gr11 hg11 (Ge.le (Ge.box hl5) (size_le gr10))
              have k26 := k22.go hg11 (Dj.new k19.lt' (Ge.box hl5))
              have k27 := k23.go hg11 (Dj.new k20.lt' (Ge.box hl5))
              have k28 := k24.go hg11 (Dj.new k21.lt' (Ge.box hl5))
              have k29 := k25.go hg11 (Dj.new hB6.lt' (Ge.box hl5))
              refine WL.nil (WX.then_normal ?_)
              refine WC.seq ?_
              refine WC.chainF (fun k => !(Nat.beq k 1 || Nat.beq k 3 || Nat.beq k 8 || Nat.beq k 12 || Nat.beq k 17 || Nat.beq k 19 || Nat.beq k 20)) (LD [2, 6, 7, 10, 11] (fun w' => Bl w' g3 79 [.int .i64 want0, .bool want1, .int .i64 want2, .bool want3, vs want4] ∧ Bl w' g1 77 [vs a_Pkg, vs a_Name] ∧ Bl w' g2 77 [vs b_Pkg, vs b_Name] ∧ Bl w' g4 83 [vs a_Pkg, vs a_Name] ∧ Bl w' g5 83 [vs b_Pkg, vs b_Name])) mixed (by kernel_rfl) (fun k w' h _ => ⟨(bl_eqv h k28), (bl_eqv h k26), (bl_eqv h k27), (bl_eqv h k29), (bl_eqv h hB8)⟩) ?_
              refine WJ.y rfl rfl (fun w' hw' => Yld.pure tab_ok rfl) ?_
              refine WJ.call rfl (wants_none) rfl rfl (W_vis_Valid (hG.grown gr12) hS5 hS100 (hspecs.grown gr12) rfl H) (fun v w' h w2 e => DD.keep (⟨(Bl.g0 k28 (gr_eqv h.1 e)), (Bl.g0 k26 (gr_eqv h.1 e)), (Bl.g0 k27 (gr_eqv h.1 e)), (Bl.g0 k29 (gr_eqv h.1 e)), (Bl.g0 hB8 (gr_eqv h.1 e))⟩)) ?_
              rintro _ w13 ⟨hg12, v_t53, t53, rfl, ht53, H⟩
              have gr13 := gr_trans gr12 hg12
              have k30 := k26.g0 hg12
              have k31 := k27.g0 hg12
              have k32 := k28.g0 hg12
              have k33 := k29.g0 hg12
              have k34 := hB8.g0 hg12
              refine WJ.y rfl rfl (fun w' hw' => Yld.bagg (vs := [.int .i64 want0, .bool want1, .int .i64 want2, .bool want3, vs want4]) tab_ok (hw' rfl).1 rfl rfl rfl rfl) ?_
              refine WJ.call rfl (wants_none) rfl rfl (W_smithysee_Same (hG.grown gr13) hS0 hS1 hS2 hS3 hS4 hS5 hS6 hS7 hS8 hS9 hS10 hS11 hS12 hS13 hS14 hS15 hS16 ht53 H) (fun v w' h w2 e => DD.keep (⟨(Bl.g0 k32 (gr_eqv h.1 e)), (Bl.g0 k30 (gr_eqv h.1 e)), (Bl.g0 k31 (gr_eqv h.1 e)), (Bl.g0 k33 (gr_eqv h.1 e)), (Bl.g0 k34 (gr_eqv h.1 e))⟩)) ?_
              rintro _ w14 ⟨hg13, t55, rfl, H⟩
              have gr14 := gr_trans gr13 hg13
              have k35 := k30.g0 hg13
              have k36 := k31.g0 hg13
              have k37 := k32.g0 hg13
              have k38 := k33.g0 hg13
              have k39 := k34.g0 hg13
              refine WJ.y rfl rfl (fun w' hw' => Yld.pure tab_ok rfl) ?_
              obtain ⟨J2, H, hJ2⟩ := H
              refine WJ.midF 10 (fun L' w' => ∃ q4 : Bool, L' = [(66, .bool q4), (0, .slice A_specs specs.length c_specs)] ∧ J2 q4 ∧ w.grownBy w' none ∧ Bl w' g1 77 [vs a_Pkg, vs a_Name] ∧ Bl w' g2 77 [vs b_Pkg, vs b_Name] ∧ Bl w' g3 79 [.int .i64 want0, .bool want1, .int .i64 want2, .bool want3, vs want4] ∧ Bl w' g4 83 [vs a_Pkg, vs a_Name] ∧ Bl w' g5 83 [vs b_Pkg, vs b_Name]) ?_ (fun hQ => ?_)
              · clear H
                rintro _ w15 ⟨q4, rfl, H, gr15, k40, k41, k42, k43, k44⟩
                replace H := hJ2 q4 H
                refine WJ.y rfl rfl (fun w' hw' => Yld.pure tab_ok rfl) ?_
                obtain ⟨J3, H, hJ3⟩ := H
                refine WJ.midF 6 (fun L' w' => ∃ q5 : Bool, L' = [(73, .bool q5)] ∧ J3 q5 ∧ w.grownBy w' none ∧ Bl w' g1 77 [vs a_Pkg, vs a_Name] ∧ Bl w' g2 77 [vs b_Pkg, vs b_Name] ∧ Bl w' g3 79 [.int .i64 want0, .bool want1, .int .i64 want2, .bool want3, vs want4] ∧ Bl w' g4 83 [vs a_Pkg, vs a_Name] ∧ Bl w' g5 83 [vs b_Pkg, vs b_Name]) ?_ (fun hQ => ?_)
                · clear H
                  rintro _ w16 ⟨q5, rfl, H, gr16, k45, k46, k47, k48, k49⟩
                  replace H := hJ3 q5 H
                  refine WJ.y rfl rfl (fun w' hw' => Yld.pure tab_ok rfl) ?_
                  refine WJ.nil (WX.then_normal ?_)
                  refine WC.ret ?_
                  exact WX.ret1 rfl rfl ⟨gr16, q5, rfl, H⟩
                · clear hJ3
                  rcases Bool.eq_false_or_eq_true (q4) with b3 | b3
                  · replace H := H.1 b3
                    refine WJ.yw rfl (wants_some rfl rfl (okb b3)) rfl (fun w' hw' => Yld.pure tab_ok rfl) ?_
                    refine WJ.call rfl (wants_some rfl rfl (okb b3)) rfl rfl (W_vis_Groups (hG.grown gr15) hS100 (hspecs.grown gr15) rfl H) (fun v w' h w2 e => DD.keep (⟨(Bl.g0 k42 (gr_eqv h.1 e)), (Bl.g0 k40 (gr_eqv h.1 e)), (Bl.g0 k41 (gr_eqv h.1 e)), (Bl.g0 k43 (gr_eqv h.1 e)), (Bl.g0 k44 (gr_eqv h.1 e))⟩)) ?_
                    rintro _ w17 ⟨hg14, t69, A_t69, c_t69, rfl, ht69, H⟩
                    have hb1 := ht69.ge'
                    have k50 := ht69.base (fun g hg => Nat.le_trans (size_le gr15) (hb1 g hg))
                    have gr17 := gr_trans gr15 hg14
                    have k51 := k40.g0 hg14
                    have k52 := k41.g0 hg14
                    have k53 := k42.g0 hg14
                    have k54 := k43.g0 hg14
                    have k55 := k44.g0 hg14
                    refine WJ.yw rfl (wants_some rfl rfl (okb b3)) rfl (fun w' hw' => Yld.pure tab_ok rfl) ?_
                    refine WJ.call rfl (wants_some rfl rfl (okb b3)) rfl rfl (W_smithyref17_Groups (hspecs.grown gr17) rfl H) (fun v w' h w2 e => DD.keep (⟨(Bl.g0 k53 (gr_eqv h.1 e)), (Bl.g0 k51 (gr_eqv h.1 e)), (Bl.g0 k52 (gr_eqv h.1 e)), (Bl.g0 k54 (gr_eqv h.1 e)), (Bl.g0 k55 (gr_eqv h.1 e))⟩)) ?_
                    rintro _ w18 ⟨hg15, t71, A_t71, c_t71, rfl, ht71, H⟩
                    have hb2 := ht71.ge'
                    have k56 := ht71.base (fun g hg => Nat.le_trans (size_le gr17) (hb2 g hg))
                    have gr18 := gr_trans gr17 hg15
                    have k57 := k51.g0 hg15
                    have k58 := k52.g0 hg15
                    have k59 := k53.g0 hg15
                    have k60 := k54.g0 hg15
                    have k61 := k55.g0 hg15
                    have k62 := k50.grown hg15
                    refine WJ.call rfl (wants_some rfl rfl (okb b3)) rfl rfl (W_smithyref_SameTexts k62.rd rfl k56.rd rfl H) (fun v w' h w2 e => DD.keep (⟨(bl_eqv (eqvL h.1 e) k59), (bl_eqv (eqvL h.1 e) k57), (bl_eqv (eqvL h.1 e) k58), (bl_eqv (eqvL h.1 e) k60), (bl_eqv (eqvL h.1 e) k61)⟩)) ?_
                    rintro _ _ ⟨rfl, t72, rfl, H⟩
                    refine WJ.y rfl rfl (fun w' hw' => Yld.pickT (okb b3) rfl) ?_
                    exact WJ.weaken (by repeat (first | exact Sub.nil | refine Sub.cons rfl ?_)) (hQ _ _ ⟨t72, rfl, H, gr18, k57, k58, k59, k60, k61⟩)
                  · replace H := H.2 b3
                    refine WJ.no rfl rfl (okb b3) rfl ?_
                    refine WJ.no rfl rfl (okb b3) rfl ?_
                    refine WJ.no rfl rfl (okb b3) rfl ?_
                    refine WJ.no rfl rfl (okb b3) rfl ?_
                    refine WJ.no rfl rfl (okb b3) rfl ?_
                    refine WJ.y rfl rfl (fun w' hw' => Yld.pickF (okb b3) rfl) ?_
                    exact WJ.weaken (by repeat (first | exact Sub.nil | refine Sub.cons rfl ?_)) (hQ _ _ ⟨false, rfl, H, gr15, k40, k41, k42, k43, k44⟩)
              · clear hJ2
                rcases Bool.eq_false_or_eq_true (t55) with b4 | b4
                · replace H := H.1 b4
                  refine WJ.yw rfl (wants_some rfl rfl (okb b4)) rfl (fun w' hw' => Yld.pure tab_ok rfl) ?_
                  refine WJ.yw rfl (wants_some rfl rfl (okb b4)) rfl (fun w' hw' => Yld.bagg (vs := [vs a_Pkg, vs a_Name]) tab_ok (hw' rfl).2.1 rfl rfl rfl rfl) ?_
                  refine WJ.yw rfl (wants_some rfl rfl (okb b4)) rfl (fun w' hw' => Yld.bagg (vs := [vs b_Pkg, vs b_Name]) tab_ok (hw' rfl).2.2.1 rfl rfl rfl rfl) ?_
                  refine WJ.call rfl (wants_some rfl rfl (okb b4)) rfl rfl (W_vis_May (hG.grown gr14) hS100 (hspecs.grown gr14) rfl H) (fun v w' h w2 e => DD.keep (⟨(Bl.g0 k37 (gr_eqv h.1 e)), (Bl.g0 k35 (gr_eqv h.1 e)), (Bl.g0 k36 (gr_eqv h.1 e)), (Bl.g0 k38 (gr_eqv h.1 e)), (Bl.g0 k39 (gr_eqv h.1 e))⟩)) ?_
                  rintro _ w19 ⟨hg16, t60, rfl, H⟩
                  have gr19 := gr_trans gr14 hg16
                  have k63 := k35.g0 hg16
                  have k64 := k36.g0 hg16
                  have k65 := k37.g0 hg16
                  have k66 := k38.g0 hg16
                  have k67 := k39.g0 hg16
                  refine WJ.yw rfl (wants_some rfl rfl (okb b4)) rfl (fun w' hw' => Yld.pure tab_ok rfl) ?_
                  refine WJ.yw rfl (wants_some rfl rfl (okb b4)) rfl (fun w' hw' => Yld.bagg (vs := [vs a_Pkg, vs a_Name]) tab_ok (hw' rfl).2.2.2.1 rfl rfl rfl rfl) ?_
                  refine WJ.yw rfl (wants_some rfl rfl (okb b4)) rfl (fun w' hw' => Yld.bagg (vs := [vs b_Pkg, vs b_Name]) tab_ok (hw' rfl).2.2.2.2 rfl rfl rfl rfl) ?_
                  refine WJ.call rfl (wants_some rfl rfl (okb b4)) rfl rfl (W_smithyref17_May (hspecs.grown gr19) rfl H) (fun v w' h w2 e => DD.keep (⟨(Bl.g0 k65 (gr_eqv h.1 e)), (Bl.g0 k63 (gr_eqv h.1 e)), (Bl.g0 k64 (gr_eqv h.1 e)), (Bl.g0 k66 (gr_eqv h.1 e)), (Bl.g0 k67 (gr_eqv h.1 e))⟩)) ?_
                  rintro _ w20 ⟨hg17, t64, rfl, H⟩
                  have gr20 := gr_trans gr19 hg17
                  have k68 := k63.g0 hg17
                  have k69 := k64.g0 hg17
                  have k70 := k65.g0 hg17
                  have k71 := k66.g0 hg17
                  have k72 := k67.g0 hg17
                  refine WJ.yw rfl (wants_some rfl rfl (okb b4)) rfl (fun w' hw' => Yld.beql Tryd.underlying4 rfl rfl) ?_
                  refine WJ.y rfl rfl (fun w' hw' => Yld.pickT (okb b4) rfl) ?_
                  exact WJ.weaken (by repeat (first | exact Sub.nil | refine Sub.cons rfl ?_)) (hQ _ _ ⟨t60 == t64, rfl, H, gr20, k68, k69, k70, k71, k72⟩)
                · replace H := H.2 b4
                  refine WJ.no rfl rfl (okb b4) rfl ?_
                  refine WJ.no rfl rfl (okb b4) rfl ?_
                  refine WJ.no rfl rfl (okb b4) rfl ?_
                  refine WJ.no rfl rfl (okb b4) rfl ?_
                  refine WJ.no rfl rfl (okb b4) rfl ?_
                  refine WJ.no rfl rfl (okb b4) rfl ?_
                  refine WJ.no rfl rfl (okb b4) rfl ?_
                  refine WJ.no rfl rfl (okb b4) rfl ?_
                  refine WJ.no rfl rfl (okb b4) rfl ?_
                  refine WJ.y rfl rfl (fun w' hw' => Yld.pickF (okb b4) rfl) ?_
                  exact WJ.weaken (by repeat (first | exact Sub.nil | refine Sub.cons rfl ?_)) (hQ _ _ ⟨false, rfl, H, gr14, k35, k36, k37, k38, k39⟩)
            · clear hJ1
              refine WC.seq ?_
              refine WC.region ?_
              refine WL.y rfl (Yld.pure tab_ok rfl) ?_
              refine WL.y rfl (Yld.pure tab_ok rfl) ?_
              refine WL.nil (WX.then_normal ?_)
              refine WC.cond rfl (fun b5 => ?_) (fun b5 => ?_)
              · replace H := H.1 (of_decide_eq_true b5)
                refine WC.region ?_
                refine WL.y rfl (Yld.pure tab_ok rfl) ?_
                refine WL.call rfl rfl (W_smithyref_Placed H) ?_
                rintro _ w21 ⟨hg18, t41_Code, t41_Placed, t41_Pos, t41_Filed, t41_File, rfl, H⟩
                have gr21 := gr_trans gr7 hg18
                have k73 := k10.g0 hg18
                have k74 := k11.g0 hg18
                have k75 := k12.g0 hg18
                refine WL.storeW (vs := [.int .i64 t41_Code, .bool t41_Placed, .int .i64 t41_Pos, .bool t41_Filed, vs t41_File]) tab_ok rfl rfl rfl (all1c rfl (all1c rfl (all1c rfl (all1c rfl (all1c rfl all1n))))) k75 rfl rfl (fun w22 hB9 hg19 => ?_)
                have gr22 := gr_mod gr21 hg19 (Ge.le (Ge.box hl3) (size_le gr4))
                have k76 := k73.go hg19 (Dj.new k4.lt' (Ge.box hl3))
                have k77 := k74.go hg19 (Dj.new k5.lt' (Ge.box hl3))
                refine WL.nil ?_
                exact WX.weaken (by repeat (first | exact Sub.nil | refine Sub.cons rfl ?_)) (hQ _ _ ⟨t41_Code, t41_Placed, t41_Pos, t41_Filed, t41_File, rfl, H, gr22, k76, k77, hB9, (Dj.new hB1.lt' (Ge.box hl2)), (Dj.new k4.lt' (Ge.box hl3)), (Dj.new k5.lt' (Ge.box hl3))⟩)
              · replace H := H.2 (of_decide_eq_false b5)
                refine WC.skip ?_
                exact WX.weaken (by repeat (first | exact Sub.nil | refine Sub.cons rfl ?_)) (hQ _ _ ⟨t35_Code, t35_Placed, t35_Pos, t35_Filed, t35_File, rfl, H, gr7, k10, k11, k12, (Dj.new hB1.lt' (Ge.box hl2)), (Dj.new k4.lt' (Ge.box hl3)), (Dj.new k5.lt' (Ge.box hl3))⟩)
        · clear H
          rcases Bool.eq_false_or_eq_true (((!t16) || (decide ((200 : Int) < (a_Pkg.length : Int)))) || (decide ((200 : Int) < (b_Pkg.length : Int)))) with b6 | b6
          · refine WL.gno rfl rfl (okb b6) rfl ?_
            refine WL.gno rfl rfl (okb b6) rfl ?_
            refine WL.y rfl (Yld.pickT (okb b6) rfl) ?_
            exact WL.weaken (by repeat (first | exact Sub.nil | refine Sub.cons rfl ?_)) (hQ _ _ ⟨true, rfl, by rw [b6] <;> rfl, rfl⟩)
          · refine WL.gyes rfl rfl (okb b6) rfl (Yld.pure tab_ok rfl) ?_
            refine WL.gyes rfl rfl (okb b6) rfl (Yld.pure tab_ok rfl) ?_
            refine WL.y rfl (Yld.pickF (okb b6) rfl) ?_
            exact WL.weaken (by repeat (first | exact Sub.nil | refine Sub.cons rfl ?_)) (hQ _ _ ⟨!ok, rfl, by rw [b6] <;> rfl, rfl⟩)
      · clear H
        rcases Bool.eq_false_or_eq_true ((!t16) || (decide ((200 : Int) < (a_Pkg.length : Int)))) with b7 | b7
        · refine WL.gno rfl rfl (okb b7) rfl ?_
          refine WL.gno rfl rfl (okb b7) rfl ?_
          refine WL.gno rfl rfl (okb b7) rfl ?_
          refine WL.gno rfl rfl (okb b7) rfl ?_
          refine WL.y rfl (Yld.pickT (okb b7) rfl) ?_
          exact WL.weaken (by repeat (first | exact Sub.nil | refine Sub.cons rfl ?_)) (hQ _ _ ⟨true, rfl, by rw [b7] <;> rfl, rfl⟩)
        · refine WL.gyes rfl rfl (okb b7) rfl (Yld.pure tab_ok rfl) ?_
          refine WL.gyes rfl rfl (okb b7) rfl (Yld.bload tab_ok k3 rfl rfl rfl) ?_
          refine WL.gyes rfl rfl (okb b7) rfl (Yld.pure tab_ok rfl) ?_
          refine WL.gyes rfl rfl (okb b7) rfl (Yld.pure tab_ok rfl) ?_
          refine WL.y rfl (Yld.pickF (okb b7) rfl) ?_
          exact WL.weaken (by repeat (first | exact Sub.nil | refine Sub.cons rfl ?_)) (hQ _ _ ⟨decide ((200 : Int) < (b_Pkg.length : Int)), rfl, by rw [b7] <;> rfl, rfl⟩)
    · clear H
      rcases Bool.eq_false_or_eq_true (!t16) with b8 | b8
      · refine WL.gno rfl rfl (okb b8) rfl ?_
        refine WL.gno rfl rfl (okb b8) rfl ?_
        refine WL.gno rfl rfl (okb b8) rfl ?_
        refine WL.gno rfl rfl (okb b8) rfl ?_
        refine WL.y rfl (Yld.pickT (okb b8) rfl) ?_
        exact WL.weaken (by repeat (first | exact Sub.nil | refine Sub.cons rfl ?_)) (hQ _ _ ⟨true, rfl, by rw [b8] <;> rfl, rfl⟩)
      · refine WL.gyes rfl rfl (okb b8) rfl (Yld.pure tab_ok rfl) ?_
        refine WL.gyes rfl rfl (okb b8) rfl (Yld.bload tab_ok k2 rfl rfl rfl) ?_
        refine WL.gyes rfl rfl (okb b8) rfl (Yld.pure tab_ok rfl) ?_
        refine WL.gyes rfl rfl (okb b8) rfl (Yld.pure tab_ok rfl) ?_
        refine WL.y rfl (Yld.pickF (okb b8) rfl) ?_
        exact WL.weaken (by repeat (first | exact Sub.nil | refine Sub.cons rfl ?_)) (hQ _ _ ⟨decide ((200 : Int) < (a_Pkg.length : Int)), rfl, by rw [b8] <;> rfl, rfl⟩)

end Go.Proofs.YtilphcippnfklaaDoor
 /- VisSays, plainly. -/
namespace Go.Proofs.YtilphcippnfklaaDoor
open Go Go.RowKit
theorem rvalid_M {p : List UInt8} {K : Bool → Prop} (hp : p.length ≤ 1000000) (h : K (validB p)) : M_smithyref1_Valid p K := by
  refine rclean_M (by omega) (kr ?_)
  rw [valid_is]
  exact h
theorem fits_M {p : List UInt8} {K : Bool → Prop} (hp : p.length ≤ 1000000) (h : K (rootB p)) : M_smithyref17_fits p K := by
  refine ⟨fun b => b = rootB p, ⟨fun e => ?_, fun e => rvalid_M hp ?_⟩, fun q hq => by rw [hq]; exact h⟩
  · show true = _
    rw [rootB, e]; rfl
  · show _ = _
    rw [rootB, e]; rfl
theorem letB_colonS : letB 58 = false := by decide
theorem valid_colonS {p : List UInt8} (h : validB p = true) : (58 : UInt8) ∉ p := fun hm => by
  have h2 := (valid_parts h)
  rw [← glue_cuts p] at hm
  have : ∀ l : List (List UInt8), (58 : UInt8) ∈ glue l → ∃ x ∈ l, (58 : UInt8) ∈ x := by
    intro l
    induction l with
    | nil => intro h; simp [glue] at h
    | cons x l ih =>
      intro h
      cases l with
      | nil => simp only [glue] at h; exact ⟨x, by simp, by simpa using h⟩
      | cons y l =>
        simp only [glue, List.mem_append, List.mem_cons] at h
        rcases h with h | h | h
        · exact ⟨x, by simp, h⟩
        · cases h
        · obtain ⟨z, hz, hz2⟩ := ih h
          exact ⟨z, by simp at hz ⊢; exact .inr hz, hz2⟩
  obtain ⟨x, hx, hx2⟩ := this _ hm
  have hf := h2 x hx
  unfold fairB at hf
  rw [Bool.and_eq_true, List.all_eq_true] at hf
  have := hf.1 58 hx2
  rw [letB_colonS] at this
  cases this
theorem root_colonS {p : List UInt8} (h : rootB p = true) : (58 : UInt8) ∉ p := by
  unfold rootB at h
  rw [Bool.or_eq_true, decide_eq_true_eq] at h
  rcases h with rfl | h
  · simp
  · exact valid_colonS h
theorem index_noneS : ∀ (b : List UInt8), (58 : UInt8) ∉ b → Lib.index b [58] = -1
  | [], _ => by simp [Lib.index]
  | c :: b, h => by
    have hc : c ≠ 58 := fun e => h (by simp [e])
    have ih := index_noneS b (fun e => h (by simp [e]))
    have hp : ([58] : List UInt8).isPrefixOf (c :: b) = false := by simp [List.isPrefixOf, Ne.symm hc]
    rw [Lib.index, hp, ih]
    simp
theorem cut_form {s : List UInt8} (h : (Lib.cut s [58]).2.2 = true) : ∃ x y, s = x ++ 58 :: y ∧ (58 : UInt8) ∉ x ∧ Lib.cut s [58] = (x, y, true) := by
  by_cases hs : (58 : UInt8) ∈ s
  · obtain ⟨x, y, rfl, hx⟩ := List.eq_append_cons_of_mem hs
    exact ⟨x, y, rfl, hx, cut_colon x y hx⟩
  · exfalso
    unfold Lib.cut at h
    rw [index_noneS s hs] at h
    simp at h
theorem group_form {s : List UInt8} (h : groupB s = true) : ∃ b t, (t = wPkg ∨ t = wSub) ∧ (58 : UInt8) ∉ b ∧ rootB b = true ∧ s = [47, 47] ++ b ++ 58 :: t := by
  unfold groupB at h
  rw [Bool.and_eq_true, Bool.and_eq_true, Bool.and_eq_true, Bool.or_eq_true, decide_eq_true_eq, decide_eq_true_eq] at h
  obtain ⟨⟨⟨h1, h2⟩, h3⟩, h4⟩ := h
  obtain ⟨x, y, hxy, hx, hc⟩ := cut_form h2
  rw [hc] at h3 h4
  obtain ⟨r, hr⟩ := List.isPrefixOf_iff_prefix.1 h1
  have hrest : restB s = r := by
    unfold restB
    rw [if_pos h1, ← hr]
    rfl
  rw [hrest] at hxy
  exact ⟨x, y, h4, hx, h3, by rw [← hr, hxy]; simp⟩
/-- does a text end so, with a package ahead -/
def endsB (s e : List UInt8) : Bool := ((decide ((2 : Int) ≤ (s.length : Int) - (e.length : Int)) && decide (s.take 2 = ([47, 47] : List UInt8))) && decide (s.drop ((s.length : Int) - (e.length : Int)).toNat = e)) && rootB ((s.drop 2).take (((s.length : Int) - (e.length : Int)).toNat - 2))
theorem ends_form {s e : List UInt8} (h : endsB s e = true) : s = [47, 47] ++ (s.drop 2).take (((s.length : Int) - (e.length : Int)).toNat - 2) ++ e ∧ rootB ((s.drop 2).take (((s.length : Int) - (e.length : Int)).toNat - 2)) = true := by
  unfold endsB at h
  rw [Bool.and_eq_true, Bool.and_eq_true, Bool.and_eq_true, decide_eq_true_eq, decide_eq_true_eq, decide_eq_true_eq] at h
  obtain ⟨⟨⟨h1, h2⟩, h3⟩, h4⟩ := h
  refine ⟨?_, h4⟩
  generalize hn : ((s.length : Int) - (e.length : Int)).toNat = n at *
  have hn2 : 2 ≤ n := by omega
  have e1 : (s.drop 2).take (n - 2) ++ e = s.drop 2 := by
    have := List.take_append_drop (n - 2) (s.drop 2)
    rw [List.drop_drop, show 2 + (n - 2) = n by omega, h3] at this
    exact this
  have e2 := List.take_append_drop 2 s
  rw [List.append_assoc, e1, ← h2, e2]
theorem ends_of {b e : List UInt8} (h : rootB b = true) : endsB ([47, 47] ++ b ++ e) e = true ∧ (([47, 47] ++ b ++ e).drop 2).take (((([47, 47] ++ b ++ e).length : Int) - (e.length : Int)).toNat - 2) = b := by
  have hn : ((([47, 47] ++ b ++ e).length : Int) - (e.length : Int)).toNat = b.length + 2 := by simp only [List.length_append, List.length_cons, List.length_nil]; omega
  have e1 : (([47, 47] ++ b ++ e).drop 2).take (b.length + 2 - 2) = b := by simp
  refine ⟨?_, by rw [hn]; exact e1⟩
  unfold endsB
  rw [hn, e1, h]
  have e2 : ([47, 47] ++ b ++ e).drop (b.length + 2) = e := List.drop_left' (by simp)
  have a1 : (2 : Int) ≤ ((([47, 47] : List UInt8) ++ b ++ e).length : Int) - (e.length : Int) := by simp only [List.length_append, List.length_cons, List.length_nil]; omega
  have a2 : (([47, 47] : List UInt8) ++ b ++ e).take 2 = [47, 47] := by simp
  rw [e2, decide_eq_true a1, decide_eq_true a2]
  simp
/-- what a spec is -/
def specK (s : List UInt8) : List UInt8 × Int := if s = wPub then ([], 1) else if s = wPriv then ([], 2) else if groupB s = true then ((Lib.cut (restB s) [58]).1, if (Lib.cut (restB s) [58]).2.1 = wPkg then 3 else 4) else ([], 0)
theorem spec_M {s : List UInt8} {K : List UInt8 → Int → Prop} (hs : s.length ≤ 100000) (h : K (specK s).1 (specK s).2) : M_smithyref17_spec s K := by
  refine ⟨fun e => ?_, fun e1 => ⟨fun e => ?_, fun e2 => ?_⟩⟩
  · have : s = wPub := e
    unfold specK at h
    rw [if_pos this] at h
    exact h
  · have h1 : ¬ s = wPub := e1
    have h2 : s = wPriv := e
    unfold specK at h
    rw [if_neg h1, if_pos h2] at h
    exact h
  have n1 : ¬ s = wPub := e1
  have n2 : ¬ s = wPriv := e2
  unfold specK at h
  rw [if_neg n1, if_neg n2] at h
  have key : ∀ (e t : List UInt8) (k : Int), e = 58 :: t → (t = wPkg ∨ t = wSub) → (k = if t = wPkg then 3 else 4) → endsB s e = true → K ((s.drop 2).take (((s.length : Int) - (e.length : Int)).toNat - 2)) k := by
    intro e t k he ht hk hc
    obtain ⟨f1, f2⟩ := ends_form hc
    generalize (s.drop 2).take (((s.length : Int) - (e.length : Int)).toNat - 2) = b at *
    have hb : (58 : UInt8) ∉ b := fun hm => by
      have := group_colon b t hm
      have h1 := root_colonS f2
      exact h1 hm
    rw [he] at f1
    have hg := group_full b t ht hb
    rw [← f1] at hg
    rw [hg.1, f2, if_pos rfl, hg.2] at h
    rw [hk]
    exact h
  have hno : endsB s (58 :: wPkg) = false → endsB s (58 :: wSub) = false → K [] 0 := by
    intro c0 c1
    have : groupB s = false := by
      rw [← Bool.not_eq_true]
      intro hg
      obtain ⟨b, t, ht, hb, hr, rfl⟩ := group_form hg
      have := (ends_of (e := 58 :: t) hr).1
      rcases ht with rfl | rfl
      · rw [c0] at this; cases this
      · rw [c1] at this; cases this
    rw [this] at h
    exact h
  have hl0 : (([58, 95, 95, 112, 107, 103, 95, 95] : List UInt8)) = 58 :: wPkg := rfl
  have hl1 : (([58, 95, 95, 115, 117, 98, 112, 97, 99, 107, 97, 103, 101, 115, 95, 95] : List UInt8)) = 58 :: wSub := rfl
  rw [hl0, hl1]
  refine ⟨fun i => (i = 0 ∨ (i = 1 ∧ endsB s (58 :: wPkg) = false) ∨ (i = 2 ∧ endsB s (58 :: wPkg) = false ∧ endsB s (58 :: wSub) = false)), fun i => 2 - i.toNat, .inl rfl, fun i hi => ⟨fun hlt => ?_, fun hge => ?_⟩⟩
  · have main : ∀ (e t : List UInt8), e = 58 :: t → (t = wPkg ∨ t = wSub) → (i = 0 ∧ t = wPkg ∨ i = 1 ∧ t = wSub ∧ endsB s (58 :: wPkg) = false) →
        (In .i64 ((s.length : Int) - (e.length : Int))) ∧
        ((decide ((2 : Int) ≤ (s.length : Int) - (e.length : Int))) = true → (0 ≤ (2 : Int) ∧ (2 : Int) ≤ s.length)) ∧
        (((decide ((2 : Int) ≤ (s.length : Int) - (e.length : Int))) && (decide ((s.take 2) = ([47, 47] : List UInt8)))) = true → (0 ≤ (s.length : Int) - (e.length : Int) ∧ (s.length : Int) - (e.length : Int) ≤ s.length)) ∧
        (((decide ((2 : Int) ≤ (s.length : Int) - (e.length : Int))) && (decide ((s.take 2) = ([47, 47] : List UInt8)))) = true → (0 ≤ i ∧ i < (2 : Nat))) ∧
        ∃ J1 : Bool → Prop, ((((((decide ((2 : Int) ≤ (s.length : Int) - (e.length : Int))) && (decide ((s.take 2) = ([47, 47] : List UInt8)))) && (decide ((s.drop ((s.length : Int) - (e.length : Int)).toNat) = e))) = true → (0 ≤ (2 : Int) ∧ (2 : Int) ≤ (s.length : Int) - (e.length : Int) ∧ (s.length : Int) - (e.length : Int) ≤ s.length) ∧ M_smithyref17_fits ((s.drop 2).take (((s.length : Int) - (e.length : Int)).toNat - 2)) (fun (t45 : Bool) => J1 t45)) ∧
        ((((decide ((2 : Int) ≤ (s.length : Int) - (e.length : Int))) && (decide ((s.take 2) = ([47, 47] : List UInt8)))) && (decide ((s.drop ((s.length : Int) - (e.length : Int)).toNat) = e))) = false → J1 false))) ∧
        (∀ q3 : Bool, J1 q3 → ((q3 = true → (0 ≤ (2 : Int) ∧ (2 : Int) ≤ (s.length : Int) - (e.length : Int) ∧ (s.length : Int) - (e.length : Int) ≤ s.length) ∧ (In .i64 ((3 : Int) + i)) ∧ K ((s.drop 2).take (((s.length : Int) - (e.length : Int)).toNat - 2)) ((3 : Int) + i)) ∧
        (q3 = false → (In .i64 (i + (1 : Int))) ∧ ((i + 1 = 0 ∨ (i + 1 = 1 ∧ endsB s (58 :: wPkg) = false) ∨ (i + 1 = 2 ∧ endsB s (58 :: wPkg) = false ∧ endsB s (58 :: wSub) = false)) ∧ 2 - (i + 1).toNat < 2 - i.toNat)))) := by
      intro e t he ht hit
      have he16 : e.length ≤ 16 := by rw [he]; rcases ht with rfl | rfl <;> decide
      refine ⟨by simp only [In]; omega, fun h1 => by rw [decide_eq_true_eq] at h1; omega, fun h1 => ?_, fun h1 => by omega, fun q => q = endsB s e, ⟨fun h1 => ?_, fun h1 => ?_⟩, fun q hq => ⟨fun h1 => ?_, fun h1 => ?_⟩⟩
      · rw [Bool.and_eq_true, decide_eq_true_eq] at h1; omega
      · have h2 := h1
        rw [Bool.and_eq_true, Bool.and_eq_true, decide_eq_true_eq] at h2
        refine ⟨by omega, fits_M (by rw [List.length_take, List.length_drop]; omega) ?_⟩
        unfold endsB
        rw [h1, Bool.true_and]
      · show false = _
        unfold endsB
        rw [h1, Bool.false_and]
      · rw [hq] at h1
        have h2 := h1
        unfold endsB at h2
        rw [Bool.and_eq_true, Bool.and_eq_true, Bool.and_eq_true, decide_eq_true_eq] at h2
        refine ⟨by omega, by simp only [In]; omega, key e t _ he ht ?_ h1⟩
        rcases hit with ⟨rfl, rfl⟩ | ⟨rfl, rfl, _⟩
        · rfl
        · rfl
      · rw [hq] at h1
        subst he
        rcases hit with ⟨rfl, rfl⟩ | ⟨rfl, rfl, h3⟩
        · exact ⟨by simp only [In]; omega, .inr (.inl ⟨rfl, h1⟩), by decide⟩
        · exact ⟨by simp only [In]; omega, .inr (.inr ⟨rfl, h3, h1⟩), by decide⟩
    refine ⟨by omega, ?_⟩
    rcases hi with rfl | ⟨rfl, h0⟩ | ⟨rfl, _⟩
    · exact main (58 :: wPkg) wPkg rfl (.inl rfl) (.inl ⟨rfl, rfl⟩)
    · exact main (58 :: wSub) wSub rfl (.inr rfl) (.inr ⟨rfl, rfl, h0⟩)
    · omega
  · rcases hi with rfl | ⟨rfl, _⟩ | ⟨_, h0, h1⟩
    · omega
    · omega
    · exact hno h0 h1
theorem spec_zero (s : List UInt8) : ((specK s).2 = 0) ↔ fairS s = false := by
  unfold specK fairS
  by_cases h1 : s = wPub
  · rw [if_pos h1, decide_eq_true h1]; simp
  · rw [if_neg h1, decide_eq_false h1]
    by_cases h2 : s = wPriv
    · rw [if_pos h2, decide_eq_true h2]; simp
    · rw [if_neg h2, decide_eq_false h2]
      cases hg : groupB s with
      | true => simp only [if_true]; split <;> simp
      | false => simp
theorem spec_nonneg (s : List UInt8) : 0 ≤ (specK s).2 := by
  unfold specK
  split
  · decide
  · split
    · decide
    · split
      · dsimp only; split <;> decide
      · decide
/-- the first spec that is none -/
def FB (l : List (List UInt8)) (k : Int) : Prop := (k = -1 ∧ ∀ j, j < l.length → fairS (l.getD j []) = true) ∨ (∃ i : Nat, k = i ∧ i < l.length ∧ fairS (l.getD i []) = false ∧ ∀ j, j < i → fairS (l.getD j []) = true)
theorem FB.uniq {l : List (List UInt8)} {k m : Int} (h : FB l k) (g : FB l m) : k = m := by
  rcases h with ⟨rfl, h⟩ | ⟨i, rfl, h1, h2, h3⟩ <;> rcases g with ⟨rfl, g⟩ | ⟨j, rfl, g1, g2, g3⟩
  · rfl
  · rw [h j g1] at g2; cases g2
  · rw [g i h1] at h2; cases h2
  · rcases Nat.lt_trichotomy i j with e | e | e
    · rw [g3 i e] at h2; cases h2
    · rw [e]
    · rw [h3 j e] at g2; cases g2
theorem visible_M {l : List (List UInt8)} {K : Int → Prop} (hl : l.length ≤ 100000) (hx : ∀ s ∈ l, s.length ≤ 100000) (h : ∀ k, FB l k → K k) : M_smithyref17_Visible l K := by
  intro _
  refine ⟨fun i => 0 ≤ i ∧ i ≤ l.length ∧ ∀ j, j < i.toNat → fairS (l.getD j []) = true, fun i => l.length - i.toNat, ⟨by omega, by omega, by intro j hj; simp at hj⟩, fun i ⟨a0, a1, a2⟩ => ⟨fun hlt => ⟨by omega, spec_M (hx _ (getD_mem (by omega))) ⟨fun e => ?_, fun e => ⟨by simp only [In]; omega, ⟨by omega, by omega, fun j hj => ?_⟩, by dsimp only; omega⟩⟩⟩, fun hge => ?_⟩⟩
  · exact h i (.inr ⟨i.toNat, by omega, by omega, (spec_zero _).1 e, a2⟩)
  · by_cases e2 : j = i.toNat
    · rw [e2, ← Bool.not_eq_false]
      exact fun e3 => e ((spec_zero _).2 e3)
    · exact a2 j (by omega)
  · exact h (-1) (.inl ⟨rfl, fun j hj => a2 j (by omega)⟩)
theorem vvalid_M {l : List (List UInt8)} {K : Er → Prop} (hl : l.length ≤ 100000) (hx : ∀ s ∈ l, s.length ≤ 100000) (h : ∀ k, FB l k → K (if 0 ≤ k then .at_ k 5 else .ok)) : M_vis_Valid l K := by
  intro _ _
  have fin : ∀ k, FB l k → (((0 : Int) ≤ k → ∃ n : Nat, (Er.e 5) = Er.e n ∧ K (Er.at_ k n)) ∧ (¬ ((0 : Int) ≤ k) → K Er.ok)) := fun k hk => by
    have := h k hk
    exact ⟨fun e => by rw [if_pos e] at this; exact ⟨5, rfl, this⟩, fun e => by rw [if_neg e] at this; exact this⟩
  refine ⟨fun i => 0 ≤ i ∧ i ≤ l.length ∧ ∀ j, j < i.toNat → fairS (l.getD j []) = true, fun i => l.length - i.toNat, ⟨by omega, by omega, by intro j hj; simp at hj⟩, fun i ⟨a0, a1, a2⟩ => ⟨fun hlt => ⟨by omega, fairS_M (hx _ (getD_mem (by omega))) ⟨fun e => ?_, fun e => ⟨by simp only [In]; omega, ⟨by omega, by omega, fun j hj => ?_⟩, by dsimp only; omega⟩⟩⟩, fun hge => ?_⟩⟩
  · exact fin i (.inr ⟨i.toNat, by omega, by omega, by simpa using e, a2⟩)
  · by_cases e2 : j = i.toNat
    · rw [e2]; simpa using e
    · exact a2 j (by omega)
  · exact fin (-1) (.inl ⟨rfl, fun j hj => a2 j (by omega)⟩)
theorem lets_is (s b : List UInt8) : letsB s b = ((decide ((specK s).2 = 1) || (decide ((3 : Int) ≤ (specK s).2) && decide ((specK s).1 = b))) || (decide ((specK s).2 = 4) && underB b (specK s).1)) := by
  unfold letsB specK
  by_cases h1 : s = wPub
  · rw [if_pos h1, decide_eq_true h1]; simp
  · rw [if_neg h1, decide_eq_false h1]
    by_cases h2 : s = wPriv
    · have : groupB s = false := by rw [h2]; decide +kernel
      rw [if_pos h2, this]; simp
    · rw [if_neg h2]
      cases hg : groupB s with
      | false => simp
      | true =>
        obtain ⟨p, t, ht, hb, hr, rfl⟩ := group_form hg
        rw [(group_full p t ht hb).2]
        rcases ht with rfl | rfl
        · have : decide (wPkg = wSub) = false := by decide
          simp [this]
        · have : ¬ wSub = wPkg := by decide
          simp [this]
theorem rmay_M {l : List (List UInt8)} {a x b y : List UInt8} {K : Bool → Prop} (hl : l.length ≤ 100000) (hx : ∀ s ∈ l, s.length ≤ 100000) (hb : b.length ≤ 100000) (h : K (mayB l a b)) : M_smithyref17_May l a x b y K := by
  intro _
  unfold mayB at h
  refine ⟨fun e => by rw [decide_eq_true e, Bool.true_or] at h; exact h, fun e => ?_⟩
  rw [decide_eq_false e, Bool.false_or] at h
  refine ⟨fun i => 0 ≤ i ∧ i ≤ l.length ∧ ∀ j, j < i.toNat → letsB (l.getD j []) b = false, fun i => l.length - i.toNat, ⟨by omega, by omega, by intro j hj; simp at hj⟩, fun i ⟨a0, a1, a2⟩ => ⟨fun hlt => ⟨by omega, ?_⟩, fun hge => ?_⟩⟩
  · have hm : l.getD i.toNat [] ∈ l := getD_mem (by omega)
    refine spec_M (hx _ hm) ⟨fun q => q = letsB (l.getD i.toNat []) b, ⟨fun e1 => ?_, fun e1 => ⟨fun e2 => runder_M ?_, fun e2 => ?_⟩⟩, fun q hq => ⟨fun e1 => ?_, fun e1 => ⟨by simp only [In]; omega, ⟨by omega, by omega, fun j hj => ?_⟩, by dsimp only; omega⟩⟩⟩
    · show true = _
      rw [lets_is, e1]; rfl
    · show _ = _
      rw [lets_is, e1, e2]; rfl
    · show false = _
      rw [lets_is, e1, e2]; rfl
    · rw [hq] at e1
      rw [List.any_eq_true.2 ⟨_, hm, e1⟩] at h
      exact h
    · by_cases e2 : j = i.toNat
      · rw [e2, ← hq]; exact e1
      · exact a2 j (by omega)
  · have : (l.any fun s => letsB s b) = false := by
      rw [← Bool.not_eq_true, List.any_eq_true]
      rintro ⟨z, hz, he⟩
      obtain ⟨j, hj, rfl⟩ := List.getElem_of_mem hz
      have := a2 j (by omega)
      simp only [List.getD, List.getElem?_eq_getElem hj, Option.getD_some] at this
      rw [this] at he; cases he
    rw [this] at h
    exact h
theorem filter_take_succ (p : List UInt8 → Bool) (l : List (List UInt8)) (i : Nat) (h : i < l.length) : (l.take (i + 1)).filter p = (l.take i).filter p ++ (if p (l.getD i []) = true then [l.getD i []] else []) := by
  rw [List.take_succ_eq_append_getElem h, List.filter_append]
  have : l.getD i [] = l[i] := by simp [List.getD, h]
  rw [this]
  cases hp : p l[i] <;> simp [hp]
theorem groups_M {l : List (List UInt8)} {K : List (List UInt8) → Prop} (hl : l.length ≤ 100000) (hx : ∀ s ∈ l, s.length ≤ 100000) (h : K (sortU (l.filter fairS))) : M_vis_Groups l K := by
  intro _
  refine ⟨fun o i => 0 ≤ i ∧ i ≤ l.length ∧ o = (l.take i.toNat).filter fairS, fun _ i => l.length - i.toNat, ⟨by omega, by omega, rfl⟩, fun o i ⟨a0, a1, a2⟩ => ⟨fun hlt => ?_, fun hge => ?_⟩⟩
  · have hol : o.length ≤ l.length := by
      rw [a2]
      exact Nat.le_trans (List.length_filter_le _ _) (by rw [List.length_take]; omega)
    refine ⟨fun o' => o' = (l.take (i.toNat + 1)).filter fairS, ⟨by omega, fairS_M (hx _ (getD_mem (by omega))) ⟨fun e => ⟨by simp only [List.length_singleton]; omega, ?_⟩, fun e => ?_⟩⟩, ?_⟩
    · rw [filter_take_succ _ _ _ (by omega), if_pos e, ← a2]
    · rw [filter_take_succ _ _ _ (by omega), if_neg (by rw [e]; decide), ← a2, List.append_nil]
    · rintro _ rfl
      exact ⟨by simp only [In]; omega, ⟨by omega, by omega, by rw [show (i + 1).toNat = i.toNat + 1 by omega]⟩, by dsimp only; omega⟩
  · rw [a2, List.take_of_length_le (by omega)]
    refine ⟨?_, h⟩
    have := List.length_filter_le fairS l
    omega
theorem rgroups_M {l : List (List UInt8)} {K : List (List UInt8) → Prop} (hl : l.length ≤ 100000) (hx : ∀ s ∈ l, s.length ≤ 100000) (h : K (sortU (l.filter fairS))) : M_smithyref17_Groups l K := by
  intro _
  refine ⟨fun o i => 0 ≤ i ∧ i ≤ l.length ∧ o = (l.take i.toNat).filter fairS, fun _ i => l.length - i.toNat, ⟨by omega, by omega, rfl⟩, fun o i ⟨a0, a1, a2⟩ => ⟨fun hlt => ?_, fun hge => ?_⟩⟩
  · have hol : o.length ≤ l.length := by
      rw [a2]
      exact Nat.le_trans (List.length_filter_le _ _) (by rw [List.length_take]; omega)
    have hz := spec_zero (l.getD i.toNat [])
    have hn := spec_nonneg (l.getD i.toNat [])
    refine ⟨fun o' => o' = (l.take (i.toNat + 1)).filter fairS, ⟨by omega, spec_M (hx _ (getD_mem (by omega))) ⟨fun e => ⟨by omega, by simp only [List.length_singleton]; omega, ?_⟩, fun e => ?_⟩⟩, ?_⟩
    · have : fairS (l.getD i.toNat []) = true := by
        rw [← Bool.not_eq_false]
        exact fun e3 => by have := hz.2 e3; omega
      rw [filter_take_succ _ _ _ (by omega), if_pos this, ← a2]
    · have : fairS (l.getD i.toNat []) = false := hz.1 (by omega)
      rw [filter_take_succ _ _ _ (by omega), if_neg (by rw [this]; decide), ← a2, List.append_nil]
    · rintro _ rfl
      exact ⟨by simp only [In]; omega, ⟨by omega, by omega, by rw [show (i + 1).toNat = i.toNat + 1 by omega]⟩, by dsimp only; omega⟩
  · rw [a2, List.take_of_length_le (by omega)]
    refine sortedTexts_M ?_ h
    have := List.length_filter_le fairS l
    omega
theorem same_at {k : Int} {K : Bool → Prop} (h : K true) : M_smithysee_Same (.at_ k 5) 106 true k false [] K := by
  refine ⟨fun e => (by cases e), fun _ => ⟨fun p n e => ?_, fun e => absurd rfl (e k 5)⟩⟩
  cases e
  refine ⟨fun h2 => (by simp at h2), fun _ => ⟨fun h2 => (by simp [sentV] at h2), fun _ => ?_⟩⟩
  have : (((((decide (sentV (Er.e 5) = (106 : Int))) && (true == true)) && (decide (k = k))) && (false == false)) && (decide (([] : List UInt8) = []))) = true := by simp [sentV]
  show K _
  rw [this]
  exact h
theorem same_ok {K : Bool → Prop} (h : K true) : M_smithysee_Same .ok 0 false 0 false [] K :=
  ⟨fun _ => h, fun e => absurd rfl e⟩
theorem says_vis {specs : List (List UInt8)} {aP aN bP bN : List UInt8} {K : Bool → Prop} (_ : ∀ x ∈ specs, x.length ≤ maxLen) (_ : aP.length ≤ maxLen) (_ : aN.length ≤ maxLen) (_ : bP.length ≤ maxLen) (_ : bN.length ≤ maxLen) (H : K true) : M_smithylaw20_VisSays specs aP aN bP bN K := by
  intro _
  refine vfirst_M ⟨fun h => (by simp at h), fun _ => ?_⟩
  refine vtexts_M ⟨fun _ => H, fun h => (by simp at h)⟩ (fun h1 h1' h2 => ⟨fun _ => H, fun h3 => ?_⟩) (by decide)
  have h4 : aP.length ≤ 200 ∧ bP.length ≤ 200 := by simp at h3; omega
  obtain ⟨b1, b2⟩ := h4
  have hx : ∀ s ∈ specs, s.length ≤ 100000 := fun s hs => by have := h2 s hs; omega
  have hl : specs.length ≤ 100000 := by omega
  refine visible_M hl hx fun k hk => ?_
  refine ⟨fun w0 w1 w2 w3 w4 => (0 ≤ k ∧ w0 = 106 ∧ w1 = true ∧ w2 = k ∧ w3 = false ∧ w4 = []) ∨ (¬ 0 ≤ k ∧ w0 = 0 ∧ w1 = false ∧ w2 = 0 ∧ w3 = false ∧ w4 = []), ⟨fun e => ⟨fun e2 => (by cases e2), fun _ => .inl ⟨e, rfl, rfl, rfl, rfl, rfl⟩⟩, fun e => .inr ⟨e, rfl, rfl, rfl, rfl, rfl⟩⟩, fun w0 w1 w2 w3 w4 hw => ?_⟩
  refine vvalid_M hl hx fun m hm => ?_
  obtain rfl := hm.uniq hk
  have hsame : ∀ {K : Bool → Prop}, K true → M_smithysee_Same (if 0 ≤ m then .at_ m 5 else .ok) w0 w1 w2 w3 w4 K := fun hK => by
    rcases hw with ⟨e, rfl, rfl, rfl, rfl, rfl⟩ | ⟨e, rfl, rfl, rfl, rfl, rfl⟩
    · rw [if_pos e]; exact same_at hK
    · rw [if_neg e]; exact same_ok hK
  refine hsame ⟨fun q => q = true, ⟨fun _ => may_M hl hx (rmay_M hl hx (by omega) (by simp)), fun h => (by cases h)⟩, ?_⟩
  rintro _ rfl
  refine ⟨fun q => q = true, ⟨fun _ => groups_M hl hx (rgroups_M hl hx (sameTexts_M ?_ (by simp))), fun h => (by cases h)⟩, ?_⟩
  · have h5 := sortU_length (specs.filter fairS)
    have h6 := List.length_filter_le fairS specs
    omega
  rintro _ rfl
  exact H
end Go.Proofs.YtilphcippnfklaaDoor

 