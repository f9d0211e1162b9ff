/- Texts of this claim, joined by a program: GSl, See, StrP, StrQ, StrR, StrF, StrW. -/
import Derived.Test.YtjinkmipkfjblaaDoorJ3
import Derived.Lib.SplitLaws
import Derived.Lib.Strings
import Derived.Lib.FieldsLaws
import Derived.Lib.Repeat
import Derived.Lib.IndexAny
/- Printed by a program (wip/vg): what the functions mean, plainly, and their walks. -/
namespace Go.Proofs.YtjinkmipkfjblaaDoor
open Go Go.RowKit
attribute [local irreducible] WL WC WX WQ WK WJ Yld Eff Ef0 Fn
def M_smithyworld_Texts (l : List (List UInt8)) (most : Int) (long : Int) (K : Bool → Prop) : Prop :=
 (l.length ≤ maxLen →
 ((most < (l.length : Int) → K false) ∧
 (¬ (most < (l.length : Int)) → Lp1 (fun (i : Int) k_1 => ((i < (l.length : Int) → (0 ≤ i ∧ i < (l.length : Nat)) ∧
 ((long < ((l.getD i.toNat []).length : Int) → K false) ∧
 (¬ (long < ((l.getD i.toNat []).length : Int)) → (In .i64 (i + (1 : Int))) ∧
 k_1 (i + (1 : Int))))) ∧
 (¬ (i < (l.length : Int)) → K true))) (0 : Int))))

def M_smithylaw11_first (K : Bool → Prop) : Prop :=
 M_str_Split ([97, 44, 98, 44, 44, 99] : List UInt8) ([44] : List UInt8) (2 : Int) (fun (t80 : List (List UInt8)) (t81 : Er) =>
 M_str_Format ([123, 125, 45, 123, 120, 125] : List UInt8) ([([49] : List UInt8)] : List (List UInt8)) ([([120] : List UInt8)] : List (List UInt8)) ([([50] : List UInt8)] : List (List UInt8)) (fun (t150 : List UInt8) (t151 : Er) =>
 M_str_Cut (5 : Int) (-2 : Int) (9 : Int) true true (fun (t190 : Int) (t191 : Int) =>
 ∃ J1 : Bool → Prop, (((((decide (t81 = Er.ok)) && (decide (t151 = Er.ok))) = true → M_smithyref_SameTexts t80 ([([97] : List UInt8), ([98] : List UInt8), ([44, 99] : List UInt8)] : List (List UInt8)) (fun (t31 : Bool) =>
 J1 t31)) ∧
 (((decide (t81 = Er.ok)) && (decide (t151 = Er.ok))) = false → J1 false))) ∧
 (∀ q2 : Bool, J1 q2 → K (((q2 && (decide (t150 = ([49, 45, 50] : List UInt8)))) && (decide (t190 = (3 : Int)))) && (decide (t191 = (5 : Int))))))))

def M_smithylaw11_StrSays (s : List UInt8) (t : List UInt8) (u : List UInt8) (l : List (List UInt8)) (n : Int) (k : Int) (a : Bool) (b : Bool) (K : Bool → Prop) : Prop :=
 (l.length ≤ maxLen →
 M_smithylaw11_first (fun (ok : Bool) =>
 (((!ok) = true → K false) ∧
 ((!ok) = false → ∃ J1 : Bool → Prop, ((((((decide ((300 : Int) < (s.length : Int))) || (decide ((300 : Int) < (t.length : Int)))) || (decide ((300 : Int) < (u.length : Int)))) = true → J1 true) ∧
 ((((decide ((300 : Int) < (s.length : Int))) || (decide ((300 : Int) < (t.length : Int)))) || (decide ((300 : Int) < (u.length : Int)))) = false → M_smithyworld_Texts l (10 : Int) (100 : Int) (fun (t46 : Bool) =>
 J1 (!t46))))) ∧
 (∀ q3 : Bool, J1 q3 → (((q3 || (!ok)) = true → K ok) ∧
 ((q3 || (!ok)) = false → M_str_Split s t n (fun (t580 : List (List UInt8)) (t581 : Er) =>
 M_smithyref11_Split s t n (fun (t650 : List (List UInt8)) (t651 : Int) =>
 M_smithyref_SameTexts t580 t650 (fun (t70 : Bool) =>
 ∃ J2 : Bool → Prop, ((((!t70) = true → J2 true) ∧
 ((!t70) = false → M_smithysee_Is t581 t651 (fun (t75 : Bool) =>
 J2 (!t75))))) ∧
 (∀ q5 : Bool, J2 q5 → ((q5 = true → K false) ∧
 (q5 = false → M_str_Join t l (fun (t810 : List UInt8) (t811 : Er) =>
 M_smithyref11_Join t l (fun (t870 : List UInt8) (t871 : Int) =>
 ∃ J3 : Bool → Prop, ((((!decide (t810 = t870)) = true → J3 true) ∧
 ((!decide (t810 = t870)) = false → M_smithysee_Is t811 t871 (fun (t96 : Bool) =>
 J3 (!t96))))) ∧
 (∀ q6 : Bool, J3 q6 → ((q6 = true → K false) ∧
 (q6 = false → M_str_Replace s t u n (fun (t1040 : List UInt8) (t1041 : Er) =>
 M_smithyref11_Replace s t u n (fun (t1120 : List UInt8) (t1121 : Int) =>
 ∃ J4 : Bool → Prop, ((((!decide (t1040 = t1120)) = true → J4 true) ∧
 ((!decide (t1040 = t1120)) = false → M_smithysee_Is t1041 t1121 (fun (t121 : Bool) =>
 J4 (!t121))))) ∧
 (∀ q7 : Bool, J4 q7 → ((q7 = true → K false) ∧
 (q7 = false → M_str_Repeat s k (fun (t1270 : List UInt8) (t1271 : Er) =>
 M_smithyref11_Repeat s k (fun (t1330 : List UInt8) (t1331 : Int) =>
 ∃ J5 : Bool → Prop, ((((!decide (t1270 = t1330)) = true → J5 true) ∧
 ((!decide (t1270 = t1330)) = false → M_smithysee_Is t1271 t1331 (fun (t142 : Bool) =>
 J5 (!t142))))) ∧
 (∀ q8 : Bool, J5 q8 → ((q8 = true → K false) ∧
 (q8 = false → M_str_Cut (s.length : Int) n k a b (fun (t1520 : Int) (t1521 : Int) =>
 M_smithyref11_Cut (s.length : Int) n k a b (fun (t1620 : Int) (t1621 : Int) =>
 ∃ J6 : Bool → Prop, (((((decide (t1520 = t1620)) && (decide (t1521 = t1621))) = true → M_str_Words s (fun (t175 : List (List UInt8)) =>
 M_smithyref11_Words s (fun (t177 : List (List UInt8)) =>
 M_smithyref_SameTexts t175 t177 (fun (t178 : Bool) =>
 J6 t178)))) ∧
 (((decide (t1520 = t1620)) && (decide (t1521 = t1621))) = false → J6 false))) ∧
 (∀ q10 : Bool, J6 q10 → ∃ J7 : Bool → Prop, (((q10 = true → M_str_Find s t n k (fun (t185 : Int) =>
 M_smithyref11_Find s t n k (fun (t190 : Int) =>
 J7 (decide (t185 = t190))))) ∧
 (q10 = false → J7 false))) ∧
 (∀ q11 : Bool, J7 q11 → ∃ J8 : Bool → Prop, (((q11 = true → M_str_Count s t (fun (t196 : Int) =>
 M_smithyref11_Count s t (fun (t199 : Int) =>
 J8 (decide (t196 = t199))))) ∧
 (q11 = false → J8 false))) ∧
 (∀ q12 : Bool, J8 q12 → ∃ J9 : Bool → Prop, (((q12 = true → M_str_Strip s t a b (fun (t207 : List UInt8) =>
 M_smithyref11_Strip s t a b (fun (t212 : List UInt8) =>
 J9 (decide (t207 = t212))))) ∧
 (q12 = false → J9 false))) ∧
 (∀ q13 : Bool, J9 q13 → ∃ J10 : Bool → Prop, (((q13 = true → M_str_Upper s (fun (t217 : List UInt8) =>
 M_smithyref11_Turn s true (fun (t219 : List UInt8) =>
 J10 (decide (t217 = t219))))) ∧
 (q13 = false → J10 false))) ∧
 (∀ q14 : Bool, J10 q14 → ∃ J11 : Bool → Prop, (((q14 = true → M_str_Lower s (fun (t224 : List UInt8) =>
 M_smithyref11_Turn s false (fun (t226 : List UInt8) =>
 J11 (decide (t224 = t226))))) ∧
 (q14 = false → J11 false))) ∧
 (∀ q15 : Bool, J11 q15 → ∃ J12 : Bool → Prop, (((q15 = true → M_str_IsDigits s (fun (t231 : Bool) =>
 M_smithyref11_IsDigits s (fun (t233 : Bool) =>
 J12 (t231 == t233)))) ∧
 (q15 = false → J12 false))) ∧
 (∀ q16 : Bool, J12 q16 → K q16)))))))))))))))))))))))))))))))))))))

set_option maxHeartbeats 8000000 in
theorem W_smithyworld_Texts {w : World} {l : List (List UInt8)} {A_l : Option Addr} {c_l : Nat} {most : Int} {long : Int} {n_l : Nat} {K : Bool → Prop} (hl : Rd vs w A_l c_l l) (hn_l : n_l = l.length) (H : M_smithyworld_Texts l most long K) : Fn Tryd.prog 10 ⟨[.slice A_l n_l c_l, .int .i64 most, .int .i64 long]⟩ w (fun v w' => w = w' ∧ ∃ (r : Bool), v = .bool r ∧ K r) := by
  subst hn_l
  unfold M_smithyworld_Texts at H
  refine Fn.enter (by kernel_rfl) Tryd.func10 rfl Tryd.ntmps10 rfl ?_
  replace H := H (Nat.le_trans hl.cap hl.max)
  refine WC.seq ?_
  refine WC.region ?_
  refine WL.y rfl (Yld.pure tab_ok rfl) ?_
  refine WL.nil (WX.then_normal ?_)
  refine WC.seq ?_
  refine WC.seq ?_
  refine WC.region ?_
  refine WL.y rfl (Yld.pure tab_ok rfl) ?_
  refine WL.y rfl (Yld.pure tab_ok rfl) ?_
  refine WL.y rfl (Yld.pure tab_ok rfl) ?_
  refine WL.y rfl (Yld.pure tab_ok rfl) ?_
  refine WL.nil (WX.then_normal ?_)
  refine WC.cond rfl (fun b1 => ?_) (fun b1 => ?_)
  · replace H := H.1 (of_decide_eq_true b1)
    refine WC.seq ?_
    refine WC.region ?_
    refine WL.y rfl (Yld.pure tab_ok rfl) ?_
    refine WL.nil (WX.then_normal ?_)
    refine WC.ret (WX.then_ret ?_)
    exact WX.ret1 rfl rfl ⟨rfl, false, rfl, H⟩
  · replace H := H.2 (of_decide_eq_false b1)
    refine WC.skip (WX.then_normal ?_)
    refine WC.seq ?_
    refine WC.seq ?_
    refine WC.region ?_
    refine WL.y rfl (Yld.pure tab_ok rfl) ?_
    refine WL.nil (WX.then_normal ?_)
    refine WC.block ?_
    obtain ⟨I1, mu1, h0_1, HR1⟩ := H
    refine WC.loopF (fun n' L' w' => ∃ (i : Int), n' = mu1 i ∧ L' = [(0, .slice A_l l.length c_l), (2, .int .i64 long), (7, .int .i64 i)] ∧ I1 i ∧ w = w') _ _ ⟨(0 : Int), rfl, rfl, h0_1, rfl⟩ (by repeat (first | exact Sub.nil | refine Sub.cons rfl ?_)) ?_
    clear h0_1
    rintro _ _ _ ⟨i, rfl, rfl, hI1, rfl⟩
    have H := HR1 i hI1
    refine WC.seq ?_
    refine WC.seq ?_
    refine WC.region ?_
    refine WL.y rfl (Yld.pure tab_ok rfl) ?_
    refine WL.y rfl (Yld.pure tab_ok rfl) ?_
    refine WL.y rfl (Yld.pure tab_ok rfl) ?_
    refine WL.y rfl (Yld.pure tab_ok rfl) ?_
    refine WL.nil (WX.then_normal ?_)
    refine WC.cond rfl (fun b2 => ?_) (fun b2 => ?_)
    · replace H := H.1 (of_decide_eq_true b2)
      refine WC.skip (WX.then_normal ?_)
      refine WC.seq ?_
      refine WC.block ?_
      refine WC.seq ?_
      refine WC.region ?_
      refine WL.y rfl (Yld.pure tab_ok rfl) ?_
      refine WL.y rfl (Yld.pure tab_ok rfl) ?_
      obtain ⟨h1, H⟩ := H
      refine WL.y rfl (Yld.iaddrW tab_ok hl rfl rfl rfl rfl h1.1 h1.2) ?_
      refine WL.y rfl (Yld.iload [] tab_ok hl rfl rfl (iltN h1 rfl)) ?_
      refine WL.y rfl (Yld.pure tab_ok rfl) ?_
      refine WL.y rfl (Yld.pure tab_ok rfl) ?_
      refine WL.y rfl (Yld.pure tab_ok rfl) ?_
      refine WL.nil (WX.then_normal ?_)
      refine WC.cond rfl (fun b3 => ?_) (fun b3 => ?_)
      · replace H := H.1 (of_decide_eq_true b3)
        refine WC.seq ?_
        refine WC.region ?_
        refine WL.y rfl (Yld.pure tab_ok rfl) ?_
        refine WL.nil (WX.then_normal ?_)
        refine WC.ret (WX.block_ret (WX.then_ret (WX.then_ret (WX.block_ret (WX.then_ret ?_)))))
        exact WX.ret1 rfl rfl ⟨rfl, false, rfl, H⟩
      · replace H := H.2 (of_decide_eq_false b3)
        refine WC.skip (WX.block_normal (WX.then_normal ?_))
        refine WC.region ?_
        refine WL.y rfl (Yld.pure tab_ok rfl) ?_
        obtain ⟨h2, H⟩ := H
        refine WL.y rfl (Yld.add rfl rfl h2) ?_
        refine WL.y rfl (Yld.pure tab_ok rfl) ?_
        refine WL.nil ?_
        exact WX.roundF _ ⟨i + (1 : Int), rfl, rfl, H.1, rfl⟩ (by repeat (first | exact Sub.nil | refine Sub.cons rfl ?_)) H.2
    · replace H := H.2 (of_decide_eq_false b2)
      refine WC.exit (WX.then_exit (WX.then_exit (WX.block_same (WX.then_normal ?_))))
      refine WC.seq ?_
      refine WC.region ?_
      refine WL.y rfl (Yld.pure tab_ok rfl) ?_
      refine WL.nil (WX.then_normal ?_)
      refine WC.ret ?_
      exact WX.ret1 rfl rfl ⟨rfl, true, rfl, H⟩

set_option maxHeartbeats 8000000 in
theorem W_smithylaw11_first {S : List Nat} {w : World} {K : Bool → Prop} (hG : GOK S w) (hS3 : 3 ∈ S) (hS7 : 7 ∈ S) (hS100 : 100 ∈ S) (H : M_smithylaw11_first  K) : Fn Tryd.prog 17 ⟨[]⟩ w (fun v w' => w.grownBy w' none ∧ ∃ (r : Bool), v = .bool r ∧ K r) := by
  unfold M_smithylaw11_first at H
  refine Fn.enter (by kernel_rfl) Tryd.func17 rfl Tryd.ntmps17 rfl ?_
  refine WC.seq ?_
  refine WC.region ?_
  refine WL.y rfl (Yld.pure tab_ok rfl) ?_
  refine WL.nil (WX.then_normal ?_)
  refine WC.seq ?_
  refine WC.region ?_
  refine WL.call rfl rfl (W_str_Split hG hS3 hS7 hS100 H) ?_
  rintro _ w1 ⟨hg1, t80, A_t80, c_t80, v_t81, t81, rfl, ht80, ht81, H⟩
  have hb1 := ht80.ge'
  have k1 := ht80.base (fun g hg => Nat.le_trans (Nat.le_refl _) (hb1 g hg))
  have gr1 := hg1
  refine WL.y rfl (Yld.pure tab_ok rfl) ?_
  refine WL.y rfl (Yld.pure tab_ok rfl) ?_
  refine WL.y rfl (Yld.pure tab_ok rfl) ?_
  refine WL.y rfl (Yld.pure tab_ok rfl) ?_
  refine WL.y rfl (Yld.pure tab_ok rfl) ?_
  refine WL.nil (WX.then_normal ?_)
  refine WC.seq ?_
  refine WC.region ?_
  refine WL.lit tab_ok rfl rfl rfl (all1c rfl all1n) rfl (by omega) (fun g1 w2 hB1 hg2 hl1 => ?_)
  have hO1 : Own vs w2 w.heap.size 9 (some ⟨g1, 0, none⟩) 1 ([([49] : List UInt8)] : List (List UInt8)) := Own.ofBl hB1 (Nat.le_trans (size_le gr1) hl1) (by simp [maxLen]) rfl
  have gr2 := gr_trans gr1 hg2
  have k2 := k1.grown hg2
  have k3 := ht81.grown hg2
  refine WL.lit tab_ok rfl rfl rfl (all1c rfl all1n) rfl (by omega) (fun g2 w3 hB2 hg3 hl2 => ?_)
  have hO2 : Own vs w3 w.heap.size 9 (some ⟨g2, 0, none⟩) 1 ([([120] : List UInt8)] : List (List UInt8)) := Own.ofBl hB2 (Nat.le_trans (size_le gr2) hl2) (by simp [maxLen]) rfl
  have gr3 := gr_trans gr2 hg3
  have k4 := k2.grown hg3
  have k5 := k3.grown hg3
  have k6 := hO1.grown hg3
  refine WL.lit tab_ok rfl rfl rfl (all1c rfl all1n) rfl (by omega) (fun g3 w4 hB3 hg4 hl3 => ?_)
  have hO3 : Own vs w4 w.heap.size 9 (some ⟨g3, 0, none⟩) 1 ([([50] : List UInt8)] : List (List UInt8)) := Own.ofBl hB3 (Nat.le_trans (size_le gr3) hl3) (by simp [maxLen]) rfl
  have gr4 := gr_trans gr3 hg4
  have k7 := k4.grown hg4
  have k8 := k5.grown hg4
  have k9 := k6.grown hg4
  have k10 := hO2.grown hg4
  refine WL.call rfl rfl (W_str_Format (hG.grown gr4) hS3 hS7 k9.rd rfl k10.rd rfl hO3.rd rfl H) ?_
  rintro _ w5 ⟨hg5, t150, v_t151, t151, rfl, ht151, H⟩
  have gr5 := gr_trans gr4 hg5
  have k11 := k7.grown hg5
  have k12 := k8.grown hg5
  refine WL.y rfl (Yld.pure tab_ok rfl) ?_
  refine WL.y rfl (Yld.pure tab_ok rfl) ?_
  refine WL.y rfl (Yld.pure tab_ok rfl) ?_
  refine WL.y rfl (Yld.pure tab_ok rfl) ?_
  refine WL.y rfl (Yld.pure tab_ok rfl) ?_
  refine WL.nil (WX.then_normal ?_)
  refine WC.seq ?_
  refine WC.region ?_
  refine WL.call rfl rfl (W_str_Cut H) ?_
  rintro _ _ ⟨rfl, t190, t191, rfl, H⟩
  refine WL.y rfl (Yld.pure tab_ok rfl) ?_
  refine WL.y rfl (Yld.pure tab_ok rfl) ?_
  refine WL.y rfl (Yld.pure tab_ok rfl) ?_
  refine WL.y rfl (Yld.pure tab_ok rfl) ?_
  refine WL.y rfl (Yld.pure tab_ok rfl) ?_
  refine WL.nil (WX.then_normal ?_)
  refine WC.seq ?_
  refine WC.region ?_
  refine WL.y rfl (Yld.pure tab_ok rfl) ?_
  refine WL.y rfl (Yld.erreql Tryd.underlying29 k12 rfl) ?_
  refine WL.y rfl (Yld.pure tab_ok rfl) ?_
  refine WL.midF 3 (fun L' w' => ∃ q1 : Bool, L' = [(27, .bool q1), (1, .slice A_t80 t80.length c_t80), (3, vs t150), (5, .int .i64 t190), (6, .int .i64 t191)] ∧ q1 = ((decide (t81 = Er.ok)) && (decide (t151 = Er.ok))) ∧ w5 = w') ?_ (fun hQ => ?_)
  · rintro _ _ ⟨q1, rfl, rfl, rfl⟩
    refine WL.y rfl (Yld.pure tab_ok rfl) ?_
    obtain ⟨J1, H, hJ1⟩ := H
    refine WL.midF 4 (fun L' w' => ∃ q2 : Bool, L' = [(32, .bool q2), (3, vs t150), (5, .int .i64 t190), (6, .int .i64 t191)] ∧ J1 q2 ∧ w.grownBy w' none) ?_ (fun hQ => ?_)
    · clear H
      rintro _ w6 ⟨q2, rfl, H, gr6⟩
      replace H := hJ1 q2 H
      refine WL.y rfl (Yld.pure tab_ok rfl) ?_
      refine WL.midF 3 (fun L' w' => ∃ q3 : Bool, L' = [(36, .bool q3), (5, .int .i64 t190), (6, .int .i64 t191)] ∧ q3 = (q2 && (decide (t150 = ([49, 45, 50] : List UInt8)))) ∧ w6 = w') ?_ (fun hQ => ?_)
      · rintro _ _ ⟨q3, rfl, rfl, rfl⟩
        refine WL.y rfl (Yld.pure tab_ok rfl) ?_
        refine WL.midF 3 (fun L' w' => ∃ q4 : Bool, L' = [(40, .bool q4), (6, .int .i64 t191)] ∧ q4 = ((q2 && (decide (t150 = ([49, 45, 50] : List UInt8)))) && (decide (t190 = (3 : Int)))) ∧ w6 = w') ?_ (fun hQ => ?_)
        · rintro _ _ ⟨q4, rfl, rfl, rfl⟩
          refine WL.y rfl (Yld.pure tab_ok rfl) ?_
          refine WL.midF 3 (fun L' w' => ∃ q5 : Bool, L' = [(44, .bool q5)] ∧ q5 = (((q2 && (decide (t150 = ([49, 45, 50] : List UInt8)))) && (decide (t190 = (3 : Int)))) && (decide (t191 = (5 : Int)))) ∧ w6 = w') ?_ (fun hQ => ?_)
          · rintro _ _ ⟨q5, rfl, rfl, rfl⟩
            refine WL.y rfl (Yld.pure tab_ok rfl) ?_
            refine WL.nil (WX.then_normal ?_)
            refine WC.ret ?_
            exact WX.ret1 rfl rfl ⟨gr6, ((q2 && (decide (t150 = ([49, 45, 50] : List UInt8)))) && (decide (t190 = (3 : Int)))) && (decide (t191 = (5 : Int))), rfl, H⟩
          · clear H
            rcases Bool.eq_false_or_eq_true ((q2 && (decide (t150 = ([49, 45, 50] : List UInt8)))) && (decide (t190 = (3 : Int)))) with b1 | b1
            · refine WL.gyes rfl rfl (okb b1) rfl (Yld.pure tab_ok rfl) ?_
              refine WL.gyes rfl rfl (okb b1) rfl (Yld.pure tab_ok rfl) ?_
              refine WL.y rfl (Yld.pickT (okb b1) rfl) ?_
              exact WL.weaken (by repeat (first | exact Sub.nil | refine Sub.cons rfl ?_)) (hQ _ _ ⟨decide (t191 = (5 : Int)), rfl, by rw [b1] <;> rfl, rfl⟩)
            · refine WL.gno rfl rfl (okb b1) rfl ?_
              refine WL.gno rfl rfl (okb b1) rfl ?_
              refine WL.y rfl (Yld.pickF (okb b1) rfl) ?_
              exact WL.weaken (by repeat (first | exact Sub.nil | refine Sub.cons rfl ?_)) (hQ _ _ ⟨false, rfl, by rw [b1] <;> rfl, rfl⟩)
        · clear H
          rcases Bool.eq_false_or_eq_true (q2 && (decide (t150 = ([49, 45, 50] : List UInt8)))) with b2 | b2
          · refine WL.gyes rfl rfl (okb b2) rfl (Yld.pure tab_ok rfl) ?_
            refine WL.gyes rfl rfl (okb b2) rfl (Yld.pure tab_ok rfl) ?_
            refine WL.y rfl (Yld.pickT (okb b2) rfl) ?_
            exact WL.weaken (by repeat (first | exact Sub.nil | refine Sub.cons rfl ?_)) (hQ _ _ ⟨decide (t190 = (3 : Int)), rfl, by rw [b2] <;> rfl, rfl⟩)
          · refine WL.gno rfl rfl (okb b2) rfl ?_
            refine WL.gno rfl rfl (okb b2) rfl ?_
            refine WL.y rfl (Yld.pickF (okb b2) rfl) ?_
            exact WL.weaken (by repeat (first | exact Sub.nil | refine Sub.cons rfl ?_)) (hQ _ _ ⟨false, rfl, by rw [b2] <;> rfl, rfl⟩)
      · clear H
        rcases Bool.eq_false_or_eq_true (q2) with b3 | b3
        · refine WL.gyes rfl rfl (okb b3) rfl (Yld.pure tab_ok rfl) ?_
          refine WL.gyes rfl rfl (okb b3) rfl (Yld.pure tab_ok rfl) ?_
          refine WL.y rfl (Yld.pickT (okb b3) rfl) ?_
          exact WL.weaken (by repeat (first | exact Sub.nil | refine Sub.cons rfl ?_)) (hQ _ _ ⟨decide (t150 = ([49, 45, 50] : List UInt8)), rfl, by rw [b3] <;> rfl, rfl⟩)
        · refine WL.gno rfl rfl (okb b3) rfl ?_
          refine WL.gno rfl rfl (okb b3) rfl ?_
          refine WL.y rfl (Yld.pickF (okb b3) rfl) ?_
          exact WL.weaken (by repeat (first | exact Sub.nil | refine Sub.cons rfl ?_)) (hQ _ _ ⟨false, rfl, by rw [b3] <;> rfl, rfl⟩)
    · clear hJ1
      rcases Bool.eq_false_or_eq_true ((decide (t81 = Er.ok)) && (decide (t151 = Er.ok))) with b4 | b4
      · replace H := H.1 b4
        refine WL.gyes rfl rfl (okb b4) rfl (Yld.pure tab_ok rfl) ?_
        refine WL.putw (wants_some rfl rfl (okb b4)) rfl (Eff.lit tab_ok rfl rfl (all1c rfl (all1c rfl (all1c rfl all1n))) rfl (by omega)) ?_
        rintro _ w7 ⟨rfl, hB4, hg6⟩
        obtain ⟨g_t30, hl4⟩ : ∃ g, g = w5.heap.size := ⟨_, rfl⟩
        rw [← hl4] at hB4
        rw [← hl4]
        have hO4 : Own vs w7 w.heap.size 9 (some ⟨g_t30, 0, none⟩) 3 ([([97] : List UInt8), ([98] : List UInt8), ([44, 99] : List UInt8)] : List (List UInt8)) := Own.ofBl hB4 (Nat.le_trans (size_le gr5) (Nat.le_of_eq hl4.symm)) (by simp [maxLen]) rfl
        have gr7 := gr_trans gr5 hg6
        have k13 := k11.grown hg6
        refine WL.callw (wants_some rfl rfl (okb b4)) rfl rfl (W_smithyref_SameTexts k13.rd rfl hO4.rd rfl H) ?_
        rintro _ _ ⟨rfl, t31, rfl, H⟩
        refine WL.y rfl (Yld.pickT (okb b4) rfl) ?_
        exact WL.weaken (by repeat (first | exact Sub.nil | refine Sub.cons rfl ?_)) (hQ _ _ ⟨t31, rfl, H, gr7⟩)
      · replace H := H.2 b4
        refine WL.gno rfl rfl (okb b4) rfl ?_
        refine WL.gno rfl rfl (okb b4) rfl ?_
        refine WL.gno rfl rfl (okb b4) rfl ?_
        refine WL.y rfl (Yld.pickF (okb b4) rfl) ?_
        exact WL.weaken (by repeat (first | exact Sub.nil | refine Sub.cons rfl ?_)) (hQ _ _ ⟨false, rfl, H, gr5⟩)
  · clear H
    rcases Bool.eq_false_or_eq_true (decide (t81 = Er.ok)) with b5 | b5
    · refine WL.gyes rfl rfl (okb b5) rfl (Yld.pure tab_ok rfl) ?_
      refine WL.gyes rfl rfl (okb b5) rfl (Yld.erreql Tryd.underlying29 ht151 rfl) ?_
      refine WL.y rfl (Yld.pickT (okb b5) rfl) ?_
      exact WL.weaken (by repeat (first | exact Sub.nil | refine Sub.cons rfl ?_)) (hQ _ _ ⟨decide (t151 = Er.ok), rfl, by rw [b5] <;> rfl, rfl⟩)
    · refine WL.gno rfl rfl (okb b5) rfl ?_
      refine WL.gno rfl rfl (okb b5) rfl ?_
      refine WL.y rfl (Yld.pickF (okb b5) rfl) ?_
      exact WL.weaken (by repeat (first | exact Sub.nil | refine Sub.cons rfl ?_)) (hQ _ _ ⟨false, rfl, by rw [b5] <;> rfl, rfl⟩)

set_option maxHeartbeats 8000000 in
theorem W_smithylaw11_StrSays {S : List Nat} {w : World} {s : List UInt8} {t : List UInt8} {u : List UInt8} {l : List (List UInt8)} {A_l : Option Addr} {c_l : Nat} {n : Int} {k : Int} {a : Bool} {b : Bool} {n_l : Nat} {K : Bool → Prop} (hG : GOK S w) (hS0 : 0 ∈ S) (hS1 : 1 ∈ S) (hS2 : 2 ∈ S) (hS3 : 3 ∈ S) (hS4 : 4 ∈ S) (hS5 : 5 ∈ S) (hS6 : 6 ∈ S) (hS7 : 7 ∈ S) (hS8 : 8 ∈ S) (hS9 : 9 ∈ S) (hS10 : 10 ∈ S) (hS11 : 11 ∈ S) (hS12 : 12 ∈ S) (hS13 : 13 ∈ S) (hS14 : 14 ∈ S) (hS15 : 15 ∈ S) (hS16 : 16 ∈ S) (hS100 : 100 ∈ S) (hl : Rd vs w A_l c_l l) (hn_l : n_l = l.length) (H : M_smithylaw11_StrSays s t u l n k a b K) : Fn Tryd.prog 8 ⟨[vs s, vs t, vs u, .slice A_l n_l c_l, .int .i64 n, .int .i64 k, .bool a, .bool b]⟩ w (fun v w' => w.grownBy w' none ∧ ∃ (r : Bool), v = .bool r ∧ K r) := by
  subst hn_l
  unfold M_smithylaw11_StrSays at H
  refine Fn.enter (by kernel_rfl) Tryd.func8 rfl Tryd.ntmps8 rfl ?_
  replace H := H (Nat.le_trans hl.cap hl.max)
  refine WC.seq ?_
  refine WC.region ?_
  refine WL.y rfl (Yld.pure tab_ok rfl) ?_
  refine WL.nil (WX.then_normal ?_)
  refine WC.seq ?_
  refine WC.region ?_
  refine WL.call rfl rfl (W_smithylaw11_first hG hS3 hS7 hS100 H) ?_
  rintro _ w1 ⟨hg1, ok, rfl, H⟩
  have gr1 := hg1
  refine WL.y rfl (Yld.pure tab_ok rfl) ?_
  refine WL.nil (WX.then_normal ?_)
  refine WC.seq ?_
  refine WC.seq ?_
  refine WC.region ?_
  refine WL.y rfl (Yld.pure tab_ok rfl) ?_
  refine WL.y rfl (Yld.pure tab_ok rfl) ?_
  refine WL.nil (WX.then_normal ?_)
  refine WC.cond rfl (fun b1 => ?_) (fun b1 => ?_)
  · replace H := H.1 (b1)
    refine WC.seq ?_
    refine WC.region ?_
    refine WL.y rfl (Yld.pure tab_ok rfl) ?_
    refine WL.nil (WX.then_normal ?_)
    refine WC.ret (WX.then_ret ?_)
    exact WX.ret1 rfl rfl ⟨gr1, false, rfl, H⟩
  · replace H := H.2 (b1)
    refine WC.skip (WX.then_normal ?_)
    refine WC.seq ?_
    refine WC.seq ?_
    refine WC.region ?_
    refine WL.y rfl (Yld.pure tab_ok rfl) ?_
    refine WL.y rfl (Yld.pure tab_ok rfl) ?_
    refine WL.y rfl (Yld.pure tab_ok rfl) ?_
    refine WL.y rfl (Yld.pure tab_ok rfl) ?_
    refine WL.midF 4 (fun L' w' => ∃ q1 : Bool, L' = [(38, .bool q1), (0, vs s), (1, vs t), (2, vs u), (3, .slice A_l l.length c_l), (4, .int .i64 n), (5, .int .i64 k), (6, .bool a), (7, .bool b), (17, .bool ok)] ∧ q1 = ((decide ((300 : Int) < (s.length : Int))) || (decide ((300 : Int) < (t.length : Int)))) ∧ w1 = w') ?_ (fun hQ => ?_)
    · rintro _ _ ⟨q1, rfl, rfl, rfl⟩
      refine WL.y rfl (Yld.pure tab_ok rfl) ?_
      refine WL.midF 4 (fun L' w' => ∃ q2 : Bool, L' = [(43, .bool q2), (0, vs s), (1, vs t), (2, vs u), (3, .slice A_l l.length c_l), (4, .int .i64 n), (5, .int .i64 k), (6, .bool a), (7, .bool b), (17, .bool ok)] ∧ q2 = (((decide ((300 : Int) < (s.length : Int))) || (decide ((300 : Int) < (t.length : Int)))) || (decide ((300 : Int) < (u.length : Int)))) ∧ w1 = w') ?_ (fun hQ => ?_)
      · rintro _ _ ⟨q2, rfl, rfl, rfl⟩
        refine WL.y rfl (Yld.pure tab_ok rfl) ?_
        obtain ⟨J1, H, hJ1⟩ := H
        refine WL.midF 4 (fun L' w' => ∃ q3 : Bool, L' = [(48, .bool q3), (0, vs s), (1, vs t), (2, vs u), (3, .slice A_l l.length c_l), (4, .int .i64 n), (5, .int .i64 k), (6, .bool a), (7, .bool b), (17, .bool ok)] ∧ J1 q3 ∧ w1 = w') ?_ (fun hQ => ?_)
        · clear H
          rintro _ _ ⟨q3, rfl, H, rfl⟩
          replace H := hJ1 q3 H
          refine WL.y rfl (Yld.pure tab_ok rfl) ?_
          refine WL.midF 3 (fun L' w' => ∃ q4 : Bool, L' = [(52, .bool q4), (0, vs s), (1, vs t), (2, vs u), (3, .slice A_l l.length c_l), (4, .int .i64 n), (5, .int .i64 k), (6, .bool a), (7, .bool b), (17, .bool ok)] ∧ q4 = (q3 || (!ok)) ∧ w1 = w') ?_ (fun hQ => ?_)
          · rintro _ _ ⟨q4, rfl, rfl, rfl⟩
            refine WL.nil (WX.then_normal ?_)
            refine WC.cond rfl (fun b2 => ?_) (fun b2 => ?_)
            · replace H := H.1 (b2)
              refine WC.seq ?_
              refine WC.region ?_
              refine WL.y rfl (Yld.pure tab_ok rfl) ?_
              refine WL.y rfl (Yld.pure tab_ok rfl) ?_
              refine WL.nil (WX.then_normal ?_)
              refine WC.ret (WX.then_ret ?_)
              exact WX.ret1 rfl rfl ⟨gr1, ok, rfl, H⟩
            · replace H := H.2 (b2)
              refine WC.skip (WX.then_normal ?_)
              refine WC.seq ?_
              refine WC.region ?_
              refine WL.y rfl (Yld.pure tab_ok rfl) ?_
              refine WL.y rfl (Yld.pure tab_ok rfl) ?_
              refine WL.y rfl (Yld.pure tab_ok rfl) ?_
              refine WL.call rfl rfl (W_str_Split (hG.grown gr1) hS3 hS7 hS100 H) ?_
              rintro _ w2 ⟨hg2, t580, A_t580, c_t580, v_t581, t581, rfl, ht580, ht581, H⟩
              have hb1 := ht580.ge'
              have k1 := ht580.base (fun g hg => Nat.le_trans (size_le gr1) (hb1 g hg))
              have gr2 := gr_trans gr1 hg2
              refine WL.y rfl (Yld.pure tab_ok rfl) ?_
              refine WL.y rfl (Yld.pure tab_ok rfl) ?_
              refine WL.y rfl (Yld.pure tab_ok rfl) ?_
              refine WL.y rfl (Yld.pure tab_ok rfl) ?_
              refine WL.y rfl (Yld.pure tab_ok rfl) ?_
              refine WL.nil (WX.then_normal ?_)
              refine WC.seq ?_
              refine WC.region ?_
              refine WL.y rfl (Yld.pure tab_ok rfl) ?_
              refine WL.y rfl (Yld.pure tab_ok rfl) ?_
              refine WL.y rfl (Yld.pure tab_ok rfl) ?_
              refine WL.call rfl rfl (W_smithyref11_Split H) ?_
              rintro _ w3 ⟨hg3, t650, A_t650, c_t650, t651, rfl, ht650, ho1, H⟩
              have gr3 := gr_trans gr2 hg3
              have k2 := k1.grown hg3
              have k3 := ht581.grown hg3
              refine WL.y rfl (Yld.pure tab_ok rfl) ?_
              refine WL.y rfl (Yld.pure tab_ok rfl) ?_
              refine WL.y rfl (Yld.pure tab_ok rfl) ?_
              refine WL.y rfl (Yld.pure tab_ok rfl) ?_
              refine WL.y rfl (Yld.pure tab_ok rfl) ?_
              refine WL.nil (WX.then_normal ?_)
              refine WC.seq ?_
              refine WC.seq ?_
              refine WC.region ?_
              refine WL.y rfl (Yld.pure tab_ok rfl) ?_
              refine WL.y rfl (Yld.pure tab_ok rfl) ?_
              refine WL.call rfl rfl (W_smithyref_SameTexts k2.rd rfl ht650 rfl H) ?_
              rintro _ _ ⟨rfl, t70, rfl, H⟩
              refine WL.y rfl (Yld.pure tab_ok rfl) ?_
              refine WL.y rfl (Yld.pure tab_ok rfl) ?_
              obtain ⟨J2, H, hJ2⟩ := H
              refine WL.midF 5 (fun L' w' => ∃ q5 : Bool, L' = [(77, .bool q5), (0, vs s), (1, vs t), (2, vs u), (3, .slice A_l l.length c_l), (4, .int .i64 n), (5, .int .i64 k), (6, .bool a), (7, .bool b)] ∧ J2 q5 ∧ w.grownBy w' none) ?_ (fun hQ => ?_)
              · clear H
                rintro _ w4 ⟨q5, rfl, H, gr4⟩
                replace H := hJ2 q5 H
                refine WL.nil (WX.then_normal ?_)
                refine WC.cond rfl (fun b3 => ?_) (fun b3 => ?_)
                · replace H := H.1 (b3)
                  refine WC.seq ?_
                  refine WC.region ?_
                  refine WL.y rfl (Yld.pure tab_ok rfl) ?_
                  refine WL.nil (WX.then_normal ?_)
                  refine WC.ret (WX.then_ret ?_)
                  exact WX.ret1 rfl rfl ⟨gr4, false, rfl, H⟩
                · replace H := H.2 (b3)
                  refine WC.skip (WX.then_normal ?_)
                  refine WC.seq ?_
                  refine WC.region ?_
                  refine WL.y rfl (Yld.pure tab_ok rfl) ?_
                  refine WL.y rfl (Yld.pure tab_ok rfl) ?_
                  refine WL.call rfl rfl (W_str_Join (hG.grown gr4) hS7 (hl.grown gr4) rfl H) ?_
                  rintro _ w5 ⟨hg4, t810, v_t811, t811, rfl, ht811, H⟩
                  have gr5 := gr_trans gr4 hg4
                  refine WL.y rfl (Yld.pure tab_ok rfl) ?_
                  refine WL.y rfl (Yld.pure tab_ok rfl) ?_
                  refine WL.y rfl (Yld.pure tab_ok rfl) ?_
                  refine WL.y rfl (Yld.pure tab_ok rfl) ?_
                  refine WL.y rfl (Yld.pure tab_ok rfl) ?_
                  refine WL.nil (WX.then_normal ?_)
                  refine WC.seq ?_
                  refine WC.region ?_
                  refine WL.y rfl (Yld.pure tab_ok rfl) ?_
                  refine WL.y rfl (Yld.pure tab_ok rfl) ?_
                  refine WL.call rfl rfl (W_smithyref11_Join (hl.grown gr5) rfl H) ?_
                  rintro _ w6 ⟨hg5, t870, t871, rfl, H⟩
                  have gr6 := gr_trans gr5 hg5
                  have k4 := ht811.grown hg5
                  refine WL.y rfl (Yld.pure tab_ok rfl) ?_
                  refine WL.y rfl (Yld.pure tab_ok rfl) ?_
                  refine WL.y rfl (Yld.pure tab_ok rfl) ?_
                  refine WL.y rfl (Yld.pure tab_ok rfl) ?_
                  refine WL.y rfl (Yld.pure tab_ok rfl) ?_
                  refine WL.nil (WX.then_normal ?_)
                  refine WC.seq ?_
                  refine WC.seq ?_
                  refine WC.region ?_
                  refine WL.y rfl (Yld.pure tab_ok rfl) ?_
                  refine WL.y rfl (Yld.pure tab_ok rfl) ?_
                  refine WL.y rfl (Yld.pure tab_ok rfl) ?_
                  refine WL.y rfl (Yld.pure tab_ok rfl) ?_
                  obtain ⟨J3, H, hJ3⟩ := H
                  refine WL.midF 5 (fun L' w' => ∃ q6 : Bool, L' = [(98, .bool q6), (0, vs s), (1, vs t), (2, vs u), (4, .int .i64 n), (5, .int .i64 k), (6, .bool a), (7, .bool b)] ∧ J3 q6 ∧ w.grownBy w' none) ?_ (fun hQ => ?_)
                  · clear H
                    rintro _ w7 ⟨q6, rfl, H, gr7⟩
                    replace H := hJ3 q6 H
                    refine WL.nil (WX.then_normal ?_)
                    refine WC.cond rfl (fun b4 => ?_) (fun b4 => ?_)
                    · replace H := H.1 (b4)
                      refine WC.seq ?_
                      refine WC.region ?_
                      refine WL.y rfl (Yld.pure tab_ok rfl) ?_
                      refine WL.nil (WX.then_normal ?_)
                      refine WC.ret (WX.then_ret ?_)
                      exact WX.ret1 rfl rfl ⟨gr7, false, rfl, H⟩
                    · replace H := H.2 (b4)
                      refine WC.skip (WX.then_normal ?_)
                      refine WC.seq ?_
                      refine WC.region ?_
                      refine WL.y rfl (Yld.pure tab_ok rfl) ?_
                      refine WL.y rfl (Yld.pure tab_ok rfl) ?_
                      refine WL.y rfl (Yld.pure tab_ok rfl) ?_
                      refine WL.y rfl (Yld.pure tab_ok rfl) ?_
                      refine WL.call rfl rfl (W_str_Replace (hG.grown gr7) hS7 hS100 H) ?_
                      rintro _ w8 ⟨hg6, t1040, v_t1041, t1041, rfl, ht1041, H⟩
                      have gr8 := gr_trans gr7 hg6
                      refine WL.y rfl (Yld.pure tab_ok rfl) ?_
                      refine WL.y rfl (Yld.pure tab_ok rfl) ?_
                      refine WL.y rfl (Yld.pure tab_ok rfl) ?_
                      refine WL.y rfl (Yld.pure tab_ok rfl) ?_
                      refine WL.y rfl (Yld.pure tab_ok rfl) ?_
                      refine WL.nil (WX.then_normal ?_)
                      refine WC.seq ?_
                      refine WC.region ?_
                      refine WL.y rfl (Yld.pure tab_ok rfl) ?_
                      refine WL.y rfl (Yld.pure tab_ok rfl) ?_
                      refine WL.y rfl (Yld.pure tab_ok rfl) ?_
                      refine WL.y rfl (Yld.pure tab_ok rfl) ?_
                      refine WL.call rfl rfl (W_smithyref11_Replace H) ?_
                      rintro _ w9 ⟨hg7, t1120, t1121, rfl, H⟩
                      have gr9 := gr_trans gr8 hg7
                      have k5 := ht1041.grown hg7
                      refine WL.y rfl (Yld.pure tab_ok rfl) ?_
                      refine WL.y rfl (Yld.pure tab_ok rfl) ?_
                      refine WL.y rfl (Yld.pure tab_ok rfl) ?_
                      refine WL.y rfl (Yld.pure tab_ok rfl) ?_
                      refine WL.y rfl (Yld.pure tab_ok rfl) ?_
                      refine WL.nil (WX.then_normal ?_)
                      refine WC.seq ?_
                      refine WC.seq ?_
                      refine WC.region ?_
                      refine WL.y rfl (Yld.pure tab_ok rfl) ?_
                      refine WL.y rfl (Yld.pure tab_ok rfl) ?_
                      refine WL.y rfl (Yld.pure tab_ok rfl) ?_
                      refine WL.y rfl (Yld.pure tab_ok rfl) ?_
                      obtain ⟨J4, H, hJ4⟩ := H
                      refine WL.midF 5 (fun L' w' => ∃ q7 : Bool, L' = [(123, .bool q7), (0, vs s), (1, vs t), (4, .int .i64 n), (5, .int .i64 k), (6, .bool a), (7, .bool b)] ∧ J4 q7 ∧ w.grownBy w' none) ?_ (fun hQ => ?_)
                      · clear H
                        rintro _ w10 ⟨q7, rfl, H, gr10⟩
                        replace H := hJ4 q7 H
                        refine WL.nil (WX.then_normal ?_)
                        refine WC.cond rfl (fun b5 => ?_) (fun b5 => ?_)
                        · replace H := H.1 (b5)
                          refine WC.seq ?_
                          refine WC.region ?_
                          refine WL.y rfl (Yld.pure tab_ok rfl) ?_
                          refine WL.nil (WX.then_normal ?_)
                          refine WC.ret (WX.then_ret ?_)
                          exact WX.ret1 rfl rfl ⟨gr10, false, rfl, H⟩
                        · replace H := H.2 (b5)
                          refine WC.skip (WX.then_normal ?_)
                          refine WC.seq ?_
                          refine WC.region ?_
                          refine WL.y rfl (Yld.pure tab_ok rfl) ?_
                          refine WL.y rfl (Yld.pure tab_ok rfl) ?_
                          refine WL.call rfl rfl (W_str_Repeat (hG.grown gr10) hS7 H) ?_
                          rintro _ w11 ⟨hg8, t1270, v_t1271, t1271, rfl, ht1271, H⟩
                          have gr11 := gr_trans gr10 hg8
                          refine WL.y rfl (Yld.pure tab_ok rfl) ?_
                          refine WL.y rfl (Yld.pure tab_ok rfl) ?_
                          refine WL.y rfl (Yld.pure tab_ok rfl) ?_
                          refine WL.y rfl (Yld.pure tab_ok rfl) ?_
                          refine WL.y rfl (Yld.pure tab_ok rfl) ?_
                          refine WL.nil (WX.then_normal ?_)
                          refine WC.seq ?_
                          refine WC.region ?_
                          refine WL.y rfl (Yld.pure tab_ok rfl) ?_
                          refine WL.y rfl (Yld.pure tab_ok rfl) ?_
                          refine WL.call rfl rfl (W_smithyref11_Repeat H) ?_
                          rintro _ w12 ⟨hg9, t1330, t1331, rfl, H⟩
                          have gr12 := gr_trans gr11 hg9
                          have k6 := ht1271.grown hg9
                          refine WL.y rfl (Yld.pure tab_ok rfl) ?_
                          refine WL.y rfl (Yld.pure tab_ok rfl) ?_
                          refine WL.y rfl (Yld.pure tab_ok rfl) ?_
                          refine WL.y rfl (Yld.pure tab_ok rfl) ?_
                          refine WL.y rfl (Yld.pure tab_ok rfl) ?_
                          refine WL.nil (WX.then_normal ?_)
                          refine WC.seq ?_
                          refine WC.seq ?_
                          refine WC.region ?_
                          refine WL.y rfl (Yld.pure tab_ok rfl) ?_
                          refine WL.y rfl (Yld.pure tab_ok rfl) ?_
                          refine WL.y rfl (Yld.pure tab_ok rfl) ?_
                          refine WL.y rfl (Yld.pure tab_ok rfl) ?_
                          obtain ⟨J5, H, hJ5⟩ := H
                          refine WL.midF 5 (fun L' w' => ∃ q8 : Bool, L' = [(144, .bool q8), (0, vs s), (1, vs t), (4, .int .i64 n), (5, .int .i64 k), (6, .bool a), (7, .bool b)] ∧ J5 q8 ∧ w.grownBy w' none) ?_ (fun hQ => ?_)
                          · clear H
                            rintro _ w13 ⟨q8, rfl, H, gr13⟩
                            replace H := hJ5 q8 H
                            refine WL.nil (WX.then_normal ?_)
                            refine WC.cond rfl (fun b6 => ?_) (fun b6 => ?_)
                            · replace H := H.1 (b6)
                              refine WC.seq ?_
                              refine WC.region ?_
                              refine WL.y rfl (Yld.pure tab_ok rfl) ?_
                              refine WL.nil (WX.then_normal ?_)
                              refine WC.ret (WX.then_ret ?_)
                              exact WX.ret1 rfl rfl ⟨gr13, false, rfl, H⟩
                            · replace H := H.2 (b6)
                              refine WC.skip (WX.then_normal ?_)
                              refine WC.seq ?_
                              refine WC.region ?_
                              refine WL.y rfl (Yld.pure tab_ok rfl) ?_
                              refine WL.y rfl (Yld.pure tab_ok rfl) ?_
                              refine WL.y rfl (Yld.pure tab_ok rfl) ?_
                              refine WL.y rfl (Yld.pure tab_ok rfl) ?_
                              refine WL.y rfl (Yld.pure tab_ok rfl) ?_
                              refine WL.y rfl (Yld.pure tab_ok rfl) ?_
                              refine WL.call rfl rfl (W_str_Cut H) ?_
                              rintro _ _ ⟨rfl, t1520, t1521, rfl, H⟩
                              refine WL.y rfl (Yld.pure tab_ok rfl) ?_
                              refine WL.y rfl (Yld.pure tab_ok rfl) ?_
                              refine WL.y rfl (Yld.pure tab_ok rfl) ?_
                              refine WL.y rfl (Yld.pure tab_ok rfl) ?_
                              refine WL.y rfl (Yld.pure tab_ok rfl) ?_
                              refine WL.nil (WX.then_normal ?_)
                              refine WC.seq ?_
                              refine WC.region ?_
                              refine WL.y rfl (Yld.pure tab_ok rfl) ?_
                              refine WL.y rfl (Yld.pure tab_ok rfl) ?_
                              refine WL.y rfl (Yld.pure tab_ok rfl) ?_
                              refine WL.y rfl (Yld.pure tab_ok rfl) ?_
                              refine WL.y rfl (Yld.pure tab_ok rfl) ?_
                              refine WL.y rfl (Yld.pure tab_ok rfl) ?_
                              refine WL.call rfl rfl (W_smithyref11_Cut H) ?_
                              rintro _ _ ⟨rfl, t1620, t1621, rfl, H⟩
                              refine WL.y rfl (Yld.pure tab_ok rfl) ?_
                              refine WL.y rfl (Yld.pure tab_ok rfl) ?_
                              refine WL.y rfl (Yld.pure tab_ok rfl) ?_
                              refine WL.y rfl (Yld.pure tab_ok rfl) ?_
                              refine WL.y rfl (Yld.pure tab_ok rfl) ?_
                              refine WL.nil (WX.then_normal ?_)
                              refine WC.seq ?_
                              refine WC.region ?_
                              refine WL.y rfl (Yld.pure tab_ok rfl) ?_
                              refine WL.y rfl (Yld.pure tab_ok rfl) ?_
                              refine WL.y rfl (Yld.pure tab_ok rfl) ?_
                              refine WL.y rfl (Yld.pure tab_ok rfl) ?_
                              refine WL.midF 4 (fun L' w' => ∃ q9 : Bool, L' = [(172, .bool q9), (0, vs s), (1, vs t), (4, .int .i64 n), (5, .int .i64 k), (6, .bool a), (7, .bool b)] ∧ q9 = ((decide (t1520 = t1620)) && (decide (t1521 = t1621))) ∧ w13 = w') ?_ (fun hQ => ?_)
                              · rintro _ _ ⟨q9, rfl, rfl, rfl⟩
                                refine WL.y rfl (Yld.pure tab_ok rfl) ?_
                                obtain ⟨J6, H, hJ6⟩ := H
                                refine WL.midF 6 (fun L' w' => ∃ q10 : Bool, L' = [(179, .bool q10), (0, vs s), (1, vs t), (4, .int .i64 n), (5, .int .i64 k), (6, .bool a), (7, .bool b)] ∧ J6 q10 ∧ w.grownBy w' none) ?_ (fun hQ => ?_)
                                · clear H
                                  rintro _ w14 ⟨q10, rfl, H, gr14⟩
                                  replace H := hJ6 q10 H
                                  refine WL.y rfl (Yld.pure tab_ok rfl) ?_
                                  obtain ⟨J7, H, hJ7⟩ := H
                                  refine WL.midF 12 (fun L' w' => ∃ q11 : Bool, L' = [(192, .bool q11), (0, vs s), (1, vs t), (6, .bool a), (7, .bool b)] ∧ J7 q11 ∧ w14 = w') ?_ (fun hQ => ?_)
                                  · clear H
                                    rintro _ _ ⟨q11, rfl, H, rfl⟩
                                    replace H := hJ7 q11 H
                                    refine WL.y rfl (Yld.pure tab_ok rfl) ?_
                                    obtain ⟨J8, H, hJ8⟩ := H
                                    refine WL.midF 8 (fun L' w' => ∃ q12 : Bool, L' = [(201, .bool q12), (0, vs s), (1, vs t), (6, .bool a), (7, .bool b)] ∧ J8 q12 ∧ w14 = w') ?_ (fun hQ => ?_)
                                    · clear H
                                      rintro _ _ ⟨q12, rfl, H, rfl⟩
                                      replace H := hJ8 q12 H
                                      refine WL.y rfl (Yld.pure tab_ok rfl) ?_
                                      obtain ⟨J9, H, hJ9⟩ := H
                                      refine WL.midF 12 (fun L' w' => ∃ q13 : Bool, L' = [(214, .bool q13), (0, vs s)] ∧ J9 q13 ∧ w14 = w') ?_ (fun hQ => ?_)
                                      · clear H
                                        rintro _ _ ⟨q13, rfl, H, rfl⟩
                                        replace H := hJ9 q13 H
                                        refine WL.y rfl (Yld.pure tab_ok rfl) ?_
                                        obtain ⟨J10, H, hJ10⟩ := H
                                        refine WL.midF 6 (fun L' w' => ∃ q14 : Bool, L' = [(221, .bool q14), (0, vs s)] ∧ J10 q14 ∧ w.grownBy w' none) ?_ (fun hQ => ?_)
                                        · clear H
                                          rintro _ w15 ⟨q14, rfl, H, gr15⟩
                                          replace H := hJ10 q14 H
                                          refine WL.y rfl (Yld.pure tab_ok rfl) ?_
                                          obtain ⟨J11, H, hJ11⟩ := H
                                          refine WL.midF 6 (fun L' w' => ∃ q15 : Bool, L' = [(228, .bool q15), (0, vs s)] ∧ J11 q15 ∧ w.grownBy w' none) ?_ (fun hQ => ?_)
                                          · clear H
                                            rintro _ w16 ⟨q15, rfl, H, gr16⟩
                                            replace H := hJ11 q15 H
                                            refine WL.y rfl (Yld.pure tab_ok rfl) ?_
                                            obtain ⟨J12, H, hJ12⟩ := H
                                            refine WL.midF 6 (fun L' w' => ∃ q16 : Bool, L' = [(235, .bool q16)] ∧ J12 q16 ∧ w16 = w') ?_ (fun hQ => ?_)
                                            · clear H
                                              rintro _ _ ⟨q16, rfl, H, rfl⟩
                                              replace H := hJ12 q16 H
                                              refine WL.y rfl (Yld.pure tab_ok rfl) ?_
                                              refine WL.nil (WX.then_normal ?_)
                                              refine WC.ret ?_
                                              exact WX.ret1 rfl rfl ⟨gr16, q16, rfl, H⟩
                                            · clear hJ12
                                              rcases Bool.eq_false_or_eq_true (q15) with b7 | b7
                                              · replace H := H.1 b7
                                                refine WL.gyes rfl rfl (okb b7) rfl (Yld.pure tab_ok rfl) ?_
                                                refine WL.callw (wants_some rfl rfl (okb b7)) rfl rfl (W_str_IsDigits H) ?_
                                                rintro _ _ ⟨rfl, t231, rfl, H⟩
                                                refine WL.gyes rfl rfl (okb b7) rfl (Yld.pure tab_ok rfl) ?_
                                                refine WL.callw (wants_some rfl rfl (okb b7)) rfl rfl (W_smithyref11_IsDigits H) ?_
                                                rintro _ _ ⟨rfl, t233, rfl, H⟩
                                                refine WL.gyes rfl rfl (okb b7) rfl (Yld.beql Tryd.underlying4 rfl rfl) ?_
                                                refine WL.y rfl (Yld.pickT (okb b7) rfl) ?_
                                                exact WL.weaken (by repeat (first | exact Sub.nil | refine Sub.cons rfl ?_)) (hQ _ _ ⟨t231 == t233, rfl, H, rfl⟩)
                                              · replace H := H.2 b7
                                                refine WL.gno rfl rfl (okb b7) rfl ?_
                                                refine WL.gno rfl rfl (okb b7) rfl ?_
                                                refine WL.gno rfl rfl (okb b7) rfl ?_
                                                refine WL.gno rfl rfl (okb b7) rfl ?_
                                                refine WL.gno rfl rfl (okb b7) rfl ?_
                                                refine WL.y rfl (Yld.pickF (okb b7) rfl) ?_
                                                exact WL.weaken (by repeat (first | exact Sub.nil | refine Sub.cons rfl ?_)) (hQ _ _ ⟨false, rfl, H, rfl⟩)
                                          · clear hJ11
                                            rcases Bool.eq_false_or_eq_true (q14) with b8 | b8
                                            · replace H := H.1 b8
                                              refine WL.gyes rfl rfl (okb b8) rfl (Yld.pure tab_ok rfl) ?_
                                              refine WL.callw (wants_some rfl rfl (okb b8)) rfl rfl (W_str_Lower H) ?_
                                              rintro _ w17 ⟨hg10, t224, rfl, H⟩
                                              have gr17 := gr_trans gr15 hg10
                                              refine WL.gyes rfl rfl (okb b8) rfl (Yld.pure tab_ok rfl) ?_
                                              refine WL.callw (wants_some rfl rfl (okb b8)) rfl rfl (W_smithyref11_Turn H) ?_
                                              rintro _ w18 ⟨hg11, t226, rfl, H⟩
                                              have gr18 := gr_trans gr17 hg11
                                              refine WL.gyes rfl rfl (okb b8) rfl (Yld.pure tab_ok rfl) ?_
                                              refine WL.y rfl (Yld.pickT (okb b8) rfl) ?_
                                              exact WL.weaken (by repeat (first | exact Sub.nil | refine Sub.cons rfl ?_)) (hQ _ _ ⟨decide (t224 = t226), rfl, H, gr18⟩)
                                            · replace H := H.2 b8
                                              refine WL.gno rfl rfl (okb b8) rfl ?_
                                              refine WL.gno rfl rfl (okb b8) rfl ?_
                                              refine WL.gno rfl rfl (okb b8) rfl ?_
                                              refine WL.gno rfl rfl (okb b8) rfl ?_
                                              refine WL.gno rfl rfl (okb b8) rfl ?_
                                              refine WL.y rfl (Yld.pickF (okb b8) rfl) ?_
                                              exact WL.weaken (by repeat (first | exact Sub.nil | refine Sub.cons rfl ?_)) (hQ _ _ ⟨false, rfl, H, gr15⟩)
                                        · clear hJ10
                                          rcases Bool.eq_false_or_eq_true (q13) with b9 | b9
                                          · replace H := H.1 b9
                                            refine WL.gyes rfl rfl (okb b9) rfl (Yld.pure tab_ok rfl) ?_
                                            refine WL.callw (wants_some rfl rfl (okb b9)) rfl rfl (W_str_Upper H) ?_
                                            rintro _ w19 ⟨hg12, t217, rfl, H⟩
                                            have gr19 := gr_trans gr14 hg12
                                            refine WL.gyes rfl rfl (okb b9) rfl (Yld.pure tab_ok rfl) ?_
                                            refine WL.callw (wants_some rfl rfl (okb b9)) rfl rfl (W_smithyref11_Turn H) ?_
                                            rintro _ w20 ⟨hg13, t219, rfl, H⟩
                                            have gr20 := gr_trans gr19 hg13
                                            refine WL.gyes rfl rfl (okb b9) rfl (Yld.pure tab_ok rfl) ?_
                                            refine WL.y rfl (Yld.pickT (okb b9) rfl) ?_
                                            exact WL.weaken (by repeat (first | exact Sub.nil | refine Sub.cons rfl ?_)) (hQ _ _ ⟨decide (t217 = t219), rfl, H, gr20⟩)
                                          · replace H := H.2 b9
                                            refine WL.gno rfl rfl (okb b9) rfl ?_
                                            refine WL.gno rfl rfl (okb b9) rfl ?_
                                            refine WL.gno rfl rfl (okb b9) rfl ?_
                                            refine WL.gno rfl rfl (okb b9) rfl ?_
                                            refine WL.gno rfl rfl (okb b9) rfl ?_
                                            refine WL.y rfl (Yld.pickF (okb b9) rfl) ?_
                                            exact WL.weaken (by repeat (first | exact Sub.nil | refine Sub.cons rfl ?_)) (hQ _ _ ⟨false, rfl, H, gr14⟩)
                                      · clear hJ9
                                        rcases Bool.eq_false_or_eq_true (q12) with b10 | b10
                                        · replace H := H.1 b10
                                          refine WL.gyes rfl rfl (okb b10) rfl (Yld.pure tab_ok rfl) ?_
                                          refine WL.gyes rfl rfl (okb b10) rfl (Yld.pure tab_ok rfl) ?_
                                          refine WL.gyes rfl rfl (okb b10) rfl (Yld.pure tab_ok rfl) ?_
                                          refine WL.gyes rfl rfl (okb b10) rfl (Yld.pure tab_ok rfl) ?_
                                          refine WL.callw (wants_some rfl rfl (okb b10)) rfl rfl (W_str_Strip H) ?_
                                          rintro _ _ ⟨rfl, t207, rfl, H⟩
                                          refine WL.gyes rfl rfl (okb b10) rfl (Yld.pure tab_ok rfl) ?_
                                          refine WL.gyes rfl rfl (okb b10) rfl (Yld.pure tab_ok rfl) ?_
                                          refine WL.gyes rfl rfl (okb b10) rfl (Yld.pure tab_ok rfl) ?_
                                          refine WL.gyes rfl rfl (okb b10) rfl (Yld.pure tab_ok rfl) ?_
                                          refine WL.callw (wants_some rfl rfl (okb b10)) rfl rfl (W_smithyref11_Strip H) ?_
                                          rintro _ _ ⟨rfl, t212, rfl, H⟩
                                          refine WL.gyes rfl rfl (okb b10) rfl (Yld.pure tab_ok rfl) ?_
                                          refine WL.y rfl (Yld.pickT (okb b10) rfl) ?_
                                          exact WL.weaken (by repeat (first | exact Sub.nil | refine Sub.cons rfl ?_)) (hQ _ _ ⟨decide (t207 = t212), rfl, H, rfl⟩)
                                        · replace H := H.2 b10
                                          refine WL.gno rfl rfl (okb b10) rfl ?_
                                          refine WL.gno rfl rfl (okb b10) rfl ?_
                                          refine WL.gno rfl rfl (okb b10) rfl ?_
                                          refine WL.gno rfl rfl (okb b10) rfl ?_
                                          refine WL.gno rfl rfl (okb b10) rfl ?_
                                          refine WL.gno rfl rfl (okb b10) rfl ?_
                                          refine WL.gno rfl rfl (okb b10) rfl ?_
                                          refine WL.gno rfl rfl (okb b10) rfl ?_
                                          refine WL.gno rfl rfl (okb b10) rfl ?_
                                          refine WL.gno rfl rfl (okb b10) rfl ?_
                                          refine WL.gno rfl rfl (okb b10) rfl ?_
                                          refine WL.y rfl (Yld.pickF (okb b10) rfl) ?_
                                          exact WL.weaken (by repeat (first | exact Sub.nil | refine Sub.cons rfl ?_)) (hQ _ _ ⟨false, rfl, H, rfl⟩)
                                    · clear hJ8
                                      rcases Bool.eq_false_or_eq_true (q11) with b11 | b11
                                      · replace H := H.1 b11
                                        refine WL.gyes rfl rfl (okb b11) rfl (Yld.pure tab_ok rfl) ?_
                                        refine WL.gyes rfl rfl (okb b11) rfl (Yld.pure tab_ok rfl) ?_
                                        refine WL.callw (wants_some rfl rfl (okb b11)) rfl rfl (W_str_Count (hG.grown gr14) hS100 H) ?_
                                        rintro _ _ ⟨rfl, t196, rfl, H⟩
                                        refine WL.gyes rfl rfl (okb b11) rfl (Yld.pure tab_ok rfl) ?_
                                        refine WL.gyes rfl rfl (okb b11) rfl (Yld.pure tab_ok rfl) ?_
                                        refine WL.callw (wants_some rfl rfl (okb b11)) rfl rfl (W_smithyref11_Count H) ?_
                                        rintro _ _ ⟨rfl, t199, rfl, H⟩
                                        refine WL.gyes rfl rfl (okb b11) rfl (Yld.pure tab_ok rfl) ?_
                                        refine WL.y rfl (Yld.pickT (okb b11) rfl) ?_
                                        exact WL.weaken (by repeat (first | exact Sub.nil | refine Sub.cons rfl ?_)) (hQ _ _ ⟨decide (t196 = t199), rfl, H, rfl⟩)
                                      · replace H := H.2 b11
                                        refine WL.gno rfl rfl (okb b11) rfl ?_
                                        refine WL.gno rfl rfl (okb b11) rfl ?_
                                        refine WL.gno rfl rfl (okb b11) rfl ?_
                                        refine WL.gno rfl rfl (okb b11) rfl ?_
                                        refine WL.gno rfl rfl (okb b11) rfl ?_
                                        refine WL.gno rfl rfl (okb b11) rfl ?_
                                        refine WL.gno rfl rfl (okb b11) rfl ?_
                                        refine WL.y rfl (Yld.pickF (okb b11) rfl) ?_
                                        exact WL.weaken (by repeat (first | exact Sub.nil | refine Sub.cons rfl ?_)) (hQ _ _ ⟨false, rfl, H, rfl⟩)
                                  · clear hJ7
                                    rcases Bool.eq_false_or_eq_true (q10) with b12 | b12
                                    · replace H := H.1 b12
                                      refine WL.gyes rfl rfl (okb b12) rfl (Yld.pure tab_ok rfl) ?_
                                      refine WL.gyes rfl rfl (okb b12) rfl (Yld.pure tab_ok rfl) ?_
                                      refine WL.gyes rfl rfl (okb b12) rfl (Yld.pure tab_ok rfl) ?_
                                      refine WL.gyes rfl rfl (okb b12) rfl (Yld.pure tab_ok rfl) ?_
                                      refine WL.callw (wants_some rfl rfl (okb b12)) rfl rfl (W_str_Find (hG.grown gr14) hS100 H) ?_
                                      rintro _ _ ⟨rfl, t185, rfl, H⟩
                                      refine WL.gyes rfl rfl (okb b12) rfl (Yld.pure tab_ok rfl) ?_
                                      refine WL.gyes rfl rfl (okb b12) rfl (Yld.pure tab_ok rfl) ?_
                                      refine WL.gyes rfl rfl (okb b12) rfl (Yld.pure tab_ok rfl) ?_
                                      refine WL.gyes rfl rfl (okb b12) rfl (Yld.pure tab_ok rfl) ?_
                                      refine WL.callw (wants_some rfl rfl (okb b12)) rfl rfl (W_smithyref11_Find H) ?_
                                      rintro _ _ ⟨rfl, t190, rfl, H⟩
                                      refine WL.gyes rfl rfl (okb b12) rfl (Yld.pure tab_ok rfl) ?_
                                      refine WL.y rfl (Yld.pickT (okb b12) rfl) ?_
                                      exact WL.weaken (by repeat (first | exact Sub.nil | refine Sub.cons rfl ?_)) (hQ _ _ ⟨decide (t185 = t190), rfl, H, rfl⟩)
                                    · replace H := H.2 b12
                                      refine WL.gno rfl rfl (okb b12) rfl ?_
                                      refine WL.gno rfl rfl (okb b12) rfl ?_
                                      refine WL.gno rfl rfl (okb b12) rfl ?_
                                      refine WL.gno rfl rfl (okb b12) rfl ?_
                                      refine WL.gno rfl rfl (okb b12) rfl ?_
                                      refine WL.gno rfl rfl (okb b12) rfl ?_
                                      refine WL.gno rfl rfl (okb b12) rfl ?_
                                      refine WL.gno rfl rfl (okb b12) rfl ?_
                                      refine WL.gno rfl rfl (okb b12) rfl ?_
                                      refine WL.gno rfl rfl (okb b12) rfl ?_
                                      refine WL.gno rfl rfl (okb b12) rfl ?_
                                      refine WL.y rfl (Yld.pickF (okb b12) rfl) ?_
                                      exact WL.weaken (by repeat (first | exact Sub.nil | refine Sub.cons rfl ?_)) (hQ _ _ ⟨false, rfl, H, rfl⟩)
                                · clear hJ6
                                  rcases Bool.eq_false_or_eq_true ((decide (t1520 = t1620)) && (decide (t1521 = t1621))) with b13 | b13
                                  · replace H := H.1 b13
                                    refine WL.gyes rfl rfl (okb b13) rfl (Yld.pure tab_ok rfl) ?_
                                    refine WL.callw (wants_some rfl rfl (okb b13)) rfl rfl (W_str_Words H) ?_
                                    rintro _ w21 ⟨hg14, t175, A_t175, c_t175, rfl, ht175, H⟩
                                    have hb2 := ht175.ge'
                                    have k7 := ht175.base (fun g hg => Nat.le_trans (size_le gr13) (hb2 g hg))
                                    have gr21 := gr_trans gr13 hg14
                                    refine WL.gyes rfl rfl (okb b13) rfl (Yld.pure tab_ok rfl) ?_
                                    refine WL.callw (wants_some rfl rfl (okb b13)) rfl rfl (W_smithyref11_Words H) ?_
                                    rintro _ w22 ⟨hg15, t177, A_t177, c_t177, rfl, ht177, H⟩
                                    have hb3 := ht177.ge'
                                    have k8 := ht177.base (fun g hg => Nat.le_trans (size_le gr21) (hb3 g hg))
                                    have gr22 := gr_trans gr21 hg15
                                    have k9 := k7.grown hg15
                                    refine WL.callw (wants_some rfl rfl (okb b13)) rfl rfl (W_smithyref_SameTexts k9.rd rfl k8.rd rfl H) ?_
                                    rintro _ _ ⟨rfl, t178, rfl, H⟩
                                    refine WL.y rfl (Yld.pickT (okb b13) rfl) ?_
                                    exact WL.weaken (by repeat (first | exact Sub.nil | refine Sub.cons rfl ?_)) (hQ _ _ ⟨t178, rfl, H, gr22⟩)
                                  · replace H := H.2 b13
                                    refine WL.gno rfl rfl (okb b13) rfl ?_
                                    refine WL.gno rfl rfl (okb b13) rfl ?_
                                    refine WL.gno rfl rfl (okb b13) rfl ?_
                                    refine WL.gno rfl rfl (okb b13) rfl ?_
                                    refine WL.gno rfl rfl (okb b13) rfl ?_
                                    refine WL.y rfl (Yld.pickF (okb b13) rfl) ?_
                                    exact WL.weaken (by repeat (first | exact Sub.nil | refine Sub.cons rfl ?_)) (hQ _ _ ⟨false, rfl, H, gr13⟩)
                              · clear H
                                rcases Bool.eq_false_or_eq_true (decide (t1520 = t1620)) with b14 | b14
                                · refine WL.gyes rfl rfl (okb b14) rfl (Yld.pure tab_ok rfl) ?_
                                  refine WL.gyes rfl rfl (okb b14) rfl (Yld.pure tab_ok rfl) ?_
                                  refine WL.gyes rfl rfl (okb b14) rfl (Yld.pure tab_ok rfl) ?_
                                  refine WL.y rfl (Yld.pickT (okb b14) rfl) ?_
                                  exact WL.weaken (by repeat (first | exact Sub.nil | refine Sub.cons rfl ?_)) (hQ _ _ ⟨decide (t1521 = t1621), rfl, by rw [b14] <;> rfl, rfl⟩)
                                · refine WL.gno rfl rfl (okb b14) rfl ?_
                                  refine WL.gno rfl rfl (okb b14) rfl ?_
                                  refine WL.gno rfl rfl (okb b14) rfl ?_
                                  refine WL.y rfl (Yld.pickF (okb b14) rfl) ?_
                                  exact WL.weaken (by repeat (first | exact Sub.nil | refine Sub.cons rfl ?_)) (hQ _ _ ⟨false, rfl, by rw [b14] <;> rfl, rfl⟩)
                          · clear hJ5
                            rcases Bool.eq_false_or_eq_true (!decide (t1270 = t1330)) with b15 | b15
                            · replace H := H.1 b15
                              refine WL.gno rfl rfl (okb b15) rfl ?_
                              refine WL.gno rfl rfl (okb b15) rfl ?_
                              refine WL.gno rfl rfl (okb b15) rfl ?_
                              refine WL.gno rfl rfl (okb b15) rfl ?_
                              refine WL.y rfl (Yld.pickT (okb b15) rfl) ?_
                              exact WL.weaken (by repeat (first | exact Sub.nil | refine Sub.cons rfl ?_)) (hQ _ _ ⟨true, rfl, H, gr12⟩)
                            · replace H := H.2 b15
                              refine WL.gyes rfl rfl (okb b15) rfl (Yld.pure tab_ok rfl) ?_
                              refine WL.gyes rfl rfl (okb b15) rfl (Yld.pure tab_ok rfl) ?_
                              refine WL.callw (wants_some rfl rfl (okb b15)) rfl rfl (W_smithysee_Is (hG.grown gr12) hS0 hS1 hS2 hS3 hS4 hS5 hS6 hS7 hS8 hS9 hS10 hS11 hS12 hS13 hS14 hS15 hS16 k6 H) ?_
                              rintro _ w23 ⟨hg16, t142, rfl, H⟩
                              have gr23 := gr_trans gr12 hg16
                              have k10 := k6.grown hg16
                              refine WL.gyes rfl rfl (okb b15) rfl (Yld.pure tab_ok rfl) ?_
                              refine WL.y rfl (Yld.pickF (okb b15) rfl) ?_
                              exact WL.weaken (by repeat (first | exact Sub.nil | refine Sub.cons rfl ?_)) (hQ _ _ ⟨!t142, rfl, H, gr23⟩)
                      · clear hJ4
                        rcases Bool.eq_false_or_eq_true (!decide (t1040 = t1120)) with b16 | b16
                        · replace H := H.1 b16
                          refine WL.gno rfl rfl (okb b16) rfl ?_
                          refine WL.gno rfl rfl (okb b16) rfl ?_
                          refine WL.gno rfl rfl (okb b16) rfl ?_
                          refine WL.gno rfl rfl (okb b16) rfl ?_
                          refine WL.y rfl (Yld.pickT (okb b16) rfl) ?_
                          exact WL.weaken (by repeat (first | exact Sub.nil | refine Sub.cons rfl ?_)) (hQ _ _ ⟨true, rfl, H, gr9⟩)
                        · replace H := H.2 b16
                          refine WL.gyes rfl rfl (okb b16) rfl (Yld.pure tab_ok rfl) ?_
                          refine WL.gyes rfl rfl (okb b16) rfl (Yld.pure tab_ok rfl) ?_
                          refine WL.callw (wants_some rfl rfl (okb b16)) rfl rfl (W_smithysee_Is (hG.grown gr9) hS0 hS1 hS2 hS3 hS4 hS5 hS6 hS7 hS8 hS9 hS10 hS11 hS12 hS13 hS14 hS15 hS16 k5 H) ?_
                          rintro _ w24 ⟨hg17, t121, rfl, H⟩
                          have gr24 := gr_trans gr9 hg17
                          have k11 := k5.grown hg17
                          refine WL.gyes rfl rfl (okb b16) rfl (Yld.pure tab_ok rfl) ?_
                          refine WL.y rfl (Yld.pickF (okb b16) rfl) ?_
                          exact WL.weaken (by repeat (first | exact Sub.nil | refine Sub.cons rfl ?_)) (hQ _ _ ⟨!t121, rfl, H, gr24⟩)
                  · clear hJ3
                    rcases Bool.eq_false_or_eq_true (!decide (t810 = t870)) with b17 | b17
                    · replace H := H.1 b17
                      refine WL.gno rfl rfl (okb b17) rfl ?_
                      refine WL.gno rfl rfl (okb b17) rfl ?_
                      refine WL.gno rfl rfl (okb b17) rfl ?_
                      refine WL.gno rfl rfl (okb b17) rfl ?_
                      refine WL.y rfl (Yld.pickT (okb b17) rfl) ?_
                      exact WL.weaken (by repeat (first | exact Sub.nil | refine Sub.cons rfl ?_)) (hQ _ _ ⟨true, rfl, H, gr6⟩)
                    · replace H := H.2 b17
                      refine WL.gyes rfl rfl (okb b17) rfl (Yld.pure tab_ok rfl) ?_
                      refine WL.gyes rfl rfl (okb b17) rfl (Yld.pure tab_ok rfl) ?_
                      refine WL.callw (wants_some rfl rfl (okb b17)) rfl rfl (W_smithysee_Is (hG.grown gr6) hS0 hS1 hS2 hS3 hS4 hS5 hS6 hS7 hS8 hS9 hS10 hS11 hS12 hS13 hS14 hS15 hS16 k4 H) ?_
                      rintro _ w25 ⟨hg18, t96, rfl, H⟩
                      have gr25 := gr_trans gr6 hg18
                      have k12 := k4.grown hg18
                      refine WL.gyes rfl rfl (okb b17) rfl (Yld.pure tab_ok rfl) ?_
                      refine WL.y rfl (Yld.pickF (okb b17) rfl) ?_
                      exact WL.weaken (by repeat (first | exact Sub.nil | refine Sub.cons rfl ?_)) (hQ _ _ ⟨!t96, rfl, H, gr25⟩)
              · clear hJ2
                rcases Bool.eq_false_or_eq_true (!t70) with b18 | b18
                · replace H := H.1 b18
                  refine WL.gno rfl rfl (okb b18) rfl ?_
                  refine WL.gno rfl rfl (okb b18) rfl ?_
                  refine WL.gno rfl rfl (okb b18) rfl ?_
                  refine WL.gno rfl rfl (okb b18) rfl ?_
                  refine WL.y rfl (Yld.pickT (okb b18) rfl) ?_
                  exact WL.weaken (by repeat (first | exact Sub.nil | refine Sub.cons rfl ?_)) (hQ _ _ ⟨true, rfl, H, gr3⟩)
                · replace H := H.2 b18
                  refine WL.gyes rfl rfl (okb b18) rfl (Yld.pure tab_ok rfl) ?_
                  refine WL.gyes rfl rfl (okb b18) rfl (Yld.pure tab_ok rfl) ?_
                  refine WL.callw (wants_some rfl rfl (okb b18)) rfl rfl (W_smithysee_Is (hG.grown gr3) hS0 hS1 hS2 hS3 hS4 hS5 hS6 hS7 hS8 hS9 hS10 hS11 hS12 hS13 hS14 hS15 hS16 k3 H) ?_
                  rintro _ w26 ⟨hg19, t75, rfl, H⟩
                  have gr26 := gr_trans gr3 hg19
                  have k13 := k3.grown hg19
                  refine WL.gyes rfl rfl (okb b18) rfl (Yld.pure tab_ok rfl) ?_
                  refine WL.y rfl (Yld.pickF (okb b18) rfl) ?_
                  exact WL.weaken (by repeat (first | exact Sub.nil | refine Sub.cons rfl ?_)) (hQ _ _ ⟨!t75, rfl, H, gr26⟩)
          · clear H
            rcases Bool.eq_false_or_eq_true (q3) with b19 | b19
            · refine WL.gno rfl rfl (okb b19) rfl ?_
              refine WL.gno rfl rfl (okb b19) rfl ?_
              refine WL.y rfl (Yld.pickT (okb b19) rfl) ?_
              exact WL.weaken (by repeat (first | exact Sub.nil | refine Sub.cons rfl ?_)) (hQ _ _ ⟨true, rfl, by rw [b19] <;> rfl, rfl⟩)
            · refine WL.gyes rfl rfl (okb b19) rfl (Yld.pure tab_ok rfl) ?_
              refine WL.gyes rfl rfl (okb b19) rfl (Yld.pure tab_ok rfl) ?_
              refine WL.y rfl (Yld.pickF (okb b19) rfl) ?_
              exact WL.weaken (by repeat (first | exact Sub.nil | refine Sub.cons rfl ?_)) (hQ _ _ ⟨!ok, rfl, by rw [b19] <;> rfl, rfl⟩)
        · clear hJ1
          rcases Bool.eq_false_or_eq_true (((decide ((300 : Int) < (s.length : Int))) || (decide ((300 : Int) < (t.length : Int)))) || (decide ((300 : Int) < (u.length : Int)))) with b20 | b20
          · replace H := H.1 b20
            refine WL.gno rfl rfl (okb b20) rfl ?_
            refine WL.gno rfl rfl (okb b20) rfl ?_
            refine WL.gno rfl rfl (okb b20) rfl ?_
            refine WL.y rfl (Yld.pickT (okb b20) rfl) ?_
            exact WL.weaken (by repeat (first | exact Sub.nil | refine Sub.cons rfl ?_)) (hQ _ _ ⟨true, rfl, H, rfl⟩)
          · replace H := H.2 b20
            refine WL.gyes rfl rfl (okb b20) rfl (Yld.pure tab_ok rfl) ?_
            refine WL.callw (wants_some rfl rfl (okb b20)) rfl rfl (W_smithyworld_Texts (hl.grown gr1) rfl H) ?_
            rintro _ _ ⟨rfl, t46, rfl, H⟩
            refine WL.gyes rfl rfl (okb b20) rfl (Yld.pure tab_ok rfl) ?_
            refine WL.y rfl (Yld.pickF (okb b20) rfl) ?_
            exact WL.weaken (by repeat (first | exact Sub.nil | refine Sub.cons rfl ?_)) (hQ _ _ ⟨!t46, rfl, H, rfl⟩)
      · clear H
        rcases Bool.eq_false_or_eq_true ((decide ((300 : Int) < (s.length : Int))) || (decide ((300 : Int) < (t.length : Int)))) with b21 | b21
        · refine WL.gno rfl rfl (okb b21) rfl ?_
          refine WL.gno rfl rfl (okb b21) rfl ?_
          refine WL.gno rfl rfl (okb b21) rfl ?_
          refine WL.y rfl (Yld.pickT (okb b21) rfl) ?_
          exact WL.weaken (by repeat (first | exact Sub.nil | refine Sub.cons rfl ?_)) (hQ _ _ ⟨true, rfl, by rw [b21] <;> rfl, rfl⟩)
        · refine WL.gyes rfl rfl (okb b21) rfl (Yld.pure tab_ok rfl) ?_
          refine WL.gyes rfl rfl (okb b21) rfl (Yld.pure tab_ok rfl) ?_
          refine WL.gyes rfl rfl (okb b21) rfl (Yld.pure tab_ok rfl) ?_
          refine WL.y rfl (Yld.pickF (okb b21) rfl) ?_
          exact WL.weaken (by repeat (first | exact Sub.nil | refine Sub.cons rfl ?_)) (hQ _ _ ⟨decide ((300 : Int) < (u.length : Int)), rfl, by rw [b21] <;> rfl, rfl⟩)
    · clear H
      rcases Bool.eq_false_or_eq_true (decide ((300 : Int) < (s.length : Int))) with b22 | b22
      · refine WL.gno rfl rfl (okb b22) rfl ?_
        refine WL.gno rfl rfl (okb b22) rfl ?_
        refine WL.gno rfl rfl (okb b22) rfl ?_
        refine WL.y rfl (Yld.pickT (okb b22) rfl) ?_
        exact WL.weaken (by repeat (first | exact Sub.nil | refine Sub.cons rfl ?_)) (hQ _ _ ⟨true, rfl, by rw [b22] <;> rfl, rfl⟩)
      · refine WL.gyes rfl rfl (okb b22) rfl (Yld.pure tab_ok rfl) ?_
        refine WL.gyes rfl rfl (okb b22) rfl (Yld.pure tab_ok rfl) ?_
        refine WL.gyes rfl rfl (okb b22) rfl (Yld.pure tab_ok rfl) ?_
        refine WL.y rfl (Yld.pickF (okb b22) rfl) ?_
        exact WL.weaken (by repeat (first | exact Sub.nil | refine Sub.cons rfl ?_)) (hQ _ _ ⟨decide ((300 : Int) < (t.length : Int)), rfl, by rw [b22] <;> rfl, rfl⟩)

end Go.Proofs.YtjinkmipkfjblaaDoor

 /- smithysee.Is, plainly. -/
namespace Go.Proofs.YtjinkmipkfjblaaDoor
open Go Go.RowKit
def isB : Er → Int → Bool
  | .ok, c => decide (0 = c)
  | .e n, c => decide (101 + (n : Int) = c)
  | .at_ _ _, _ => false
theorem is_M {e : Er} {code : Int} {K : Bool → Prop} (h : K (isB e code)) : M_smithysee_Is e code K := by
  unfold M_smithysee_Is M_smithyref_Bare M_smithysee_Same M_smithysee_Fault M_smithyref_None M_smithyref_SameFault M_smithysee_placed M_smithysee_sentinel M_smithyref_Bare M_smithyref_Placed M_smithyref_None
  cases e with
  | ok => refine ⟨fun _ => ?_, fun h2 => absurd rfl h2⟩; exact (congrArg K (show isB .ok code = _ by simp [isB])).mp h
  | e n => refine ⟨fun h2 => (by cases h2), fun _ => ⟨fun p m h2 => (by cases h2), fun _ => ?_⟩⟩; exact (congrArg K (show isB (.e n) code = _ by rw [Bool.eq_iff_iff]; simp [isB, sentV]; exact decide_eq_true_iff.symm)).mp h
  | at_ p n =>
    refine ⟨fun h2 => (by cases h2), fun _ => ⟨fun p' m h2 => ?_, fun h2 => absurd rfl (h2 p n)⟩⟩
    cases h2
    refine ⟨fun h2 => (by simp at h2), fun _ => ⟨fun h2 => (by simp only [sentV] at h2; omega), fun _ => ?_⟩⟩
    exact (congrArg K (show isB (.at_ p n) code = _ by simp [isB])).mp h
end Go.Proofs.YtjinkmipkfjblaaDoor


 /- The chapter's pieces, plainly: splitting, replacing, counting. -/
namespace Go.Proofs.YtjinkmipkfjblaaDoor
open Go Go.RowKit
theorem getD_memB {l : List (List UInt8)} {k : Nat} (h : k < l.length) : l.getD k [] ∈ l := by
  simp [List.getD, h]
theorem occ_isB (s sub : List UInt8) (i : Nat) : Lib.occAt s sub i = decide ((s.drop i).take sub.length = sub) := by
  unfold Lib.occAt
  rw [Bool.eq_iff_iff, List.isPrefixOf_iff_prefix, decide_eq_true_eq, List.prefix_iff_eq_take, eq_comm]
theorem index_selfB (a t : List UInt8) (ha : a ≠ []) : Lib.index (a ++ t) a = 0 := by
  cases a with
  | nil => exact absurd rfl ha
  | cons c a =>
    rw [List.cons_append, Lib.index, if_pos]
    rw [← List.cons_append, List.isPrefixOf_iff_prefix]
    exact List.prefix_append _ _
theorem index_nilB (a : List UInt8) (ha : a ≠ []) : Lib.index [] a = -1 := by
  unfold Lib.index
  rw [if_neg (by simpa using ha)]
theorem index_consB {a t : List UInt8} {c : UInt8} (hp : a.isPrefixOf (c :: t) = false) : Lib.index (c :: t) a = if Lib.index t a == -1 then -1 else Lib.index t a + 1 := by rw [Lib.index, hp]; simp
/-! counting -/
theorem cnt_hit {a : List UInt8} (ha : a ≠ []) (t : List UInt8) : Lib.count (a ++ t) a = 1 + Lib.count t a := by
  have h := Lib.count_hit (i := 0) ha (index_selfB a t ha)
  rw [h]; simp
theorem cnt_nil {a : List UInt8} (ha : a ≠ []) : Lib.count [] a = 0 := Lib.count_miss (index_nilB a ha)
theorem cnt_miss {a : List UInt8} (ha : a ≠ []) {c : UInt8} {t : List UInt8} (hp : a.isPrefixOf (c :: t) = false) : Lib.count (c :: t) a = Lib.count t a := by
  have hix := index_consB hp
  by_cases hm : Lib.index t a = -1
  · rw [Lib.count_miss hm, Lib.count_miss (by rw [hix, hm]; rfl)]
  · have hge := Lib.index_ge t a
    obtain ⟨j, hj⟩ : ∃ j : Nat, Lib.index t a = j := ⟨(Lib.index t a).toNat, by omega⟩
    have h1 : Lib.index (c :: t) a = ((j + 1 : Nat) : Int) := by rw [hix, if_neg (fun e => hm (beq_iff_eq.1 e)), hj]; omega
    have hd : (c :: t).drop (j + 1 + a.length) = t.drop (j + a.length) := by
      rw [show j + 1 + a.length = (j + a.length) + 1 by omega]; rfl
    rw [Lib.count_hit ha h1, Lib.count_hit ha hj, hd]
theorem cnt_le {a : List UInt8} (ha : a ≠ []) (s : List UInt8) : Lib.count s a * a.length ≤ s.length := by
  generalize hk : Lib.count s a = k
  induction k generalizing s with
  | zero => omega
  | succ k ih =>
    obtain ⟨i, hi⟩ := Lib.index_of_count (s := s) (old := a) (by omega)
    have h1 := Lib.count_hit ha hi
    have h2 := Lib.index_room s a (by omega)
    have h3 := ih (s.drop (i + a.length)) (by omega)
    rw [List.length_drop] at h3
    rw [Nat.add_mul]
    omega
/-! cutting -/
/-- a piece ahead of the first -/
def preC (p : List UInt8) : List (List UInt8) → List (List UInt8)
  | [] => []
  | h :: t => (p ++ h) :: t
theorem preC_nil (a : List UInt8) (k : Nat) (s : List UInt8) : preC [] (Lib.splitK a 0 k s) = Lib.splitK a 0 k s := by
  cases h : Lib.splitK a 0 k s with
  | nil => rfl
  | cons x l => simp [preC]
theorem preC_pre (p q : List UInt8) (l : List (List UInt8)) : preC p (preC q l) = preC (p ++ q) l := by
  cases l <;> simp [preC]
theorem spl_hit {a : List UInt8} (ha : a ≠ []) (k : Nat) (t : List UInt8) : Lib.splitK a 0 (k + 1) (a ++ t) = [] :: Lib.splitK a 0 k t := by
  rw [Lib.splitK, index_selfB a t ha, if_neg (by decide)]
  simp
theorem spl_miss {a : List UInt8} {c : UInt8} {t : List UInt8} (hp : a.isPrefixOf (c :: t) = false) (k : Nat) : Lib.splitK a 0 k (c :: t) = preC [c] (Lib.splitK a 0 k t) := by
  cases k with
  | zero => simp [Lib.splitK, preC]
  | succ k =>
    have hix := index_consB hp
    by_cases hm : Lib.index t a = -1
    · rw [Lib.splitK, Lib.splitK, if_pos (by rw [hix, hm]; rfl), if_pos (by rw [hm]; rfl)]
      rfl
    · have hge := Lib.index_ge t a
      obtain ⟨j, hj⟩ : ∃ j : Nat, Lib.index t a = j := ⟨(Lib.index t a).toNat, by omega⟩
      have h1 : Lib.index (c :: t) a = ((j + 1 : Nat) : Int) := by rw [hix, if_neg (fun e => hm (beq_iff_eq.1 e)), hj]; omega
      rw [Lib.splitK, Lib.splitK, if_neg (fun e => by have := beq_iff_eq.1 e; omega), if_neg (fun e => hm (beq_iff_eq.1 e)), h1, hj]
      simp only [preC, Int.toNat_natCast, Nat.add_zero, List.take_succ_cons, List.singleton_append]
      rw [show j + 1 + a.length = (j + a.length) + 1 by omega]
      rfl
theorem spl_none {a s : List UInt8} (h : Lib.index s a = -1) (k : Nat) : Lib.splitK a 0 k s = [s] := by
  cases k with
  | zero => rfl
  | succ k => rw [Lib.splitK, if_pos (by rw [h]; rfl)]
theorem spl_at {a s : List UInt8} {j : Nat} (h : Lib.index s a = j) (k : Nat) : Lib.splitK a 0 (k + 1) s = s.take j :: Lib.splitK a 0 k (s.drop (j + a.length)) := by
  rw [Lib.splitK, if_neg (fun e => by have := beq_iff_eq.1 e; omega), h]
  rfl
theorem rpl_none {a s : List UInt8} (b : List UInt8) (h : Lib.index s a = -1) (k : Nat) : Lib.replaceK a b k s = s := by
  cases k with
  | zero => rfl
  | succ k => rw [Lib.replaceK, if_pos (by rw [h]; rfl)]
theorem spl_cap {a : List UInt8} (ha : a ≠ []) : ∀ (k : Nat) (s : List UInt8), Lib.splitK a 0 k s = Lib.splitK a 0 (min k (Lib.count s a)) s := by
  intro k
  induction k with
  | zero => intro s; simp
  | succ k ih =>
    intro s
    by_cases hm : Lib.index s a = -1
    · rw [spl_none hm, spl_none hm]
    · have hge := Lib.index_ge s a
      obtain ⟨j, hj⟩ : ∃ j : Nat, Lib.index s a = j := ⟨(Lib.index s a).toNat, by omega⟩
      rw [Lib.count_hit ha hj, show min (k + 1) (1 + Lib.count (s.drop (j + a.length)) a) = min k (Lib.count (s.drop (j + a.length)) a) + 1 by omega]
      rw [spl_at hj, spl_at hj, ih]
theorem spl_len {a : List UInt8} (ha : a ≠ []) : ∀ (k : Nat) (s : List UInt8), (Lib.splitK a 0 k s).length = min k (Lib.count s a) + 1 := by
  intro k
  induction k with
  | zero => intro s; simp [Lib.splitK]
  | succ k ih =>
    intro s
    by_cases hm : Lib.index s a = -1
    · rw [Lib.count_miss hm, Nat.min_zero, spl_none hm]; rfl
    · have hge := Lib.index_ge s a
      obtain ⟨j, hj⟩ : ∃ j : Nat, Lib.index s a = j := ⟨(Lib.index s a).toNat, by omega⟩
      rw [Lib.count_hit ha hj, spl_at hj, List.length_cons, ih]
      omega
/-! replacing -/
theorem rpl_hit {a : List UInt8} (ha : a ≠ []) (b : List UInt8) (k : Nat) (t : List UInt8) : Lib.replaceK a b (k + 1) (a ++ t) = b ++ Lib.replaceK a b k t := by
  rw [Lib.replaceK_hit a b k _ 0 (index_selfB a t ha)]
  simp
theorem rpl_nil {a : List UInt8} (ha : a ≠ []) (b : List UInt8) (k : Nat) : Lib.replaceK a b k [] = [] := by
  cases k with
  | zero => rfl
  | succ k => rw [Lib.replaceK, if_pos (by rw [index_nilB a ha]; rfl)]
theorem rpl_miss {a : List UInt8} (b : List UInt8) {c : UInt8} {t : List UInt8} (hp : a.isPrefixOf (c :: t) = false) (k : Nat) : Lib.replaceK a b k (c :: t) = c :: Lib.replaceK a b k t := by
  cases k with
  | zero => rfl
  | succ k =>
    have hix := index_consB hp
    by_cases hm : Lib.index t a = -1
    · rw [Lib.replaceK, Lib.replaceK, if_pos (by rw [hix, hm]; rfl), if_pos (by rw [hm]; rfl)]
    · have hge := Lib.index_ge t a
      obtain ⟨j, hj⟩ : ∃ j : Nat, Lib.index t a = j := ⟨(Lib.index t a).toNat, by omega⟩
      have h1 : Lib.index (c :: t) a = ((j + 1 : Nat) : Int) := by rw [hix, if_neg (fun e => hm (beq_iff_eq.1 e)), hj]; omega
      rw [Lib.replaceK_hit a b k _ _ h1, Lib.replaceK_hit a b k _ _ hj, show j + 1 + a.length = (j + a.length) + 1 by omega]
      rfl
theorem rpl_cap {a : List UInt8} (ha : a ≠ []) (b : List UInt8) : ∀ (k : Nat) (s : List UInt8), Lib.replaceK a b k s = Lib.replaceK a b (min k (Lib.count s a)) s := by
  intro k
  induction k with
  | zero => intro s; simp
  | succ k ih =>
    intro s
    by_cases hm : Lib.index s a = -1
    · rw [rpl_none b hm, rpl_none b hm]
    · have hge := Lib.index_ge s a
      obtain ⟨j, hj⟩ : ∃ j : Nat, Lib.index s a = j := ⟨(Lib.index s a).toNat, by omega⟩
      rw [Lib.count_hit ha hj, show min (k + 1) (1 + Lib.count (s.drop (j + a.length)) a) = min k (Lib.count (s.drop (j + a.length)) a) + 1 by omega]
      rw [Lib.replaceK_hit a b _ _ _ hj, Lib.replaceK_hit a b _ _ _ hj, ih]
theorem rpl_len {a : List UInt8} (ha : a ≠ []) (b : List UInt8) : ∀ (k : Nat) (s : List UInt8), k ≤ Lib.count s a → (Lib.replaceK a b k s).length + k * a.length = s.length + k * b.length := by
  intro k
  induction k with
  | zero => intro s _; simp [Lib.replaceK]
  | succ k ih =>
    intro s hk
    obtain ⟨i, hi⟩ := Lib.index_of_count (s := s) (old := a) (by omega)
    have h1 := Lib.count_hit ha hi
    have h2 := Lib.index_room s a (by omega)
    have h3 := ih (s.drop (i + a.length)) (by omega)
    rw [List.length_drop] at h3
    rw [Lib.replaceK_hit a b k s i hi]
    simp only [List.length_append, List.length_take, Nat.add_mul]
    omega
theorem rpl_same (a : List UInt8) (ha : a ≠ []) : ∀ (k : Nat) (s : List UInt8), Lib.replaceK a a k s = s := by
  intro k
  induction k with
  | zero => intro s; rfl
  | succ k ih =>
    intro s
    by_cases hm : Lib.index s a = -1
    · rw [Lib.replaceK, if_pos (by rw [hm]; rfl)]
    · have hge := Lib.index_ge s a
      obtain ⟨i, hi⟩ : ∃ j : Nat, Lib.index s a = j := ⟨(Lib.index s a).toNat, by omega⟩
      rw [Lib.replaceK_hit a a k s i hi, ih]
      have ho : Lib.occAt s a i = true := by
        rcases Lib.index_spec s a with ⟨h2, _⟩ | ⟨j, h2, _, h4, _⟩
        · omega
        · rw [show i = j by omega]; exact h4
      rw [occ_isB, decide_eq_true_eq] at ho
      conv => lhs; lhs; rhs; rw [← ho]
      rw [List.append_assoc, ← List.drop_drop, List.take_append_drop, List.take_append_drop]
theorem replace_isB {s a b : List UInt8} (ha : a ≠ []) {n : Int} (hn : 0 ≤ n) (hc : n ≤ Lib.count s a) : Lib.replace s a b n = Lib.replaceK a b n.toNat s := by
  by_cases he : a = b
  · subst he
    rw [rpl_same a ha]
    unfold Lib.replace
    simp
  · unfold Lib.replace Lib.replaceNum
    rw [if_neg (by simpa using he), if_neg (by omega)]
theorem join_take {l : List (List UInt8)} {o : List UInt8} {i : Nat} (h : i < l.length) : Lib.join (l.take (i + 1)) o = Lib.join (l.take i) o ++ (if i = 0 then [] else o) ++ l.getD i [] := by
  cases l with
  | nil => simp at h
  | cons x l =>
    cases i with
    | zero => simp [Lib.join_one, Lib.join_nil]
    | succ i =>
      rw [List.take_succ_cons, List.take_succ_cons, Lib.join_cons, Lib.join_cons, Lib.joinTail_take_succ o l i (l.getD i []) (by have h' : i < l.length := (by simpa using h); simp [List.getD, h'])]
      simp
theorem join_le {l : List (List UInt8)} {o : List UInt8} : ∀ {i j : Nat}, i ≤ j → j ≤ l.length → (Lib.join (l.take i) o).length ≤ (Lib.join (l.take j) o).length := by
  intro i j hij hj
  induction j with
  | zero => rw [show i = 0 by omega]; exact Nat.le_refl _
  | succ j ih =>
    by_cases e : i = j + 1
    · rw [e]; exact Nat.le_refl _
    · have := ih (by omega) (by omega)
      rw [join_take (by omega)]
      simp only [List.length_append]
      omega
end Go.Proofs.YtjinkmipkfjblaaDoor


 /- The chapter's splitting, joining, replacing and repeating, plainly: the program's and the reference's. -/
namespace Go.Proofs.YtjinkmipkfjblaaDoor
open Go Go.RowKit
theorem drop_isB {s : List UInt8} {i : Nat} (h : i < s.length) : s.drop i = s.getD i 0 :: s.drop (i + 1) := by
  rw [List.drop_eq_getElem_cons h]; simp [List.getD, h]
theorem piece_moreB {s : List UInt8} {f i : Nat} (hf : f ≤ i) (h : i < s.length) : (s.drop f).take (i + 1 - f) = (s.drop f).take (i - f) ++ [s.getD i 0] := by
  exact Lib.piece_more hf (by simp [List.getD, h])
theorem occ_dropB {s a : List UInt8} {i : Nat} (h : Lib.occAt s a i = true) : s.drop i = a ++ s.drop (i + a.length) := by
  rw [occ_isB, decide_eq_true_eq] at h
  conv => lhs; rw [← List.take_append_drop a.length (s.drop i)]
  rw [h, List.drop_drop]
theorem occ_missB {s a : List UInt8} {i : Nat} (hi : i < s.length) (h : Lib.occAt s a i = false) : a.isPrefixOf (s.getD i 0 :: s.drop (i + 1)) = false := by
  rw [← drop_isB hi]; exact h
theorem occ_roomB {s sub : List UInt8} {i : Nat} (h : s.length < i + sub.length) (hi : i ≤ s.length) : Lib.occAt s sub i = false := by
  rw [occ_isB, decide_eq_false_iff_not]
  intro e
  have := congrArg List.length e
  rw [List.length_take, List.length_drop] at this
  omega
theorem occ_len {s sub : List UInt8} {i : Nat} (hi : i ≤ s.length) (h : Lib.occAt s sub i = true) : i + sub.length ≤ s.length := by
  rcases Nat.lt_or_ge s.length (i + sub.length) with h1 | h1
  · rw [occ_roomB h1 hi] at h; cases h
  · exact h1
theorem at_M {s what : List UInt8} {i : Int} {K : Bool → Prop} (hs : s.length ≤ 1000000) (hw : what.length ≤ 1000000) (h0 : 0 ≤ i) (h1 : i ≤ s.length) (h : K (Lib.occAt s what i.toNat)) : M_smithyref11_at s what i K := by
  refine ⟨by simp only [In]; omega, fun _ => by simp only [In]; omega, fun e => ?_, ?_⟩
  · rw [decide_eq_true_eq] at e; omega
  · have e3 : (i + (what.length : Int)).toNat - i.toNat = what.length := by omega
    rw [e3, ← occ_isB]
    by_cases e : (what.length : Int) ≤ (s.length : Int) - i
    · rw [decide_eq_true e]; exact h
    · rw [decide_eq_false e, Bool.false_and]
      rw [occ_roomB (by omega) (by omega)] at h; exact h
/-- how many are taken -/
def numP (most : Int) (c : Nat) : Nat := if most < 0 then c else min most.toNat c
theorem num_M {most : Int} {c : Nat} {J : Int → Prop} (h : J (numP most c : Nat)) : ((0 : Int) ≤ most → J (if most < (c : Int) then most else (c : Int))) ∧ (¬ ((0 : Int) ≤ most) → J (c : Int)) := by
  unfold numP at h
  refine ⟨fun e => ?_, fun e => ?_⟩
  · rw [if_neg (by omega)] at h
    refine (congrArg J ?_).mp h
    split <;> omega
  · rw [if_pos (by omega)] at h; exact h
theorem numP_le (most : Int) (c : Nat) : numP most c ≤ c := by unfold numP; split <;> omega
def splP (s a : List UInt8) (most : Int) : List (List UInt8) × Er := if a = [] then ([], .e 3) else if 1024 ≤ numP most (Lib.count s a) then ([], .e 7) else (Lib.splitK a 0 (numP most (Lib.count s a)) s, .ok)
theorem split_M {s a : List UInt8} {most : Int} {K : List (List UInt8) → Er → Prop} (hs : s.length ≤ 1000000) (h : K (splP s a most).1 (splP s a most).2) : M_str_Split s a most K := by
  unfold splP at h
  refine ⟨fun e => by rw [if_pos e] at h; exact h, fun e => ⟨by omega, List.length_pos_iff.2 e, ?_⟩⟩
  rw [if_neg e] at h
  change ∃ J1 : Int → Prop, _
  have hc : Lib.countB ⟨⟨s⟩⟩ ⟨⟨a⟩⟩ = Lib.count s a := rfl
  have hle := cnt_le e s
  have hpos := List.length_pos_iff.2 e
  have hle2 := Nat.le_mul_of_pos_right (Lib.count s a) hpos
  have hn := numP_le most (Lib.count s a)
  refine ⟨fun x => x = (numP most (Lib.count s a) : Nat), num_M (J := fun x => x = (numP most (Lib.count s a) : Nat)) rfl, ?_⟩
  rintro _ rfl
  refine ⟨fun e2 => by rw [if_pos (by omega)] at h; exact h, fun e2 => ?_⟩
  rw [if_neg (by omega)] at h
  refine ⟨by simp only [In]; omega, by omega, hpos, by omega, by omega, ?_⟩
  rw [show splitN a s ((numP most (Lib.count s a) : Int) + 1).toNat = Lib.splitK a 0 (numP most (Lib.count s a)) s by
    unfold splitN
    rw [show min ((numP most (Lib.count s a) : Int) + 1).toNat (s.length + 1) - 1 = numP most (Lib.count s a) by omega]]
  exact h
theorem isB_e3 : isB (.e 3) 104 = true := by decide
theorem isB_e7 : isB (.e 7) 108 = true := by decide
theorem isB_ok : isB .ok 0 = true := by decide
theorem rsplit_M {s a : List UInt8} {most : Int} {K : List (List UInt8) → Int → Prop} (hs : s.length ≤ 1000000) (ha : a.length ≤ 1000000) (h : ∀ c, isB (splP s a most).2 c = true → K (splP s a most).1 c) : M_smithyref11_Split s a most K := by
  unfold splP at h
  refine ⟨fun e => by rw [if_pos e] at h; exact h _ isB_e3, fun e => ?_⟩
  rw [if_neg e] at h
  have hpos := List.length_pos_iff.2 e
  have hle := cnt_le e s
  have hle2 := Nat.le_mul_of_pos_right (Lib.count s a) hpos
  generalize hkk : (if most < 0 then s.length + 1 else most.toNat) = kk
  have hcap : Lib.splitK a 0 kk s = Lib.splitK a 0 (numP most (Lib.count s a)) s := by
    rw [spl_cap e, ← hkk]
    unfold numP
    split
    · rw [show min (s.length + 1) (Lib.count s a) = Lib.count s a by omega]
    · rfl
  have hlen := spl_len e (numP most (Lib.count s a)) s
  have hn := numP_le most (Lib.count s a)
  refine ⟨fun l from_ cuts i => 0 ≤ from_ ∧ from_ ≤ i ∧ i ≤ s.length ∧ 0 ≤ cuts ∧ cuts ≤ i ∧ (l.length : Int) = cuts ∧ (most < 0 ∨ cuts ≤ most) ∧ Lib.splitK a 0 kk s = l ++ preC ((s.drop from_.toNat).take (i.toNat - from_.toNat)) (Lib.splitK a 0 (kk - cuts.toNat) (s.drop i.toNat)), fun _ _ _ i => s.length - i.toNat, ⟨by omega, by omega, by omega, by omega, by omega, by simp, by omega, by simp [preC_nil]⟩, fun l from_ cuts i ⟨a0, a1, a2, a3, a4, a5, a6, a7⟩ => ⟨fun hlt => at_M hs ha (by omega) (by omega) ⟨fun hq => ?_, fun hq => ?_⟩, fun hge => ?_⟩⟩
  · rw [Bool.and_eq_true, Bool.or_eq_true, decide_eq_true_eq, decide_eq_true_eq] at hq
    have hr := occ_len (by omega) hq.1
    refine ⟨by omega, by simp only [List.length_singleton]; omega, by simp only [In]; omega, by simp only [In]; omega, ⟨by omega, by omega, by omega, by omega, by omega, by simp; omega, by omega, ?_⟩, by dsimp only; omega⟩
    obtain ⟨k, hk⟩ : ∃ k, kk - cuts.toNat = k + 1 := ⟨kk - cuts.toNat - 1, by split at hkk <;> omega⟩
    rw [a7, hk, occ_dropB hq.1, spl_hit e, show kk - (cuts + 1).toNat = k by omega, show (i + (a.length : Int)).toNat = i.toNat + a.length by omega, Nat.sub_self, List.take_zero, preC_nil]
    simp [preC]
  · refine ⟨by simp only [In]; omega, ⟨by omega, by omega, by omega, by omega, by omega, by omega, by omega, ?_⟩, by dsimp only; omega⟩
    have hi : i.toNat < s.length := by omega
    have hm : Lib.splitK a 0 (kk - cuts.toNat) (s.drop i.toNat) = preC [s.getD i.toNat 0] (Lib.splitK a 0 (kk - cuts.toNat) (s.drop (i.toNat + 1))) := by
      rw [drop_isB hi]
      by_cases ho : Lib.occAt s a i.toNat = true
      · rw [ho, Bool.true_and, Bool.or_eq_false_iff, decide_eq_false_iff_not, decide_eq_false_iff_not] at hq
        rw [show kk - cuts.toNat = 0 by split at hkk <;> omega]
        rfl
      · exact spl_miss (occ_missB hi (by simpa using ho)) _
    rw [a7, hm, preC_pre, show (i + 1).toNat = i.toNat + 1 by omega, piece_moreB (by omega) hi]
  · have hd : s.drop i.toNat = [] := List.drop_eq_nil_of_le (by omega)
    rw [List.take_of_length_le (by rw [List.length_drop]; omega), hd, spl_none (index_nilB a e)] at a7
    rw [hcap] at a7
    have e9 : l ++ [s.drop from_.toNat] = Lib.splitK a 0 (numP most (Lib.count s a)) s := by rw [a7]; simp [preC]
    have hlen2 := congrArg List.length e9
    rw [List.length_append, List.length_singleton] at hlen2
    refine ⟨by omega, by simp only [List.length_singleton]; omega, ?_⟩
    rw [e9]
    intro _
    refine ⟨fun e2 => ?_, fun e2 => ?_⟩
    · rw [if_pos (by omega)] at h; exact h _ isB_e7
    · rw [if_neg (by omega)] at h; exact h _ isB_ok
def joinP (o : List UInt8) (l : List (List UInt8)) : List UInt8 × Er := if 1024 < (Lib.join l o).length then ([], .e 7) else (Lib.join l o, .ok)
theorem join_M {o : List UInt8} {l : List (List UInt8)} {K : List UInt8 → Er → Prop} (hl : l.length ≤ 1000000) (ho : o.length ≤ 1000000) (hx : ∀ x ∈ l, x.length ≤ 1000000) (h : K (joinP o l).1 (joinP o l).2) : M_str_Join o l K := by
  unfold joinP at h
  intro _
  refine ⟨fun n i => 0 ≤ i ∧ i ≤ l.length ∧ n = ((Lib.join (l.take i.toNat) o).length : Nat) ∧ n ≤ 1024, fun _ i => l.length - i.toNat, ⟨by omega, by omega, by simp [Lib.join_nil], by omega⟩, fun n i ⟨a0, a1, a2, a3⟩ => ⟨fun hlt => ?_, fun hge => ?_⟩⟩
  · have hj := congrArg List.length (join_take (l := l) (o := o) (i := i.toNat) (by omega))
    have hxi := hx _ (getD_memB (l := l) (k := i.toNat) (by omega))
    simp only [List.length_append] at hj
    refine ⟨by omega, fun n2 => n2 = n + (if i.toNat = 0 then ([] : List UInt8) else o).length, ⟨fun e => ⟨by simp only [In]; omega, by rw [if_neg (by omega)]⟩, fun e => by rw [if_pos (by omega)]; simp⟩, ?_⟩
    rintro _ rfl
    have ho2 : (if i.toNat = 0 then ([] : List UInt8) else o).length ≤ 1000000 := by split <;> simp [ho]
    refine ⟨by simp only [In]; omega, fun e => ?_, fun e => ⟨by simp only [In]; omega, ⟨by omega, by omega, ?_, by omega⟩, by dsimp only; omega⟩⟩
    · have := join_le (l := l) (o := o) (i := i.toNat + 1) (j := l.length) (by omega) (Nat.le_refl _)
      rw [List.take_length] at this
      rw [if_pos (by omega)] at h; exact h
    · rw [show (i + 1).toNat = i.toNat + 1 by omega]; omega
  · rw [show i.toNat = l.length by omega, List.take_length] at a2
    rw [if_neg (by omega)] at h
    exact ⟨by omega, by omega, h⟩
theorem rjoin_M {o : List UInt8} {l : List (List UInt8)} {K : List UInt8 → Int → Prop} (hl : l.length ≤ 1000000) (ho : o.length ≤ 1000000) (hx : ∀ x ∈ l, x.length ≤ 1000000) (h : ∀ c, isB (joinP o l).2 c = true → K (joinP o l).1 c) : M_smithyref11_Join o l K := by
  unfold joinP at h
  intro _
  refine ⟨fun b i => 0 ≤ i ∧ i ≤ l.length ∧ b = Lib.join (l.take i.toNat) o ∧ b.length ≤ 1024, fun _ i => l.length - i.toNat, ⟨by omega, by omega, by simp [Lib.join_nil], by simp⟩, fun b i ⟨a0, a1, a2, a3⟩ => ⟨fun hlt => ?_, fun hge => ?_⟩⟩
  · have hj := join_take (l := l) (o := o) (i := i.toNat) (by omega)
    have hxi := hx _ (getD_memB (l := l) (k := i.toNat) (by omega))
    refine ⟨fun n2 => n2 = b ++ (if i.toNat = 0 then ([] : List UInt8) else o), ⟨fun e => ⟨by omega, by rw [if_neg (by omega)]⟩, fun e => by rw [if_pos (by omega)]; simp⟩, ?_⟩
    rintro _ rfl
    have ho2 : (if i.toNat = 0 then ([] : List UInt8) else o).length ≤ 1000000 := by split <;> simp [ho]
    rw [a2, ← hj, ← a2]
    refine ⟨by omega, by rw [List.length_append]; omega, fun e => ?_, fun e => ⟨by simp only [In]; omega, ⟨by omega, by omega, ?_, by omega⟩, by dsimp only; omega⟩⟩
    · have := join_le (l := l) (o := o) (i := i.toNat + 1) (j := l.length) (by omega) (Nat.le_refl _)
      rw [List.take_length] at this
      rw [if_pos (by omega)] at h; exact h _ isB_e7
    · rw [show (i + 1).toNat = i.toNat + 1 by omega]
  · rw [show i.toNat = l.length by omega, List.take_length] at a2
    rw [a2] at a3
    rw [if_neg (by omega)] at h
    rw [a2]
    exact h _ isB_ok
/-! replacing -/
def insK (b : List UInt8) : Nat → List UInt8 → List UInt8
  | 0, s => s
  | _ + 1, [] => b
  | k + 1, c :: s => b ++ c :: insK b k s
theorem insK_nil (b : List UInt8) (k : Nat) : insK b k [] = if 0 < k then b else [] := by cases k <;> simp [insK]
theorem insK_cons (b : List UInt8) (k : Nat) (c : UInt8) (s : List UInt8) : insK b k (c :: s) = (if 0 < k then b else []) ++ c :: insK b (k - 1) s := by cases k <;> simp [insK]
theorem insK_len (b : List UInt8) : ∀ (k : Nat) (s : List UInt8), k ≤ s.length + 1 → (insK b k s).length = s.length + k * b.length
  | 0, s, _ => by simp [insK]
  | k + 1, [], h => by
    have : k = 0 := by simpa using h
    subst this; simp [insK]
  | k + 1, c :: s, h => by
    have ih := insK_len b k s (by simpa using h)
    simp only [insK, List.length_append, List.length_cons, ih, Nat.add_mul]
    omega
def cntP (s a : List UInt8) : Nat := if a = [] then s.length + 1 else Lib.count s a
theorem count_M {s a : List UInt8} {K : Int → Prop} (hs : s.length ≤ 1000000) (h : K (cntP s a : Nat)) : M_str_Count s a K := by
  unfold cntP at h
  refine ⟨fun e => ?_, fun e => ?_⟩
  · rw [if_pos e] at h
    exact ⟨by simp only [In]; omega, h⟩
  · rw [if_neg e] at h
    exact ⟨by omega, List.length_pos_iff.2 e, h⟩
def rplT (s a b : List UInt8) (m : Nat) : List UInt8 := if a = [] then insK b m s else Lib.replaceK a b m s
def rplP (s a b : List UInt8) (most : Int) : List UInt8 × Er := if 1024 < (rplT s a b (numP most (cntP s a))).length then ([], .e 7) else (rplT s a b (numP most (cntP s a)), .ok)
theorem cntP_le (s a : List UInt8) : cntP s a * a.length ≤ s.length ∧ cntP s a ≤ s.length + 1 := by
  unfold cntP
  split
  · rename_i e; subst e; simp
  · rename_i e
    have h := cnt_le e s
    have h2 := Nat.le_mul_of_pos_right (Lib.count s a) (List.length_pos_iff.2 e)
    exact ⟨h, by omega⟩
theorem rplT_len (s a b : List UInt8) {m : Nat} (h : m ≤ cntP s a) : (rplT s a b m).length + m * a.length = s.length + m * b.length := by
  unfold rplT cntP at *
  split
  · rename_i e
    subst e
    rw [if_pos rfl] at h
    rw [insK_len b m s h]; simp
  · rename_i e
    rw [if_neg e] at h
    exact rpl_len e b m s h
theorem room_iff {r m l : Nat} (hr : r ≤ 1024) : (decide ((0 : Int) < (l : Int)) && decide (((1024 : Int) - (r : Int)) / (l : Int) < (m : Int))) = decide (1024 < r + m * l) := by
  by_cases h0 : l = 0
  · subst h0; simp; omega
  · rw [decide_eq_true (show (0 : Int) < (l : Int) by omega), Bool.true_and]
    rw [Bool.eq_iff_iff, decide_eq_true_eq, decide_eq_true_eq, Int.ediv_lt_iff_lt_mul (by omega)]
    rw [show ((m : Int) * (l : Int)) = ((m * l : Nat) : Int) by simp]
    omega
theorem replace_M {s a b : List UInt8} {most : Int} {K : List UInt8 → Er → Prop} (hs : s.length ≤ 1000000) (ha : a.length ≤ 1000000) (hb : b.length ≤ 1000000) (h : K (rplP s a b most).1 (rplP s a b most).2) : M_str_Replace s a b most K := by
  unfold rplP at h
  refine count_M hs ?_
  have hn := numP_le most (cntP s a)
  have hc := cntP_le s a
  have hlen := rplT_len s a b hn
  refine ⟨fun x => x = (numP most (cntP s a) : Nat), num_M (J := fun x => x = (numP most (cntP s a) : Nat)) rfl, ?_⟩
  rintro _ rfl
  generalize numP most (cntP s a) = m at *
  have hma : m * a.length ≤ s.length := Nat.le_trans (Nat.mul_le_mul_right _ hn) hc.1
  have hmb : m * b.length ≤ 1000001 * 1000000 := Nat.mul_le_mul (by omega) hb
  have e1 : ((m : Int) * (a.length : Int)) = ((m * a.length : Nat) : Int) := by simp
  obtain ⟨r, hr⟩ : ∃ r : Nat, s.length = r + m * a.length := ⟨s.length - m * a.length, by omega⟩
  have e2 : (s.length : Int) - ((m : Int) * (a.length : Int)) = (r : Int) := by rw [e1]; omega
  rw [e2, e1]
  generalize hT : rplT s a b m = T at *
  have hTl : T.length = r + m * b.length := by omega
  have hma2 : m * a.length ≤ 1000000 := by omega
  have hr2 : r ≤ 1000000 := by omega
  generalize m * a.length = ma at *
  refine ⟨by simp only [In]; omega, by simp only [In]; omega, fun _ _ => by simp only [In]; omega, fun _ _ => by simp only [In]; omega, fun _ _ => by simp only [In]; omega, fun f1 f2 => ?_, ?_⟩
  · rw [decide_eq_false_iff_not] at f1
    rw [decide_eq_true_eq] at f2
    exact ⟨by omega, f2, by simp only [In]; omega⟩
  have hq : (decide ((1024 : Int) < (r : Int)) || ((decide ((0 : Int) < (b.length : Int))) && decide (((1024 : Int) - (r : Int)) / (b.length : Int) < (m : Int)))) = decide (1024 < T.length) := by
    rw [hTl]
    by_cases h9 : r ≤ 1024
    · rw [decide_eq_false (show ¬ (1024 : Int) < (r : Int) by omega), Bool.false_or, room_iff h9]
    · rw [decide_eq_true (show (1024 : Int) < (r : Int) by omega), Bool.true_or, decide_eq_true (by omega)]
  rw [hq]
  refine ⟨fun f => ?_, fun f => ?_⟩
  · rw [decide_eq_true_eq] at f
    rw [if_pos f] at h; exact h
  rw [decide_eq_false_iff_not] at f
  rw [if_neg f] at h
  refine ⟨fun e => ?_, fun e => ?_⟩
  · refine ⟨by omega, List.length_pos_iff.2 e, ?_, ?_⟩
    · have h1 : Lib.countB ⟨⟨s⟩⟩ ⟨⟨a⟩⟩ ≤ 1000001 := by
        have : Lib.countB ⟨⟨s⟩⟩ ⟨⟨a⟩⟩ = cntP s a := by unfold cntP; rw [if_neg e]
        omega
      have h2 : Lib.countB ⟨⟨s⟩⟩ ⟨⟨a⟩⟩ * b.length ≤ 1000001 * 1000000 := Nat.mul_le_mul h1 hb
      omega
    · rw [replace_isB e (by omega) (by unfold cntP at hn; rw [if_neg e] at hn; omega), Int.toNat_natCast]
      rw [show Lib.replaceK a b m s = T by rw [← hT]; unfold rplT; rw [if_neg e]]
      exact h
  · subst e
    have hT2 : T = insK b m s := by rw [← hT]; unfold rplT; rw [if_pos rfl]
    have hn2 : m ≤ s.length + 1 := by unfold cntP at hn; rw [if_pos rfl] at hn; exact hn
    refine ⟨fun i b1 => (0 ≤ i ∧ i ≤ s.length ∧ T = b1 ++ insK b (m - i.toNat) (s.drop i.toNat)) ∨ (i = s.length + 1 ∧ b1 = T), fun i _ => s.length + 1 - i.toNat, .inl ⟨by omega, by omega, by simp [hT2]⟩, fun i b1 hI => ⟨fun hlt => ?_, fun hge => ?_⟩⟩
    · rcases hI with ⟨a0, a1, a2⟩ | ⟨a0, _⟩
      rotate_left
      · omega
      have hl2 := congrArg List.length a2
      rw [List.length_append] at hl2
      by_cases hi : i.toNat < s.length
      · rw [drop_isB hi, insK_cons] at a2
        refine ⟨fun x => T = x ++ insK b (m - i.toNat - 1) (s.drop (i.toNat + 1)) , ⟨fun x => T = x ++ s.getD i.toNat 0 :: insK b (m - i.toNat - 1) (s.drop (i.toNat + 1)), ⟨fun f1 => ⟨by omega, ?_⟩, fun f1 => ?_⟩, fun x hx => ⟨fun _ => ⟨by omega, ?_, ?_⟩, fun f => absurd (by omega) f⟩⟩, fun x hx => ⟨by simp only [In]; omega, ⟨.inl ⟨by omega, by omega, ?_⟩, by dsimp only; omega⟩⟩⟩
        · rw [if_pos (by omega)] at a2
          rw [a2]; simp
        · rw [if_neg (by omega)] at a2
          rw [a2]; simp
        · have := congrArg List.length hx
          rw [List.length_append] at this
          simp only [List.length_singleton]; omega
        · rw [hx]; simp
        · rw [hx, show (i + 1).toNat = i.toNat + 1 by omega, show m - (i.toNat + 1) = m - i.toNat - 1 by omega]
      · rw [List.drop_eq_nil_of_le (by omega), insK_nil] at a2
        refine ⟨fun x => x = T, ⟨fun x => x = T, ⟨fun f1 => ⟨by omega, ?_⟩, fun f1 => ?_⟩, fun x hx => ⟨fun f => absurd f (by omega), fun f => hx⟩⟩, fun x hx => ⟨by simp only [In]; omega, ⟨.inr ⟨by omega, hx⟩, by dsimp only; omega⟩⟩⟩
        · rw [if_pos (by omega)] at a2
          exact a2.symm
        · rw [if_neg (by omega)] at a2
          rw [a2]; simp
    · rcases hI with ⟨a0, a1, a2⟩ | ⟨a0, a1⟩
      · exact absurd a1 hge
      · rw [a1]; exact h
theorem rreplace_M {s a b : List UInt8} {most : Int} {K : List UInt8 → Int → Prop} (hs : s.length ≤ 1000000) (ha : a.length ≤ 1000000) (hb : b.length ≤ 1000000) (h : ∀ c, isB (rplP s a b most).2 c = true → K (rplP s a b most).1 c) : M_smithyref11_Replace s a b most K := by
  unfold rplP at h
  generalize hkk : (if most < 0 then s.length + 1 else most.toNat) = kk
  have hc := cntP_le s a
  have hT : rplT s a b kk = rplT s a b (numP most (cntP s a)) := by
    unfold rplT numP cntP at *
    by_cases e : a = []
    · rw [if_pos e, if_pos e, if_pos e, ← hkk]
      by_cases hm : most < 0
      · rw [if_pos hm, if_pos hm]
      · rw [if_neg hm, if_neg hm]
        have : ∀ (k : Nat) (s : List UInt8), insK b k s = insK b (min k (s.length + 1)) s := by
          intro k
          induction k with
          | zero => intro s; simp
          | succ k ih =>
            intro s
            cases s with
            | nil => rw [insK_nil, insK_nil]; simp
            | cons c s =>
              rw [show min (k + 1) ((c :: s).length + 1) = min k (s.length + 1) + 1 by simp only [List.length_cons]; omega]
              simp only [insK]
              rw [ih s]
        exact this _ _
    · rw [if_neg e, if_neg e, if_neg e, rpl_cap e, ← hkk]
      rw [if_neg e] at hc
      split
      · rw [show min (s.length + 1) (Lib.count s a) = Lib.count s a by omega]
      · rfl
  rw [← hT] at h
  generalize hTT : rplT s a b kk = T at *
  have hbig : 1024 < T.length → K [] 108 := fun f => by rw [if_pos f] at h; exact h _ isB_e7
  have hok : T.length ≤ 1024 → K T 0 := fun f => by rw [if_neg (by omega)] at h; exact h _ isB_ok
  refine ⟨fun x n i => 0 ≤ n ∧ n ≤ i ∧ x.length ≤ 1024 ∧ (most < 0 ∨ n ≤ most) ∧ ((i ≤ s.length ∧ T = x ++ rplT (s.drop i.toNat) a b (kk - n.toNat)) ∨ (i = s.length + 1 ∧ x = T)), fun _ _ i => s.length + 1 - i.toNat, ⟨by omega, by omega, by simp, by omega, .inl ⟨by omega, by simp [hTT]⟩⟩, fun x n i ⟨a0, a1, a2, a3, a4⟩ => ⟨fun hle => ?_, fun hgt => ?_⟩⟩
  · rcases a4 with ⟨_, a4⟩ | ⟨a4, _⟩
    rotate_left
    · omega
    have hnk : (decide (most < (0 : Int)) || decide (n < most)) = decide (0 < kk - n.toNat) := by
      rw [Bool.eq_iff_iff, Bool.or_eq_true, decide_eq_true_eq, decide_eq_true_eq, decide_eq_true_eq]
      split at hkk <;> omega
    rw [hnk]
    refine ⟨fun y n2 => 0 ≤ n2 ∧ n2 ≤ i + 1 ∧ y.length ≤ 2000000 ∧ (most < 0 ∨ n2 ≤ most) ∧ ((i < s.length ∧ T = y ++ s.getD i.toNat 0 :: rplT (s.drop (i.toNat + 1)) a b (kk - n2.toNat)) ∨ (i = s.length ∧ y = T)), ⟨fun q => q = (decide (0 < kk - n.toNat) && Lib.occAt s a i.toNat), ⟨fun f => at_M hs ha (by omega) hle (by rw [f, Bool.true_and]), fun f => by rw [f, Bool.false_and]⟩, ?_⟩, ?_⟩
    · rintro _ rfl
      have hq : ((((decide (0 < kk - n.toNat) && Lib.occAt s a i.toNat) && ((!decide (a = ([] : List UInt8))) || (decide (i ≤ (s.length : Int))))) && (!((!decide (a = ([] : List UInt8))) && (decide (i = (s.length : Int)))))) = (decide (0 < kk - n.toNat) && Lib.occAt s a i.toNat)) := by
        rw [decide_eq_true hle, Bool.or_true, Bool.and_true]
        by_cases e : a = []
        · rw [decide_eq_true e]; simp
        · by_cases f : i = s.length
          · rw [occ_roomB (by have := List.length_pos_iff.2 e; omega) (by omega)]; simp
          · rw [decide_eq_false f]; simp
      rw [hq]
      refine ⟨fun f => ?_, fun f => ?_⟩
      · rw [Bool.and_eq_true, decide_eq_true_eq] at f
        obtain ⟨k, hk⟩ : ∃ k, kk - n.toNat = k + 1 := ⟨kk - n.toNat - 1, by omega⟩
        have hmn : most < 0 ∨ n + 1 ≤ most := by split at hkk <;> omega
        refine ⟨by omega, by simp only [In]; omega, fun e => ?_, fun e => ?_⟩
        · have hr := occ_len (by omega) f.2
          have hpos := List.length_pos_iff.2 e
          have e5 : T = (x ++ b) ++ rplT (s.drop (i.toNat + a.length)) a b k := by
            rw [a4, hk, occ_dropB f.2]
            unfold rplT
            rw [if_neg e, if_neg e, rpl_hit e, List.append_assoc]
          refine ⟨by simp only [In]; omega, fun e6 => hbig ?_, fun e6 => ⟨⟨by omega, by omega, by omega, by omega, .inl ⟨by omega, ?_⟩⟩, by dsimp only; omega⟩⟩
          · rw [e5, List.length_append]; omega
          · rw [show (i + (a.length : Int)).toNat = i.toNat + a.length by omega, show kk - (n + 1).toNat = k by omega]; exact e5
        · refine ⟨by omega, by omega, by simp only [List.length_append]; omega, by omega, ?_⟩
          unfold rplT at a4 ⊢
          rw [if_pos e] at a4
          rw [if_pos e]
          by_cases hi : i.toNat < s.length
          · rw [drop_isB hi, insK_cons, if_pos (by omega)] at a4
            exact .inl ⟨by omega, by rw [a4, show kk - (n + 1).toNat = kk - n.toNat - 1 by omega]; simp⟩
          · rw [List.drop_eq_nil_of_le (by omega), insK_nil, if_pos (by omega)] at a4
            exact .inr ⟨by omega, a4.symm⟩
      · refine ⟨by omega, by omega, by omega, by omega, ?_⟩
        unfold rplT at a4 ⊢
        by_cases e : a = []
        · rw [if_pos e] at a4
          rw [if_pos e]
          have ho : Lib.occAt s a i.toNat = true := by rw [occ_isB, e]; simp
          rw [ho, Bool.and_true, decide_eq_false_iff_not] at f
          by_cases hi : i.toNat < s.length
          · rw [drop_isB hi, insK_cons, if_neg (by omega)] at a4
            exact .inl ⟨by omega, by rw [a4, show kk - n.toNat - 1 = kk - n.toNat by omega]; simp⟩
          · rw [List.drop_eq_nil_of_le (by omega), insK_nil, if_neg (by omega)] at a4
            exact .inr ⟨by omega, by rw [a4]; simp⟩
        · rw [if_neg e] at a4
          rw [if_neg e]
          by_cases hi : i.toNat < s.length
          · refine .inl ⟨by omega, ?_⟩
            by_cases ho : Lib.occAt s a i.toNat = true
            · rw [ho, Bool.and_true, decide_eq_false_iff_not] at f
              rw [show kk - n.toNat = 0 by omega, drop_isB hi] at a4
              rw [show kk - n.toNat = 0 by omega]
              exact a4
            · rw [drop_isB hi, rpl_miss b (occ_missB hi (by simpa using ho))] at a4
              exact a4
          · rw [List.drop_eq_nil_of_le (by omega), rpl_nil e, List.append_nil] at a4
            exact .inr ⟨by omega, a4.symm⟩
    · rintro y n2 ⟨c0, c1, c2, c3, c4⟩
      rcases c4 with ⟨c4, c5⟩ | ⟨c4, c5⟩
      · refine ⟨fun z => z = y ++ [s.getD i.toNat 0], ⟨fun f => ⟨by omega, by simp only [List.length_singleton]; omega, rfl⟩, fun f => absurd c4 f⟩, ?_⟩
        rintro _ rfl
        refine ⟨by simp only [In]; omega, fun f => hbig ?_, fun f => ⟨⟨c0, by omega, by omega, c3, .inl ⟨by omega, ?_⟩⟩, by dsimp only; omega⟩⟩
        · rw [c5]
          simp only [List.length_append, List.length_cons, List.length_nil] at f ⊢
          omega
        · rw [c5, show (i + 1).toNat = i.toNat + 1 by omega]; simp
      · refine ⟨fun z => z = y, ⟨fun f => absurd f (by omega), fun f => rfl⟩, ?_⟩
        rintro _ rfl
        refine ⟨by simp only [In]; omega, fun f => hbig (by rw [← c5]; omega), fun f => ⟨⟨c0, by omega, by omega, c3, .inr ⟨by omega, c5⟩⟩, by dsimp only; omega⟩⟩
  · rcases a4 with ⟨a4, _⟩ | ⟨a4, a5⟩
    · exact absurd a4 hgt
    · rw [a5] at a2 ⊢
      exact hok a2
theorem rcount_M {s a : List UInt8} {K : Int → Prop} (hs : s.length ≤ 1000000) (ha : a.length ≤ 1000000) (h : K (cntP s a : Nat)) : M_smithyref11_Count s a K := by
  unfold cntP at h
  refine ⟨fun e => ?_, fun e => ?_⟩
  · rw [if_pos e] at h
    exact ⟨by simp only [In]; omega, h⟩
  rw [if_neg e] at h
  have hpos := List.length_pos_iff.2 e
  refine ⟨fun n i => 0 ≤ n ∧ n ≤ i ∧ i ≤ s.length ∧ (Lib.count s a : Int) = n + Lib.count (s.drop i.toNat) a, fun _ i => s.length - i.toNat, ⟨by omega, by omega, by omega, by simp⟩, fun n i ⟨a0, a1, a2, a3⟩ => ⟨fun hlt => at_M hs ha (by omega) (by omega) ⟨fun f => ?_, fun f => ?_⟩, fun hge => ?_⟩⟩
  · have hr := occ_len (by omega) f
    refine ⟨by simp only [In]; omega, by simp only [In]; omega, ⟨by omega, by omega, by omega, ?_⟩, by dsimp only; omega⟩
    rw [a3, occ_dropB f, cnt_hit e, show (i + (a.length : Int)).toNat = i.toNat + a.length by omega]
    omega
  · have hi : i.toNat < s.length := by omega
    refine ⟨by simp only [In]; omega, ⟨by omega, by omega, by omega, ?_⟩, by dsimp only; omega⟩
    rw [a3, drop_isB hi, cnt_miss e (occ_missB hi f), show (i + 1).toNat = i.toNat + 1 by omega]
  · rw [List.drop_eq_nil_of_le (by omega), cnt_nil e] at a3
    rw [a3] at h
    simpa using h
/-! repeating -/
def repP (s : List UInt8) (n : Int) : List UInt8 × Er := if n < 1 ∨ s = [] then ([], .ok) else if (1024 : Int) / (s.length : Int) < n then ([], .e 7) else (Lib.repeatL s n.toNat, .ok)
theorem repP_room {s : List UInt8} {n : Int} (hn : 1 ≤ n) (hs : s ≠ []) : ((1024 : Int) / (s.length : Int) < n) ↔ 1024 < n.toNat * s.length := by
  have hpos := List.length_pos_iff.2 hs
  rw [Int.ediv_lt_iff_lt_mul (by omega)]
  obtain ⟨k, rfl⟩ : ∃ k : Nat, n = (k : Int) := ⟨n.toNat, by omega⟩
  rw [show ((k : Int) * (s.length : Int)) = ((k * s.length : Nat) : Int) by simp, Int.toNat_natCast]
  omega
theorem repeat_M {s : List UInt8} {n : Int} {K : List UInt8 → Er → Prop} (hs : s.length ≤ 1000000) (hn : n ≤ 9223372036854775807) (h : K (repP s n).1 (repP s n).2) : M_str_Repeat s n K := by
  unfold repP at h
  have hq : (decide (n < (1 : Int)) || decide (s = ([] : List UInt8))) = decide (n < 1 ∨ s = []) := by rw [Bool.decide_or]
  unfold M_str_Repeat
  rw [hq]
  refine ⟨fun f => ?_, fun f => ?_⟩
  · rw [decide_eq_true_eq] at f
    rw [if_pos f] at h; exact h
  · rw [decide_eq_false_iff_not] at f
    rw [if_neg f] at h
    have hne : s ≠ [] := fun e => f (.inr e)
    have hn1 : 1 ≤ n := by have : ¬ n < 1 := fun e => f (.inl e); omega
    have hpos := List.length_pos_iff.2 hne
    refine ⟨⟨by omega, by omega, by simp only [In]; omega⟩, fun e => by rw [if_pos e] at h; exact h, fun e => ?_⟩
    rw [if_neg e] at h
    rw [repP_room hn1 hne] at e
    exact ⟨by omega, hn, by rw [Nat.mul_comm]; omega, h⟩
theorem rrepeat_M {s : List UInt8} {n : Int} {K : List UInt8 → Int → Prop} (hs : s.length ≤ 1000000) (hn : n ≤ 9223372036854775807) (h : ∀ c, isB (repP s n).2 c = true → K (repP s n).1 c) : M_smithyref11_Repeat s n K := by
  unfold repP at h
  have hq : (decide (n < (1 : Int)) || decide (s = ([] : List UInt8))) = decide (n < 1 ∨ s = []) := by rw [Bool.decide_or]
  unfold M_smithyref11_Repeat
  rw [hq]
  refine ⟨fun f => ?_, fun f => ?_⟩
  · rw [decide_eq_true_eq] at f
    rw [if_pos f] at h; exact h _ isB_ok
  · rw [decide_eq_false_iff_not] at f
    rw [if_neg f] at h
    have hne : s ≠ [] := fun e => f (.inr e)
    have hn1 : 1 ≤ n := by have : ¬ n < 1 := fun e => f (.inl e); omega
    have hpos := List.length_pos_iff.2 hne
    refine ⟨⟨by omega, by omega, by simp only [In]; omega⟩, fun e => by rw [if_pos e] at h; exact h _ isB_e7, fun e => ?_⟩
    rw [if_neg e] at h
    rw [repP_room hn1 hne] at e
    refine ⟨fun b i => 0 ≤ i ∧ i ≤ n ∧ b = Lib.repeatL s i.toNat, fun _ i => (n - i).toNat, ⟨by omega, by omega, rfl⟩, fun b i ⟨a0, a1, a2⟩ => ⟨fun hlt => ?_, fun hge => ?_⟩⟩
    · have hl := congrArg List.length a2
      rw [Lib.repeatL_length] at hl
      have h3 : i.toNat * s.length ≤ n.toNat * s.length := Nat.mul_le_mul_right _ (by omega)
      refine ⟨by omega, by simp only [In]; omega, ⟨by omega, by omega, ?_⟩, by dsimp only; omega⟩
      rw [show (i + 1).toNat = i.toNat + 1 by omega, Lib.repeatL_add, ← a2, Lib.repeatL_one]
    · rw [a2, show i = n by omega]
      exact h _ isB_ok
end Go.Proofs.YtjinkmipkfjblaaDoor


 /- The chapter's other tools, plainly: words, strips, cuts, finding, turning, digits. -/
namespace Go.Proofs.YtjinkmipkfjblaaDoor
open Go Go.RowKit
def blanks : List UInt8 := [32, 9, 10, 13, 11, 12]
def isBl (c : UInt8) : Bool := blanks.contains c
theorem idx_is (l : List UInt8) (c : UInt8) : decide ((0 : Int) ≤ Lib.indexByte l c) = l.contains c := (Lib.contains_iff_indexByte l c).symm
theorem u8_back (c : UInt8) : ((c.toNat : Int)).toNat.toUInt8 = c := by simp
theorem blank_is (c : UInt8) : (decide ((c.toNat : Int) = (32 : Int)) || (decide ((9 : Int) ≤ (c.toNat : Int)) && decide ((c.toNat : Int) ≤ (13 : Int)))) = isBl c := by
  have h : ∀ n : Fin 256, (decide (((UInt8.ofNat n.val).toNat : Int) = (32 : Int)) || (decide ((9 : Int) ≤ ((UInt8.ofNat n.val).toNat : Int)) && decide (((UInt8.ofNat n.val).toNat : Int) ≤ (13 : Int)))) = isBl (UInt8.ofNat n.val) := by decide +kernel
  have := h ⟨c.toNat, c.toNat_lt⟩
  simpa using this
theorem idxb_M {l : List UInt8} {c : UInt8} {K : Int → Prop} (h : K (Lib.indexByte l c)) : M_strings_IndexByte l (c.toNat : Int) K := by
  unfold M_strings_IndexByte
  rw [u8_back]; exact h
/-! words -/
def wrd : List UInt8 → List UInt8 → List (List UInt8)
  | cur, [] => if cur = [] then [] else [cur]
  | cur, c :: s => if isBl c then (if cur = [] then [] else [cur]) ++ wrd [] s else wrd (cur ++ [c]) s
def wordsP (s : List UInt8) : List (List UInt8) := wrd [] s
theorem words_M {s : List UInt8} {K : List (List UInt8) → Prop} (hs : s.length ≤ 1000000) (h : K (wordsP s)) : M_str_Words s K := by
  refine ⟨fun l from_ i => 0 ≤ from_ ∧ from_ ≤ i ∧ i ≤ s.length + 1 ∧ l.length ≤ i ∧ (i ≤ s.length → wordsP s = l ++ wrd ((s.drop from_.toNat).take (i.toNat - from_.toNat)) (s.drop i.toNat)) ∧ (i = s.length + 1 → l = wordsP s), fun _ _ i => s.length + 1 - i.toNat, ⟨by omega, by omega, by omega, by simp, by simp [wordsP], fun e => absurd e (by omega)⟩, fun l from_ i ⟨a0, a1, a2, a3, a4, a5⟩ => ⟨fun hlt => ?_, fun hge => ?_⟩⟩
  · have a4 := a4 hlt
    have hp0 : (from_ < i) ↔ (s.drop from_.toNat).take (i.toNat - from_.toNat) ≠ [] := by
      constructor
      · intro hf e
        have := congrArg List.length e
        rw [List.length_take, List.length_drop, List.length_nil] at this
        omega
      · intro hf
        rcases Int.lt_or_le from_ i with h1 | h1
        · exact h1
        · exact absurd (by rw [show i.toNat - from_.toNat = 0 by omega, List.take_zero]) hf
    refine ⟨fun l2 f2 => (i < s.length ∧ isBl (s.getD i.toNat 0) = false ∧ l2 = l ∧ f2 = from_) ∨ ((i = s.length ∨ isBl (s.getD i.toNat 0) = true) ∧ l2 = l ++ (if (s.drop from_.toNat).take (i.toNat - from_.toNat) = [] then [] else [(s.drop from_.toNat).take (i.toNat - from_.toNat)]) ∧ f2 = i + 1), ⟨fun q => q = (decide (i < s.length) && !isBl (s.getD i.toNat 0)), ⟨fun f => ⟨by rw [decide_eq_true_eq] at f; omega, ?_⟩, fun f => by rw [f]; rfl⟩, ?_⟩, ?_⟩
    · rw [f, Bool.true_and]
      refine idxb_M ?_
      show decide (Lib.indexByte blanks (s.getD i.toNat 0) < (0 : Int)) = !(blanks.contains (s.getD i.toNat 0))
      rw [← idx_is, ← decide_not]
      congr 1
      rw [eq_iff_iff]; omega
    · rintro _ rfl
      refine ⟨fun f => ?_, fun f => ⟨fun l3 => l3 = l ++ (if (s.drop from_.toNat).take (i.toNat - from_.toNat) = [] then [] else [(s.drop from_.toNat).take (i.toNat - from_.toNat)]), ⟨fun g => ⟨by omega, by simp only [List.length_singleton]; omega, by rw [if_neg (hp0.1 g)]⟩, fun g => ?_⟩, ?_⟩⟩
      · rw [Bool.and_eq_true, decide_eq_true_eq, Bool.not_eq_true'] at f
        exact .inl ⟨f.1, f.2, rfl, rfl⟩
      · rw [if_pos (by rcases Classical.em ((s.drop from_.toNat).take (i.toNat - from_.toNat) = []) with h1 | h1; exact h1; exact absurd (hp0.2 h1) g), List.append_nil]
      · rintro _ rfl
        refine ⟨by simp only [In]; omega, .inr ⟨?_, rfl, rfl⟩⟩
        rw [Bool.and_eq_false_iff, decide_eq_false_iff_not, Bool.not_eq_false'] at f
        rcases f with f | f
        · exact .inl (by omega)
        · exact .inr f
    · rintro l2 f2 (⟨g1, g2, rfl, rfl⟩ | ⟨g1, rfl, rfl⟩)
      · refine ⟨by simp only [In]; omega, ⟨by omega, by omega, by omega, by omega, fun _ => ?_, fun e => absurd e (by omega)⟩, by dsimp only; omega⟩
        rw [a4, drop_isB (show i.toNat < s.length by omega), wrd, g2, if_neg (by decide), show (i + 1).toNat = i.toNat + 1 by omega, piece_moreB (by omega) (by omega)]
      · refine ⟨by simp only [In]; omega, ⟨by omega, by omega, by omega, ?_, fun hi => ?_, fun hi => ?_⟩, by dsimp only; omega⟩
        · rw [List.length_append]; split <;> simp <;> omega
        · have g2 : isBl (s.getD i.toNat 0) = true := by rcases g1 with g1 | g1; omega; exact g1
          rw [a4, drop_isB (show i.toNat < s.length by omega), wrd, if_pos g2, Nat.sub_self, List.take_zero, show (i + 1).toNat = i.toNat + 1 by omega, List.append_assoc]
        · rw [a4, List.drop_eq_nil_of_le (show s.length ≤ i.toNat by omega), wrd]
  · rw [a5 (by omega)]; exact h
theorem rwords_M {s : List UInt8} {K : List (List UInt8) → Prop} (hs : s.length ≤ 1000000) (h : K (wordsP s)) : M_smithyref11_Words s K := by
  refine ⟨fun l from_ i => -1 ≤ from_ ∧ from_ < i + (if from_ < 0 then 1 else 0) ∧ 0 ≤ i ∧ i ≤ s.length + 1 ∧ l.length ≤ i ∧ (i ≤ s.length → wordsP s = l ++ wrd (if from_ < 0 then [] else (s.drop from_.toNat).take (i.toNat - from_.toNat)) (s.drop i.toNat)) ∧ (i = s.length + 1 → l = wordsP s), fun _ _ i => s.length + 1 - i.toNat, ⟨by omega, by split <;> omega, by omega, by omega, by simp, by simp [wordsP], fun e => absurd e (by omega)⟩, fun l from_ i ⟨a0, a1, ai, a2, a3, a4, a5⟩ => ⟨fun hlt => ?_, fun hge => ?_⟩⟩
  · have a4 := a4 hlt
    refine ⟨fun l2 f2 => -1 ≤ f2 ∧ f2 < i + 1 + (if f2 < 0 then 1 else 0) ∧ l2.length ≤ i + 1 ∧ (i < s.length → wordsP s = l2 ++ wrd (if f2 < 0 then [] else (s.drop f2.toNat).take (i.toNat + 1 - f2.toNat)) (s.drop (i.toNat + 1))) ∧ (i = s.length → l2 = wordsP s), ⟨fun q => q = (decide (i < s.length) && !isBl (s.getD i.toNat 0)), ⟨fun f => ⟨by rw [decide_eq_true_eq] at f; omega, ?_⟩, fun f => by rw [f]; rfl⟩, ?_⟩, ?_⟩
    · unfold M_smithyref11_blank
      rw [f, Bool.true_and, blank_is]
    · rintro _ rfl
      refine ⟨fun f3 => f3 = if (decide (i < s.length) && !isBl (s.getD i.toNat 0)) = true ∧ from_ < 0 then i else from_, ⟨fun f => ?_, fun f => ?_⟩, ?_⟩
      · rw [Bool.and_eq_true, decide_eq_true_eq] at f
        rw [if_pos f]
      · rw [if_neg]
        intro g
        rw [g.1, decide_eq_true g.2] at f
        cases f
      rintro _ rfl
      by_cases g : (decide (i < s.length) && !isBl (s.getD i.toNat 0)) = true
      · rw [g]
        refine ⟨fun f => (by cases f), fun _ => ?_⟩
        rw [Bool.and_eq_true, decide_eq_true_eq, Bool.not_eq_true'] at g
        have e1 := drop_isB (show i.toNat < s.length by omega)
        have e2 := piece_moreB (s := s) (f := from_.toNat) (i := i.toNat)
        rw [e1, wrd, if_neg (by rw [g.2]; decide)] at a4
        by_cases hf : from_ < 0
        · rw [if_pos ⟨rfl, hf⟩]
          rw [if_pos hf] at a4
          refine ⟨by omega, by split <;> omega, by omega, fun _ => ?_, fun e => absurd e (by omega)⟩
          rw [a4, if_neg (by omega), show i.toNat + 1 - i.toNat = 1 by omega, e1]
          rfl
        · rw [if_neg (fun e => hf e.2)]
          rw [if_neg hf] at a4 a1
          refine ⟨by omega, by split <;> omega, by omega, fun _ => ?_, fun e => absurd e (by omega)⟩
          rw [a4, if_neg hf, e2 (by omega) (by omega)]
      · rw [Bool.not_eq_true] at g
        rw [g, if_neg (fun e => by cases e.1)]
        rw [Bool.and_eq_false_iff, decide_eq_false_iff_not, Bool.not_eq_false'] at g
        have hc : (if from_ < 0 then [] else (s.drop from_.toNat).take (i.toNat - from_.toNat)) = ([] : List UInt8) ↔ from_ < 0 := by
          split
          · rename_i hf; simp [hf]
          · rename_i hf
            rw [if_neg hf] at a1
            constructor
            · intro e
              have := congrArg List.length e
              rw [List.length_take, List.length_drop, List.length_nil] at this
              omega
            · intro e; exact absurd e hf
        have a6 : wordsP s = l ++ (if from_ < 0 then [] else [(s.drop from_.toNat).take (i.toNat - from_.toNat)]) ++ (if i < s.length then wrd [] (s.drop (i.toNat + 1)) else []) := by
          rw [a4]
          by_cases hi : i < s.length
          · rw [drop_isB (show i.toNat < s.length by omega), wrd, if_pos (by rcases g with g | g; exact absurd hi g; exact g), if_pos hi, List.append_assoc]
            congr 2
            by_cases hf : from_ < 0
            · rw [if_pos hf, if_pos hf]; rfl
            · rw [if_neg (fun e => hf (hc.1 e)), if_neg hf, if_neg hf]
          · rw [List.drop_eq_nil_of_le (show s.length ≤ i.toNat by omega), wrd, if_neg hi, List.append_nil]
            congr 1
            by_cases hf : from_ < 0
            · rw [if_pos hf, if_pos hf]; rfl
            · rw [if_neg (fun e => hf (hc.1 e)), if_neg hf, if_neg hf]
        refine ⟨fun f => ?_, fun f => ?_⟩
        · rw [Bool.not_false, Bool.true_and, decide_eq_true_eq] at f
          rw [if_neg (by omega)] at a6
          rw [if_neg (by omega)] at a1
          refine ⟨by omega, by simp only [List.length_singleton]; omega, by omega, by rw [if_pos (by omega)]; omega, by simp; omega, fun hi => ?_, fun hi => ?_⟩
          · rw [a6, if_pos hi, if_pos (by omega)]
          · rw [a6, if_neg (by omega), List.append_nil]
        · rw [Bool.not_false, Bool.true_and, decide_eq_false_iff_not] at f
          rw [if_pos (by omega), List.append_nil] at a6
          refine ⟨by omega, by rw [if_pos (by omega)]; omega, by omega, fun hi => ?_, fun hi => ?_⟩
          · rw [a6, if_pos hi, if_pos (by omega)]
          · rw [a6, if_neg (by omega), List.append_nil]
    · rintro l2 f2 ⟨g1, g2, g3, g4, g5⟩
      refine ⟨by simp only [In]; omega, ⟨g1, by omega, by omega, by omega, by omega, fun hi => ?_, fun hi => g5 (by omega)⟩, by dsimp only; omega⟩
      rw [show (i + 1).toNat = i.toNat + 1 by omega]
      exact g4 (by omega)
  · rw [a5 (by omega)]; exact h
/-! stripping -/
def stripSet (bytes : List UInt8) : List UInt8 := if bytes = [] then blanks else bytes
def lstrip (p : UInt8 → Bool) (left : Bool) (s : List UInt8) : List UInt8 := if left then s.dropWhile p else s
def rstrip (p : UInt8 → Bool) (right : Bool) (s : List UInt8) : List UInt8 := if right then (s.reverse.dropWhile p).reverse else s
def stripP (bytes : List UInt8) (left right : Bool) (s : List UInt8) : List UInt8 := rstrip (stripSet bytes).contains right (lstrip (stripSet bytes).contains left s)
theorem lstrip_step (p : UInt8 → Bool) (left : Bool) (s : List UInt8) : lstrip p left s = if (left && !decide (s = [])) = true ∧ p (s.getD 0 0) = true then lstrip p left (s.drop 1) else s := by
  unfold lstrip
  cases left with
  | false => simp
  | true =>
    cases s with
    | nil => simp
    | cons c s => cases h : p c <;> simp [h]
theorem last_is {s : List UInt8} (h : s ≠ []) : s = s.take (s.length - 1) ++ [s.getD (s.length - 1) 0] := by
  have hp := List.length_pos_iff.2 h
  conv => lhs; rw [← List.take_append_drop (s.length - 1) s]
  congr 1
  rw [drop_isB (by omega), List.drop_eq_nil_of_le (by omega)]
theorem rstrip_step (p : UInt8 → Bool) (right : Bool) (s : List UInt8) : rstrip p right s = if (right && !decide (s = [])) = true ∧ p (s.getD (s.length - 1) 0) = true then rstrip p right (s.take (s.length - 1)) else s := by
  unfold rstrip
  cases right with
  | false => simp
  | true =>
    by_cases h : s = []
    · subst h; simp
    · have e := last_is h
      generalize s.take (s.length - 1) = t at *
      generalize s.getD (s.length - 1) 0 = c at *
      subst e
      cases hc : p c <;> simp [hc]
theorem strip_M {s bytes : List UInt8} {left right : Bool} {K : List UInt8 → Prop} (hs : s.length ≤ 1000000) (h : K (stripP bytes left right s)) : M_str_Strip s bytes left right K := by
  refine ⟨fun b => b = stripSet bytes, ⟨fun e => by unfold stripSet; rw [if_pos e]; rfl, fun e => by unfold stripSet; rw [if_neg e]⟩, ?_⟩
  rintro _ rfl
  unfold stripP at h
  refine ⟨fun s2 => s2.length ≤ s.length ∧ lstrip (stripSet bytes).contains left s2 = lstrip (stripSet bytes).contains left s, fun s2 => s2.length, ⟨Nat.le_refl _, rfl⟩, fun s2 ⟨a0, a1⟩ => ?_⟩
  have hst := lstrip_step (stripSet bytes).contains left s2
  refine ⟨fun q => q = ((left && !decide (s2 = [])) && (stripSet bytes).contains (s2.getD 0 0)), ⟨fun f => ?_, fun f => by rw [f]; rfl⟩, ?_⟩
  · have hne : s2 ≠ [] := by simp at f; exact f.2
    have hp := List.length_pos_iff.2 hne
    refine ⟨by omega, ?_⟩
    rw [f, Bool.true_and]
    exact idxb_M (idx_is _ _)
  rintro _ rfl
  refine ⟨fun f => ?_, fun f => ?_⟩
  · rw [Bool.and_eq_true] at f
    have hne : s2 ≠ [] := by have := f.1; simp at this; exact this.2
    have hp := List.length_pos_iff.2 hne
    refine ⟨by omega, ⟨by rw [List.length_drop]; omega, ?_⟩, by dsimp only; rw [List.length_drop]; omega⟩
    rw [if_pos f] at hst
    rw [← hst, a1]
  · rw [if_neg (by rw [← Bool.and_eq_true, f]; decide)] at hst
    rw [hst] at a1
    rw [← a1] at h
    refine ⟨fun s3 => s3.length ≤ s.length ∧ rstrip (stripSet bytes).contains right s3 = rstrip (stripSet bytes).contains right s2, fun s3 => s3.length, ⟨a0, rfl⟩, fun s3 ⟨b0, b1⟩ => ?_⟩
    have hst := rstrip_step (stripSet bytes).contains right s3
    have el : ((s3.length : Int) - 1).toNat = s3.length - 1 := by omega
    refine ⟨fun q => q = ((right && !decide (s3 = [])) && (stripSet bytes).contains (s3.getD (s3.length - 1) 0)), ⟨fun f => ?_, fun f => by rw [f]; rfl⟩, ?_⟩
    · have hne : s3 ≠ [] := by simp at f; exact f.2
      have hp := List.length_pos_iff.2 hne
      refine ⟨by simp only [In]; omega, by omega, ?_⟩
      rw [f, Bool.true_and, el]
      exact idxb_M (idx_is _ _)
    rintro _ rfl
    refine ⟨fun f => ?_, fun f => ?_⟩
    · rw [Bool.and_eq_true] at f
      have hne : s3 ≠ [] := by have := f.1; simp at this; exact this.2
      have hp := List.length_pos_iff.2 hne
      refine ⟨by simp only [In]; omega, by omega, ⟨by rw [List.length_take]; omega, ?_⟩, by dsimp only; rw [List.length_take]; omega⟩
      rw [if_pos f] at hst
      rw [el, ← hst, b1]
    · rw [if_neg (by rw [← Bool.and_eq_true, f]; decide)] at hst
      rw [hst] at b1
      rw [b1]; exact h
theorem rstrips_M {c : UInt8} {bytes : List UInt8} {K : Bool → Prop} (hb : bytes.length ≤ 1000000) (h : K ((stripSet bytes).contains c)) : M_smithyref11_strips (c.toNat : Int) bytes K := by
  refine ⟨fun e => ?_, fun e => ?_⟩
  · unfold stripSet at h
    rw [if_pos e] at h
    unfold M_smithyref11_blank
    rw [blank_is]; exact h
  · unfold stripSet at h
    rw [if_neg e] at h
    refine ⟨fun i => 0 ≤ i ∧ i ≤ bytes.length ∧ ∀ j, j < i.toNat → bytes.getD j 0 ≠ c, fun i => bytes.length - i.toNat, ⟨by omega, by omega, fun j hj => by simp at hj⟩, fun i ⟨a0, a1, a2⟩ => ⟨fun hlt => ⟨by omega, fun f => ?_, fun f => ⟨by simp only [In]; omega, ⟨by omega, by omega, fun j hj => ?_⟩, by dsimp only; omega⟩⟩, fun hge => ?_⟩⟩
    · rw [Int.ofNat_inj, UInt8.toNat_inj] at f
      have : bytes.contains c = true := by
        rw [List.contains_iff_mem, ← f]
        simp [List.getD, show i.toNat < bytes.length by omega]
      rw [this] at h; exact h
    · by_cases e2 : j = i.toNat
      · rw [e2]; intro e3; exact f (by rw [e3])
      · exact a2 j (by omega)
    · have : bytes.contains c = false := by
        rw [← Bool.not_eq_true, List.contains_iff_mem]
        intro hm
        obtain ⟨j, hj, e3⟩ := List.getElem_of_mem hm
        exact a2 j (by omega) (by simp [List.getD, hj, e3])
      rw [this] at h; exact h
theorem rstrip_M {s bytes : List UInt8} {left right : Bool} {K : List UInt8 → Prop} (hs : s.length ≤ 1000000) (hb : bytes.length ≤ 1000000) (h : K (stripP bytes left right s)) : M_smithyref11_Strip s bytes left right K := by
  unfold stripP at h
  generalize hp : (stripSet bytes).contains = p at *
  refine ⟨fun a => 0 ≤ a ∧ a ≤ s.length ∧ lstrip p left (s.drop a.toNat) = lstrip p left s, fun a => s.length - a.toNat, ⟨by omega, by omega, by simp⟩, fun a ⟨a0, a1, a2⟩ => ?_⟩
  have hst := lstrip_step p left (s.drop a.toNat)
  have hnil : decide (s.drop a.toNat = []) = !decide (a < (s.length : Int)) := by
    rw [← decide_not]; congr 1
    rw [List.drop_eq_nil_iff, eq_iff_iff]; omega
  rw [hnil, Bool.not_not] at hst
  have hg : (s.drop a.toNat).getD 0 0 = s.getD a.toNat 0 := by simp [List.getD]
  rw [hg, List.drop_drop] at hst
  refine ⟨fun q => q = ((left && decide (a < (s.length : Int))) && p (s.getD a.toNat 0)), ⟨fun f => ?_, fun f => by rw [f]; rfl⟩, ?_⟩
  · rw [f, Bool.true_and]
    rw [Bool.and_eq_true, decide_eq_true_eq] at f
    exact ⟨by omega, rstrips_M hb (by rw [hp])⟩
  rintro _ rfl
  refine ⟨fun f => ?_, fun f => ?_⟩
  · rw [Bool.and_eq_true] at f
    have f3 := f.1
    rw [Bool.and_eq_true, decide_eq_true_eq] at f3
    refine ⟨by simp only [In]; omega, ⟨by omega, by omega, ?_⟩, by dsimp only; omega⟩
    rw [if_pos f] at hst
    rw [show (a + 1).toNat = a.toNat + 1 by omega, ← hst, a2]
  · rw [if_neg (by rw [← Bool.and_eq_true, f]; decide)] at hst
    rw [hst] at a2
    rw [← a2] at h
    refine ⟨fun b => a ≤ b ∧ b ≤ s.length ∧ rstrip p right ((s.drop a.toNat).take (b.toNat - a.toNat)) = rstrip p right (s.drop a.toNat), fun b => b.toNat, ⟨by omega, by omega, by rw [List.take_of_length_le (by rw [List.length_drop]; omega)]⟩, fun b ⟨b0, b1, b2⟩ => ?_⟩
    have hst := rstrip_step p right ((s.drop a.toNat).take (b.toNat - a.toNat))
    have hlen : ((s.drop a.toNat).take (b.toNat - a.toNat)).length = b.toNat - a.toNat := by rw [List.length_take, List.length_drop]; omega
    have hnil : decide ((s.drop a.toNat).take (b.toNat - a.toNat) = []) = !decide (a < b) := by
      rw [← decide_not]; congr 1
      rw [← List.length_eq_zero_iff, hlen, eq_iff_iff]; omega
    rw [hnil, Bool.not_not, hlen] at hst
    refine ⟨fun q => q = ((right && decide (a < b)) && p (s.getD (b - 1).toNat 0)), ⟨fun f => ?_, fun f => by rw [f]; rfl⟩, ?_⟩
    · rw [f, Bool.true_and]
      rw [Bool.and_eq_true, decide_eq_true_eq] at f
      exact ⟨by simp only [In]; omega, by omega, rstrips_M hb (by rw [hp])⟩
    rintro _ rfl
    have hg : a < b → ((s.drop a.toNat).take (b.toNat - a.toNat)).getD (b.toNat - a.toNat - 1) 0 = s.getD (b - 1).toNat 0 := fun hab => by
      simp only [List.getD, List.getElem?_take, List.getElem?_drop]
      rw [if_pos (by omega), show a.toNat + (b.toNat - a.toNat - 1) = (b - 1).toNat by omega]
    refine ⟨fun f => ?_, fun f => ?_⟩
    · rw [Bool.and_eq_true] at f
      have f3 := f.1
      rw [Bool.and_eq_true, decide_eq_true_eq] at f3
      refine ⟨by simp only [In]; omega, ⟨by omega, by omega, ?_⟩, by dsimp only; omega⟩
      rw [if_pos ⟨f.1, by rw [hg f3.2]; exact f.2⟩, List.take_take, Nat.min_eq_left (by omega)] at hst
      rw [show (b - 1).toNat - a.toNat = b.toNat - a.toNat - 1 by omega, ← hst, b2]
    · rw [if_neg] at hst
      · rw [hst] at b2
        refine ⟨by omega, ?_⟩
        rw [b2]; exact h
      · rintro ⟨f1, f2⟩
        have f3 := f1
        rw [Bool.and_eq_true, decide_eq_true_eq] at f3
        rw [hg f3.2] at f2
        rw [f1, f2] at f; cases f
/-! bounds and finding -/
def bndP (n i : Int) : Int := if i < 0 then (if i < -n then 0 else n + i) else (if n < i then n else i)
theorem bndP_in {n i : Int} (hn : 0 ≤ n) : 0 ≤ bndP n i ∧ bndP n i ≤ n := by unfold bndP; split <;> split <;> omega
theorem bound_MB {n i : Int} {K : Int → Prop} (hn : 0 ≤ n) (hn2 : n ≤ 1000000) (hi : In .i64 i) (h : K (bndP n i)) : M_str_bound n i K := by
  simp only [In] at hi
  refine ⟨fun j => j = if i < 0 then i + n else i, ⟨fun e => ⟨by simp only [In]; omega, by rw [if_pos e]⟩, fun e => by rw [if_neg e]⟩, ?_⟩
  rintro _ rfl
  refine (congrArg K ?_).mp h
  unfold bndP
  repeat' split
  all_goals omega
theorem rbound_MB {n i : Int} {K : Int → Prop} (hn : 0 ≤ n) (hn2 : n ≤ 1000000) (hi : In .i64 i) (h : K (bndP n i)) : M_smithyref11_bound n i K := by
  simp only [In] at hi
  unfold bndP at h
  refine ⟨fun e => ?_, fun e => ?_⟩
  · rw [if_pos e] at h
    refine ⟨by simp only [In]; omega, fun e2 => ?_, fun e2 => ⟨by simp only [In]; omega, ?_⟩⟩
    · rw [if_pos (by omega)] at h; exact h
    · rw [if_neg (by omega)] at h; exact h
  · rw [if_neg e] at h; exact h
def cutA (n i : Int) (has : Bool) : Int := if has then bndP n i else 0
def cutB (n j : Int) (until_ : Bool) : Int := if until_ then bndP n j else n
def cutP (n i j : Int) (has until_ : Bool) : Int × Int := (cutA n i has, if cutA n i has < cutB n j until_ then cutB n j until_ else cutA n i has)
theorem cutP_in {n i j : Int} {has until_ : Bool} (hn : 0 ≤ n) : 0 ≤ (cutP n i j has until_).1 ∧ (cutP n i j has until_).1 ≤ (cutP n i j has until_).2 ∧ (cutP n i j has until_).2 ≤ n := by
  have h1 := bndP_in (i := i) hn
  have h2 := bndP_in (i := j) hn
  have h3 : 0 ≤ cutA n i has ∧ cutA n i has ≤ n := by unfold cutA; split <;> omega
  have h4 : 0 ≤ cutB n j until_ ∧ cutB n j until_ ≤ n := by unfold cutB; split <;> omega
  unfold cutP
  dsimp only
  split <;> omega
theorem cut_M {n i j : Int} {has until_ : Bool} {K : Int → Int → Prop} (hn : 0 ≤ n) (hn2 : n ≤ 1000000) (hi : In .i64 i) (hj : In .i64 j) (h : K (cutP n i j has until_).1 (cutP n i j has until_).2) : M_str_Cut n i j has until_ K := by
  have e0 : (if n < (0 : Int) then (0 : Int) else n) = n := if_neg (by omega)
  unfold M_str_Cut
  rw [e0]
  refine ⟨fun x => x = if has then i else 0, ⟨fun e => ?_, fun e => ?_⟩, ?_⟩
  · rw [Bool.not_eq_true'] at e; rw [e]; rfl
  · rw [Bool.not_eq_false'] at e; rw [e]; rfl
  rintro _ rfl
  refine ⟨fun x => x = if until_ then j else n, ⟨fun e => ?_, fun e => ?_⟩, ?_⟩
  · rw [Bool.not_eq_true'] at e; rw [e]; rfl
  · rw [Bool.not_eq_false'] at e; rw [e]; rfl
  rintro _ rfl
  have e1 : bndP n (if has = true then i else 0) = cutA n i has := by unfold cutA; cases has with
    | true => rfl
    | false => unfold bndP; simp; omega
  have e2 : bndP n (if until_ = true then j else n) = cutB n j until_ := by unfold cutB; cases until_ with
    | true => rfl
    | false => unfold bndP; simp; omega
  refine bound_MB hn hn2 ?_ (bound_MB hn hn2 ?_ ?_)
  · split
    · exact hi
    · simp only [In]; omega
  · split
    · exact hj
    · simp only [In]; omega
  · rw [e1, e2]; exact h
theorem rcut_M {n i j : Int} {has until_ : Bool} {K : Int → Int → Prop} (hn : 0 ≤ n) (hn2 : n ≤ 1000000) (hi : In .i64 i) (hj : In .i64 j) (h : K (cutP n i j has until_).1 (cutP n i j has until_).2) : M_smithyref11_Cut n i j has until_ K := by
  refine rbound_MB hn hn2 hi (rbound_MB hn hn2 hj ?_)
  refine ⟨fun x => x = cutA n i has, ⟨fun e => ?_, fun e => ?_⟩, ?_⟩
  · rw [Bool.not_eq_true'] at e; rw [e]; rfl
  · rw [Bool.not_eq_false'] at e; rw [e]; rfl
  rintro _ rfl
  refine ⟨fun x => x = cutB n j until_, ⟨fun e => ?_, fun e => ?_⟩, ?_⟩
  · rw [Bool.not_eq_true'] at e; rw [e]; rfl
  · rw [Bool.not_eq_false'] at e; rw [e]; rfl
  rintro _ rfl
  exact h
def findP (s what : List UInt8) (i j : Int) : Int :=
  let a := (cutP s.length i j true true).1
  let b := (cutP s.length i j true true).2
  let k := Lib.index ((s.drop a.toNat).take (b.toNat - a.toNat)) what
  if k < 0 then -1 else a + k
theorem find_MB {s what : List UInt8} {i j : Int} {K : Int → Prop} (hs : s.length ≤ 1000000) (hi : In .i64 i) (hj : In .i64 j) (h : K (findP s what i j)) : M_str_Find s what i j K := by
  have hc := cutP_in (n := s.length) (i := i) (j := j) (has := true) (until_ := true) (by omega)
  unfold findP at h
  refine cut_M (by omega) (by omega) hi hj ?_
  generalize (cutP s.length i j true true).1 = a at *
  generalize (cutP s.length i j true true).2 = b at *
  dsimp only at h
  have hl : ((s.drop a.toNat).take (b.toNat - a.toNat)).length ≤ s.length := by rw [List.length_take, List.length_drop]; omega
  have hle := Lib.index_le ((s.drop a.toNat).take (b.toNat - a.toNat)) what
  refine ⟨by omega, by omega, fun e => ?_, fun e => ⟨by simp only [In]; omega, ?_⟩⟩
  · rw [if_pos e] at h; exact h
  · rw [if_neg e] at h; exact h
theorem rfind_MB {s what : List UInt8} {i j : Int} {K : Int → Prop} (hs : s.length ≤ 1000000) (hw : what.length ≤ 1000000) (hi : In .i64 i) (hj : In .i64 j) (h : K (findP s what i j)) : M_smithyref11_Find s what i j K := by
  have hc := cutP_in (n := s.length) (i := i) (j := j) (has := true) (until_ := true) (by omega)
  unfold findP at h
  refine rcut_M (by omega) (by omega) hi hj ?_
  generalize (cutP s.length i j true true).1 = a at *
  generalize (cutP s.length i j true true).2 = b at *
  dsimp only at h
  generalize hp : (s.drop a.toNat).take (b.toNat - a.toNat) = p at *
  have hpl : p.length = b.toNat - a.toNat := by rw [← hp, List.length_take, List.length_drop]; omega
  have hocc : ∀ k : Nat, k + what.length ≤ p.length → Lib.occAt s what (a.toNat + k) = Lib.occAt p what k := fun k hk => by
    rw [occ_isB, occ_isB]
    congr 1
    rw [← hp, List.drop_take, List.drop_drop, List.take_take, Nat.min_eq_left (by omega)]
  refine ⟨fun x => a ≤ x ∧ x ≤ b + 1 ∧ ∀ k : Nat, (k : Int) < x - a → Lib.occAt p what k = false, fun x => (b + 1 - x).toNat, ⟨by omega, by omega, fun k hk => by omega⟩, fun x ⟨a0, a1, a2⟩ => ⟨by simp only [In]; omega, fun hle => at_M hs hw (by omega) (by omega) ⟨fun f => ?_, fun f => ⟨by simp only [In]; omega, ⟨by omega, by omega, fun k hk => ?_⟩, by dsimp only; omega⟩⟩, fun hgt => ?_⟩⟩
  · have e1 : x.toNat = a.toNat + (x - a).toNat := by omega
    rw [e1, hocc _ (by omega)] at f
    have := Lib.index_first (s := p) (sub := what) (i := (x - a).toNat) (by omega) f (fun k hk => a2 k (by omega))
    rw [this, if_neg (by omega)] at h
    rw [show a + ((x - a).toNat : Int) = x by omega] at h
    exact h
  · by_cases e2 : (k : Int) < x - a
    · exact a2 k e2
    · rw [← hocc k (by omega), show a.toNat + k = x.toNat by omega]; exact f
  · have : Lib.index p what = -1 := Lib.index_none fun k hk => by
      by_cases e2 : (k : Int) < x - a
      · exact a2 k e2
      · exact occ_roomB (by omega) hk
    rw [this] at h
    exact h
/-! turning -/
def turnC (first by_ : Int) (c : UInt8) : UInt8 := if first ≤ (c.toNat : Int) ∧ (c.toNat : Int) < first + 26 then UInt8.ofNat ((c.toNat : Int) + by_).toNat else c
theorem turn_set {s b : List UInt8} {f : UInt8 → UInt8} {i : Nat} (hi : i < s.length) (hb : b = (s.take i).map f ++ s.drop i) : b.getD i 0 = s.getD i 0 ∧ b.set i (f (s.getD i 0)) = (s.take (i + 1)).map f ++ s.drop (i + 1) := by
  have hl : ((s.take i).map f).length = i := by rw [List.length_map, List.length_take]; omega
  have h1 : b.getD i 0 = s.getD i 0 := by
    rw [hb]
    simp only [List.getD]
    rw [List.getElem?_append_right (by omega), hl, Nat.sub_self, List.getElem?_drop]; simp
  refine ⟨h1, ?_⟩
  rw [hb, List.set_append_right _ _ (by omega), hl, Nat.sub_self, drop_isB hi, List.set_cons_zero, List.take_succ_eq_append_getElem hi, List.map_append, List.append_assoc]
  simp only [List.map_cons, List.map_nil, List.singleton_append]
  simp [List.getD, hi]
theorem turned_M {s : List UInt8} {first by_ : Int} {K : List UInt8 → Prop} (hs : s.length ≤ 1000000) (hf : 65 ≤ first ∧ first ≤ 97) (hr : 0 ≤ first + by_ ∧ first + by_ ≤ 200) (h : K (s.map (turnC first by_))) : M_str_turned s first by_ K := by
  refine ⟨by simp only [maxLen]; omega, fun i b => 0 ≤ i ∧ i ≤ s.length ∧ b = (s.take i.toNat).map (turnC first by_) ++ s.drop i.toNat, fun i _ => s.length - i.toNat, ⟨by omega, by omega, by simp⟩, fun i b ⟨a0, a1, a2⟩ hbl => ⟨fun hlt => ?_, fun hge => ?_⟩⟩
  · obtain ⟨h1, h2⟩ := turn_set (by omega) a2
    rw [h1]
    have hcl := (s.getD i.toNat 0).toNat_lt
    refine ⟨fun b2 => b2 = (s.take (i.toNat + 1)).map (turnC first by_) ++ s.drop (i.toNat + 1), ⟨by omega, fun _ => by simp only [In]; omega, fun f => ?_, fun f => ?_⟩, ?_⟩
    · rw [Bool.and_eq_true, decide_eq_true_eq, decide_eq_true_eq] at f
      refine ⟨by simp only [In]; omega, by simp only [In]; omega, by omega, by omega, ?_⟩
      rw [← h2]
      unfold turnC
      rw [if_pos f]
    · rw [Bool.and_eq_false_iff, decide_eq_false_iff_not, decide_eq_false_iff_not] at f
      have h3 : turnC first by_ (s.getD i.toNat 0) = s.getD i.toNat 0 := by unfold turnC; rw [if_neg (by omega)]
      rw [h3, ← h1] at h2
      rw [← h2]
      have hib : i.toNat < b.length := by omega
      simp [List.getD, hib]
    · rintro _ rfl
      intro _
      exact ⟨by simp only [In]; omega, ⟨by omega, by omega, by rw [show (i + 1).toNat = i.toNat + 1 by omega]⟩, by dsimp only; omega⟩
  · rw [show i.toNat = s.length by omega, List.take_length, List.drop_length, List.append_nil] at a2
    rw [a2]; exact h
theorem upper_M {s : List UInt8} {K : List UInt8 → Prop} (hs : s.length ≤ 1000000) (h : K (s.map (turnC 97 (-32)))) : M_str_Upper s K := turned_M hs (by omega) (by omega) h
theorem lower_M {s : List UInt8} {K : List UInt8 → Prop} (hs : s.length ≤ 1000000) (h : K (s.map (turnC 65 32))) : M_str_Lower s K := turned_M hs (by omega) (by omega) h
theorem rturn_M {s : List UInt8} {up : Bool} {K : List UInt8 → Prop} (hs : s.length ≤ 1000000) (h : K (s.map (if up then turnC 97 (-32) else turnC 65 32))) : M_smithyref11_Turn s up K := by
  refine ⟨by omega, by simp only [List.length_nil]; omega, ?_⟩
  rw [List.nil_append]
  generalize hg : (if up = true then turnC 97 (-32) else turnC 65 32) = g at *
  refine ⟨fun i b => 0 ≤ i ∧ i ≤ s.length ∧ b = (s.take i.toNat).map g ++ s.drop i.toNat, fun i _ => s.length - i.toNat, ⟨by omega, by omega, by simp⟩, fun i b ⟨a0, a1, a2⟩ hbl => ⟨fun hlt => ?_, fun hge => ?_⟩⟩
  · obtain ⟨h1, h2⟩ := turn_set (by omega) a2
    rw [h1]
    have hcl := (s.getD i.toNat 0).toNat_lt
    have hself : b.set i.toNat (s.getD i.toNat 0) = b := by
      rw [← h1]
      have hib : i.toNat < b.length := by omega
      simp [List.getD, hib]
    refine ⟨fun b2 => b2 = (s.take (i.toNat + 1)).map g ++ s.drop (i.toNat + 1), ⟨fun _ => by omega, fun _ => by omega, fun f => ?_, fun f => ⟨fun _ => by omega, fun _ => by omega, fun f2 => ?_, fun f2 => ?_⟩⟩, ?_⟩
    · rw [Bool.and_eq_true, Bool.and_eq_true, decide_eq_true_eq, decide_eq_true_eq] at f
      refine ⟨by omega, by simp only [In]; omega, by omega, by omega, ?_⟩
      rw [← h2, ← hg, f.1.1]
      show _ = b.set _ (turnC _ _ _)
      unfold turnC
      rw [if_pos (by omega)]
      rfl
    · rw [Bool.and_eq_true, Bool.and_eq_true, decide_eq_true_eq, decide_eq_true_eq, Bool.not_eq_true'] at f2
      refine ⟨by omega, by simp only [In]; omega, by omega, by omega, ?_⟩
      rw [← h2, ← hg, f2.1.1]
      show _ = b.set _ (turnC _ _ _)
      unfold turnC
      rw [if_pos (by omega)]
    · have h3 : g (s.getD i.toNat 0) = s.getD i.toNat 0 := by
        rw [← hg]
        cases up with
        | true =>
          simp only [Bool.true_and, Bool.and_eq_false_iff, decide_eq_false_iff_not] at f
          show turnC _ _ _ = _
          unfold turnC; rw [if_neg (by omega)]
        | false =>
          simp only [Bool.not_false, Bool.true_and, Bool.and_eq_false_iff, decide_eq_false_iff_not] at f2
          show turnC _ _ _ = _
          unfold turnC; rw [if_neg (by omega)]
      rw [h3, hself] at h2
      exact h2
    · rintro _ rfl
      intro _
      exact ⟨by simp only [In]; omega, ⟨by omega, by omega, by rw [show (i + 1).toNat = i.toNat + 1 by omega]⟩, by dsimp only; omega⟩
  · rw [show i.toNat = s.length by omega, List.take_length, List.drop_length, List.append_nil] at a2
    rw [a2]; exact h
/-! digits -/
def isDg (c : UInt8) : Bool := !(decide (((c.toNat : Int)) < (48 : Int)) || decide ((57 : Int) < (c.toNat : Int)))
def digitsP (s : List UInt8) : Bool := s.all isDg && !decide (s = [])
theorem digits_loop {s : List UInt8} {K : Bool → Prop} (hs : s.length ≤ 1000000) (h : K (digitsP s)) : Lp1 (fun (i : Int) k_1 => ((i < (s.length : Int) → (0 ≤ i ∧ i < s.length) ∧
 ((decide (((s.getD i.toNat 0).toNat : Int) < (48 : Int))) = false → (0 ≤ i ∧ i < s.length)) ∧
 ((((decide (((s.getD i.toNat 0).toNat : Int) < (48 : Int))) || (decide ((57 : Int) < ((s.getD i.toNat 0).toNat : Int)))) = true → K false) ∧
 (((decide (((s.getD i.toNat 0).toNat : Int) < (48 : Int))) || (decide ((57 : Int) < ((s.getD i.toNat 0).toNat : Int)))) = false → (In .i64 (i + (1 : Int))) ∧
 k_1 (i + (1 : Int))))) ∧
 (¬ (i < (s.length : Int)) → K (!decide (s = ([] : List UInt8)))))) (0 : Int) := by
  refine ⟨fun i => 0 ≤ i ∧ i ≤ s.length ∧ ∀ j, j < i.toNat → isDg (s.getD j 0) = true, fun i => s.length - i.toNat, ⟨by omega, by omega, fun j hj => by simp at hj⟩, fun i ⟨a0, a1, a2⟩ => ⟨fun hlt => ⟨by omega, fun _ => by omega, fun f => ?_, fun f => ⟨by simp only [In]; omega, ⟨by omega, by omega, fun j hj => ?_⟩, by dsimp only; omega⟩⟩, fun hge => ?_⟩⟩
  · have : digitsP s = false := by
      unfold digitsP
      rw [Bool.and_eq_false_iff]
      refine .inl ?_
      rw [List.all_eq_false]
      refine ⟨s.getD i.toNat 0, by simp [List.getD, show i.toNat < s.length by omega], ?_⟩
      unfold isDg
      rw [f]; decide
    rw [this] at h; exact h
  · by_cases e : j = i.toNat
    · rw [e]; unfold isDg; rw [f]; rfl
    · exact a2 j (by omega)
  · have : s.all isDg = true := by
      rw [List.all_eq_true]
      intro x hx
      obtain ⟨j, hj, rfl⟩ := List.getElem_of_mem hx
      have := a2 j (by omega)
      simpa [List.getD, hj] using this
    unfold digitsP at h
    rw [this, Bool.true_and] at h; exact h
theorem digits_M {s : List UInt8} {K : Bool → Prop} (hs : s.length ≤ 1000000) (h : K (digitsP s)) : M_str_IsDigits s K := digits_loop hs h
theorem rdigits_M {s : List UInt8} {K : Bool → Prop} (hs : s.length ≤ 1000000) (h : K (digitsP s)) : M_smithyref11_IsDigits s K := digits_loop hs h
end Go.Proofs.YtjinkmipkfjblaaDoor


 /- The chapter's first look, and three laws, plainly: StrCuts, StrParts, StrRooms. -/
namespace Go.Proofs.YtjinkmipkfjblaaDoor
open Go Go.RowKit
theorem sameT_M {a b : List (List UInt8)} {K : Bool → Prop} (ha : a.length ≤ 1000000) (_ : b.length ≤ 1000000) (h : K (decide (a = b))) : M_smithyref_SameTexts a b K := by
  intro _ _
  refine ⟨fun e => ?_, fun e => ?_⟩
  · rw [decide_eq_false (fun e2 => e (by rw [e2]))] at h; exact h
  · have e' : a.length = b.length := by omega
    refine ⟨fun i => 0 ≤ i ∧ i ≤ a.length ∧ ∀ j, j < i.toNat → a.getD j [] = b.getD j [], fun i => a.length - i.toNat, ⟨by omega, by omega, fun j hj => by simp at hj⟩, fun i ⟨a0, a1, a2⟩ => ⟨fun hlt => ⟨by omega, by omega, fun f => ?_, fun f => ⟨by simp only [In]; omega, ⟨by omega, by omega, fun j hj => ?_⟩, by dsimp only; omega⟩⟩, fun hge => ?_⟩⟩
    · rw [decide_eq_false (fun e2 => f (by rw [e2]))] at h; exact h
    · by_cases e3 : j = i.toNat
      · rw [e3]; exact f
      · exact a2 j (by omega)
    · have : a = b := by
        apply List.ext_getElem e'
        intro j h1 h2
        have := a2 j (by omega)
        simpa [List.getD, h1, h2] using this
      rw [decide_eq_true this] at h; exact h
theorem vtexts_MB {l : List (List UInt8)} {most long : Int} {K : Bool → Prop} (hl : most ≤ 1000000) (h : ∀ t : Bool, (t = true → (l.length : Int) ≤ most ∧ ∀ x ∈ l, (x.length : Int) ≤ long) → K t) : M_smithyworld_Texts l most long K := by
  intro _
  refine ⟨fun _ => h false (fun e => by cases e), fun hm => ⟨fun i => 0 ≤ i ∧ i ≤ l.length ∧ ∀ j, j < i.toNat → ((l.getD j []).length : Int) ≤ long, fun i => l.length - i.toNat, ⟨by omega, by omega, by intro j hj; simp at hj⟩, fun i ⟨a0, a1, a2⟩ => ⟨fun hlt => ⟨by omega, fun _ => h false (fun e => by cases e), fun hle => ⟨by simp only [In]; omega, ⟨by omega, by omega, fun j hj => ?_⟩, by dsimp only; omega⟩⟩, fun hge => h true fun _ => ⟨by omega, fun x hx => ?_⟩⟩⟩⟩
  · by_cases e : j = i.toNat
    · rw [e]; omega
    · exact a2 j (by omega)
  · obtain ⟨j, hj, rfl⟩ := List.getElem_of_mem hx
    have := a2 j (by omega)
    simpa [List.getD, hj] using this
theorem in_le {x : Int} (h : -1000 ≤ x ∧ x ≤ 1000) : In .i64 x := by simp only [In]; omega
theorem name_x {K : Bool → Prop} (h : K true) : M_lex_Name [120] K := by
  refine ⟨fun i => i = 0 ∨ i = 1, fun i => (2 - i).toNat, .inl rfl, ?_⟩
  rintro i (rfl | rfl)
  · refine ⟨fun _ => ⟨by decide, ?_⟩, fun f => absurd (by decide) f⟩
    unfold M_lex_letter
    refine ⟨fun q => q = false, ⟨fun f => absurd f (by decide), fun _ => rfl⟩, ?_⟩
    rintro _ rfl
    exact ⟨fun f => (by cases f), fun _ => ⟨by simp only [In]; omega, .inr rfl, by decide⟩⟩
  · refine ⟨fun f => absurd f (by decide), fun _ => ⟨fun q => q = true, ⟨fun _ => ?_, fun f => absurd f (by decide)⟩, ?_⟩⟩
    · unfold M_lex_Words
      intro _ _
      generalize hw : ([([70, 97, 108, 115, 101] : List UInt8), ([78, 111, 110, 101] : List UInt8), ([84, 114, 117, 101] : List UInt8), ([97, 110, 100] : List UInt8), ([98, 114, 101, 97, 107] : List UInt8), ([99, 111, 110, 116, 105, 110, 117, 101] : List UInt8), ([100, 101, 102] : List UInt8), ([101, 108, 105, 102] : List UInt8), ([101, 108, 115, 101] : List UInt8), ([102, 111, 114] : List UInt8), ([105, 102] : List UInt8), ([105, 110] : List UInt8), ([108, 111, 97, 100] : List UInt8), ([110, 111, 116] : List UInt8), ([111, 114] : List UInt8), ([112, 97, 115, 115] : List UInt8), ([114, 101, 116, 117, 114, 110] : List UInt8)] : List (List UInt8)) = W
      have hm : ([120] : List UInt8) ∉ W := by rw [← hw]; decide
      have hl : W.length = 17 := by rw [← hw]; rfl
      refine ⟨fun i => 0 ≤ i ∧ i ≤ 17, fun i => (17 - i).toNat, ⟨by omega, by omega⟩, fun i ⟨a0, a1⟩ => ⟨fun hlt => ⟨by omega, fun f => ?_, fun _ => ⟨by simp only [In]; omega, ⟨by omega, by omega⟩, by dsimp only; omega⟩⟩, fun _ => ?_⟩⟩
      · exact absurd (by rw [f]; exact getD_memB (by omega)) hm
      · rfl
    · rintro _ rfl
      exact h
theorem format_first {K : List UInt8 → Er → Prop} (h : K [49, 45, 50] .ok) : M_str_Format [123, 125, 45, 123, 120, 125] [[49]] [[120]] [[50]] K := by
  intro _ _ _
  have g1 : mget ([] : List (List UInt8 × List UInt8)) [120] = none := rfl
  have g2 : mput ([] : List (List UInt8 × List UInt8)) [120] [50] = [([120], [50])] := by decide
  have g3 : mget ([([120], [50])] : List (List UInt8 × List UInt8)) [120] = some [50] := by decide
  refine ⟨fun i m => (i = 0 ∧ m = []) ∨ (i = 1 ∧ m = [([120], [50])]), fun i _ => (2 - i).toNat, .inl ⟨rfl, rfl⟩, ?_⟩
  rintro i m (⟨rfl, rfl⟩ | ⟨rfl, rfl⟩)
  · refine ⟨fun _ => ⟨fun m => m = [([120], [50])], ⟨by decide, by decide, fun _ => ⟨by decide, by decide, ?_⟩, fun f => absurd f (by decide)⟩, ?_⟩, fun f => absurd (by decide) f⟩
    · exact g2
    · rintro _ rfl
      exact ⟨by simp only [In]; omega, .inr ⟨rfl, rfl⟩, by decide⟩
  refine ⟨fun f => absurd f (by decide), fun _ => ?_⟩
  refine ⟨fun i b n t bad => (i = 0 ∧ b = [] ∧ n = 0 ∧ t = false ∧ bad = false) ∨ (i = 2 ∧ b = [49] ∧ n = 1 ∧ t = false ∧ bad = false) ∨ (i = 3 ∧ b = [49, 45] ∧ n = 1 ∧ t = false ∧ bad = false) ∨ (i = 6 ∧ b = [49, 45, 50] ∧ n = 1 ∧ t = false ∧ bad = false), fun i _ _ _ _ => (6 - i).toNat, .inl ⟨rfl, rfl, rfl, rfl, rfl⟩, ?_⟩
  have pre : ∀ (s p : List UInt8) (K : Bool → Prop), K (decide (p.length ≤ s.length) && decide (s.take p.length = p)) → M_strings_HasPrefix s p K := fun s p K hK => by
    refine ⟨fun f => ?_, ?_⟩
    · rw [decide_eq_true_eq] at f; omega
    · rw [show decide ((p.length : Int) ≤ (s.length : Int)) = decide (p.length ≤ s.length) by congr 1; rw [eq_iff_iff]; omega]
      exact hK
  rintro i b n t bad (⟨rfl, rfl, rfl, rfl, rfl⟩ | ⟨rfl, rfl, rfl, rfl, rfl⟩ | ⟨rfl, rfl, rfl, rfl, rfl⟩ | ⟨rfl, rfl, rfl, rfl, rfl⟩)
  · refine ⟨fun _ => ⟨by decide, ?_⟩, fun f => absurd f (by decide)⟩
    intro _ _
    refine ⟨fun q => q = false, pre _ _ _ ⟨fun f => absurd f (by decide), fun _ => pre _ _ _ (by decide)⟩, ?_⟩
    rintro _ rfl
    refine ⟨fun f => (by cases f), fun _ => ⟨by decide, fun f => absurd f (by decide), fun _ => ⟨by decide, fun f => absurd (by decide) f, fun _ => ?_⟩⟩⟩
    refine ⟨fun f => absurd f (by decide), fun _ => ⟨by decide, ?_⟩⟩
    intro _ _
    refine ⟨fun _ => ?_, fun f => absurd (by decide) f⟩
    intro _ _
    refine ⟨fun f => absurd f (by decide), fun _ => ⟨by decide, by decide, ?_⟩⟩
    exact ⟨in_le (by decide), in_le (by decide), in_le (by decide), fun f => absurd f (by decide), fun _ => ⟨.inr (.inl ⟨by decide, by decide, by decide, rfl, rfl⟩), by decide⟩⟩
  · refine ⟨fun _ => ⟨by decide, ?_⟩, fun f => absurd f (by decide)⟩
    intro _ _
    refine ⟨fun q => q = false, pre _ _ _ ⟨fun f => absurd f (by decide), fun _ => pre _ _ _ (by decide)⟩, ?_⟩
    rintro _ rfl
    refine ⟨fun f => (by cases f), fun _ => ⟨by decide, fun f => absurd f (by decide), fun _ => ⟨by decide, fun _ => ⟨by decide, by decide, ?_⟩, fun f => absurd f (by decide)⟩⟩⟩
    exact ⟨in_le (by decide), fun f => absurd f (by decide), fun _ => ⟨.inr (.inr (.inl ⟨by decide, by decide, rfl, rfl, rfl⟩)), by decide⟩⟩
  · refine ⟨fun _ => ⟨by decide, ?_⟩, fun f => absurd f (by decide)⟩
    intro _ _
    refine ⟨fun q => q = false, pre _ _ _ ⟨fun f => absurd f (by decide), fun _ => pre _ _ _ (by decide)⟩, ?_⟩
    rintro _ rfl
    refine ⟨fun f => (by cases f), fun _ => ⟨by decide, fun f => absurd f (by decide), fun _ => ⟨by decide, fun f => absurd (by decide) f, fun _ => ?_⟩⟩⟩
    refine ⟨fun f => absurd f (by decide), fun _ => ⟨by decide, ?_⟩⟩
    intro _ _
    refine ⟨fun f => absurd f (by decide), fun _ => ?_⟩
    refine digits_M (by decide) ⟨fun f => absurd f (by decide), fun _ => ⟨by decide, fun q => q = false, ⟨fun f => absurd f (by decide), fun _ => ?_⟩, ?_⟩⟩
    · exact name_x rfl
    · rintro _ rfl
      refine ⟨by decide, ?_⟩
      exact ⟨in_le (by decide), in_le (by decide), fun f => absurd f (by decide), fun _ => ⟨.inr (.inr (.inr ⟨by decide, by decide, rfl, rfl, rfl⟩)), by decide⟩⟩
  · exact ⟨fun f => absurd f (by decide), fun _ => ⟨fun f => (by cases f), fun _ => h⟩⟩
theorem sfirst_M {K : Bool → Prop} (h : K true) : M_smithylaw11_first K := by
  have e1 : splP [97, 44, 98, 44, 44, 99] [44] 2 = ([[97], [98], [44, 99]], .ok) := by decide +kernel
  have e2 : cutP 5 (-2) 9 true true = (3, 5) := by decide +kernel
  refine split_M (by decide) (format_first (cut_M (by decide) (by decide) (by simp only [In]; omega) (by simp only [In]; omega) ?_))
  rw [e1, e2]
  refine ⟨fun q => q = true, ⟨fun _ => sameT_M (by decide) (by decide) (by decide), fun f => absurd f (by decide)⟩, ?_⟩
  rintro _ rfl
  exact h
end Go.Proofs.YtjinkmipkfjblaaDoor


 /- StrWords and StrSays, plainly. -/
namespace Go.Proofs.YtjinkmipkfjblaaDoor
open Go Go.RowKit
/-! StrSays -/
theorem splP_len (s a : List UInt8) (most : Int) : (splP s a most).1.length ≤ 1024 := by
  unfold splP
  split
  · simp
  · rename_i e
    split
    · simp
    · dsimp only
      rw [spl_len e]; omega
theorem wrd_len : ∀ (s cur : List UInt8), (wrd cur s).length ≤ s.length + 1
  | [], cur => by rw [wrd]; split <;> simp
  | c :: s, cur => by
    rw [wrd]
    split
    · have := wrd_len s []
      rw [List.length_append]
      split
      · simp only [List.length_nil, List.length_cons]; omega
      · simp only [List.length_cons, List.length_nil]
        have h2 : (wrd [] s).length ≤ s.length + 1 := this
        omega
    · have := wrd_len s (cur ++ [c])
      simp only [List.length_cons]; omega
theorem ssays_ok {s t u : List UInt8} {l : List (List UInt8)} {n k : Int} {a b : Bool} {K : Bool → Prop} (_ : s.length ≤ maxLen) (_ : t.length ≤ maxLen) (_ : u.length ≤ maxLen) (_ : ∀ x ∈ l, x.length ≤ maxLen) (hn : In .i64 n) (hk : In .i64 k) (H : K true) : M_smithylaw11_StrSays s t u l n k a b K := by
  intro _
  refine sfirst_M ⟨fun h => (by cases h), fun _ => ?_⟩
  refine ⟨fun q => q = true ∨ (q = false ∧ s.length ≤ 300 ∧ t.length ≤ 300 ∧ u.length ≤ 300 ∧ (l.length : Int) ≤ 10 ∧ ∀ x ∈ l, (x.length : Int) ≤ 100), ⟨fun _ => .inl rfl, fun h => vtexts_MB (by decide) fun b hb => ?_⟩, ?_⟩
  · simp only [Bool.or_eq_false_iff, decide_eq_false_iff_not] at h
    cases b with
    | false => exact .inl rfl
    | true => exact .inr ⟨rfl, by omega, by omega, by omega, (hb rfl).1, (hb rfl).2⟩
  rintro q (rfl | ⟨rfl, hs, ht, hu, hl, hx⟩)
  · exact ⟨fun _ => H, fun h => by cases h⟩
  refine ⟨fun h => (by cases h), fun _ => ?_⟩
  have hk2 : k ≤ 9223372036854775807 := by simp only [In] at hk; omega
  have hsl := splP_len s t n
  have hx2 : ∀ x ∈ l, x.length ≤ 1000000 := fun x hm => by have := hx x hm; omega
  refine split_M (by omega) (rsplit_M (by omega) (by omega) fun c hc => sameT_M (by omega) (by omega) ?_)
  rw [decide_eq_true (Eq.refl (splP s t n).1)]
  refine ⟨fun q => q = false, ⟨fun f => (by cases f), fun _ => is_M (by rw [hc]; rfl)⟩, ?_⟩
  rintro _ rfl
  refine ⟨fun f => (by cases f), fun _ => join_M (by omega) (by omega) hx2 (rjoin_M (by omega) (by omega) hx2 fun c hc => ?_)⟩
  rw [decide_eq_true (Eq.refl (joinP t l).1)]
  refine ⟨fun q => q = false, ⟨fun f => (by cases f), fun _ => is_M (by rw [hc]; rfl)⟩, ?_⟩
  rintro _ rfl
  refine ⟨fun f => (by cases f), fun _ => replace_M (by omega) (by omega) (by omega) (rreplace_M (by omega) (by omega) (by omega) fun c hc => ?_)⟩
  rw [decide_eq_true (Eq.refl (rplP s t u n).1)]
  refine ⟨fun q => q = false, ⟨fun f => (by cases f), fun _ => is_M (by rw [hc]; rfl)⟩, ?_⟩
  rintro _ rfl
  refine ⟨fun f => (by cases f), fun _ => repeat_M (by omega) hk2 (rrepeat_M (by omega) hk2 fun c hc => ?_)⟩
  rw [decide_eq_true (Eq.refl (repP s k).1)]
  refine ⟨fun q => q = false, ⟨fun f => (by cases f), fun _ => is_M (by rw [hc]; rfl)⟩, ?_⟩
  rintro _ rfl
  refine ⟨fun f => (by cases f), fun _ => cut_M (by omega) (by omega) hn hk (rcut_M (by omega) (by omega) hn hk ?_)⟩
  rw [decide_eq_true (Eq.refl (cutP s.length n k a b).1), decide_eq_true (Eq.refl (cutP s.length n k a b).2)]
  have hwl := wrd_len s []
  have hwl2 : (wordsP s).length ≤ 1000000 := by unfold wordsP; omega
  refine ⟨fun q => q = true, ⟨fun _ => words_M (by omega) (rwords_M (by omega) (sameT_M hwl2 hwl2 (decide_eq_true rfl))), fun f => (by cases f)⟩, ?_⟩
  rintro _ rfl
  refine ⟨fun q => q = true, ⟨fun _ => find_MB (by omega) hn hk (rfind_MB (by omega) (by omega) hn hk (decide_eq_true rfl)), fun f => (by cases f)⟩, ?_⟩
  rintro _ rfl
  refine ⟨fun q => q = true, ⟨fun _ => count_M (by omega) (rcount_M (by omega) (by omega) (decide_eq_true rfl)), fun f => (by cases f)⟩, ?_⟩
  rintro _ rfl
  refine ⟨fun q => q = true, ⟨fun _ => strip_M (by omega) (rstrip_M (by omega) (by omega) (decide_eq_true rfl)), fun f => (by cases f)⟩, ?_⟩
  rintro _ rfl
  refine ⟨fun q => q = true, ⟨fun _ => upper_M (by omega) (rturn_M (by omega) (decide_eq_true rfl)), fun f => (by cases f)⟩, ?_⟩
  rintro _ rfl
  refine ⟨fun q => q = true, ⟨fun _ => lower_M (by omega) (rturn_M (by omega) (decide_eq_true rfl)), fun f => (by cases f)⟩, ?_⟩
  rintro _ rfl
  refine ⟨fun q => q = true, ⟨fun _ => digits_M (by omega) (rdigits_M (by omega) (beq_self_eq_true _)), fun f => (by cases f)⟩, ?_⟩
  rintro _ rfl
  exact H
end Go.Proofs.YtjinkmipkfjblaaDoor


 