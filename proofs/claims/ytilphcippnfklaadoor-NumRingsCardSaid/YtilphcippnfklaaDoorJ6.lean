/- Texts of this claim, joined by a program: GNa, NumR. -/
import Derived.Test.YtilphcippnfklaaDoorJ5
/- Printed by a program (wip/vg): what the functions mean, plainly, and their walks. -/
namespace Go.Proofs.YtilphcippnfklaaDoor
open Go Go.RowKit
attribute [local irreducible] WL WC WX WQ WK WJ Yld Eff Ef0 Fn
def M_num_Num_Digits (a : Int) (m_a : Nat) (K : Int → Prop) : Prop :=
 M_num_Num_Text a m_a (fun (t4 : List UInt8) =>
 M_strings_TrimPrefix t4 ([45] : List UInt8) (fun (t5 : List UInt8) =>
 K (t5.length : Int)))

def M_smithylaw9_NumRings (s : List UInt8) (t : List UInt8) (u : List UInt8) (K : Bool → Prop) : Prop :=
 M_smithylaw9_first (fun (ok : Bool) =>
 (((!ok) = true → K false) ∧
 ((!ok) = false → ((((((decide ((200 : Int) < (s.length : Int))) || (decide ((200 : Int) < (t.length : Int)))) || (decide ((200 : Int) < (u.length : Int)))) || (!ok)) = true → K ok) ∧
 (((((decide ((200 : Int) < (s.length : Int))) || (decide ((200 : Int) < (t.length : Int)))) || (decide ((200 : Int) < (u.length : Int)))) || (!ok)) = false → M_num_Parse s (fun (t430 : Int) (m_t430 : Nat) (t431 : Er) =>
 M_num_Parse t (fun (t480 : Int) (m_t480 : Nat) (t481 : Er) =>
 M_num_Parse u (fun (t530 : Int) (m_t530 : Nat) (t531 : Er) =>
 (((((!decide (t431 = Er.ok)) || (!decide (t481 = Er.ok))) || (!decide (t531 = Er.ok))) = true → K true) ∧
 ((((!decide (t431 = Er.ok)) || (!decide (t481 = Er.ok))) || (!decide (t531 = Er.ok))) = false → M_num_Num_Add t430 m_t430 t480 m_t480 (fun (t68 : Int) (m_t68 : Nat) =>
 M_num_Num_Text t68 m_t68 (fun (t69 : List UInt8) =>
 M_num_Num_Add t480 m_t480 t430 m_t430 (fun (t72 : Int) (m_t72 : Nat) =>
 M_num_Num_Text t72 m_t72 (fun (t73 : List UInt8) =>
 ∃ J1 : Bool → Prop, ((((!decide (t69 = t73)) = true → J1 true) ∧
 ((!decide (t69 = t73)) = false → M_num_Num_Mul t430 m_t430 t480 m_t480 (fun (t78 : Int) (m_t78 : Nat) =>
 M_num_Num_Text t78 m_t78 (fun (t79 : List UInt8) =>
 M_num_Num_Mul t480 m_t480 t430 m_t430 (fun (t82 : Int) (m_t82 : Nat) =>
 M_num_Num_Text t82 m_t82 (fun (t83 : List UInt8) =>
 J1 (!decide (t79 = t83))))))))) ∧
 (∀ q6 : Bool, J1 q6 → ∃ J2 : Bool → Prop, (((q6 = true → J2 true) ∧
 (q6 = false → M_num_Num_Add t430 m_t430 t480 m_t480 (fun (t89 : Int) (m_t89 : Nat) =>
 M_num_Num_Sub t89 m_t89 t480 m_t480 (fun (t91 : Int) (m_t91 : Nat) =>
 M_num_Num_Cmp t91 m_t91 t430 m_t430 (fun (t93 : Int) =>
 J2 (!decide (t93 = (0 : Int))))))))) ∧
 (∀ q7 : Bool, J2 q7 → ∃ J3 : Bool → Prop, (((q7 = true → J3 true) ∧
 (q7 = false → M_num_Num_Add t430 m_t430 t480 m_t480 (fun (t99 : Int) (m_t99 : Nat) =>
 M_num_Num_Mul t99 m_t99 t530 m_t530 (fun (t101 : Int) (m_t101 : Nat) =>
 M_num_Num_Text t101 m_t101 (fun (t102 : List UInt8) =>
 M_num_Num_Mul t430 m_t430 t530 m_t530 (fun (t105 : Int) (m_t105 : Nat) =>
 M_num_Num_Mul t480 m_t480 t530 m_t530 (fun (t108 : Int) (m_t108 : Nat) =>
 M_num_Num_Add t105 m_t105 t108 m_t108 (fun (t109 : Int) (m_t109 : Nat) =>
 M_num_Num_Text t109 m_t109 (fun (t110 : List UInt8) =>
 J3 (!decide (t102 = t110)))))))))))) ∧
 (∀ q8 : Bool, J3 q8 → ∃ J4 : Bool → Prop, (((q8 = true → J4 true) ∧
 (q8 = false → M_num_Num_Mul t430 m_t430 t480 m_t480 (fun (t116 : Int) (m_t116 : Nat) =>
 M_num_Num_Mul t116 m_t116 t530 m_t530 (fun (t118 : Int) (m_t118 : Nat) =>
 M_num_Num_Mul t480 m_t480 t530 m_t530 (fun (t122 : Int) (m_t122 : Nat) =>
 M_num_Num_Mul t430 m_t430 t122 m_t122 (fun (t123 : Int) (m_t123 : Nat) =>
 M_num_Num_Cmp t118 m_t118 t123 m_t123 (fun (t124 : Int) =>
 J4 (!decide (t124 = (0 : Int))))))))))) ∧
 (∀ q9 : Bool, J4 q9 → ((q9 = true → K false) ∧
 (q9 = false → M_num_Num_Div t430 m_t430 t480 m_t480 (fun (t1300 : Int) (m_t1300 : Nat) (t1301 : Bool) =>
 M_num_Num_Mod t430 m_t430 t480 m_t480 (fun (t1360 : Int) (m_t1360 : Nat) (t1361 : Bool) =>
 ((((!t1301) || (!t1361)) = true → M_num_Num_Text t480 m_t480 (fun (t146 : List UInt8) =>
 K (decide (t146 = ([48] : List UInt8))))) ∧
 (((!t1301) || (!t1361)) = false → ∃ J5 : Int → Nat → Bool → Prop, (M_num_Num_Mul t430 m_t430 t480 m_t480 (fun (t151 : Int) (m_t151 : Nat) =>
 M_num_Num_Div t151 m_t151 t480 m_t480 (fun (t1530 : Int) (m_t1530 : Nat) (t1531 : Bool) =>
 J5 t1530 m_t1530 t1531))) ∧
 (∀ t1530 : Int, ∀ m_t1530 : Nat, ∀ t1531 : Bool, J5 t1530 m_t1530 t1531 → M_num_Num_Mul t1300 m_t1300 t480 m_t480 (fun (t158 : Int) (m_t158 : Nat) =>
 M_num_Num_Add t158 m_t158 t1360 m_t1360 (fun (t160 : Int) (m_t160 : Nat) =>
 M_num_Num_Cmp t160 m_t160 t430 m_t430 (fun (t162 : Int) =>
 ∃ J6 : Bool → Prop, (((((decide (t162 = (0 : Int))) && t1531) = true → M_num_Num_Cmp t1530 m_t1530 t430 m_t430 (fun (t170 : Int) =>
 J6 (decide (t170 = (0 : Int))))) ∧
 (((decide (t162 = (0 : Int))) && t1531) = false → J6 false))) ∧
 (∀ q12 : Bool, J6 q12 → ∃ J7 : Bool → Prop, (((q12 = true → M_num_Num_Neg t430 m_t430 (fun (t175 : Int) (m_t175 : Nat) =>
 M_num_Num_Neg t175 m_t175 (fun (t176 : Int) (m_t176 : Nat) =>
 M_num_Num_Cmp t176 m_t176 t430 m_t430 (fun (t178 : Int) =>
 J7 (decide (t178 = (0 : Int))))))) ∧
 (q12 = false → J7 false))) ∧
 (∀ q13 : Bool, J7 q13 → ∃ J8 : Bool → Prop, (((q13 = true → M_num_Num_Sub t430 m_t430 t430 m_t430 (fun (t184 : Int) (m_t184 : Nat) =>
 M_num_Num_Text t184 m_t184 (fun (t185 : List UInt8) =>
 J8 (decide (t185 = ([48] : List UInt8)))))) ∧
 (q13 = false → J8 false))) ∧
 (∀ q14 : Bool, J8 q14 → K q14)))))))))))))))))))))))))))))))

set_option maxHeartbeats 8000000 in
theorem W_num_Num_Digits {w : World} {v_a : Value} {v_a2 : Value} {a : Int} {m_a : Nat} {K : Int → Prop} (ha : Nm w (.agg ⟨[v_a, v_a2]⟩) a m_a) (H : M_num_Num_Digits a m_a K) : Fn Tryd.prog 41 ⟨[.agg ⟨[v_a, v_a2]⟩]⟩ w (fun v w' => w.grownBy w' none ∧ ∃ (r : Int), v = .int .i64 r ∧ K r) := by
  unfold M_num_Num_Digits at H
  refine Fn.enter (by kernel_rfl) Tryd.func41 rfl Tryd.ntmps41 rfl ?_
  refine WC.seq ?_
  refine WC.region ?_
  refine WL.box (us := [v_a, v_a2]) rfl rfl rfl (fun g1 w1 hB1 hg1 hl1 => ?_)
  have gr1 := hg1
  refine WL.y rfl (Yld.pure tab_ok rfl) ?_
  refine WL.nil (WX.then_normal ?_)
  refine WC.seq ?_
  refine WC.region ?_
  refine WL.y rfl (Yld.bagg (vs := [v_a, v_a2]) tab_ok hB1 rfl rfl rfl rfl) ?_
  refine WL.call rfl rfl (W_num_Num_Text (ha.grown gr1) H) ?_
  rintro _ w2 ⟨hg2, t4, rfl, H⟩
  have gr2 := gr_trans gr1 hg2
  refine WL.call rfl rfl (W_strings_TrimPrefix H) ?_
  rintro _ _ ⟨rfl, t5, rfl, H⟩
  refine WL.y rfl (Yld.pure tab_ok rfl) ?_
  refine WL.y rfl (Yld.pure tab_ok rfl) ?_
  refine WL.nil (WX.then_normal ?_)
  refine WC.ret ?_
  exact WX.ret1 rfl rfl ⟨gr2, (t5.length : Int), rfl, H⟩

set_option maxHeartbeats 8000000 in
theorem W_smithylaw9_NumRings {S : List Nat} {w : World} {s : List UInt8} {t : List UInt8} {u : List UInt8} {K : Bool → Prop} (hG : GOK S w) (hS7 : 7 ∈ S) (hS12 : 12 ∈ S) (H : M_smithylaw9_NumRings s t u K) : Fn Tryd.prog 4 ⟨[vs s, vs t, vs u]⟩ w (fun v w' => w.grownBy w' none ∧ ∃ (r : Bool), v = .bool r ∧ K r) := by
  unfold M_smithylaw9_NumRings at H
  refine Fn.enter (by kernel_rfl) Tryd.func4 rfl Tryd.ntmps4 rfl ?_
  refine WC.seq ?_
  refine WC.region ?_
  refine WL.y rfl (Yld.pure tab_ok rfl) ?_
  refine WL.nil (WX.then_normal ?_)
  refine WC.seq ?_
  refine WC.region ?_
  refine WL.call rfl rfl (W_smithylaw9_first H) ?_
  rintro _ w1 ⟨hg1, ok, rfl, H⟩
  have gr1 := hg1
  refine WL.y rfl (Yld.pure tab_ok rfl) ?_
  refine WL.nil (WX.then_normal ?_)
  refine WC.seq ?_
  refine WC.seq ?_
  refine WC.region ?_
  refine WL.y rfl (Yld.pure tab_ok rfl) ?_
  refine WL.y rfl (Yld.pure tab_ok rfl) ?_
  refine WL.nil (WX.then_normal ?_)
  refine WC.cond rfl (fun b1 => ?_) (fun b1 => ?_)
  · replace H := H.1 (b1)
    refine WC.seq ?_
    refine WC.region ?_
    refine WL.y rfl (Yld.pure tab_ok rfl) ?_
    refine WL.nil (WX.then_normal ?_)
    refine WC.ret (WX.then_ret ?_)
    exact WX.ret1 rfl rfl ⟨gr1, false, rfl, H⟩
  · replace H := H.2 (b1)
    refine WC.skip (WX.then_normal ?_)
    refine WC.seq ?_
    refine WC.seq ?_
    refine WC.region ?_
    refine WL.y rfl (Yld.pure tab_ok rfl) ?_
    refine WL.y rfl (Yld.pure tab_ok rfl) ?_
    refine WL.y rfl (Yld.pure tab_ok rfl) ?_
    refine WL.y rfl (Yld.pure tab_ok rfl) ?_
    refine WL.midF 4 (fun L' w' => ∃ q1 : Bool, L' = [(30, .bool q1), (0, vs s), (1, vs t), (2, vs u), (7, .bool ok)] ∧ q1 = ((decide ((200 : Int) < (s.length : Int))) || (decide ((200 : Int) < (t.length : Int)))) ∧ w1 = w') ?_ (fun hQ => ?_)
    · rintro _ _ ⟨q1, rfl, rfl, rfl⟩
      refine WL.y rfl (Yld.pure tab_ok rfl) ?_
      refine WL.midF 4 (fun L' w' => ∃ q2 : Bool, L' = [(35, .bool q2), (0, vs s), (1, vs t), (2, vs u), (7, .bool ok)] ∧ q2 = (((decide ((200 : Int) < (s.length : Int))) || (decide ((200 : Int) < (t.length : Int)))) || (decide ((200 : Int) < (u.length : Int)))) ∧ w1 = w') ?_ (fun hQ => ?_)
      · rintro _ _ ⟨q2, rfl, rfl, rfl⟩
        refine WL.y rfl (Yld.pure tab_ok rfl) ?_
        refine WL.midF 3 (fun L' w' => ∃ q3 : Bool, L' = [(39, .bool q3), (0, vs s), (1, vs t), (2, vs u), (7, .bool ok)] ∧ q3 = ((((decide ((200 : Int) < (s.length : Int))) || (decide ((200 : Int) < (t.length : Int)))) || (decide ((200 : Int) < (u.length : Int)))) || (!ok)) ∧ w1 = w') ?_ (fun hQ => ?_)
        · rintro _ _ ⟨q3, rfl, rfl, rfl⟩
          refine WL.nil (WX.then_normal ?_)
          refine WC.cond rfl (fun b2 => ?_) (fun b2 => ?_)
          · replace H := H.1 (b2)
            refine WC.seq ?_
            refine WC.region ?_
            refine WL.y rfl (Yld.pure tab_ok rfl) ?_
            refine WL.y rfl (Yld.pure tab_ok rfl) ?_
            refine WL.nil (WX.then_normal ?_)
            refine WC.ret (WX.then_ret ?_)
            exact WX.ret1 rfl rfl ⟨gr1, ok, rfl, H⟩
          · replace H := H.2 (b2)
            refine WC.skip (WX.then_normal ?_)
            refine WC.seq ?_
            refine WC.region ?_
            refine WL.y rfl (Yld.pure tab_ok rfl) ?_
            refine WL.call rfl rfl (W_num_Parse (hG.grown gr1) hS7 hS12 H) ?_
            rintro _ w2 ⟨hg2, v_t430, v_t4302, t430, m_t430, v_t431, t431, rfl, ht430, ht431, one_v_t430, one_v_t4302, H⟩
            have gr2 := gr_trans gr1 hg2
            refine WL.y rfl (Yld.pure tab_ok rfl) ?_
            refine WL.y rfl (Yld.pure tab_ok rfl) ?_
            refine WL.y rfl (Yld.pure tab_ok rfl) ?_
            refine WL.alloc rfl zero44 (fun g1 w3 hB1 hg3 hl1 => ?_)
            have gr3 := gr_trans gr2 hg3
            have k1 := ht430.grown hg3
            have k2 := ht431.grown hg3
            refine WL.storeW (vs := [v_t430, v_t4302]) tab_ok rfl rfl rfl (all1c one_v_t430 (all1c one_v_t4302 all1n)) hB1 rfl rfl (fun w4 hB2 hg4 => ?_)
            have gr4 := gr_mod gr3 hg4 (Ge.le (Ge.box hl1) (size_le gr2))
            have k3 := k1.stored hB1 (noC (fun x h => Value.noConfusion h) (noC (fun x h => Value.noConfusion h) noN)) hg4
            have k4 := ErrR.go k2 hG gr3 hg4 gr4 hB1 rfl
            refine WL.y rfl (Yld.pure tab_ok rfl) ?_
            refine WL.nil (WX.then_normal ?_)
            refine WC.seq ?_
            refine WC.region ?_
            refine WL.y rfl (Yld.pure tab_ok rfl) ?_
            refine WL.call rfl rfl (W_num_Parse (hG.grown gr4) hS7 hS12 H) ?_
            rintro _ w5 ⟨hg5, v_t480, v_t4802, t480, m_t480, v_t481, t481, rfl, ht480, ht481, one_v_t480, one_v_t4802, H⟩
            have gr5 := gr_trans gr4 hg5
            have k5 := k3.grown hg5
            have k6 := k4.grown hg5
            have k7 := hB2.g0 hg5
            refine WL.y rfl (Yld.pure tab_ok rfl) ?_
            refine WL.y rfl (Yld.pure tab_ok rfl) ?_
            refine WL.y rfl (Yld.pure tab_ok rfl) ?_
            refine WL.alloc rfl zero44 (fun g2 w6 hB3 hg6 hl2 => ?_)
            have gr6 := gr_trans gr5 hg6
            have k8 := k5.grown hg6
            have k9 := k6.grown hg6
            have k10 := k7.g0 hg6
            have k11 := ht480.grown hg6
            have k12 := ht481.grown hg6
            refine WL.storeW (vs := [v_t480, v_t4802]) tab_ok rfl rfl rfl (all1c one_v_t480 (all1c one_v_t4802 all1n)) hB3 rfl rfl (fun w7 hB4 hg7 => ?_)
            have gr7 := gr_mod gr6 hg7 (Ge.le (Ge.box hl2) (size_le gr5))
            have k13 := k8.stored hB3 (noC (fun x h => Value.noConfusion h) (noC (fun x h => Value.noConfusion h) noN)) hg7
            have k14 := ErrR.go k9 hG gr6 hg7 gr7 hB3 rfl
            have k15 := k10.go hg7 (Dj.new k7.lt' (Ge.box hl2))
            have k16 := k11.stored hB3 (noC (fun x h => Value.noConfusion h) (noC (fun x h => Value.noConfusion h) noN)) hg7
            have k17 := ErrR.go k12 hG gr6 hg7 gr7 hB3 rfl
            refine WL.y rfl (Yld.pure tab_ok rfl) ?_
            refine WL.nil (WX.then_normal ?_)
            refine WC.seq ?_
            refine WC.region ?_
            refine WL.y rfl (Yld.pure tab_ok rfl) ?_
            refine WL.call rfl rfl (W_num_Parse (hG.grown gr7) hS7 hS12 H) ?_
            rintro _ w8 ⟨hg8, v_t530, v_t5302, t530, m_t530, v_t531, t531, rfl, ht530, ht531, one_v_t530, one_v_t5302, H⟩
            have gr8 := gr_trans gr7 hg8
            have k18 := k13.grown hg8
            have k19 := k14.grown hg8
            have k20 := k15.g0 hg8
            have k21 := k16.grown hg8
            have k22 := k17.grown hg8
            have k23 := hB4.g0 hg8
            refine WL.y rfl (Yld.pure tab_ok rfl) ?_
            refine WL.y rfl (Yld.pure tab_ok rfl) ?_
            refine WL.y rfl (Yld.pure tab_ok rfl) ?_
            refine WL.alloc rfl zero44 (fun g3 w9 hB5 hg9 hl3 => ?_)
            have gr9 := gr_trans gr8 hg9
            have k24 := k18.grown hg9
            have k25 := k19.grown hg9
            have k26 := k20.g0 hg9
            have k27 := k21.grown hg9
            have k28 := k22.grown hg9
            have k29 := k23.g0 hg9
            have k30 := ht530.grown hg9
            have k31 := ht531.grown hg9
            refine WL.storeW (vs := [v_t530, v_t5302]) tab_ok rfl rfl rfl (all1c one_v_t530 (all1c one_v_t5302 all1n)) hB5 rfl rfl (fun w10 hB6 hg10 => ?_)
            have gr10 := gr_mod gr9 hg10 (Ge.le (Ge.box hl3) (size_le gr8))
            have k32 := k24.stored hB5 (noC (fun x h => Value.noConfusion h) (noC (fun x h => Value.noConfusion h) noN)) hg10
            have k33 := ErrR.go k25 hG gr9 hg10 gr10 hB5 rfl
            have k34 := k26.go hg10 (Dj.new k20.lt' (Ge.box hl3))
            have k35 := k27.stored hB5 (noC (fun x h => Value.noConfusion h) (noC (fun x h => Value.noConfusion h) noN)) hg10
            have k36 := ErrR.go k28 hG gr9 hg10 gr10 hB5 rfl
            have k37 := k29.go hg10 (Dj.new k23.lt' (Ge.box hl3))
            have k38 := k30.stored hB5 (noC (fun x h => Value.noConfusion h) (noC (fun x h => Value.noConfusion h) noN)) hg10
            have k39 := ErrR.go k31 hG gr9 hg10 gr10 hB5 rfl
            refine WL.y rfl (Yld.pure tab_ok rfl) ?_
            refine WL.nil (WX.then_normal ?_)
            refine WC.seq ?_
            refine WC.seq ?_
            refine WC.region ?_
            refine WL.y rfl (Yld.pure tab_ok rfl) ?_
            refine WL.y rfl (Yld.errneq Tryd.underlying28 k33 rfl) ?_
            refine WL.y rfl (Yld.pure tab_ok rfl) ?_
            refine WL.midF 3 (fun L' w' => ∃ q4 : Bool, L' = [(61, .bool q4), (8, .pointer (some ⟨g1, 0, none⟩)), (10, .pointer (some ⟨g2, 0, none⟩)), (12, .pointer (some ⟨g3, 0, none⟩)), (13, v_t531)] ∧ q4 = ((!decide (t431 = Er.ok)) || (!decide (t481 = Er.ok))) ∧ w10 = w') ?_ (fun hQ => ?_)
            · rintro _ _ ⟨q4, rfl, rfl, rfl⟩
              refine WL.y rfl (Yld.pure tab_ok rfl) ?_
              refine WL.midF 3 (fun L' w' => ∃ q5 : Bool, L' = [(65, .bool q5), (8, .pointer (some ⟨g1, 0, none⟩)), (10, .pointer (some ⟨g2, 0, none⟩)), (12, .pointer (some ⟨g3, 0, none⟩))] ∧ q5 = (((!decide (t431 = Er.ok)) || (!decide (t481 = Er.ok))) || (!decide (t531 = Er.ok))) ∧ w10 = w') ?_ (fun hQ => ?_)
              · rintro _ _ ⟨q5, rfl, rfl, rfl⟩
                refine WL.nil (WX.then_normal ?_)
                refine WC.cond rfl (fun b3 => ?_) (fun b3 => ?_)
                · replace H := H.1 (b3)
                  refine WC.seq ?_
                  refine WC.region ?_
                  refine WL.y rfl (Yld.pure tab_ok rfl) ?_
                  refine WL.nil (WX.then_normal ?_)
                  refine WC.ret (WX.then_ret ?_)
                  exact WX.ret1 rfl rfl ⟨gr10, true, rfl, H⟩
                · replace H := H.2 (b3)
                  refine WC.skip (WX.then_normal ?_)
                  refine WC.seq ?_
                  refine WC.seq ?_
                  refine WC.chainF (fun k => !(Nat.beq k 2 || Nat.beq k 3 || Nat.beq k 6 || Nat.beq k 7 || Nat.beq k 12 || Nat.beq k 13 || Nat.beq k 16 || Nat.beq k 17 || Nat.beq k 23 || Nat.beq k 25 || Nat.beq k 27 || Nat.beq k 33 || Nat.beq k 35 || Nat.beq k 36 || Nat.beq k 39 || Nat.beq k 42 || Nat.beq k 43 || Nat.beq k 44 || Nat.beq k 50 || Nat.beq k 52 || Nat.beq k 56 || Nat.beq k 57 || Nat.beq k 58)) (LD [0, 1, 4, 5, 10, 11, 14, 15, 21, 22, 24, 26, 31, 32, 34, 37, 38, 40, 41, 48, 49, 51, 53, 54, 55] (fun w' => Bl w' g1 44 [v_t430, v_t4302] ∧ Bl w' g2 44 [v_t480, v_t4802] ∧ Bl w' g3 44 [v_t530, v_t5302])) mixed (by kernel_rfl) (fun k w' h _ => ⟨(bl_eqv h k34), (bl_eqv h k37), (bl_eqv h hB6)⟩) ?_
                  refine WJ.y rfl rfl (fun w' hw' => Yld.bagg (vs := [v_t430, v_t4302]) tab_ok (hw' rfl).1 rfl rfl rfl rfl) ?_
                  refine WJ.y rfl rfl (fun w' hw' => Yld.bagg (vs := [v_t480, v_t4802]) tab_ok (hw' rfl).2.1 rfl rfl rfl rfl) ?_
                  refine WJ.call rfl (wants_none) rfl rfl (W_num_Num_Add k32 k35 H) (fun v w' h w2 e => DD.keep (⟨(Bl.g0 k34 (gr_eqv h.1 e)), (Bl.g0 k37 (gr_eqv h.1 e)), (Bl.g0 hB6 (gr_eqv h.1 e))⟩)) ?_
                  rintro _ w11 ⟨hg11, v_t68, v_t682, t68, m_t68, rfl, ht68, one_v_t68, one_v_t682, H⟩
                  have gr11 := gr_trans gr10 hg11
                  have k40 := k32.grown hg11
                  have k41 := k34.g0 hg11
                  have k42 := k35.grown hg11
                  have k43 := k37.g0 hg11
                  have k44 := k38.grown hg11
                  have k45 := hB6.g0 hg11
                  refine WJ.call rfl (wants_none) rfl rfl (W_num_Num_Text ht68 H) (fun v w' h w2 e => DD.keep (⟨(Bl.g0 k41 (gr_eqv h.1 e)), (Bl.g0 k43 (gr_eqv h.1 e)), (Bl.g0 k45 (gr_eqv h.1 e))⟩)) ?_
                  rintro _ w12 ⟨hg12, t69, rfl, H⟩
                  have gr12 := gr_trans gr11 hg12
                  have k46 := k40.grown hg12
                  have k47 := k41.g0 hg12
                  have k48 := k42.grown hg12
                  have k49 := k43.g0 hg12
                  have k50 := k44.grown hg12
                  have k51 := k45.g0 hg12
                  refine WJ.y rfl rfl (fun w' hw' => Yld.bagg (vs := [v_t480, v_t4802]) tab_ok (hw' rfl).2.1 rfl rfl rfl rfl) ?_
                  refine WJ.y rfl rfl (fun w' hw' => Yld.bagg (vs := [v_t430, v_t4302]) tab_ok (hw' rfl).1 rfl rfl rfl rfl) ?_
                  refine WJ.call rfl (wants_none) rfl rfl (W_num_Num_Add k48 k46 H) (fun v w' h w2 e => DD.keep (⟨(Bl.g0 k47 (gr_eqv h.1 e)), (Bl.g0 k49 (gr_eqv h.1 e)), (Bl.g0 k51 (gr_eqv h.1 e))⟩)) ?_
                  rintro _ w13 ⟨hg13, v_t72, v_t722, t72, m_t72, rfl, ht72, one_v_t72, one_v_t722, H⟩
                  have gr13 := gr_trans gr12 hg13
                  have k52 := k46.grown hg13
                  have k53 := k47.g0 hg13
                  have k54 := k48.grown hg13
                  have k55 := k49.g0 hg13
                  have k56 := k50.grown hg13
                  have k57 := k51.g0 hg13
                  refine WJ.call rfl (wants_none) rfl rfl (W_num_Num_Text ht72 H) (fun v w' h w2 e => DD.keep (⟨(Bl.g0 k53 (gr_eqv h.1 e)), (Bl.g0 k55 (gr_eqv h.1 e)), (Bl.g0 k57 (gr_eqv h.1 e))⟩)) ?_
                  rintro _ w14 ⟨hg14, t73, rfl, H⟩
                  have gr14 := gr_trans gr13 hg14
                  have k58 := k52.grown hg14
                  have k59 := k53.g0 hg14
                  have k60 := k54.grown hg14
                  have k61 := k55.g0 hg14
                  have k62 := k56.grown hg14
                  have k63 := k57.g0 hg14
                  refine WJ.y rfl rfl (fun w' hw' => Yld.pure tab_ok rfl) ?_
                  refine WJ.y rfl rfl (fun w' hw' => Yld.pure tab_ok rfl) ?_
                  obtain ⟨J1, H, hJ1⟩ := H
                  refine WJ.midF 10 (fun L' w' => ∃ q6 : Bool, L' = [(85, .bool q6), (8, .pointer (some ⟨g1, 0, none⟩)), (10, .pointer (some ⟨g2, 0, none⟩)), (12, .pointer (some ⟨g3, 0, none⟩))] ∧ J1 q6 ∧ w.grownBy w' none ∧ Nm w' (.agg ⟨[v_t430, v_t4302]⟩) t430 m_t430 ∧ Bl w' g1 44 [v_t430, v_t4302] ∧ Nm w' (.agg ⟨[v_t480, v_t4802]⟩) t480 m_t480 ∧ Bl w' g2 44 [v_t480, v_t4802] ∧ Nm w' (.agg ⟨[v_t530, v_t5302]⟩) t530 m_t530 ∧ Bl w' g3 44 [v_t530, v_t5302]) ?_ (fun hQ => ?_)
                  · clear H
                    rintro _ w15 ⟨q6, rfl, H, gr15, k64, k65, k66, k67, k68, k69⟩
                    replace H := hJ1 q6 H
                    refine WJ.y rfl rfl (fun w' hw' => Yld.pure tab_ok rfl) ?_
                    obtain ⟨J2, H, hJ2⟩ := H
                    refine WJ.midF 9 (fun L' w' => ∃ q7 : Bool, L' = [(95, .bool q7), (8, .pointer (some ⟨g1, 0, none⟩)), (10, .pointer (some ⟨g2, 0, none⟩)), (12, .pointer (some ⟨g3, 0, none⟩))] ∧ J2 q7 ∧ w.grownBy w' none ∧ Nm w' (.agg ⟨[v_t430, v_t4302]⟩) t430 m_t430 ∧ Bl w' g1 44 [v_t430, v_t4302] ∧ Nm w' (.agg ⟨[v_t480, v_t4802]⟩) t480 m_t480 ∧ Bl w' g2 44 [v_t480, v_t4802] ∧ Nm w' (.agg ⟨[v_t530, v_t5302]⟩) t530 m_t530 ∧ Bl w' g3 44 [v_t530, v_t5302]) ?_ (fun hQ => ?_)
                    · clear H
                      rintro _ w16 ⟨q7, rfl, H, gr16, k70, k71, k72, k73, k74, k75⟩
                      replace H := hJ2 q7 H
                      refine WJ.y rfl rfl (fun w' hw' => Yld.pure tab_ok rfl) ?_
                      obtain ⟨J3, H, hJ3⟩ := H
                      refine WJ.midF 16 (fun L' w' => ∃ q8 : Bool, L' = [(112, .bool q8), (8, .pointer (some ⟨g1, 0, none⟩)), (10, .pointer (some ⟨g2, 0, none⟩)), (12, .pointer (some ⟨g3, 0, none⟩))] ∧ J3 q8 ∧ w.grownBy w' none ∧ Nm w' (.agg ⟨[v_t430, v_t4302]⟩) t430 m_t430 ∧ Bl w' g1 44 [v_t430, v_t4302] ∧ Nm w' (.agg ⟨[v_t480, v_t4802]⟩) t480 m_t480 ∧ Bl w' g2 44 [v_t480, v_t4802] ∧ Nm w' (.agg ⟨[v_t530, v_t5302]⟩) t530 m_t530 ∧ Bl w' g3 44 [v_t530, v_t5302]) ?_ (fun hQ => ?_)
                      · clear H
                        rintro _ w17 ⟨q8, rfl, H, gr17, k76, k77, k78, k79, k80, k81⟩
                        replace H := hJ3 q8 H
                        refine WJ.y rfl rfl (fun w' hw' => Yld.pure tab_ok rfl) ?_
                        obtain ⟨J4, H, hJ4⟩ := H
                        refine WJ.midF 13 (fun L' w' => ∃ q9 : Bool, L' = [(126, .bool q9), (8, .pointer (some ⟨g1, 0, none⟩)), (10, .pointer (some ⟨g2, 0, none⟩))] ∧ J4 q9 ∧ w.grownBy w' none ∧ Nm w' (.agg ⟨[v_t430, v_t4302]⟩) t430 m_t430 ∧ Bl w' g1 44 [v_t430, v_t4302] ∧ Nm w' (.agg ⟨[v_t480, v_t4802]⟩) t480 m_t480 ∧ Bl w' g2 44 [v_t480, v_t4802] ∧ Bl w' g3 44 [v_t530, v_t5302]) ?_ (fun hQ => ?_)
                        · clear H
                          rintro _ w18 ⟨q9, rfl, H, gr18, k82, k83, k84, k85, k86⟩
                          replace H := hJ4 q9 H
                          refine WJ.nil (WX.then_normal ?_)
                          refine WC.cond rfl (fun b4 => ?_) (fun b4 => ?_)
                          · replace H := H.1 (b4)
                            refine WC.seq ?_
                            refine WC.region ?_
                            refine WL.y rfl (Yld.pure tab_ok rfl) ?_
                            refine WL.nil (WX.then_normal ?_)
                            refine WC.ret (WX.then_ret ?_)
                            exact WX.ret1 rfl rfl ⟨gr18, false, rfl, H⟩
                          · replace H := H.2 (b4)
                            refine WC.skip (WX.then_normal ?_)
                            refine WC.seq ?_
                            refine WC.region ?_
                            refine WL.y rfl (Yld.bagg (vs := [v_t430, v_t4302]) tab_ok k83 rfl rfl rfl rfl) ?_
                            refine WL.y rfl (Yld.bagg (vs := [v_t480, v_t4802]) tab_ok k85 rfl rfl rfl rfl) ?_
                            refine WL.call rfl rfl (W_num_Num_Div k82 k84 H) ?_
                            rintro _ w19 ⟨hg15, v_t1300, v_t13002, t1300, m_t1300, t1301, rfl, ht1300, one_v_t1300, one_v_t13002, H⟩
                            have gr19 := gr_trans gr18 hg15
                            have k87 := k82.grown hg15
                            have k88 := k83.g0 hg15
                            have k89 := k84.grown hg15
                            have k90 := k85.g0 hg15
                            refine WL.y rfl (Yld.pure tab_ok rfl) ?_
                            refine WL.y rfl (Yld.pure tab_ok rfl) ?_
                            refine WL.y rfl (Yld.pure tab_ok rfl) ?_
                            refine WL.alloc rfl zero44 (fun g4 w20 hB7 hg16 hl4 => ?_)
                            have gr20 := gr_trans gr19 hg16
                            have k91 := k87.grown hg16
                            have k92 := k88.g0 hg16
                            have k93 := k89.grown hg16
                            have k94 := k90.g0 hg16
                            have k95 := ht1300.grown hg16
                            refine WL.storeW (vs := [v_t1300, v_t13002]) tab_ok rfl rfl rfl (all1c one_v_t1300 (all1c one_v_t13002 all1n)) hB7 rfl rfl (fun w21 hB8 hg17 => ?_)
                            have gr21 := gr_mod gr20 hg17 (Ge.le (Ge.box hl4) (size_le gr19))
                            have k96 := k91.stored hB7 (noC (fun x h => Value.noConfusion h) (noC (fun x h => Value.noConfusion h) noN)) hg17
                            have k97 := k92.go hg17 (Dj.new k88.lt' (Ge.box hl4))
                            have k98 := k93.stored hB7 (noC (fun x h => Value.noConfusion h) (noC (fun x h => Value.noConfusion h) noN)) hg17
                            have k99 := k94.go hg17 (Dj.new k90.lt' (Ge.box hl4))
                            have k100 := k95.stored hB7 (noC (fun x h => Value.noConfusion h) (noC (fun x h => Value.noConfusion h) noN)) hg17
                            refine WL.y rfl (Yld.pure tab_ok rfl) ?_
                            refine WL.nil (WX.then_normal ?_)
                            refine WC.seq ?_
                            refine WC.region ?_
                            refine WL.y rfl (Yld.bagg (vs := [v_t430, v_t4302]) tab_ok k97 rfl rfl rfl rfl) ?_
                            refine WL.y rfl (Yld.bagg (vs := [v_t480, v_t4802]) tab_ok k99 rfl rfl rfl rfl) ?_
                            refine WL.call rfl rfl (W_num_Num_Mod k96 k98 H) ?_
                            rintro _ w22 ⟨hg18, v_t1360, v_t13602, t1360, m_t1360, t1361, rfl, ht1360, one_v_t1360, one_v_t13602, H⟩
                            have gr22 := gr_trans gr21 hg18
                            have k101 := k96.grown hg18
                            have k102 := k97.g0 hg18
                            have k103 := k98.grown hg18
                            have k104 := k99.g0 hg18
                            have k105 := k100.grown hg18
                            have k106 := hB8.g0 hg18
                            refine WL.y rfl (Yld.pure tab_ok rfl) ?_
                            refine WL.y rfl (Yld.pure tab_ok rfl) ?_
                            refine WL.y rfl (Yld.pure tab_ok rfl) ?_
                            refine WL.alloc rfl zero44 (fun g5 w23 hB9 hg19 hl5 => ?_)
                            have gr23 := gr_trans gr22 hg19
                            have k107 := k101.grown hg19
                            have k108 := k102.g0 hg19
                            have k109 := k103.grown hg19
                            have k110 := k104.g0 hg19
                            have k111 := k105.grown hg19
                            have k112 := k106.g0 hg19
                            have k113 := ht1360.grown hg19
                            refine WL.storeW (vs := [v_t1360, v_t13602]) tab_ok rfl rfl rfl (all1c one_v_t1360 (all1c one_v_t13602 all1n)) hB9 rfl rfl (fun w24 hB10 hg20 => ?_)
                            have gr24 := gr_mod gr23 hg20 (Ge.le (Ge.box hl5) (size_le gr22))
                            have k114 := k107.stored hB9 (noC (fun x h => Value.noConfusion h) (noC (fun x h => Value.noConfusion h) noN)) hg20
                            have k115 := k108.go hg20 (Dj.new k102.lt' (Ge.box hl5))
                            have k116 := k109.stored hB9 (noC (fun x h => Value.noConfusion h) (noC (fun x h => Value.noConfusion h) noN)) hg20
                            have k117 := k110.go hg20 (Dj.new k104.lt' (Ge.box hl5))
                            have k118 := k111.stored hB9 (noC (fun x h => Value.noConfusion h) (noC (fun x h => Value.noConfusion h) noN)) hg20
                            have k119 := k112.go hg20 (Dj.new k106.lt' (Ge.box hl5))
                            have k120 := k113.stored hB9 (noC (fun x h => Value.noConfusion h) (noC (fun x h => Value.noConfusion h) noN)) hg20
                            refine WL.y rfl (Yld.pure tab_ok rfl) ?_
                            refine WL.nil (WX.then_normal ?_)
                            refine WC.seq ?_
                            refine WC.seq ?_
                            refine WC.region ?_
                            refine WL.y rfl (Yld.pure tab_ok rfl) ?_
                            refine WL.y rfl (Yld.pure tab_ok rfl) ?_
                            refine WL.y rfl (Yld.pure tab_ok rfl) ?_
                            refine WL.midF 3 (fun L' w' => ∃ q10 : Bool, L' = [(144, .bool q10), (8, .pointer (some ⟨g1, 0, none⟩)), (10, .pointer (some ⟨g2, 0, none⟩)), (14, .pointer (some ⟨g4, 0, none⟩)), (16, .pointer (some ⟨g5, 0, none⟩))] ∧ q10 = ((!t1301) || (!t1361)) ∧ w24 = w') ?_ (fun hQ => ?_)
                            · rintro _ _ ⟨q10, rfl, rfl, rfl⟩
                              refine WL.nil (WX.then_normal ?_)
                              refine WC.cond rfl (fun b5 => ?_) (fun b5 => ?_)
                              · replace H := H.1 (b5)
                                refine WC.seq ?_
                                refine WC.region ?_
                                refine WL.y rfl (Yld.bagg (vs := [v_t480, v_t4802]) tab_ok k117 rfl rfl rfl rfl) ?_
                                refine WL.call rfl rfl (W_num_Num_Text k116 H) ?_
                                rintro _ w25 ⟨hg21, t146, rfl, H⟩
                                have gr25 := gr_trans gr24 hg21
                                refine WL.y rfl (Yld.pure tab_ok rfl) ?_
                                refine WL.y rfl (Yld.pure tab_ok rfl) ?_
                                refine WL.nil (WX.then_normal ?_)
                                refine WC.ret (WX.then_ret ?_)
                                exact WX.ret1 rfl rfl ⟨gr25, decide (t146 = ([48] : List UInt8)), rfl, H⟩
                              · replace H := H.2 (b5)
                                refine WC.skip (WX.then_normal ?_)
                                refine WC.seq ?_
                                obtain ⟨J5, H, hJ5⟩ := H
                                refine WC.ordersF 10 (fun k => !(Nat.beq k 2 || Nat.beq k 4 || Nat.beq k 8 || Nat.beq k 9)) (fun w' => w24.grownBy w' none) (fun L' w' => ∃ (v_t1530 : Value), ∃ (v_t15302 : Value), ∃ (t1530 : Int), ∃ (m_t1530 : Nat), ∃ (t1531 : Bool), ∃ (g_back : Nat), L' = [(8, .pointer (some ⟨g1, 0, none⟩)), (10, .pointer (some ⟨g2, 0, none⟩)), (14, .pointer (some ⟨g4, 0, none⟩)), (16, .pointer (some ⟨g5, 0, none⟩)), (18, .pointer (some ⟨g_back, 0, none⟩)), (155, .bool t1531)] ∧ J5 t1530 m_t1530 t1531 ∧ w.grownBy w' none ∧ Nm w' (.agg ⟨[v_t430, v_t4302]⟩) t430 m_t430 ∧ Bl w' g1 44 [v_t430, v_t4302] ∧ Nm w' (.agg ⟨[v_t480, v_t4802]⟩) t480 m_t480 ∧ Bl w' g2 44 [v_t480, v_t4802] ∧ Nm w' (.agg ⟨[v_t1300, v_t13002]⟩) t1300 m_t1300 ∧ Bl w' g4 44 [v_t1300, v_t13002] ∧ Nm w' (.agg ⟨[v_t1360, v_t13602]⟩) t1360 m_t1360 ∧ Bl w' g5 44 [v_t1360, v_t13602] ∧ Nm w' (.agg ⟨[v_t1530, v_t15302]⟩) t1530 m_t1530 ∧ Bl w' g_back 44 [v_t1530, v_t15302] ∧ v_t1530.oneCell' = true ∧ v_t15302.oneCell' = true ∧ Dj (some g1) (some g_back) ∧ Dj (some g2) (some g_back) ∧ Dj (some g4) (some g_back) ∧ Dj (some g5) (some g_back) ∧ Ge (some g_back) w.heap.size) mixed (by kernel_rfl) (fun w' h => gr_eqv (gr_refl _ _) h) ?_ ?_
                                · clear H
                                  rintro _ w26 ⟨v_t1530, v_t15302, t1530, m_t1530, t1531, g_back, rfl, H, gr26, k121, k122, k123, k124, k125, k126, k127, k128, k129, k130, one_v_t1530, one_v_t15302, dj1, dj2, dj3, dj4, hge1⟩
                                  replace H := hJ5 t1530 m_t1530 t1531 H
                                  refine WL.y rfl (Yld.pure tab_ok rfl) ?_
                                  refine WL.nil (WX.then_normal ?_)
                                  refine WC.seq ?_
                                  refine WC.chainF (fun k => !(Nat.beq k 2 || Nat.beq k 4 || Nat.beq k 6 || Nat.beq k 14 || Nat.beq k 19 || Nat.beq k 20 || Nat.beq k 22 || Nat.beq k 28 || Nat.beq k 29)) (LD [0, 1, 3, 5, 12, 13, 18, 21, 26, 27] (fun w' => Bl w' g4 44 [v_t1300, v_t13002] ∧ Bl w' g2 44 [v_t480, v_t4802] ∧ Bl w' g5 44 [v_t1360, v_t13602] ∧ Bl w' g1 44 [v_t430, v_t4302] ∧ Bl w' g_back 44 [v_t1530, v_t15302])) mixed (by kernel_rfl) (fun k w' h _ => ⟨(bl_eqv h k126), (bl_eqv h k124), (bl_eqv h k128), (bl_eqv h k122), (bl_eqv h k130)⟩) ?_
                                  refine WJ.y rfl rfl (fun w' hw' => Yld.bagg (vs := [v_t1300, v_t13002]) tab_ok (hw' rfl).1 rfl rfl rfl rfl) ?_
                                  refine WJ.y rfl rfl (fun w' hw' => Yld.bagg (vs := [v_t480, v_t4802]) tab_ok (hw' rfl).2.1 rfl rfl rfl rfl) ?_
                                  refine WJ.call rfl (wants_none) rfl rfl (W_num_Num_Mul k125 k123 H) (fun v w' h w2 e => DD.keep (⟨(Bl.g0 k126 (gr_eqv h.1 e)), (Bl.g0 k124 (gr_eqv h.1 e)), (Bl.g0 k128 (gr_eqv h.1 e)), (Bl.g0 k122 (gr_eqv h.1 e)), (Bl.g0 k130 (gr_eqv h.1 e))⟩)) ?_
                                  rintro _ w27 ⟨hg22, v_t158, v_t1582, t158, m_t158, rfl, ht158, one_v_t158, one_v_t1582, H⟩
                                  have gr27 := gr_trans gr26 hg22
                                  have k131 := k121.grown hg22
                                  have k132 := k122.g0 hg22
                                  have k133 := k124.g0 hg22
                                  have k134 := k126.g0 hg22
                                  have k135 := k127.grown hg22
                                  have k136 := k128.g0 hg22
                                  have k137 := k129.grown hg22
                                  have k138 := k130.g0 hg22
                                  refine WJ.y rfl rfl (fun w' hw' => Yld.bagg (vs := [v_t1360, v_t13602]) tab_ok (hw' rfl).2.2.1 rfl rfl rfl rfl) ?_
                                  refine WJ.call rfl (wants_none) rfl rfl (W_num_Num_Add ht158 k135 H) (fun v w' h w2 e => DD.keep (⟨(Bl.g0 k134 (gr_eqv h.1 e)), (Bl.g0 k133 (gr_eqv h.1 e)), (Bl.g0 k136 (gr_eqv h.1 e)), (Bl.g0 k132 (gr_eqv h.1 e)), (Bl.g0 k138 (gr_eqv h.1 e))⟩)) ?_
                                  rintro _ w28 ⟨hg23, v_t160, v_t1602, t160, m_t160, rfl, ht160, one_v_t160, one_v_t1602, H⟩
                                  have gr28 := gr_trans gr27 hg23
                                  have k139 := k131.grown hg23
                                  have k140 := k132.g0 hg23
                                  have k141 := k133.g0 hg23
                                  have k142 := k134.g0 hg23
                                  have k143 := k136.g0 hg23
                                  have k144 := k137.grown hg23
                                  have k145 := k138.g0 hg23
                                  refine WJ.y rfl rfl (fun w' hw' => Yld.bagg (vs := [v_t430, v_t4302]) tab_ok (hw' rfl).2.2.2.1 rfl rfl rfl rfl) ?_
                                  refine WJ.call rfl (wants_none) rfl rfl (W_num_Num_Cmp ht160 k139 H) (fun v w' h w2 e => DD.keep (⟨(Bl.g0 k142 (gr_eqv h.1 e)), (Bl.g0 k141 (gr_eqv h.1 e)), (Bl.g0 k143 (gr_eqv h.1 e)), (Bl.g0 k140 (gr_eqv h.1 e)), (Bl.g0 k145 (gr_eqv h.1 e))⟩)) ?_
                                  rintro _ w29 ⟨hg24, t162, rfl, H⟩
                                  have gr29 := gr_trans gr28 hg24
                                  have k146 := k139.grown hg24
                                  have k147 := k140.g0 hg24
                                  have k148 := k141.g0 hg24
                                  have k149 := k142.g0 hg24
                                  have k150 := k143.g0 hg24
                                  have k151 := k144.grown hg24
                                  have k152 := k145.g0 hg24
                                  refine WJ.y rfl rfl (fun w' hw' => Yld.pure tab_ok rfl) ?_
                                  refine WJ.y rfl rfl (fun w' hw' => Yld.pure tab_ok rfl) ?_
                                  refine WJ.midF 2 (fun L' w' => ∃ q11 : Bool, L' = [(166, .bool q11), (8, .pointer (some ⟨g1, 0, none⟩)), (18, .pointer (some ⟨g_back, 0, none⟩))] ∧ q11 = ((decide (t162 = (0 : Int))) && t1531) ∧ w29 = w') ?_ (fun hQ => ?_)
                                  · rintro _ _ ⟨q11, rfl, rfl, rfl⟩
                                    refine WJ.y rfl rfl (fun w' hw' => Yld.pure tab_ok rfl) ?_
                                    obtain ⟨J6, H, hJ6⟩ := H
                                    refine WJ.midF 5 (fun L' w' => ∃ q12 : Bool, L' = [(172, .bool q12), (8, .pointer (some ⟨g1, 0, none⟩))] ∧ J6 q12 ∧ w.grownBy w' none ∧ Nm w' (.agg ⟨[v_t430, v_t4302]⟩) t430 m_t430 ∧ Bl w' g1 44 [v_t430, v_t4302] ∧ Bl w' g2 44 [v_t480, v_t4802] ∧ Bl w' g4 44 [v_t1300, v_t13002] ∧ Bl w' g5 44 [v_t1360, v_t13602] ∧ Bl w' g_back 44 [v_t1530, v_t15302]) ?_ (fun hQ => ?_)
                                    · clear H
                                      rintro _ w30 ⟨q12, rfl, H, gr30, k153, k154, k155, k156, k157, k158⟩
                                      replace H := hJ6 q12 H
                                      refine WJ.y rfl rfl (fun w' hw' => Yld.pure tab_ok rfl) ?_
                                      obtain ⟨J7, H, hJ7⟩ := H
                                      refine WJ.midF 7 (fun L' w' => ∃ q13 : Bool, L' = [(180, .bool q13), (8, .pointer (some ⟨g1, 0, none⟩))] ∧ J7 q13 ∧ w.grownBy w' none ∧ Nm w' (.agg ⟨[v_t430, v_t4302]⟩) t430 m_t430 ∧ Bl w' g1 44 [v_t430, v_t4302] ∧ Bl w' g2 44 [v_t480, v_t4802] ∧ Bl w' g4 44 [v_t1300, v_t13002] ∧ Bl w' g5 44 [v_t1360, v_t13602] ∧ Bl w' g_back 44 [v_t1530, v_t15302]) ?_ (fun hQ => ?_)
                                      · clear H
                                        rintro _ w31 ⟨q13, rfl, H, gr31, k159, k160, k161, k162, k163, k164⟩
                                        replace H := hJ7 q13 H
                                        refine WJ.y rfl rfl (fun w' hw' => Yld.pure tab_ok rfl) ?_
                                        obtain ⟨J8, H, hJ8⟩ := H
                                        refine WJ.midF 6 (fun L' w' => ∃ q14 : Bool, L' = [(187, .bool q14)] ∧ J8 q14 ∧ w.grownBy w' none ∧ Bl w' g1 44 [v_t430, v_t4302] ∧ Bl w' g2 44 [v_t480, v_t4802] ∧ Bl w' g4 44 [v_t1300, v_t13002] ∧ Bl w' g5 44 [v_t1360, v_t13602] ∧ Bl w' g_back 44 [v_t1530, v_t15302]) ?_ (fun hQ => ?_)
                                        · clear H
                                          rintro _ w32 ⟨q14, rfl, H, gr32, k165, k166, k167, k168, k169⟩
                                          replace H := hJ8 q14 H
                                          refine WJ.y rfl rfl (fun w' hw' => Yld.pure tab_ok rfl) ?_
                                          refine WJ.nil (WX.then_normal ?_)
                                          refine WC.ret ?_
                                          exact WX.ret1 rfl rfl ⟨gr32, q14, rfl, H⟩
                                        · clear hJ8
                                          rcases Bool.eq_false_or_eq_true (q13) with b6 | b6
                                          · replace H := H.1 b6
                                            refine WJ.yw rfl (wants_some rfl rfl (okb b6)) rfl (fun w' hw' => Yld.bagg (vs := [v_t430, v_t4302]) tab_ok (hw' rfl).2.2.2.1 rfl rfl rfl rfl) ?_
                                            refine WJ.yw rfl (wants_some rfl rfl (okb b6)) rfl (fun w' hw' => Yld.bagg (vs := [v_t430, v_t4302]) tab_ok (hw' rfl).2.2.2.1 rfl rfl rfl rfl) ?_
                                            refine WJ.call rfl (wants_some rfl rfl (okb b6)) rfl rfl (W_num_Num_Sub k159 k159 H) (fun v w' h w2 e => DD.keep (⟨(Bl.g0 k162 (gr_eqv h.1 e)), (Bl.g0 k161 (gr_eqv h.1 e)), (Bl.g0 k163 (gr_eqv h.1 e)), (Bl.g0 k160 (gr_eqv h.1 e)), (Bl.g0 k164 (gr_eqv h.1 e))⟩)) ?_
                                            rintro _ w33 ⟨hg25, v_t184, v_t1842, t184, m_t184, rfl, ht184, one_v_t184, one_v_t1842, H⟩
                                            have gr33 := gr_trans gr31 hg25
                                            have k170 := k159.grown hg25
                                            have k171 := k160.g0 hg25
                                            have k172 := k161.g0 hg25
                                            have k173 := k162.g0 hg25
                                            have k174 := k163.g0 hg25
                                            have k175 := k164.g0 hg25
                                            refine WJ.call rfl (wants_some rfl rfl (okb b6)) rfl rfl (W_num_Num_Text ht184 H) (fun v w' h w2 e => DD.keep (⟨(Bl.g0 k173 (gr_eqv h.1 e)), (Bl.g0 k172 (gr_eqv h.1 e)), (Bl.g0 k174 (gr_eqv h.1 e)), (Bl.g0 k171 (gr_eqv h.1 e)), (Bl.g0 k175 (gr_eqv h.1 e))⟩)) ?_
                                            rintro _ w34 ⟨hg26, t185, rfl, H⟩
                                            have gr34 := gr_trans gr33 hg26
                                            have k176 := k171.g0 hg26
                                            have k177 := k172.g0 hg26
                                            have k178 := k173.g0 hg26
                                            have k179 := k174.g0 hg26
                                            have k180 := k175.g0 hg26
                                            have k181 := ht184.grown hg26
                                            refine WJ.yw rfl (wants_some rfl rfl (okb b6)) rfl (fun w' hw' => Yld.pure tab_ok rfl) ?_
                                            refine WJ.y rfl rfl (fun w' hw' => Yld.pickT (okb b6) rfl) ?_
                                            exact WJ.weaken (by repeat (first | exact Sub.nil | refine Sub.cons rfl ?_)) (hQ _ _ ⟨decide (t185 = ([48] : List UInt8)), rfl, H, gr34, k176, k177, k178, k179, k180⟩)
                                          · replace H := H.2 b6
                                            refine WJ.no rfl rfl (okb b6) rfl ?_
                                            refine WJ.no rfl rfl (okb b6) rfl ?_
                                            refine WJ.no rfl rfl (okb b6) rfl ?_
                                            refine WJ.no rfl rfl (okb b6) rfl ?_
                                            refine WJ.no rfl rfl (okb b6) rfl ?_
                                            refine WJ.y rfl rfl (fun w' hw' => Yld.pickF (okb b6) rfl) ?_
                                            exact WJ.weaken (by repeat (first | exact Sub.nil | refine Sub.cons rfl ?_)) (hQ _ _ ⟨false, rfl, H, gr31, k160, k161, k162, k163, k164⟩)
                                      · clear hJ7
                                        rcases Bool.eq_false_or_eq_true (q12) with b7 | b7
                                        · replace H := H.1 b7
                                          refine WJ.yw rfl (wants_some rfl rfl (okb b7)) rfl (fun w' hw' => Yld.bagg (vs := [v_t430, v_t4302]) tab_ok (hw' rfl).2.2.2.1 rfl rfl rfl rfl) ?_
                                          refine WJ.call rfl (wants_some rfl rfl (okb b7)) rfl rfl (W_num_Num_Neg k153 H) (fun v w' h w2 e => DD.keep (⟨(Bl.g0 k156 (gr_eqv h.1 e)), (Bl.g0 k155 (gr_eqv h.1 e)), (Bl.g0 k157 (gr_eqv h.1 e)), (Bl.g0 k154 (gr_eqv h.1 e)), (Bl.g0 k158 (gr_eqv h.1 e))⟩)) ?_
                                          rintro _ w35 ⟨hg27, v_t175, v_t1752, t175, m_t175, rfl, ht175, one_v_t175, one_v_t1752, H⟩
                                          have gr35 := gr_trans gr30 hg27
                                          have k182 := k153.grown hg27
                                          have k183 := k154.g0 hg27
                                          have k184 := k155.g0 hg27
                                          have k185 := k156.g0 hg27
                                          have k186 := k157.g0 hg27
                                          have k187 := k158.g0 hg27
                                          refine WJ.call rfl (wants_some rfl rfl (okb b7)) rfl rfl (W_num_Num_Neg ht175 H) (fun v w' h w2 e => DD.keep (⟨(Bl.g0 k185 (gr_eqv h.1 e)), (Bl.g0 k184 (gr_eqv h.1 e)), (Bl.g0 k186 (gr_eqv h.1 e)), (Bl.g0 k183 (gr_eqv h.1 e)), (Bl.g0 k187 (gr_eqv h.1 e))⟩)) ?_
                                          rintro _ w36 ⟨hg28, v_t176, v_t1762, t176, m_t176, rfl, ht176, one_v_t176, one_v_t1762, H⟩
                                          have gr36 := gr_trans gr35 hg28
                                          have k188 := k182.grown hg28
                                          have k189 := k183.g0 hg28
                                          have k190 := k184.g0 hg28
                                          have k191 := k185.g0 hg28
                                          have k192 := k186.g0 hg28
                                          have k193 := k187.g0 hg28
                                          have k194 := ht175.grown hg28
                                          refine WJ.yw rfl (wants_some rfl rfl (okb b7)) rfl (fun w' hw' => Yld.bagg (vs := [v_t430, v_t4302]) tab_ok (hw' rfl).2.2.2.1 rfl rfl rfl rfl) ?_
                                          refine WJ.call rfl (wants_some rfl rfl (okb b7)) rfl rfl (W_num_Num_Cmp ht176 k188 H) (fun v w' h w2 e => DD.keep (⟨(Bl.g0 k191 (gr_eqv h.1 e)), (Bl.g0 k190 (gr_eqv h.1 e)), (Bl.g0 k192 (gr_eqv h.1 e)), (Bl.g0 k189 (gr_eqv h.1 e)), (Bl.g0 k193 (gr_eqv h.1 e))⟩)) ?_
                                          rintro _ w37 ⟨hg29, t178, rfl, H⟩
                                          have gr37 := gr_trans gr36 hg29
                                          have k195 := k188.grown hg29
                                          have k196 := k189.g0 hg29
                                          have k197 := k190.g0 hg29
                                          have k198 := k191.g0 hg29
                                          have k199 := k192.g0 hg29
                                          have k200 := k193.g0 hg29
                                          have k201 := ht176.grown hg29
                                          refine WJ.yw rfl (wants_some rfl rfl (okb b7)) rfl (fun w' hw' => Yld.pure tab_ok rfl) ?_
                                          refine WJ.y rfl rfl (fun w' hw' => Yld.pickT (okb b7) rfl) ?_
                                          exact WJ.weaken (by repeat (first | exact Sub.nil | refine Sub.cons rfl ?_)) (hQ _ _ ⟨decide (t178 = (0 : Int)), rfl, H, gr37, k195, k196, k197, k198, k199, k200⟩)
                                        · replace H := H.2 b7
                                          refine WJ.no rfl rfl (okb b7) rfl ?_
                                          refine WJ.no rfl rfl (okb b7) rfl ?_
                                          refine WJ.no rfl rfl (okb b7) rfl ?_
                                          refine WJ.no rfl rfl (okb b7) rfl ?_
                                          refine WJ.no rfl rfl (okb b7) rfl ?_
                                          refine WJ.no rfl rfl (okb b7) rfl ?_
                                          refine WJ.y rfl rfl (fun w' hw' => Yld.pickF (okb b7) rfl) ?_
                                          exact WJ.weaken (by repeat (first | exact Sub.nil | refine Sub.cons rfl ?_)) (hQ _ _ ⟨false, rfl, H, gr30, k153, k154, k155, k156, k157, k158⟩)
                                    · clear hJ6
                                      rcases Bool.eq_false_or_eq_true ((decide (t162 = (0 : Int))) && t1531) with b8 | b8
                                      · replace H := H.1 b8
                                        refine WJ.yw rfl (wants_some rfl rfl (okb b8)) rfl (fun w' hw' => Yld.bagg (vs := [v_t1530, v_t15302]) tab_ok (hw' rfl).2.2.2.2 rfl rfl rfl rfl) ?_
                                        refine WJ.yw rfl (wants_some rfl rfl (okb b8)) rfl (fun w' hw' => Yld.bagg (vs := [v_t430, v_t4302]) tab_ok (hw' rfl).2.2.2.1 rfl rfl rfl rfl) ?_
                                        refine WJ.call rfl (wants_some rfl rfl (okb b8)) rfl rfl (W_num_Num_Cmp k151 k146 H) (fun v w' h w2 e => DD.keep (⟨(Bl.g0 k149 (gr_eqv h.1 e)), (Bl.g0 k148 (gr_eqv h.1 e)), (Bl.g0 k150 (gr_eqv h.1 e)), (Bl.g0 k147 (gr_eqv h.1 e)), (Bl.g0 k152 (gr_eqv h.1 e))⟩)) ?_
                                        rintro _ w38 ⟨hg30, t170, rfl, H⟩
                                        have gr38 := gr_trans gr29 hg30
                                        have k202 := k146.grown hg30
                                        have k203 := k147.g0 hg30
                                        have k204 := k148.g0 hg30
                                        have k205 := k149.g0 hg30
                                        have k206 := k150.g0 hg30
                                        have k207 := k151.grown hg30
                                        have k208 := k152.g0 hg30
                                        refine WJ.yw rfl (wants_some rfl rfl (okb b8)) rfl (fun w' hw' => Yld.pure tab_ok rfl) ?_
                                        refine WJ.y rfl rfl (fun w' hw' => Yld.pickT (okb b8) rfl) ?_
                                        exact WJ.weaken (by repeat (first | exact Sub.nil | refine Sub.cons rfl ?_)) (hQ _ _ ⟨decide (t170 = (0 : Int)), rfl, H, gr38, k202, k203, k204, k205, k206, k208⟩)
                                      · replace H := H.2 b8
                                        refine WJ.no rfl rfl (okb b8) rfl ?_
                                        refine WJ.no rfl rfl (okb b8) rfl ?_
                                        refine WJ.no rfl rfl (okb b8) rfl ?_
                                        refine WJ.no rfl rfl (okb b8) rfl ?_
                                        refine WJ.y rfl rfl (fun w' hw' => Yld.pickF (okb b8) rfl) ?_
                                        exact WJ.weaken (by repeat (first | exact Sub.nil | refine Sub.cons rfl ?_)) (hQ _ _ ⟨false, rfl, H, gr29, k146, k147, k148, k149, k150, k152⟩)
                                  · clear H
                                    rcases Bool.eq_false_or_eq_true (decide (t162 = (0 : Int))) with b9 | b9
                                    · refine WJ.yw rfl (wants_some rfl rfl (okb b9)) rfl (fun w' hw' => Yld.pure tab_ok rfl) ?_
                                      refine WJ.y rfl rfl (fun w' hw' => Yld.pickT (okb b9) rfl) ?_
                                      exact WJ.weaken (by repeat (first | exact Sub.nil | refine Sub.cons rfl ?_)) (hQ _ _ ⟨t1531, rfl, by rw [b9] <;> rfl, rfl⟩)
                                    · refine WJ.no rfl rfl (okb b9) rfl ?_
                                      refine WJ.y rfl rfl (fun w' hw' => Yld.pickF (okb b9) rfl) ?_
                                      exact WJ.weaken (by repeat (first | exact Sub.nil | refine Sub.cons rfl ?_)) (hQ _ _ ⟨false, rfl, by rw [b9] <;> rfl, rfl⟩)
                                · clear hJ5
                                  refine WA.y 0 rfl (by kernel_rfl) rfl (fun w' hw' => Yld.bagg (vs := [v_t430, v_t4302]) tab_ok (Bl.g0 k115 hw') rfl rfl rfl rfl) ?_
                                  refine WA.y 1 rfl (by kernel_rfl) rfl (fun w' hw' => Yld.bagg (vs := [v_t480, v_t4802]) tab_ok (Bl.g0 k117 hw') rfl rfl rfl rfl) ?_
                                  refine WA.y 3 rfl (by kernel_rfl) rfl (fun w' hw' => Yld.bagg (vs := [v_t480, v_t4802]) tab_ok (Bl.g0 k117 hw') rfl rfl rfl rfl) ?_
                                  refine WA.split [2, 8] (by kernel_rfl) (by kernel_rfl) ⟨?_, ?_⟩
                                  · refine WI.call rfl rfl wants_none rfl rfl (W_num_Num_Mul k114 k116 H) (fun v w' h w2 e => gr_eqv (gr_trans (gr_refl _ none) h.1) e) ?_
                                    rintro _ w39 ⟨hg31, v_t151, v_t1512, t151, m_t151, rfl, ht151, one_v_t151, one_v_t1512, H⟩
                                    have gr39 := gr_trans gr24 hg31
                                    have k209 := k114.grown hg31
                                    have k210 := k115.g0 hg31
                                    have k211 := k116.grown hg31
                                    have k212 := k117.g0 hg31
                                    have k213 := k118.grown hg31
                                    have k214 := k119.g0 hg31
                                    have k215 := k120.grown hg31
                                    have k216 := hB10.g0 hg31
                                    have gt1 := gr_trans (gr_refl _ none) hg31
                                    refine WA.split [4, 8] (by kernel_rfl) (by kernel_rfl) ⟨?_, ?_⟩
                                    · refine WI.call rfl rfl wants_none rfl rfl (W_num_Num_Div ht151 k211 H) (fun v w' h w2 e => gr_eqv (gr_trans gt1 h.1) e) ?_
                                      rintro _ w40 ⟨hg32, v_t15303, v_t15304, t15302, m_t15302, t15312, rfl, ht15302, one_v_t15303, one_v_t15304, H⟩
                                      have gr40 := gr_trans gr39 hg32
                                      have k217 := k209.grown hg32
                                      have k218 := k210.g0 hg32
                                      have k219 := k211.grown hg32
                                      have k220 := k212.g0 hg32
                                      have k221 := k213.grown hg32
                                      have k222 := k214.g0 hg32
                                      have k223 := k215.grown hg32
                                      have k224 := k216.g0 hg32
                                      have k225 := ht151.grown hg32
                                      have gt2 := gr_trans gt1 hg32
                                      refine WA.y 5 rfl (by kernel_rfl) rfl (fun w' hw' => Yld.pure tab_ok rfl) ?_
                                      refine WA.y 6 rfl (by kernel_rfl) rfl (fun w' hw' => Yld.pure tab_ok rfl) ?_
                                      refine WA.y 7 rfl (by kernel_rfl) rfl (fun w' hw' => Yld.pure tab_ok rfl) ?_
                                      refine WA.split [8] (by kernel_rfl) (by kernel_rfl) ?_
                                      · refine WI.put rfl rfl rfl (Eff.alloc zero44) (fun v w' h => gr_trans gt2 h.2.2) ?_
                                        rintro _ w41 ⟨rfl, hB11, hg33⟩
                                        obtain ⟨g_back2, hl6⟩ : ∃ g, g = w40.heap.size := ⟨_, rfl⟩
                                        rw [← hl6] at hB11
                                        rw [← hl6]
                                        have gr41 := gr_trans gr40 hg33
                                        have k226 := k217.grown hg33
                                        have k227 := k218.g0 hg33
                                        have k228 := k219.grown hg33
                                        have k229 := k220.g0 hg33
                                        have k230 := k221.grown hg33
                                        have k231 := k222.g0 hg33
                                        have k232 := k223.grown hg33
                                        have k233 := k224.g0 hg33
                                        have k234 := k225.grown hg33
                                        have k235 := ht15302.grown hg33
                                        have gt3 := gr_trans gt2 hg33
                                        refine WA.split [9] (by kernel_rfl) (by kernel_rfl) ?_
                                        · refine WI.eff rfl rfl (Ef0.storeW (vs := [v_t15303, v_t15304]) tab_ok rfl rfl rfl (all1c one_v_t15303 (all1c one_v_t15304 all1n)) hB11 rfl rfl) (fun w' h => gr_mod gt3 h.2 (Ge.le (Ge.box (Nat.le_of_eq hl6.symm)) (size_le gt2))) ?_
                                          rintro w42 ⟨hB12, hg34⟩
                                          have gr42 := gr_mod gr41 hg34 (Ge.le (Ge.box (Nat.le_of_eq hl6.symm)) (size_le gr40))
                                          have k236 := k226.stored hB11 (noC (fun x h => Value.noConfusion h) (noC (fun x h => Value.noConfusion h) noN)) hg34
                                          have k237 := k227.go hg34 (Dj.new k218.lt' (Ge.box (Nat.le_of_eq hl6.symm)))
                                          have k238 := k228.stored hB11 (noC (fun x h => Value.noConfusion h) (noC (fun x h => Value.noConfusion h) noN)) hg34
                                          have k239 := k229.go hg34 (Dj.new k220.lt' (Ge.box (Nat.le_of_eq hl6.symm)))
                                          have k240 := k230.stored hB11 (noC (fun x h => Value.noConfusion h) (noC (fun x h => Value.noConfusion h) noN)) hg34
                                          have k241 := k231.go hg34 (Dj.new k222.lt' (Ge.box (Nat.le_of_eq hl6.symm)))
                                          have k242 := k232.stored hB11 (noC (fun x h => Value.noConfusion h) (noC (fun x h => Value.noConfusion h) noN)) hg34
                                          have k243 := k233.go hg34 (Dj.new k224.lt' (Ge.box (Nat.le_of_eq hl6.symm)))
                                          have k244 := k234.stored hB11 (noC (fun x h => Value.noConfusion h) (noC (fun x h => Value.noConfusion h) noN)) hg34
                                          have k245 := k235.stored hB11 (noC (fun x h => Value.noConfusion h) (noC (fun x h => Value.noConfusion h) noN)) hg34
                                          have gt4 := gr_mod gt3 hg34 (Ge.le (Ge.box (Nat.le_of_eq hl6.symm)) (size_le gt2))
                                          exact WA.doneF _ (by kernel_rfl) ⟨v_t15303, v_t15304, t15302, m_t15302, t15312, g_back2, rfl, H, gr42, k236, k237, k238, k239, k240, k241, k242, k243, k245, hB12, one_v_t15303, one_v_t15304, (Dj.new k218.lt' (Ge.box (Nat.le_of_eq hl6.symm))), (Dj.new k220.lt' (Ge.box (Nat.le_of_eq hl6.symm))), (Dj.new k222.lt' (Ge.box (Nat.le_of_eq hl6.symm))), (Dj.new k224.lt' (Ge.box (Nat.le_of_eq hl6.symm))), (Ge.le (Ge.box (Nat.le_of_eq hl6.symm)) (size_le gr40))⟩ (by repeat (first | exact Sub.nil | refine Sub.cons rfl ?_))
                                    · refine WI.put rfl rfl rfl (Eff.alloc zero44) (fun v w' h => gr_trans gt1 h.2.2) ?_
                                      rintro _ w43 ⟨rfl, hB13, hg35⟩
                                      obtain ⟨g_back3, hl7⟩ : ∃ g, g = w39.heap.size := ⟨_, rfl⟩
                                      rw [← hl7] at hB13
                                      rw [← hl7]
                                      have gr43 := gr_trans gr39 hg35
                                      have k246 := k209.grown hg35
                                      have k247 := k210.g0 hg35
                                      have k248 := k211.grown hg35
                                      have k249 := k212.g0 hg35
                                      have k250 := k213.grown hg35
                                      have k251 := k214.g0 hg35
                                      have k252 := k215.grown hg35
                                      have k253 := k216.g0 hg35
                                      have k254 := ht151.grown hg35
                                      have gt5 := gr_trans gt1 hg35
                                      refine WA.split [4] (by kernel_rfl) (by kernel_rfl) ?_
                                      · refine WI.call rfl rfl wants_none rfl rfl (W_num_Num_Div k254 k248 H) (fun v w' h w2 e => gr_eqv (gr_trans gt5 h.1) e) ?_
                                        rintro _ w44 ⟨hg36, v_t15305, v_t15306, t15303, m_t15303, t15313, rfl, ht15303, one_v_t15305, one_v_t15306, H⟩
                                        have gr44 := gr_trans gr43 hg36
                                        have k255 := k246.grown hg36
                                        have k256 := k247.g0 hg36
                                        have k257 := k248.grown hg36
                                        have k258 := k249.g0 hg36
                                        have k259 := k250.grown hg36
                                        have k260 := k251.g0 hg36
                                        have k261 := k252.grown hg36
                                        have k262 := k253.g0 hg36
                                        have k263 := k254.grown hg36
                                        have k264 := hB13.g0 hg36
                                        have gt6 := gr_trans gt5 hg36
                                        refine WA.y 5 rfl (by kernel_rfl) rfl (fun w' hw' => Yld.pure tab_ok rfl) ?_
                                        refine WA.y 6 rfl (by kernel_rfl) rfl (fun w' hw' => Yld.pure tab_ok rfl) ?_
                                        refine WA.y 7 rfl (by kernel_rfl) rfl (fun w' hw' => Yld.pure tab_ok rfl) ?_
                                        refine WA.split [9] (by kernel_rfl) (by kernel_rfl) ?_
                                        · refine WI.eff rfl rfl (Ef0.storeW (vs := [v_t15305, v_t15306]) tab_ok rfl rfl rfl (all1c one_v_t15305 (all1c one_v_t15306 all1n)) k264 rfl rfl) (fun w' h => gr_mod gt6 h.2 (Ge.le (Ge.box (Nat.le_of_eq hl7.symm)) (size_le gt1))) ?_
                                          rintro w45 ⟨hB14, hg37⟩
                                          have gr45 := gr_mod gr44 hg37 (Ge.le (Ge.box (Nat.le_of_eq hl7.symm)) (size_le gr39))
                                          have k265 := k255.stored k264 (noC (fun x h => Value.noConfusion h) (noC (fun x h => Value.noConfusion h) noN)) hg37
                                          have k266 := k256.go hg37 (Dj.new k210.lt' (Ge.box (Nat.le_of_eq hl7.symm)))
                                          have k267 := k257.stored k264 (noC (fun x h => Value.noConfusion h) (noC (fun x h => Value.noConfusion h) noN)) hg37
                                          have k268 := k258.go hg37 (Dj.new k212.lt' (Ge.box (Nat.le_of_eq hl7.symm)))
                                          have k269 := k259.stored k264 (noC (fun x h => Value.noConfusion h) (noC (fun x h => Value.noConfusion h) noN)) hg37
                                          have k270 := k260.go hg37 (Dj.new k214.lt' (Ge.box (Nat.le_of_eq hl7.symm)))
                                          have k271 := k261.stored k264 (noC (fun x h => Value.noConfusion h) (noC (fun x h => Value.noConfusion h) noN)) hg37
                                          have k272 := k262.go hg37 (Dj.new k216.lt' (Ge.box (Nat.le_of_eq hl7.symm)))
                                          have k273 := k263.stored k264 (noC (fun x h => Value.noConfusion h) (noC (fun x h => Value.noConfusion h) noN)) hg37
                                          have k274 := ht15303.stored k264 (noC (fun x h => Value.noConfusion h) (noC (fun x h => Value.noConfusion h) noN)) hg37
                                          have gt7 := gr_mod gt6 hg37 (Ge.le (Ge.box (Nat.le_of_eq hl7.symm)) (size_le gt1))
                                          exact WA.doneF _ (by kernel_rfl) ⟨v_t15305, v_t15306, t15303, m_t15303, t15313, g_back3, rfl, H, gr45, k265, k266, k267, k268, k269, k270, k271, k272, k274, hB14, one_v_t15305, one_v_t15306, (Dj.new k210.lt' (Ge.box (Nat.le_of_eq hl7.symm))), (Dj.new k212.lt' (Ge.box (Nat.le_of_eq hl7.symm))), (Dj.new k214.lt' (Ge.box (Nat.le_of_eq hl7.symm))), (Dj.new k216.lt' (Ge.box (Nat.le_of_eq hl7.symm))), (Ge.le (Ge.box (Nat.le_of_eq hl7.symm)) (size_le gr39))⟩ (by repeat (first | exact Sub.nil | refine Sub.cons rfl ?_))
                                  · refine WI.put rfl rfl rfl (Eff.alloc zero44) (fun v w' h => gr_trans (gr_refl _ none) h.2.2) ?_
                                    rintro _ w46 ⟨rfl, hB15, hg38⟩
                                    obtain ⟨g_back4, hl8⟩ : ∃ g, g = w24.heap.size := ⟨_, rfl⟩
                                    rw [← hl8] at hB15
                                    rw [← hl8]
                                    have gr46 := gr_trans gr24 hg38
                                    have k275 := k114.grown hg38
                                    have k276 := k115.g0 hg38
                                    have k277 := k116.grown hg38
                                    have k278 := k117.g0 hg38
                                    have k279 := k118.grown hg38
                                    have k280 := k119.g0 hg38
                                    have k281 := k120.grown hg38
                                    have k282 := hB10.g0 hg38
                                    have gt8 := gr_trans (gr_refl _ none) hg38
                                    refine WA.split [2] (by kernel_rfl) (by kernel_rfl) ?_
                                    · refine WI.call rfl rfl wants_none rfl rfl (W_num_Num_Mul k275 k277 H) (fun v w' h w2 e => gr_eqv (gr_trans gt8 h.1) e) ?_
                                      rintro _ w47 ⟨hg39, v_t1513, v_t1514, t1512, m_t1512, rfl, ht1512, one_v_t1513, one_v_t1514, H⟩
                                      have gr47 := gr_trans gr46 hg39
                                      have k283 := k275.grown hg39
                                      have k284 := k276.g0 hg39
                                      have k285 := k277.grown hg39
                                      have k286 := k278.g0 hg39
                                      have k287 := k279.grown hg39
                                      have k288 := k280.g0 hg39
                                      have k289 := k281.grown hg39
                                      have k290 := k282.g0 hg39
                                      have k291 := hB15.g0 hg39
                                      have gt9 := gr_trans gt8 hg39
                                      refine WA.split [4] (by kernel_rfl) (by kernel_rfl) ?_
                                      · refine WI.call rfl rfl wants_none rfl rfl (W_num_Num_Div ht1512 k285 H) (fun v w' h w2 e => gr_eqv (gr_trans gt9 h.1) e) ?_
                                        rintro _ w48 ⟨hg40, v_t15307, v_t15308, t15304, m_t15304, t15314, rfl, ht15304, one_v_t15307, one_v_t15308, H⟩
                                        have gr48 := gr_trans gr47 hg40
                                        have k292 := k283.grown hg40
                                        have k293 := k284.g0 hg40
                                        have k294 := k285.grown hg40
                                        have k295 := k286.g0 hg40
                                        have k296 := k287.grown hg40
                                        have k297 := k288.g0 hg40
                                        have k298 := k289.grown hg40
                                        have k299 := k290.g0 hg40
                                        have k300 := k291.g0 hg40
                                        have k301 := ht1512.grown hg40
                                        have gt10 := gr_trans gt9 hg40
                                        refine WA.y 5 rfl (by kernel_rfl) rfl (fun w' hw' => Yld.pure tab_ok rfl) ?_
                                        refine WA.y 6 rfl (by kernel_rfl) rfl (fun w' hw' => Yld.pure tab_ok rfl) ?_
                                        refine WA.y 7 rfl (by kernel_rfl) rfl (fun w' hw' => Yld.pure tab_ok rfl) ?_
                                        refine WA.split [9] (by kernel_rfl) (by kernel_rfl) ?_
                                        · refine WI.eff rfl rfl (Ef0.storeW (vs := [v_t15307, v_t15308]) tab_ok rfl rfl rfl (all1c one_v_t15307 (all1c one_v_t15308 all1n)) k300 rfl rfl) (fun w' h => gr_mod gt10 h.2 (Ge.le (Ge.box (Nat.le_of_eq hl8.symm)) (size_le (gr_refl _ none)))) ?_
                                          rintro w49 ⟨hB16, hg41⟩
                                          have gr49 := gr_mod gr48 hg41 (Ge.le (Ge.box (Nat.le_of_eq hl8.symm)) (size_le gr24))
                                          have k302 := k292.stored k300 (noC (fun x h => Value.noConfusion h) (noC (fun x h => Value.noConfusion h) noN)) hg41
                                          have k303 := k293.go hg41 (Dj.new k115.lt' (Ge.box (Nat.le_of_eq hl8.symm)))
                                          have k304 := k294.stored k300 (noC (fun x h => Value.noConfusion h) (noC (fun x h => Value.noConfusion h) noN)) hg41
                                          have k305 := k295.go hg41 (Dj.new k117.lt' (Ge.box (Nat.le_of_eq hl8.symm)))
                                          have k306 := k296.stored k300 (noC (fun x h => Value.noConfusion h) (noC (fun x h => Value.noConfusion h) noN)) hg41
                                          have k307 := k297.go hg41 (Dj.new k119.lt' (Ge.box (Nat.le_of_eq hl8.symm)))
                                          have k308 := k298.stored k300 (noC (fun x h => Value.noConfusion h) (noC (fun x h => Value.noConfusion h) noN)) hg41
                                          have k309 := k299.go hg41 (Dj.new hB10.lt' (Ge.box (Nat.le_of_eq hl8.symm)))
                                          have k310 := k301.stored k300 (noC (fun x h => Value.noConfusion h) (noC (fun x h => Value.noConfusion h) noN)) hg41
                                          have k311 := ht15304.stored k300 (noC (fun x h => Value.noConfusion h) (noC (fun x h => Value.noConfusion h) noN)) hg41
                                          have gt11 := gr_mod gt10 hg41 (Ge.le (Ge.box (Nat.le_of_eq hl8.symm)) (size_le (gr_refl _ none)))
                                          exact WA.doneF _ (by kernel_rfl) ⟨v_t15307, v_t15308, t15304, m_t15304, t15314, g_back4, rfl, H, gr49, k302, k303, k304, k305, k306, k307, k308, k309, k311, hB16, one_v_t15307, one_v_t15308, (Dj.new k115.lt' (Ge.box (Nat.le_of_eq hl8.symm))), (Dj.new k117.lt' (Ge.box (Nat.le_of_eq hl8.symm))), (Dj.new k119.lt' (Ge.box (Nat.le_of_eq hl8.symm))), (Dj.new hB10.lt' (Ge.box (Nat.le_of_eq hl8.symm))), (Ge.le (Ge.box (Nat.le_of_eq hl8.symm)) (size_le gr24))⟩ (by repeat (first | exact Sub.nil | refine Sub.cons rfl ?_))
                            · clear H
                              rcases Bool.eq_false_or_eq_true (!t1301) with b10 | b10
                              · refine WL.gno rfl rfl (okb b10) rfl ?_
                                refine WL.gno rfl rfl (okb b10) rfl ?_
                                refine WL.y rfl (Yld.pickT (okb b10) rfl) ?_
                                exact WL.weaken (by repeat (first | exact Sub.nil | refine Sub.cons rfl ?_)) (hQ _ _ ⟨true, rfl, by rw [b10] <;> rfl, rfl⟩)
                              · refine WL.gyes rfl rfl (okb b10) rfl (Yld.pure tab_ok rfl) ?_
                                refine WL.gyes rfl rfl (okb b10) rfl (Yld.pure tab_ok rfl) ?_
                                refine WL.y rfl (Yld.pickF (okb b10) rfl) ?_
                                exact WL.weaken (by repeat (first | exact Sub.nil | refine Sub.cons rfl ?_)) (hQ _ _ ⟨!t1361, rfl, by rw [b10] <;> rfl, rfl⟩)
                        · clear hJ4
                          rcases Bool.eq_false_or_eq_true (q8) with b11 | b11
                          · replace H := H.1 b11
                            refine WJ.no rfl rfl (okb b11) rfl ?_
                            refine WJ.no rfl rfl (okb b11) rfl ?_
                            refine WJ.no rfl rfl (okb b11) rfl ?_
                            refine WJ.no rfl rfl (okb b11) rfl ?_
                            refine WJ.no rfl rfl (okb b11) rfl ?_
                            refine WJ.no rfl rfl (okb b11) rfl ?_
                            refine WJ.no rfl rfl (okb b11) rfl ?_
                            refine WJ.no rfl rfl (okb b11) rfl ?_
                            refine WJ.no rfl rfl (okb b11) rfl ?_
                            refine WJ.no rfl rfl (okb b11) rfl ?_
                            refine WJ.no rfl rfl (okb b11) rfl ?_
                            refine WJ.no rfl rfl (okb b11) rfl ?_
                            refine WJ.y rfl rfl (fun w' hw' => Yld.pickT (okb b11) rfl) ?_
                            exact WJ.weaken (by repeat (first | exact Sub.nil | refine Sub.cons rfl ?_)) (hQ _ _ ⟨true, rfl, H, gr17, k76, k77, k78, k79, k81⟩)
                          · replace H := H.2 b11
                            refine WJ.yw rfl (wants_some rfl rfl (okb b11)) rfl (fun w' hw' => Yld.bagg (vs := [v_t430, v_t4302]) tab_ok (hw' rfl).1 rfl rfl rfl rfl) ?_
                            refine WJ.yw rfl (wants_some rfl rfl (okb b11)) rfl (fun w' hw' => Yld.bagg (vs := [v_t480, v_t4802]) tab_ok (hw' rfl).2.1 rfl rfl rfl rfl) ?_
                            refine WJ.call rfl (wants_some rfl rfl (okb b11)) rfl rfl (W_num_Num_Mul k76 k78 H) (fun v w' h w2 e => DD.keep (⟨(Bl.g0 k77 (gr_eqv h.1 e)), (Bl.g0 k79 (gr_eqv h.1 e)), (Bl.g0 k81 (gr_eqv h.1 e))⟩)) ?_
                            rintro _ w50 ⟨hg42, v_t116, v_t1162, t116, m_t116, rfl, ht116, one_v_t116, one_v_t1162, H⟩
                            have gr50 := gr_trans gr17 hg42
                            have k312 := k76.grown hg42
                            have k313 := k77.g0 hg42
                            have k314 := k78.grown hg42
                            have k315 := k79.g0 hg42
                            have k316 := k80.grown hg42
                            have k317 := k81.g0 hg42
                            refine WJ.yw rfl (wants_some rfl rfl (okb b11)) rfl (fun w' hw' => Yld.bagg (vs := [v_t530, v_t5302]) tab_ok (hw' rfl).2.2 rfl rfl rfl rfl) ?_
                            refine WJ.call rfl (wants_some rfl rfl (okb b11)) rfl rfl (W_num_Num_Mul ht116 k316 H) (fun v w' h w2 e => DD.keep (⟨(Bl.g0 k313 (gr_eqv h.1 e)), (Bl.g0 k315 (gr_eqv h.1 e)), (Bl.g0 k317 (gr_eqv h.1 e))⟩)) ?_
                            rintro _ w51 ⟨hg43, v_t118, v_t1182, t118, m_t118, rfl, ht118, one_v_t118, one_v_t1182, H⟩
                            have gr51 := gr_trans gr50 hg43
                            have k318 := k312.grown hg43
                            have k319 := k313.g0 hg43
                            have k320 := k314.grown hg43
                            have k321 := k315.g0 hg43
                            have k322 := k316.grown hg43
                            have k323 := k317.g0 hg43
                            have k324 := ht116.grown hg43
                            refine WJ.yw rfl (wants_some rfl rfl (okb b11)) rfl (fun w' hw' => Yld.bagg (vs := [v_t430, v_t4302]) tab_ok (hw' rfl).1 rfl rfl rfl rfl) ?_
                            refine WJ.yw rfl (wants_some rfl rfl (okb b11)) rfl (fun w' hw' => Yld.bagg (vs := [v_t480, v_t4802]) tab_ok (hw' rfl).2.1 rfl rfl rfl rfl) ?_
                            refine WJ.yw rfl (wants_some rfl rfl (okb b11)) rfl (fun w' hw' => Yld.bagg (vs := [v_t530, v_t5302]) tab_ok (hw' rfl).2.2 rfl rfl rfl rfl) ?_
                            refine WJ.call rfl (wants_some rfl rfl (okb b11)) rfl rfl (W_num_Num_Mul k320 k322 H) (fun v w' h w2 e => DD.keep (⟨(Bl.g0 k319 (gr_eqv h.1 e)), (Bl.g0 k321 (gr_eqv h.1 e)), (Bl.g0 k323 (gr_eqv h.1 e))⟩)) ?_
                            rintro _ w52 ⟨hg44, v_t122, v_t1222, t122, m_t122, rfl, ht122, one_v_t122, one_v_t1222, H⟩
                            have gr52 := gr_trans gr51 hg44
                            have k325 := k318.grown hg44
                            have k326 := k319.g0 hg44
                            have k327 := k320.grown hg44
                            have k328 := k321.g0 hg44
                            have k329 := k322.grown hg44
                            have k330 := k323.g0 hg44
                            have k331 := ht118.grown hg44
                            refine WJ.call rfl (wants_some rfl rfl (okb b11)) rfl rfl (W_num_Num_Mul k325 ht122 H) (fun v w' h w2 e => DD.keep (⟨(Bl.g0 k326 (gr_eqv h.1 e)), (Bl.g0 k328 (gr_eqv h.1 e)), (Bl.g0 k330 (gr_eqv h.1 e))⟩)) ?_
                            rintro _ w53 ⟨hg45, v_t123, v_t1232, t123, m_t123, rfl, ht123, one_v_t123, one_v_t1232, H⟩
                            have gr53 := gr_trans gr52 hg45
                            have k332 := k325.grown hg45
                            have k333 := k326.g0 hg45
                            have k334 := k327.grown hg45
                            have k335 := k328.g0 hg45
                            have k336 := k330.g0 hg45
                            have k337 := k331.grown hg45
                            have k338 := ht122.grown hg45
                            refine WJ.call rfl (wants_some rfl rfl (okb b11)) rfl rfl (W_num_Num_Cmp k337 ht123 H) (fun v w' h w2 e => DD.keep (⟨(Bl.g0 k333 (gr_eqv h.1 e)), (Bl.g0 k335 (gr_eqv h.1 e)), (Bl.g0 k336 (gr_eqv h.1 e))⟩)) ?_
                            rintro _ w54 ⟨hg46, t124, rfl, H⟩
                            have gr54 := gr_trans gr53 hg46
                            have k339 := k332.grown hg46
                            have k340 := k333.g0 hg46
                            have k341 := k334.grown hg46
                            have k342 := k335.g0 hg46
                            have k343 := k336.g0 hg46
                            have k344 := k337.grown hg46
                            have k345 := ht123.grown hg46
                            refine WJ.yw rfl (wants_some rfl rfl (okb b11)) rfl (fun w' hw' => Yld.pure tab_ok rfl) ?_
                            refine WJ.y rfl rfl (fun w' hw' => Yld.pickF (okb b11) rfl) ?_
                            exact WJ.weaken (by repeat (first | exact Sub.nil | refine Sub.cons rfl ?_)) (hQ _ _ ⟨!decide (t124 = (0 : Int)), rfl, H, gr54, k339, k340, k341, k342, k343⟩)
                      · clear hJ3
                        rcases Bool.eq_false_or_eq_true (q7) with b12 | b12
                        · replace H := H.1 b12
                          refine WJ.no rfl rfl (okb b12) rfl ?_
                          refine WJ.no rfl rfl (okb b12) rfl ?_
                          refine WJ.no rfl rfl (okb b12) rfl ?_
                          refine WJ.no rfl rfl (okb b12) rfl ?_
                          refine WJ.no rfl rfl (okb b12) rfl ?_
                          refine WJ.no rfl rfl (okb b12) rfl ?_
                          refine WJ.no rfl rfl (okb b12) rfl ?_
                          refine WJ.no rfl rfl (okb b12) rfl ?_
                          refine WJ.no rfl rfl (okb b12) rfl ?_
                          refine WJ.no rfl rfl (okb b12) rfl ?_
                          refine WJ.no rfl rfl (okb b12) rfl ?_
                          refine WJ.no rfl rfl (okb b12) rfl ?_
                          refine WJ.no rfl rfl (okb b12) rfl ?_
                          refine WJ.no rfl rfl (okb b12) rfl ?_
                          refine WJ.no rfl rfl (okb b12) rfl ?_
                          refine WJ.y rfl rfl (fun w' hw' => Yld.pickT (okb b12) rfl) ?_
                          exact WJ.weaken (by repeat (first | exact Sub.nil | refine Sub.cons rfl ?_)) (hQ _ _ ⟨true, rfl, H, gr16, k70, k71, k72, k73, k74, k75⟩)
                        · replace H := H.2 b12
                          refine WJ.yw rfl (wants_some rfl rfl (okb b12)) rfl (fun w' hw' => Yld.bagg (vs := [v_t430, v_t4302]) tab_ok (hw' rfl).1 rfl rfl rfl rfl) ?_
                          refine WJ.yw rfl (wants_some rfl rfl (okb b12)) rfl (fun w' hw' => Yld.bagg (vs := [v_t480, v_t4802]) tab_ok (hw' rfl).2.1 rfl rfl rfl rfl) ?_
                          refine WJ.call rfl (wants_some rfl rfl (okb b12)) rfl rfl (W_num_Num_Add k70 k72 H) (fun v w' h w2 e => DD.keep (⟨(Bl.g0 k71 (gr_eqv h.1 e)), (Bl.g0 k73 (gr_eqv h.1 e)), (Bl.g0 k75 (gr_eqv h.1 e))⟩)) ?_
                          rintro _ w55 ⟨hg47, v_t99, v_t992, t99, m_t99, rfl, ht99, one_v_t99, one_v_t992, H⟩
                          have gr55 := gr_trans gr16 hg47
                          have k346 := k70.grown hg47
                          have k347 := k71.g0 hg47
                          have k348 := k72.grown hg47
                          have k349 := k73.g0 hg47
                          have k350 := k74.grown hg47
                          have k351 := k75.g0 hg47
                          refine WJ.yw rfl (wants_some rfl rfl (okb b12)) rfl (fun w' hw' => Yld.bagg (vs := [v_t530, v_t5302]) tab_ok (hw' rfl).2.2 rfl rfl rfl rfl) ?_
                          refine WJ.call rfl (wants_some rfl rfl (okb b12)) rfl rfl (W_num_Num_Mul ht99 k350 H) (fun v w' h w2 e => DD.keep (⟨(Bl.g0 k347 (gr_eqv h.1 e)), (Bl.g0 k349 (gr_eqv h.1 e)), (Bl.g0 k351 (gr_eqv h.1 e))⟩)) ?_
                          rintro _ w56 ⟨hg48, v_t101, v_t1012, t101, m_t101, rfl, ht101, one_v_t101, one_v_t1012, H⟩
                          have gr56 := gr_trans gr55 hg48
                          have k352 := k346.grown hg48
                          have k353 := k347.g0 hg48
                          have k354 := k348.grown hg48
                          have k355 := k349.g0 hg48
                          have k356 := k350.grown hg48
                          have k357 := k351.g0 hg48
                          have k358 := ht99.grown hg48
                          refine WJ.call rfl (wants_some rfl rfl (okb b12)) rfl rfl (W_num_Num_Text ht101 H) (fun v w' h w2 e => DD.keep (⟨(Bl.g0 k353 (gr_eqv h.1 e)), (Bl.g0 k355 (gr_eqv h.1 e)), (Bl.g0 k357 (gr_eqv h.1 e))⟩)) ?_
                          rintro _ w57 ⟨hg49, t102, rfl, H⟩
                          have gr57 := gr_trans gr56 hg49
                          have k359 := k352.grown hg49
                          have k360 := k353.g0 hg49
                          have k361 := k354.grown hg49
                          have k362 := k355.g0 hg49
                          have k363 := k356.grown hg49
                          have k364 := k357.g0 hg49
                          have k365 := ht101.grown hg49
                          refine WJ.yw rfl (wants_some rfl rfl (okb b12)) rfl (fun w' hw' => Yld.bagg (vs := [v_t430, v_t4302]) tab_ok (hw' rfl).1 rfl rfl rfl rfl) ?_
                          refine WJ.yw rfl (wants_some rfl rfl (okb b12)) rfl (fun w' hw' => Yld.bagg (vs := [v_t530, v_t5302]) tab_ok (hw' rfl).2.2 rfl rfl rfl rfl) ?_
                          refine WJ.call rfl (wants_some rfl rfl (okb b12)) rfl rfl (W_num_Num_Mul k359 k363 H) (fun v w' h w2 e => DD.keep (⟨(Bl.g0 k360 (gr_eqv h.1 e)), (Bl.g0 k362 (gr_eqv h.1 e)), (Bl.g0 k364 (gr_eqv h.1 e))⟩)) ?_
                          rintro _ w58 ⟨hg50, v_t105, v_t1052, t105, m_t105, rfl, ht105, one_v_t105, one_v_t1052, H⟩
                          have gr58 := gr_trans gr57 hg50
                          have k366 := k359.grown hg50
                          have k367 := k360.g0 hg50
                          have k368 := k361.grown hg50
                          have k369 := k362.g0 hg50
                          have k370 := k363.grown hg50
                          have k371 := k364.g0 hg50
                          refine WJ.yw rfl (wants_some rfl rfl (okb b12)) rfl (fun w' hw' => Yld.bagg (vs := [v_t480, v_t4802]) tab_ok (hw' rfl).2.1 rfl rfl rfl rfl) ?_
                          refine WJ.yw rfl (wants_some rfl rfl (okb b12)) rfl (fun w' hw' => Yld.bagg (vs := [v_t530, v_t5302]) tab_ok (hw' rfl).2.2 rfl rfl rfl rfl) ?_
                          refine WJ.call rfl (wants_some rfl rfl (okb b12)) rfl rfl (W_num_Num_Mul k368 k370 H) (fun v w' h w2 e => DD.keep (⟨(Bl.g0 k367 (gr_eqv h.1 e)), (Bl.g0 k369 (gr_eqv h.1 e)), (Bl.g0 k371 (gr_eqv h.1 e))⟩)) ?_
                          rintro _ w59 ⟨hg51, v_t108, v_t1082, t108, m_t108, rfl, ht108, one_v_t108, one_v_t1082, H⟩
                          have gr59 := gr_trans gr58 hg51
                          have k372 := k366.grown hg51
                          have k373 := k367.g0 hg51
                          have k374 := k368.grown hg51
                          have k375 := k369.g0 hg51
                          have k376 := k370.grown hg51
                          have k377 := k371.g0 hg51
                          have k378 := ht105.grown hg51
                          refine WJ.call rfl (wants_some rfl rfl (okb b12)) rfl rfl (W_num_Num_Add k378 ht108 H) (fun v w' h w2 e => DD.keep (⟨(Bl.g0 k373 (gr_eqv h.1 e)), (Bl.g0 k375 (gr_eqv h.1 e)), (Bl.g0 k377 (gr_eqv h.1 e))⟩)) ?_
                          rintro _ w60 ⟨hg52, v_t109, v_t1092, t109, m_t109, rfl, ht109, one_v_t109, one_v_t1092, H⟩
                          have gr60 := gr_trans gr59 hg52
                          have k379 := k372.grown hg52
                          have k380 := k373.g0 hg52
                          have k381 := k374.grown hg52
                          have k382 := k375.g0 hg52
                          have k383 := k376.grown hg52
                          have k384 := k377.g0 hg52
                          have k385 := k378.grown hg52
                          have k386 := ht108.grown hg52
                          refine WJ.call rfl (wants_some rfl rfl (okb b12)) rfl rfl (W_num_Num_Text ht109 H) (fun v w' h w2 e => DD.keep (⟨(Bl.g0 k380 (gr_eqv h.1 e)), (Bl.g0 k382 (gr_eqv h.1 e)), (Bl.g0 k384 (gr_eqv h.1 e))⟩)) ?_
                          rintro _ w61 ⟨hg53, t110, rfl, H⟩
                          have gr61 := gr_trans gr60 hg53
                          have k387 := k379.grown hg53
                          have k388 := k380.g0 hg53
                          have k389 := k381.grown hg53
                          have k390 := k382.g0 hg53
                          have k391 := k383.grown hg53
                          have k392 := k384.g0 hg53
                          have k393 := ht109.grown hg53
                          refine WJ.yw rfl (wants_some rfl rfl (okb b12)) rfl (fun w' hw' => Yld.pure tab_ok rfl) ?_
                          refine WJ.y rfl rfl (fun w' hw' => Yld.pickF (okb b12) rfl) ?_
                          exact WJ.weaken (by repeat (first | exact Sub.nil | refine Sub.cons rfl ?_)) (hQ _ _ ⟨!decide (t102 = t110), rfl, H, gr61, k387, k388, k389, k390, k391, k392⟩)
                    · clear hJ2
                      rcases Bool.eq_false_or_eq_true (q6) with b13 | b13
                      · replace H := H.1 b13
                        refine WJ.no rfl rfl (okb b13) rfl ?_
                        refine WJ.no rfl rfl (okb b13) rfl ?_
                        refine WJ.no rfl rfl (okb b13) rfl ?_
                        refine WJ.no rfl rfl (okb b13) rfl ?_
                        refine WJ.no rfl rfl (okb b13) rfl ?_
                        refine WJ.no rfl rfl (okb b13) rfl ?_
                        refine WJ.no rfl rfl (okb b13) rfl ?_
                        refine WJ.no rfl rfl (okb b13) rfl ?_
                        refine WJ.y rfl rfl (fun w' hw' => Yld.pickT (okb b13) rfl) ?_
                        exact WJ.weaken (by repeat (first | exact Sub.nil | refine Sub.cons rfl ?_)) (hQ _ _ ⟨true, rfl, H, gr15, k64, k65, k66, k67, k68, k69⟩)
                      · replace H := H.2 b13
                        refine WJ.yw rfl (wants_some rfl rfl (okb b13)) rfl (fun w' hw' => Yld.bagg (vs := [v_t430, v_t4302]) tab_ok (hw' rfl).1 rfl rfl rfl rfl) ?_
                        refine WJ.yw rfl (wants_some rfl rfl (okb b13)) rfl (fun w' hw' => Yld.bagg (vs := [v_t480, v_t4802]) tab_ok (hw' rfl).2.1 rfl rfl rfl rfl) ?_
                        refine WJ.call rfl (wants_some rfl rfl (okb b13)) rfl rfl (W_num_Num_Add k64 k66 H) (fun v w' h w2 e => DD.keep (⟨(Bl.g0 k65 (gr_eqv h.1 e)), (Bl.g0 k67 (gr_eqv h.1 e)), (Bl.g0 k69 (gr_eqv h.1 e))⟩)) ?_
                        rintro _ w62 ⟨hg54, v_t89, v_t892, t89, m_t89, rfl, ht89, one_v_t89, one_v_t892, H⟩
                        have gr62 := gr_trans gr15 hg54
                        have k394 := k64.grown hg54
                        have k395 := k65.g0 hg54
                        have k396 := k66.grown hg54
                        have k397 := k67.g0 hg54
                        have k398 := k68.grown hg54
                        have k399 := k69.g0 hg54
                        refine WJ.yw rfl (wants_some rfl rfl (okb b13)) rfl (fun w' hw' => Yld.bagg (vs := [v_t480, v_t4802]) tab_ok (hw' rfl).2.1 rfl rfl rfl rfl) ?_
                        refine WJ.call rfl (wants_some rfl rfl (okb b13)) rfl rfl (W_num_Num_Sub ht89 k396 H) (fun v w' h w2 e => DD.keep (⟨(Bl.g0 k395 (gr_eqv h.1 e)), (Bl.g0 k397 (gr_eqv h.1 e)), (Bl.g0 k399 (gr_eqv h.1 e))⟩)) ?_
                        rintro _ w63 ⟨hg55, v_t91, v_t912, t91, m_t91, rfl, ht91, one_v_t91, one_v_t912, H⟩
                        have gr63 := gr_trans gr62 hg55
                        have k400 := k394.grown hg55
                        have k401 := k395.g0 hg55
                        have k402 := k396.grown hg55
                        have k403 := k397.g0 hg55
                        have k404 := k398.grown hg55
                        have k405 := k399.g0 hg55
                        have k406 := ht89.grown hg55
                        refine WJ.yw rfl (wants_some rfl rfl (okb b13)) rfl (fun w' hw' => Yld.bagg (vs := [v_t430, v_t4302]) tab_ok (hw' rfl).1 rfl rfl rfl rfl) ?_
                        refine WJ.call rfl (wants_some rfl rfl (okb b13)) rfl rfl (W_num_Num_Cmp ht91 k400 H) (fun v w' h w2 e => DD.keep (⟨(Bl.g0 k401 (gr_eqv h.1 e)), (Bl.g0 k403 (gr_eqv h.1 e)), (Bl.g0 k405 (gr_eqv h.1 e))⟩)) ?_
                        rintro _ w64 ⟨hg56, t93, rfl, H⟩
                        have gr64 := gr_trans gr63 hg56
                        have k407 := k400.grown hg56
                        have k408 := k401.g0 hg56
                        have k409 := k402.grown hg56
                        have k410 := k403.g0 hg56
                        have k411 := k404.grown hg56
                        have k412 := k405.g0 hg56
                        have k413 := ht91.grown hg56
                        refine WJ.yw rfl (wants_some rfl rfl (okb b13)) rfl (fun w' hw' => Yld.pure tab_ok rfl) ?_
                        refine WJ.y rfl rfl (fun w' hw' => Yld.pickF (okb b13) rfl) ?_
                        exact WJ.weaken (by repeat (first | exact Sub.nil | refine Sub.cons rfl ?_)) (hQ _ _ ⟨!decide (t93 = (0 : Int)), rfl, H, gr64, k407, k408, k409, k410, k411, k412⟩)
                  · clear hJ1
                    rcases Bool.eq_false_or_eq_true (!decide (t69 = t73)) with b14 | b14
                    · replace H := H.1 b14
                      refine WJ.no rfl rfl (okb b14) rfl ?_
                      refine WJ.no rfl rfl (okb b14) rfl ?_
                      refine WJ.no rfl rfl (okb b14) rfl ?_
                      refine WJ.no rfl rfl (okb b14) rfl ?_
                      refine WJ.no rfl rfl (okb b14) rfl ?_
                      refine WJ.no rfl rfl (okb b14) rfl ?_
                      refine WJ.no rfl rfl (okb b14) rfl ?_
                      refine WJ.no rfl rfl (okb b14) rfl ?_
                      refine WJ.no rfl rfl (okb b14) rfl ?_
                      refine WJ.y rfl rfl (fun w' hw' => Yld.pickT (okb b14) rfl) ?_
                      exact WJ.weaken (by repeat (first | exact Sub.nil | refine Sub.cons rfl ?_)) (hQ _ _ ⟨true, rfl, H, gr14, k58, k59, k60, k61, k62, k63⟩)
                    · replace H := H.2 b14
                      refine WJ.yw rfl (wants_some rfl rfl (okb b14)) rfl (fun w' hw' => Yld.bagg (vs := [v_t430, v_t4302]) tab_ok (hw' rfl).1 rfl rfl rfl rfl) ?_
                      refine WJ.yw rfl (wants_some rfl rfl (okb b14)) rfl (fun w' hw' => Yld.bagg (vs := [v_t480, v_t4802]) tab_ok (hw' rfl).2.1 rfl rfl rfl rfl) ?_
                      refine WJ.call rfl (wants_some rfl rfl (okb b14)) rfl rfl (W_num_Num_Mul k58 k60 H) (fun v w' h w2 e => DD.keep (⟨(Bl.g0 k59 (gr_eqv h.1 e)), (Bl.g0 k61 (gr_eqv h.1 e)), (Bl.g0 k63 (gr_eqv h.1 e))⟩)) ?_
                      rintro _ w65 ⟨hg57, v_t78, v_t782, t78, m_t78, rfl, ht78, one_v_t78, one_v_t782, H⟩
                      have gr65 := gr_trans gr14 hg57
                      have k414 := k58.grown hg57
                      have k415 := k59.g0 hg57
                      have k416 := k60.grown hg57
                      have k417 := k61.g0 hg57
                      have k418 := k62.grown hg57
                      have k419 := k63.g0 hg57
                      refine WJ.call rfl (wants_some rfl rfl (okb b14)) rfl rfl (W_num_Num_Text ht78 H) (fun v w' h w2 e => DD.keep (⟨(Bl.g0 k415 (gr_eqv h.1 e)), (Bl.g0 k417 (gr_eqv h.1 e)), (Bl.g0 k419 (gr_eqv h.1 e))⟩)) ?_
                      rintro _ w66 ⟨hg58, t79, rfl, H⟩
                      have gr66 := gr_trans gr65 hg58
                      have k420 := k414.grown hg58
                      have k421 := k415.g0 hg58
                      have k422 := k416.grown hg58
                      have k423 := k417.g0 hg58
                      have k424 := k418.grown hg58
                      have k425 := k419.g0 hg58
                      have k426 := ht78.grown hg58
                      refine WJ.yw rfl (wants_some rfl rfl (okb b14)) rfl (fun w' hw' => Yld.bagg (vs := [v_t480, v_t4802]) tab_ok (hw' rfl).2.1 rfl rfl rfl rfl) ?_
                      refine WJ.yw rfl (wants_some rfl rfl (okb b14)) rfl (fun w' hw' => Yld.bagg (vs := [v_t430, v_t4302]) tab_ok (hw' rfl).1 rfl rfl rfl rfl) ?_
                      refine WJ.call rfl (wants_some rfl rfl (okb b14)) rfl rfl (W_num_Num_Mul k422 k420 H) (fun v w' h w2 e => DD.keep (⟨(Bl.g0 k421 (gr_eqv h.1 e)), (Bl.g0 k423 (gr_eqv h.1 e)), (Bl.g0 k425 (gr_eqv h.1 e))⟩)) ?_
                      rintro _ w67 ⟨hg59, v_t82, v_t822, t82, m_t82, rfl, ht82, one_v_t82, one_v_t822, H⟩
                      have gr67 := gr_trans gr66 hg59
                      have k427 := k420.grown hg59
                      have k428 := k421.g0 hg59
                      have k429 := k422.grown hg59
                      have k430 := k423.g0 hg59
                      have k431 := k424.grown hg59
                      have k432 := k425.g0 hg59
                      refine WJ.call rfl (wants_some rfl rfl (okb b14)) rfl rfl (W_num_Num_Text ht82 H) (fun v w' h w2 e => DD.keep (⟨(Bl.g0 k428 (gr_eqv h.1 e)), (Bl.g0 k430 (gr_eqv h.1 e)), (Bl.g0 k432 (gr_eqv h.1 e))⟩)) ?_
                      rintro _ w68 ⟨hg60, t83, rfl, H⟩
                      have gr68 := gr_trans gr67 hg60
                      have k433 := k427.grown hg60
                      have k434 := k428.g0 hg60
                      have k435 := k429.grown hg60
                      have k436 := k430.g0 hg60
                      have k437 := k431.grown hg60
                      have k438 := k432.g0 hg60
                      have k439 := ht82.grown hg60
                      refine WJ.yw rfl (wants_some rfl rfl (okb b14)) rfl (fun w' hw' => Yld.pure tab_ok rfl) ?_
                      refine WJ.y rfl rfl (fun w' hw' => Yld.pickF (okb b14) rfl) ?_
                      exact WJ.weaken (by repeat (first | exact Sub.nil | refine Sub.cons rfl ?_)) (hQ _ _ ⟨!decide (t79 = t83), rfl, H, gr68, k433, k434, k435, k436, k437, k438⟩)
              · clear H
                rcases Bool.eq_false_or_eq_true ((!decide (t431 = Er.ok)) || (!decide (t481 = Er.ok))) with b15 | b15
                · refine WL.gno rfl rfl (okb b15) rfl ?_
                  refine WL.gno rfl rfl (okb b15) rfl ?_
                  refine WL.y rfl (Yld.pickT (okb b15) rfl) ?_
                  exact WL.weaken (by repeat (first | exact Sub.nil | refine Sub.cons rfl ?_)) (hQ _ _ ⟨true, rfl, by rw [b15] <;> rfl, rfl⟩)
                · refine WL.gyes rfl rfl (okb b15) rfl (Yld.pure tab_ok rfl) ?_
                  refine WL.gyes rfl rfl (okb b15) rfl (Yld.errneq Tryd.underlying28 k39 rfl) ?_
                  refine WL.y rfl (Yld.pickF (okb b15) rfl) ?_
                  exact WL.weaken (by repeat (first | exact Sub.nil | refine Sub.cons rfl ?_)) (hQ _ _ ⟨!decide (t531 = Er.ok), rfl, by rw [b15] <;> rfl, rfl⟩)
            · clear H
              rcases Bool.eq_false_or_eq_true (!decide (t431 = Er.ok)) with b16 | b16
              · refine WL.gno rfl rfl (okb b16) rfl ?_
                refine WL.gno rfl rfl (okb b16) rfl ?_
                refine WL.y rfl (Yld.pickT (okb b16) rfl) ?_
                exact WL.weaken (by repeat (first | exact Sub.nil | refine Sub.cons rfl ?_)) (hQ _ _ ⟨true, rfl, by rw [b16] <;> rfl, rfl⟩)
              · refine WL.gyes rfl rfl (okb b16) rfl (Yld.pure tab_ok rfl) ?_
                refine WL.gyes rfl rfl (okb b16) rfl (Yld.errneq Tryd.underlying28 k36 rfl) ?_
                refine WL.y rfl (Yld.pickF (okb b16) rfl) ?_
                exact WL.weaken (by repeat (first | exact Sub.nil | refine Sub.cons rfl ?_)) (hQ _ _ ⟨!decide (t481 = Er.ok), rfl, by rw [b16] <;> rfl, rfl⟩)
        · clear H
          rcases Bool.eq_false_or_eq_true (((decide ((200 : Int) < (s.length : Int))) || (decide ((200 : Int) < (t.length : Int)))) || (decide ((200 : Int) < (u.length : Int)))) with b17 | b17
          · refine WL.gno rfl rfl (okb b17) rfl ?_
            refine WL.gno rfl rfl (okb b17) rfl ?_
            refine WL.y rfl (Yld.pickT (okb b17) rfl) ?_
            exact WL.weaken (by repeat (first | exact Sub.nil | refine Sub.cons rfl ?_)) (hQ _ _ ⟨true, rfl, by rw [b17] <;> rfl, rfl⟩)
          · refine WL.gyes rfl rfl (okb b17) rfl (Yld.pure tab_ok rfl) ?_
            refine WL.gyes rfl rfl (okb b17) rfl (Yld.pure tab_ok rfl) ?_
            refine WL.y rfl (Yld.pickF (okb b17) rfl) ?_
            exact WL.weaken (by repeat (first | exact Sub.nil | refine Sub.cons rfl ?_)) (hQ _ _ ⟨!ok, rfl, by rw [b17] <;> rfl, rfl⟩)
      · clear H
        rcases Bool.eq_false_or_eq_true ((decide ((200 : Int) < (s.length : Int))) || (decide ((200 : Int) < (t.length : Int)))) with b18 | b18
        · refine WL.gno rfl rfl (okb b18) rfl ?_
          refine WL.gno rfl rfl (okb b18) rfl ?_
          refine WL.gno rfl rfl (okb b18) rfl ?_
          refine WL.y rfl (Yld.pickT (okb b18) rfl) ?_
          exact WL.weaken (by repeat (first | exact Sub.nil | refine Sub.cons rfl ?_)) (hQ _ _ ⟨true, rfl, by rw [b18] <;> rfl, rfl⟩)
        · refine WL.gyes rfl rfl (okb b18) rfl (Yld.pure tab_ok rfl) ?_
          refine WL.gyes rfl rfl (okb b18) rfl (Yld.pure tab_ok rfl) ?_
          refine WL.gyes rfl rfl (okb b18) rfl (Yld.pure tab_ok rfl) ?_
          refine WL.y rfl (Yld.pickF (okb b18) rfl) ?_
          exact WL.weaken (by repeat (first | exact Sub.nil | refine Sub.cons rfl ?_)) (hQ _ _ ⟨decide ((200 : Int) < (u.length : Int)), rfl, by rw [b18] <;> rfl, rfl⟩)
    · clear H
      rcases Bool.eq_false_or_eq_true (decide ((200 : Int) < (s.length : Int))) with b19 | b19
      · refine WL.gno rfl rfl (okb b19) rfl ?_
        refine WL.gno rfl rfl (okb b19) rfl ?_
        refine WL.gno rfl rfl (okb b19) rfl ?_
        refine WL.y rfl (Yld.pickT (okb b19) rfl) ?_
        exact WL.weaken (by repeat (first | exact Sub.nil | refine Sub.cons rfl ?_)) (hQ _ _ ⟨true, rfl, by rw [b19] <;> rfl, rfl⟩)
      · refine WL.gyes rfl rfl (okb b19) rfl (Yld.pure tab_ok rfl) ?_
        refine WL.gyes rfl rfl (okb b19) rfl (Yld.pure tab_ok rfl) ?_
        refine WL.gyes rfl rfl (okb b19) rfl (Yld.pure tab_ok rfl) ?_
        refine WL.y rfl (Yld.pickF (okb b19) rfl) ?_
        exact WL.weaken (by repeat (first | exact Sub.nil | refine Sub.cons rfl ?_)) (hQ _ _ ⟨decide ((200 : Int) < (t.length : Int)), rfl, by rw [b19] <;> rfl, rfl⟩)

end Go.Proofs.YtilphcippnfklaaDoor
 /- NumRings, plainly. -/
namespace Go.Proofs.YtilphcippnfklaaDoor
open Go Go.RowKit
theorem cutm_len (s : List UInt8) : (cutm s).length ≤ s.length := by unfold cutm; split <;> simp
theorem parse_M {s : List UInt8} {K : Int → Nat → Er → Prop} (hs : s.length ≤ maxLen) (h : ∀ z m e, (e = Er.ok ∧ shape s = true ∧ z = sval s ∧ m = (cutm s).length ∧ m ≤ 2400) ∨ (e ≠ Er.ok ∧ z = 0 ∧ m = 0) → K z m e) : M_num_Parse s K :=
  ⟨hs, fun h1 h2 => h _ _ _ (.inl ⟨rfl, h1, rfl, rfl, h2⟩), fun _ _ => h _ _ _ (.inr ⟨by simp, rfl, rfl⟩), fun _ => h _ _ _ (.inr ⟨by simp, rfl, rfl⟩)⟩
set_option maxRecDepth 10000 in
theorem rings_ok {s t u : List UInt8} {K : Bool → Prop} (hs : s.length ≤ maxLen) (ht : t.length ≤ maxLen) (hu : u.length ≤ maxLen) (H : K true) : M_smithylaw9_NumRings s t u K := by
  unfold M_smithylaw9_NumRings M_smithylaw9_first
  refine ⟨fun h => by simp at h, fun _ => ⟨fun _ => H, fun hlen => ?_⟩⟩
  simp only [Bool.not_true, Bool.or_false, Bool.or_eq_false_iff, decide_eq_false_iff_not] at hlen
  refine parse_M hs fun x m1 e1 h1 => parse_M ht fun y m2 e2 h2 => parse_M hu fun z m3 e3 h3 => ⟨fun _ => H, fun he => ?_⟩
  simp only [Bool.or_eq_false_iff, Bool.not_eq_false', decide_eq_true_eq] at he
  obtain ⟨⟨rfl, rfl⟩, rfl⟩ := he
  have c1 := cutm_len s
  have c2 := cutm_len t
  have c3 := cutm_len u
  have b1 : m1 ≤ 200 := by rcases h1 with h1 | h1 <;> omega
  have b2 : m2 ≤ 200 := by rcases h2 with h2 | h2 <;> omega
  have b3 : m3 ≤ 200 := by rcases h3 with h3 | h3 <;> omega
  clear h1 h2 h3 c1 c2 c3 hlen hs ht hu
  refine ⟨by omega, by omega, by omega, by omega, fun q => q = false, ⟨fun h => ?_, fun _ => ⟨by omega, by omega, by omega, by omega, ?_⟩⟩, ?_⟩
  · rw [Int.add_comm y x] at h; simp at h
  · rw [Int.mul_comm y x]; simp
  rintro _ rfl
  refine ⟨fun q => q = false, ⟨nofun, fun _ => ⟨by omega, by omega, by omega, ?_⟩⟩, ?_⟩
  · rw [show x + y - y = x by omega]; simp
  rintro _ rfl
  refine ⟨fun q => q = false, ⟨nofun, fun _ => ⟨by omega, by omega, by omega, by omega, by omega, by omega, by omega, ?_⟩⟩, ?_⟩
  · rw [Int.add_mul]; simp
  rintro _ rfl
  refine ⟨fun q => q = false, ⟨nofun, fun _ => ⟨by omega, by omega, by omega, by omega, by omega, ?_⟩⟩, ?_⟩
  · rw [Int.mul_assoc]; simp
  rintro _ rfl
  refine ⟨nofun, fun _ => ⟨by omega, fun q hq _ => ⟨by omega, fun r hr _ => ?_⟩⟩⟩
  refine ⟨fun h => ⟨by omega, ?_⟩, fun h => ?_⟩
  · have hy : y = 0 := by simpa using h
    rw [hy, show txt 0 = [48] from rfl]
    simpa using H
  · have hy : y ≠ 0 := by simpa using h
    obtain ⟨r', hq⟩ := hq hy
    obtain ⟨q', hr⟩ := hr hy
    have hqq := (Floor.unique hq hr).1
    subst hqq
    refine ⟨fun b m e => (∃ r, Floor (x * y) y b r) ∧ m ≤ 1000 ∧ e = true, ⟨by omega, by omega, fun z hz _ => ⟨hz hy, by omega, by simpa using hy⟩⟩, ?_⟩
    rintro b mb _ ⟨⟨rb, hb⟩, hmb, rfl⟩
    have hfl : Floor (x * y) y x 0 := ⟨by omega, by rcases Int.lt_trichotomy y 0 with h | h | h <;> omega⟩
    obtain rfl := (Floor.unique hb hfl).1
    have hx : q * y + r = b := hr.1.symm
    refine ⟨by omega, by omega, by omega, fun q => q = true, ⟨fun _ => ⟨by omega, by simp⟩, fun h => ?_⟩, ?_⟩
    · rw [hx] at h; simp at h
    rintro _ rfl
    refine ⟨fun q => q = true, ⟨fun _ => ⟨by omega, by omega, by omega, by rw [Int.neg_neg]; simp⟩, nofun⟩, ?_⟩
    rintro _ rfl
    refine ⟨fun q => q = true, ⟨fun _ => ⟨by omega, by omega, by rw [Int.sub_self]; rfl⟩, nofun⟩, ?_⟩
    rintro _ rfl
    exact H
end Go.Proofs.YtilphcippnfklaaDoor
 