/- Texts of this claim, joined by a program: GVb, VisG. -/
import Derived.Test.YtcfljnfaakjdjaaDoorJ6
/- Printed by a program (wip/vg): what the functions mean, plainly, and their walks. -/
namespace Go.Proofs.YtcfljnfaakjdjaaDoor
open Go Go.RowKit
attribute [local irreducible] WL WC WX WQ WK WJ Yld Eff Ef0 Fn
def M_smithylaw20_VisGrows (specs : List (List UInt8)) (more : List UInt8) (a_Pkg : List UInt8) (a_Name : List UInt8) (b_Pkg : List UInt8) (b_Name : List UInt8) (K : Bool → Prop) : Prop :=
 (specs.length ≤ maxLen →
 M_smithylaw20_first (fun (ok : Bool) =>
 (((!ok) = true → K false) ∧
 ((!ok) = false → M_smithyworld_Texts specs (12 : Int) (300 : Int) (fun (t20 : Bool) =>
 (((((((!t20) || (decide ((300 : Int) < (more.length : Int)))) || (decide ((100 : Int) < (a_Pkg.length : Int)))) || (decide ((100 : Int) < (b_Pkg.length : Int)))) || (!ok)) = true → K ok) ∧
 ((((((!t20) || (decide ((300 : Int) < (more.length : Int)))) || (decide ((100 : Int) < (a_Pkg.length : Int)))) || (decide ((100 : Int) < (b_Pkg.length : Int)))) || (!ok)) = false → M_vis_May specs a_Pkg a_Name b_Pkg b_Name (fun (was : Bool) =>
 ∃ J1 : (List (List UInt8)) → Prop, (M_smithyref_Texts specs (fun (t49 : List (List UInt8)) =>
 ((t49.length + (([more] : List (List UInt8))).length) * 16 ≤ 140737488355328) ∧
 J1 t49)) ∧
 (∀ t49 : List (List UInt8), J1 t49 → M_vis_May (t49 ++ ([more] : List (List UInt8))) a_Pkg a_Name b_Pkg b_Name (fun (now : Bool) =>
 ∃ J2 : Bool → Prop, ((((was && (!now)) = true → J2 true) ∧
 ((was && (!now)) = false → M_vis_May specs a_Pkg a_Name a_Pkg a_Name (fun (t65 : Bool) =>
 J2 (!t65))))) ∧
 (∀ q6 : Bool, J2 q6 → ∃ J3 : Bool → Prop, (((q6 = true → J3 true) ∧
 (q6 = false → M_vis_May ([([47, 47, 118, 105, 115, 105, 98, 105, 108, 105, 116, 121, 58, 112, 117, 98, 108, 105, 99] : List UInt8)] : List (List UInt8)) a_Pkg a_Name b_Pkg b_Name (fun (t72 : Bool) =>
 J3 (!t72))))) ∧
 (∀ q7 : Bool, J3 q7 → ((q7 = true → K false) ∧
 (q7 = false → (([47, 47] : List UInt8).length + b_Pkg.length ≤ 9223372036854775807) ∧
 ((([47, 47] : List UInt8) ++ b_Pkg).length + ([58, 95, 95, 112, 107, 103, 95, 95] : List UInt8).length ≤ 9223372036854775807) ∧
 M_vis_May ([(([47, 47] : List UInt8) ++ b_Pkg) ++ ([58, 95, 95, 112, 107, 103, 95, 95] : List UInt8)] : List (List UInt8)) a_Pkg a_Name b_Pkg b_Name (fun (one : Bool) =>
 (([47, 47] : List UInt8).length + b_Pkg.length ≤ 9223372036854775807) ∧
 ((([47, 47] : List UInt8) ++ b_Pkg).length + ([58, 95, 95, 115, 117, 98, 112, 97, 99, 107, 97, 103, 101, 115, 95, 95] : List UInt8).length ≤ 9223372036854775807) ∧
 M_vis_May ([(([47, 47] : List UInt8) ++ b_Pkg) ++ ([58, 95, 95, 115, 117, 98, 112, 97, 99, 107, 97, 103, 101, 115, 95, 95] : List UInt8)] : List (List UInt8)) a_Pkg a_Name b_Pkg b_Name (fun (all : Bool) =>
 (([47, 47] : List UInt8).length + b_Pkg.length ≤ 9223372036854775807) ∧
 ((([47, 47] : List UInt8) ++ b_Pkg).length + ([58, 95, 95, 112, 107, 103, 95, 95] : List UInt8).length ≤ 9223372036854775807) ∧
 M_vis_Valid ([(([47, 47] : List UInt8) ++ b_Pkg) ++ ([58, 95, 95, 112, 107, 103, 95, 95] : List UInt8)] : List (List UInt8)) (fun (t96 : Er) =>
 M_vis_May ([([47, 47, 118, 105, 115, 105, 98, 105, 108, 105, 116, 121, 58, 112, 114, 105, 118, 97, 116, 101] : List UInt8)] : List (List UInt8)) a_Pkg a_Name b_Pkg b_Name (fun (private_ : Bool) =>
 K (((one == ((decide (t96 = Er.ok)) || (decide (a_Pkg = b_Pkg)))) && (all == one)) && (private_ == (decide (a_Pkg = b_Pkg))))))))))))))))))))))

set_option maxHeartbeats 8000000 in
theorem W_smithylaw20_VisGrows {S : List Nat} {w : World} {specs : List (List UInt8)} {A_specs : Option Addr} {c_specs : Nat} {more : List UInt8} {a_Pkg : List UInt8} {a_Name : List UInt8} {b_Pkg : List UInt8} {b_Name : List UInt8} {n_specs : Nat} {K : Bool → Prop} (hG : GOK S w) (hS5 : 5 ∈ S) (hS100 : 100 ∈ S) (hspecs : Rd vs w A_specs c_specs specs) (hn_specs : n_specs = specs.length) (H : M_smithylaw20_VisGrows specs more a_Pkg a_Name b_Pkg b_Name K) : Fn Tryd.prog 3 ⟨[.slice A_specs n_specs c_specs, vs more, .agg ⟨[vs a_Pkg, vs a_Name]⟩, .agg ⟨[vs b_Pkg, vs b_Name]⟩]⟩ w (fun v w' => w.grownBy w' none ∧ ∃ (r : Bool), v = .bool r ∧ K r) := by
  subst hn_specs
  unfold M_smithylaw20_VisGrows at H
  refine Fn.enter (by kernel_rfl) Tryd.func3 rfl Tryd.ntmps3 rfl ?_
  replace H := H (Nat.le_trans hspecs.cap hspecs.max)
  refine WC.seq ?_
  refine WC.region ?_
  refine WL.box (us := [vs a_Pkg, vs a_Name]) rfl rfl rfl (fun g1 w1 hB1 hg1 hl1 => ?_)
  have gr1 := hg1
  refine WL.box (us := [vs b_Pkg, vs b_Name]) rfl rfl rfl (fun g2 w2 hB2 hg2 hl2 => ?_)
  have gr2 := gr_trans gr1 hg2
  have k1 := hB1.g0 hg2
  refine WL.y rfl (Yld.pure tab_ok rfl) ?_
  refine WL.nil (WX.then_normal ?_)
  refine WC.seq ?_
  refine WC.region ?_
  refine WL.call rfl rfl (W_smithylaw20_first (hG.grown gr2) hS100 H) ?_
  rintro _ w3 ⟨hg3, ok, rfl, H⟩
  have gr3 := gr_trans gr2 hg3
  have k2 := k1.g0 hg3
  have k3 := hB2.g0 hg3
  refine WL.y rfl (Yld.pure tab_ok rfl) ?_
  refine WL.nil (WX.then_normal ?_)
  refine WC.seq ?_
  refine WC.seq ?_
  refine WC.region ?_
  refine WL.y rfl (Yld.pure tab_ok rfl) ?_
  refine WL.y rfl (Yld.pure tab_ok rfl) ?_
  refine WL.nil (WX.then_normal ?_)
  refine WC.cond rfl (fun b1 => ?_) (fun b1 => ?_)
  · replace H := H.1 (b1)
    refine WC.seq ?_
    refine WC.region ?_
    refine WL.y rfl (Yld.pure tab_ok rfl) ?_
    refine WL.nil (WX.then_normal ?_)
    refine WC.ret (WX.then_ret ?_)
    exact WX.ret1 rfl rfl ⟨gr3, false, rfl, H⟩
  · replace H := H.2 (b1)
    refine WC.skip (WX.then_normal ?_)
    refine WC.seq ?_
    refine WC.seq ?_
    refine WC.region ?_
    refine WL.y rfl (Yld.pure tab_ok rfl) ?_
    refine WL.call rfl rfl (W_smithyworld_Texts (hspecs.grown gr3) rfl H) ?_
    rintro _ _ ⟨rfl, t20, rfl, H⟩
    refine WL.y rfl (Yld.pure tab_ok rfl) ?_
    refine WL.y rfl (Yld.pure tab_ok rfl) ?_
    refine WL.midF 4 (fun L' w' => ∃ q1 : Bool, L' = [(26, .bool q1), (0, .slice A_specs specs.length c_specs), (1, vs more), (6, .pointer (some ⟨g1, 0, none⟩)), (7, .pointer (some ⟨g2, 0, none⟩)), (9, .bool ok)] ∧ q1 = ((!t20) || (decide ((300 : Int) < (more.length : Int)))) ∧ w3 = w') ?_ (fun hQ => ?_)
    · rintro _ _ ⟨q1, rfl, rfl, rfl⟩
      refine WL.y rfl (Yld.pure tab_ok rfl) ?_
      refine WL.midF 5 (fun L' w' => ∃ q2 : Bool, L' = [(32, .bool q2), (0, .slice A_specs specs.length c_specs), (1, vs more), (6, .pointer (some ⟨g1, 0, none⟩)), (7, .pointer (some ⟨g2, 0, none⟩)), (9, .bool ok)] ∧ q2 = (((!t20) || (decide ((300 : Int) < (more.length : Int)))) || (decide ((100 : Int) < (a_Pkg.length : Int)))) ∧ w3 = w') ?_ (fun hQ => ?_)
      · rintro _ _ ⟨q2, rfl, rfl, rfl⟩
        refine WL.y rfl (Yld.pure tab_ok rfl) ?_
        refine WL.midF 5 (fun L' w' => ∃ q3 : Bool, L' = [(38, .bool q3), (0, .slice A_specs specs.length c_specs), (1, vs more), (6, .pointer (some ⟨g1, 0, none⟩)), (7, .pointer (some ⟨g2, 0, none⟩)), (9, .bool ok)] ∧ q3 = ((((!t20) || (decide ((300 : Int) < (more.length : Int)))) || (decide ((100 : Int) < (a_Pkg.length : Int)))) || (decide ((100 : Int) < (b_Pkg.length : Int)))) ∧ w3 = w') ?_ (fun hQ => ?_)
        · rintro _ _ ⟨q3, rfl, rfl, rfl⟩
          refine WL.y rfl (Yld.pure tab_ok rfl) ?_
          refine WL.midF 3 (fun L' w' => ∃ q4 : Bool, L' = [(42, .bool q4), (0, .slice A_specs specs.length c_specs), (1, vs more), (6, .pointer (some ⟨g1, 0, none⟩)), (7, .pointer (some ⟨g2, 0, none⟩)), (9, .bool ok)] ∧ q4 = (((((!t20) || (decide ((300 : Int) < (more.length : Int)))) || (decide ((100 : Int) < (a_Pkg.length : Int)))) || (decide ((100 : Int) < (b_Pkg.length : Int)))) || (!ok)) ∧ w3 = w') ?_ (fun hQ => ?_)
          · rintro _ _ ⟨q4, rfl, rfl, rfl⟩
            refine WL.nil (WX.then_normal ?_)
            refine WC.cond rfl (fun b2 => ?_) (fun b2 => ?_)
            · replace H := H.1 (b2)
              refine WC.seq ?_
              refine WC.region ?_
              refine WL.y rfl (Yld.pure tab_ok rfl) ?_
              refine WL.y rfl (Yld.pure tab_ok rfl) ?_
              refine WL.nil (WX.then_normal ?_)
              refine WC.ret (WX.then_ret ?_)
              exact WX.ret1 rfl rfl ⟨gr3, ok, rfl, H⟩
            · replace H := H.2 (b2)
              refine WC.skip (WX.then_normal ?_)
              refine WC.seq ?_
              refine WC.region ?_
              refine WL.y rfl (Yld.pure tab_ok rfl) ?_
              refine WL.y rfl (Yld.bagg (vs := [vs a_Pkg, vs a_Name]) tab_ok k2 rfl rfl rfl rfl) ?_
              refine WL.y rfl (Yld.bagg (vs := [vs b_Pkg, vs b_Name]) tab_ok k3 rfl rfl rfl rfl) ?_
              refine WL.call rfl rfl (W_vis_May (hG.grown gr3) hS100 (hspecs.grown gr3) rfl H) ?_
              rintro _ w4 ⟨hg4, was, rfl, H⟩
              have gr4 := gr_trans gr3 hg4
              have k4 := k2.g0 hg4
              have k5 := k3.g0 hg4
              refine WL.y rfl (Yld.pure tab_ok rfl) ?_
              refine WL.nil (WX.then_normal ?_)
              refine WC.seq ?_
              obtain ⟨J1, H, hJ1⟩ := H
              refine WC.ordersF 7 (fun k => !(Nat.beq k 1 || Nat.beq k 3 || Nat.beq k 4)) (fun w' => w4.grownBy w' none) (fun L' w' => ∃ (t49 : List (List UInt8)), ∃ (A_t52 : Option Addr), ∃ (c_t52 : Nat), L' = [(0, .slice A_specs specs.length c_specs), (6, .pointer (some ⟨g1, 0, none⟩)), (7, .pointer (some ⟨g2, 0, none⟩)), (10, .bool was), (52, .slice A_t52 ((t49 ++ ([more] : List (List UInt8))).length) c_t52), (53, .agg ⟨[vs a_Pkg, vs a_Name]⟩), (54, .agg ⟨[vs b_Pkg, vs b_Name]⟩)] ∧ J1 t49 ∧ w.grownBy w' none ∧ Bl w' g1 24 [vs a_Pkg, vs a_Name] ∧ Bl w' g2 24 [vs b_Pkg, vs b_Name] ∧ Own vs w' w.heap.size 9 A_t52 c_t52 (t49 ++ ([more] : List (List UInt8))) ∧ Dj (some g1) (blk A_t52) ∧ Dj (some g2) (blk A_t52)) mixed (by kernel_rfl) (fun w' h => gr_eqv (gr_refl _ _) h) ?_ ?_
              · clear H
                rintro _ w5 ⟨t49, A_t52, c_t52, rfl, H, gr5, k6, k7, k8, dj1, dj2⟩
                replace H := hJ1 t49 H
                refine WL.call rfl rfl (W_vis_May (hG.grown gr5) hS100 k8.rd rfl H) ?_
                rintro _ w6 ⟨hg5, now, rfl, H⟩
                have gr6 := gr_trans gr5 hg5
                have k9 := k6.g0 hg5
                have k10 := k7.g0 hg5
                refine WL.y rfl (Yld.pure tab_ok rfl) ?_
                refine WL.nil (WX.then_normal ?_)
                refine WC.seq ?_
                refine WC.seq ?_
                refine WC.region ?_
                refine WL.y rfl (Yld.pure tab_ok rfl) ?_
                refine WL.y rfl (Yld.pure tab_ok rfl) ?_
                refine WL.midF 3 (fun L' w' => ∃ q5 : Bool, L' = [(60, .bool q5), (0, .slice A_specs specs.length c_specs), (6, .pointer (some ⟨g1, 0, none⟩)), (7, .pointer (some ⟨g2, 0, none⟩))] ∧ q5 = (was && (!now)) ∧ w6 = w') ?_ (fun hQ => ?_)
                · rintro _ _ ⟨q5, rfl, rfl, rfl⟩
                  refine WL.y rfl (Yld.pure tab_ok rfl) ?_
                  obtain ⟨J2, H, hJ2⟩ := H
                  refine WL.midF 6 (fun L' w' => ∃ q6 : Bool, L' = [(67, .bool q6), (6, .pointer (some ⟨g1, 0, none⟩)), (7, .pointer (some ⟨g2, 0, none⟩))] ∧ J2 q6 ∧ w.grownBy w' none ∧ Bl w' g1 24 [vs a_Pkg, vs a_Name] ∧ Bl w' g2 24 [vs b_Pkg, vs b_Name]) ?_ (fun hQ => ?_)
                  · clear H
                    rintro _ w7 ⟨q6, rfl, H, gr7, k11, k12⟩
                    replace H := hJ2 q6 H
                    refine WL.y rfl (Yld.pure tab_ok rfl) ?_
                    obtain ⟨J3, H, hJ3⟩ := H
                    refine WL.midF 6 (fun L' w' => ∃ q7 : Bool, L' = [(74, .bool q7), (6, .pointer (some ⟨g1, 0, none⟩)), (7, .pointer (some ⟨g2, 0, none⟩))] ∧ J3 q7 ∧ w.grownBy w' none ∧ Bl w' g1 24 [vs a_Pkg, vs a_Name] ∧ Bl w' g2 24 [vs b_Pkg, vs b_Name]) ?_ (fun hQ => ?_)
                    · clear H
                      rintro _ w8 ⟨q7, rfl, H, gr8, k13, k14⟩
                      replace H := hJ3 q7 H
                      refine WL.nil (WX.then_normal ?_)
                      refine WC.cond rfl (fun b3 => ?_) (fun b3 => ?_)
                      · replace H := H.1 (b3)
                        refine WC.seq ?_
                        refine WC.region ?_
                        refine WL.y rfl (Yld.pure tab_ok rfl) ?_
                        refine WL.nil (WX.then_normal ?_)
                        refine WC.ret (WX.then_ret ?_)
                        exact WX.ret1 rfl rfl ⟨gr8, false, rfl, H⟩
                      · replace H := H.2 (b3)
                        refine WC.skip (WX.then_normal ?_)
                        refine WC.seq ?_
                        refine WC.region ?_
                        refine WL.y rfl (Yld.pure tab_ok rfl) ?_
                        refine WL.y rfl (Yld.bload tab_ok k14 rfl rfl rfl) ?_
                        obtain ⟨h1, H⟩ := H
                        refine WL.y rfl (Yld.sadd rfl rfl h1) ?_
                        obtain ⟨h2, H⟩ := H
                        refine WL.y rfl (Yld.sadd rfl rfl h2) ?_
                        refine WL.lit tab_ok rfl rfl rfl (all1c rfl all1n) rfl (by omega) (fun g3 w9 hB3 hg6 hl3 => ?_)
                        have hO1 : Own vs w9 w.heap.size 9 (some ⟨g3, 0, none⟩) 1 ([(([47, 47] : List UInt8) ++ b_Pkg) ++ ([58, 95, 95, 112, 107, 103, 95, 95] : List UInt8)] : List (List UInt8)) := Own.ofBl hB3 (Nat.le_trans (size_le gr8) hl3) (by simp [maxLen]) rfl
                        have gr9 := gr_trans gr8 hg6
                        have k15 := k13.g0 hg6
                        have k16 := k14.g0 hg6
                        refine WL.y rfl (Yld.bagg (vs := [vs a_Pkg, vs a_Name]) tab_ok k15 rfl rfl rfl rfl) ?_
                        refine WL.y rfl (Yld.bagg (vs := [vs b_Pkg, vs b_Name]) tab_ok k16 rfl rfl rfl rfl) ?_
                        refine WL.call rfl rfl (W_vis_May (hG.grown gr9) hS100 hO1.rd rfl H) ?_
                        rintro _ w10 ⟨hg7, one, rfl, H⟩
                        have gr10 := gr_trans gr9 hg7
                        have k17 := k15.g0 hg7
                        have k18 := k16.g0 hg7
                        refine WL.y rfl (Yld.pure tab_ok rfl) ?_
                        refine WL.nil (WX.then_normal ?_)
                        refine WC.seq ?_
                        refine WC.region ?_
                        refine WL.y rfl (Yld.pure tab_ok rfl) ?_
                        refine WL.y rfl (Yld.bload tab_ok k18 rfl rfl rfl) ?_
                        obtain ⟨h3, H⟩ := H
                        refine WL.y rfl (Yld.sadd rfl rfl h3) ?_
                        obtain ⟨h4, H⟩ := H
                        refine WL.y rfl (Yld.sadd rfl rfl h4) ?_
                        refine WL.lit tab_ok rfl rfl rfl (all1c rfl all1n) rfl (by omega) (fun g4 w11 hB4 hg8 hl4 => ?_)
                        have hO2 : Own vs w11 w.heap.size 9 (some ⟨g4, 0, none⟩) 1 ([(([47, 47] : List UInt8) ++ b_Pkg) ++ ([58, 95, 95, 115, 117, 98, 112, 97, 99, 107, 97, 103, 101, 115, 95, 95] : List UInt8)] : List (List UInt8)) := Own.ofBl hB4 (Nat.le_trans (size_le gr10) hl4) (by simp [maxLen]) rfl
                        have gr11 := gr_trans gr10 hg8
                        have k19 := k17.g0 hg8
                        have k20 := k18.g0 hg8
                        refine WL.y rfl (Yld.bagg (vs := [vs a_Pkg, vs a_Name]) tab_ok k19 rfl rfl rfl rfl) ?_
                        refine WL.y rfl (Yld.bagg (vs := [vs b_Pkg, vs b_Name]) tab_ok k20 rfl rfl rfl rfl) ?_
                        refine WL.call rfl rfl (W_vis_May (hG.grown gr11) hS100 hO2.rd rfl H) ?_
                        rintro _ w12 ⟨hg9, all, rfl, H⟩
                        have gr12 := gr_trans gr11 hg9
                        have k21 := k19.g0 hg9
                        have k22 := k20.g0 hg9
                        refine WL.y rfl (Yld.pure tab_ok rfl) ?_
                        refine WL.nil (WX.then_normal ?_)
                        refine WC.seq ?_
                        refine WC.region ?_
                        refine WL.y rfl (Yld.pure tab_ok rfl) ?_
                        refine WL.y rfl (Yld.bload tab_ok k22 rfl rfl rfl) ?_
                        obtain ⟨h5, H⟩ := H
                        refine WL.y rfl (Yld.sadd rfl rfl h5) ?_
                        obtain ⟨h6, H⟩ := H
                        refine WL.y rfl (Yld.sadd rfl rfl h6) ?_
                        refine WL.lit tab_ok rfl rfl rfl (all1c rfl all1n) rfl (by omega) (fun g5 w13 hB5 hg10 hl5 => ?_)
                        have hO3 : Own vs w13 w.heap.size 9 (some ⟨g5, 0, none⟩) 1 ([(([47, 47] : List UInt8) ++ b_Pkg) ++ ([58, 95, 95, 112, 107, 103, 95, 95] : List UInt8)] : List (List UInt8)) := Own.ofBl hB5 (Nat.le_trans (size_le gr12) hl5) (by simp [maxLen]) rfl
                        have gr13 := gr_trans gr12 hg10
                        have k23 := k21.g0 hg10
                        have k24 := k22.g0 hg10
                        refine WL.call rfl rfl (W_vis_Valid (hG.grown gr13) hS5 hS100 hO3.rd rfl H) ?_
                        rintro _ w14 ⟨hg11, v_t96, t96, rfl, ht96, H⟩
                        have gr14 := gr_trans gr13 hg11
                        have k25 := k23.g0 hg11
                        have k26 := k24.g0 hg11
                        refine WL.y rfl (Yld.erreql Tryd.underlying30 ht96 rfl) ?_
                        refine WL.y rfl (Yld.pure tab_ok rfl) ?_
                        refine WL.nil (WX.then_normal ?_)
                        refine WC.seq ?_
                        refine WC.region ?_
                        refine WL.lit tab_ok rfl rfl rfl (all1c rfl all1n) rfl (by omega) (fun g6 w15 hB6 hg12 hl6 => ?_)
                        have hO4 : Own vs w15 w.heap.size 9 (some ⟨g6, 0, none⟩) 1 ([([47, 47, 118, 105, 115, 105, 98, 105, 108, 105, 116, 121, 58, 112, 114, 105, 118, 97, 116, 101] : List UInt8)] : List (List UInt8)) := Own.ofBl hB6 (Nat.le_trans (size_le gr14) hl6) (by simp [maxLen]) rfl
                        have gr15 := gr_trans gr14 hg12
                        have k27 := k25.g0 hg12
                        have k28 := k26.g0 hg12
                        refine WL.y rfl (Yld.bagg (vs := [vs a_Pkg, vs a_Name]) tab_ok k27 rfl rfl rfl rfl) ?_
                        refine WL.y rfl (Yld.bagg (vs := [vs b_Pkg, vs b_Name]) tab_ok k28 rfl rfl rfl rfl) ?_
                        refine WL.call rfl rfl (W_vis_May (hG.grown gr15) hS100 hO4.rd rfl H) ?_
                        rintro _ w16 ⟨hg13, private_, rfl, H⟩
                        have gr16 := gr_trans gr15 hg13
                        have k29 := k27.g0 hg13
                        have k30 := k28.g0 hg13
                        refine WL.y rfl (Yld.pure tab_ok rfl) ?_
                        refine WL.nil (WX.then_normal ?_)
                        refine WC.seq ?_
                        refine WC.region ?_
                        refine WL.y rfl (Yld.pure tab_ok rfl) ?_
                        refine WL.y rfl (Yld.pure tab_ok rfl) ?_
                        refine WL.y rfl (Yld.pure tab_ok rfl) ?_
                        refine WL.midF 6 (fun L' w' => ∃ q8 : Bool, L' = [(110, .bool q8), (6, .pointer (some ⟨g1, 0, none⟩)), (7, .pointer (some ⟨g2, 0, none⟩)), (12, .bool one), (13, .bool all), (15, .bool private_), (102, .bool one)] ∧ q8 = ((decide (t96 = Er.ok)) || (decide (a_Pkg = b_Pkg))) ∧ w16 = w') ?_ (fun hQ => ?_)
                        · rintro _ _ ⟨q8, rfl, rfl, rfl⟩
                          refine WL.y rfl (Yld.beql Tryd.underlying4 rfl rfl) ?_
                          refine WL.y rfl (Yld.pure tab_ok rfl) ?_
                          refine WL.midF 4 (fun L' w' => ∃ q9 : Bool, L' = [(116, .bool q9), (6, .pointer (some ⟨g1, 0, none⟩)), (7, .pointer (some ⟨g2, 0, none⟩)), (15, .bool private_)] ∧ q9 = ((one == ((decide (t96 = Er.ok)) || (decide (a_Pkg = b_Pkg)))) && (all == one)) ∧ w16 = w') ?_ (fun hQ => ?_)
                          · rintro _ _ ⟨q9, rfl, rfl, rfl⟩
                            refine WL.y rfl (Yld.pure tab_ok rfl) ?_
                            refine WL.midF 8 (fun L' w' => ∃ q10 : Bool, L' = [(125, .bool q10)] ∧ q10 = (((one == ((decide (t96 = Er.ok)) || (decide (a_Pkg = b_Pkg)))) && (all == one)) && (private_ == (decide (a_Pkg = b_Pkg)))) ∧ w16 = w') ?_ (fun hQ => ?_)
                            · rintro _ _ ⟨q10, rfl, rfl, rfl⟩
                              refine WL.y rfl (Yld.pure tab_ok rfl) ?_
                              refine WL.nil (WX.then_normal ?_)
                              refine WC.ret ?_
                              exact WX.ret1 rfl rfl ⟨gr16, ((one == ((decide (t96 = Er.ok)) || (decide (a_Pkg = b_Pkg)))) && (all == one)) && (private_ == (decide (a_Pkg = b_Pkg))), rfl, H⟩
                            · clear H
                              rcases Bool.eq_false_or_eq_true ((one == ((decide (t96 = Er.ok)) || (decide (a_Pkg = b_Pkg)))) && (all == one)) with b4 | b4
                              · refine WL.gyes rfl rfl (okb b4) rfl (Yld.pure tab_ok rfl) ?_
                                refine WL.gyes rfl rfl (okb b4) rfl (Yld.pure tab_ok rfl) ?_
                                refine WL.gyes rfl rfl (okb b4) rfl (Yld.bload tab_ok k29 rfl rfl rfl) ?_
                                refine WL.gyes rfl rfl (okb b4) rfl (Yld.pure tab_ok rfl) ?_
                                refine WL.gyes rfl rfl (okb b4) rfl (Yld.bload tab_ok k30 rfl rfl rfl) ?_
                                refine WL.gyes rfl rfl (okb b4) rfl (Yld.pure tab_ok rfl) ?_
                                refine WL.gyes rfl rfl (okb b4) rfl (Yld.beql Tryd.underlying4 rfl rfl) ?_
                                refine WL.y rfl (Yld.pickT (okb b4) rfl) ?_
                                exact WL.weaken (by repeat (first | exact Sub.nil | refine Sub.cons rfl ?_)) (hQ _ _ ⟨private_ == (decide (a_Pkg = b_Pkg)), rfl, by rw [b4] <;> rfl, rfl⟩)
                              · refine WL.gno rfl rfl (okb b4) rfl ?_
                                refine WL.gno rfl rfl (okb b4) rfl ?_
                                refine WL.gno rfl rfl (okb b4) rfl ?_
                                refine WL.gno rfl rfl (okb b4) rfl ?_
                                refine WL.gno rfl rfl (okb b4) rfl ?_
                                refine WL.gno rfl rfl (okb b4) rfl ?_
                                refine WL.gno rfl rfl (okb b4) rfl ?_
                                refine WL.y rfl (Yld.pickF (okb b4) rfl) ?_
                                exact WL.weaken (by repeat (first | exact Sub.nil | refine Sub.cons rfl ?_)) (hQ _ _ ⟨false, rfl, by rw [b4] <;> rfl, rfl⟩)
                          · clear H
                            rcases Bool.eq_false_or_eq_true (one == ((decide (t96 = Er.ok)) || (decide (a_Pkg = b_Pkg)))) with b5 | b5
                            · refine WL.gyes rfl rfl (okb b5) rfl (Yld.pure tab_ok rfl) ?_
                              refine WL.gyes rfl rfl (okb b5) rfl (Yld.pure tab_ok rfl) ?_
                              refine WL.gyes rfl rfl (okb b5) rfl (Yld.beql Tryd.underlying4 rfl rfl) ?_
                              refine WL.y rfl (Yld.pickT (okb b5) rfl) ?_
                              exact WL.weaken (by repeat (first | exact Sub.nil | refine Sub.cons rfl ?_)) (hQ _ _ ⟨all == one, rfl, by rw [b5] <;> rfl, rfl⟩)
                            · refine WL.gno rfl rfl (okb b5) rfl ?_
                              refine WL.gno rfl rfl (okb b5) rfl ?_
                              refine WL.gno rfl rfl (okb b5) rfl ?_
                              refine WL.y rfl (Yld.pickF (okb b5) rfl) ?_
                              exact WL.weaken (by repeat (first | exact Sub.nil | refine Sub.cons rfl ?_)) (hQ _ _ ⟨false, rfl, by rw [b5] <;> rfl, rfl⟩)
                        · clear H
                          rcases Bool.eq_false_or_eq_true (decide (t96 = Er.ok)) with b6 | b6
                          · refine WL.gno rfl rfl (okb b6) rfl ?_
                            refine WL.gno rfl rfl (okb b6) rfl ?_
                            refine WL.gno rfl rfl (okb b6) rfl ?_
                            refine WL.gno rfl rfl (okb b6) rfl ?_
                            refine WL.gno rfl rfl (okb b6) rfl ?_
                            refine WL.y rfl (Yld.pickT (okb b6) rfl) ?_
                            exact WL.weaken (by repeat (first | exact Sub.nil | refine Sub.cons rfl ?_)) (hQ _ _ ⟨true, rfl, by rw [b6] <;> rfl, rfl⟩)
                          · refine WL.gyes rfl rfl (okb b6) rfl (Yld.pure tab_ok rfl) ?_
                            refine WL.gyes rfl rfl (okb b6) rfl (Yld.bload tab_ok k29 rfl rfl rfl) ?_
                            refine WL.gyes rfl rfl (okb b6) rfl (Yld.pure tab_ok rfl) ?_
                            refine WL.gyes rfl rfl (okb b6) rfl (Yld.bload tab_ok k30 rfl rfl rfl) ?_
                            refine WL.gyes rfl rfl (okb b6) rfl (Yld.pure tab_ok rfl) ?_
                            refine WL.y rfl (Yld.pickF (okb b6) rfl) ?_
                            exact WL.weaken (by repeat (first | exact Sub.nil | refine Sub.cons rfl ?_)) (hQ _ _ ⟨decide (a_Pkg = b_Pkg), rfl, by rw [b6] <;> rfl, rfl⟩)
                    · clear hJ3
                      rcases Bool.eq_false_or_eq_true (q6) with b7 | b7
                      · replace H := H.1 b7
                        refine WL.gno rfl rfl (okb b7) rfl ?_
                        refine WL.gno rfl rfl (okb b7) rfl ?_
                        refine WL.gno rfl rfl (okb b7) rfl ?_
                        refine WL.gno rfl rfl (okb b7) rfl ?_
                        refine WL.gno rfl rfl (okb b7) rfl ?_
                        refine WL.y rfl (Yld.pickT (okb b7) rfl) ?_
                        exact WL.weaken (by repeat (first | exact Sub.nil | refine Sub.cons rfl ?_)) (hQ _ _ ⟨true, rfl, H, gr7, k11, k12⟩)
                      · replace H := H.2 b7
                        refine WL.putw (wants_some rfl rfl (okb b7)) rfl (Eff.lit tab_ok rfl rfl (all1c rfl all1n) rfl (by omega)) ?_
                        rintro _ w17 ⟨rfl, hB7, hg14⟩
                        obtain ⟨g_t69, hl7⟩ : ∃ g, g = w7.heap.size := ⟨_, rfl⟩
                        rw [← hl7] at hB7
                        rw [← hl7]
                        have hO5 : Own vs w17 w.heap.size 9 (some ⟨g_t69, 0, none⟩) 1 ([([47, 47, 118, 105, 115, 105, 98, 105, 108, 105, 116, 121, 58, 112, 117, 98, 108, 105, 99] : List UInt8)] : List (List UInt8)) := Own.ofBl hB7 (Nat.le_trans (size_le gr7) (Nat.le_of_eq hl7.symm)) (by simp [maxLen]) rfl
                        have gr17 := gr_trans gr7 hg14
                        have k31 := k11.g0 hg14
                        have k32 := k12.g0 hg14
                        refine WL.gyes rfl rfl (okb b7) rfl (Yld.bagg (vs := [vs a_Pkg, vs a_Name]) tab_ok k31 rfl rfl rfl rfl) ?_
                        refine WL.gyes rfl rfl (okb b7) rfl (Yld.bagg (vs := [vs b_Pkg, vs b_Name]) tab_ok k32 rfl rfl rfl rfl) ?_
                        refine WL.callw (wants_some rfl rfl (okb b7)) rfl rfl (W_vis_May (hG.grown gr17) hS100 hO5.rd rfl H) ?_
                        rintro _ w18 ⟨hg15, t72, rfl, H⟩
                        have gr18 := gr_trans gr17 hg15
                        have k33 := k31.g0 hg15
                        have k34 := k32.g0 hg15
                        have k35 := hO5.grown hg15
                        refine WL.gyes rfl rfl (okb b7) rfl (Yld.pure tab_ok rfl) ?_
                        refine WL.y rfl (Yld.pickF (okb b7) rfl) ?_
                        exact WL.weaken (by repeat (first | exact Sub.nil | refine Sub.cons rfl ?_)) (hQ _ _ ⟨!t72, rfl, H, gr18, k33, k34⟩)
                  · clear hJ2
                    rcases Bool.eq_false_or_eq_true (was && (!now)) with b8 | b8
                    · replace H := H.1 b8
                      refine WL.gno rfl rfl (okb b8) rfl ?_
                      refine WL.gno rfl rfl (okb b8) rfl ?_
                      refine WL.gno rfl rfl (okb b8) rfl ?_
                      refine WL.gno rfl rfl (okb b8) rfl ?_
                      refine WL.gno rfl rfl (okb b8) rfl ?_
                      refine WL.y rfl (Yld.pickT (okb b8) rfl) ?_
                      exact WL.weaken (by repeat (first | exact Sub.nil | refine Sub.cons rfl ?_)) (hQ _ _ ⟨true, rfl, H, gr6, k9, k10⟩)
                    · replace H := H.2 b8
                      refine WL.gyes rfl rfl (okb b8) rfl (Yld.pure tab_ok rfl) ?_
                      refine WL.gyes rfl rfl (okb b8) rfl (Yld.bagg (vs := [vs a_Pkg, vs a_Name]) tab_ok k9 rfl rfl rfl rfl) ?_
                      refine WL.gyes rfl rfl (okb b8) rfl (Yld.bagg (vs := [vs a_Pkg, vs a_Name]) tab_ok k9 rfl rfl rfl rfl) ?_
                      refine WL.callw (wants_some rfl rfl (okb b8)) rfl rfl (W_vis_May (hG.grown gr6) hS100 (hspecs.grown gr6) rfl H) ?_
                      rintro _ w19 ⟨hg16, t65, rfl, H⟩
                      have gr19 := gr_trans gr6 hg16
                      have k36 := k9.g0 hg16
                      have k37 := k10.g0 hg16
                      refine WL.gyes rfl rfl (okb b8) rfl (Yld.pure tab_ok rfl) ?_
                      refine WL.y rfl (Yld.pickF (okb b8) rfl) ?_
                      exact WL.weaken (by repeat (first | exact Sub.nil | refine Sub.cons rfl ?_)) (hQ _ _ ⟨!t65, rfl, H, gr19, k36, k37⟩)
                · clear H
                  rcases Bool.eq_false_or_eq_true (was) with b9 | b9
                  · refine WL.gyes rfl rfl (okb b9) rfl (Yld.pure tab_ok rfl) ?_
                    refine WL.gyes rfl rfl (okb b9) rfl (Yld.pure tab_ok rfl) ?_
                    refine WL.y rfl (Yld.pickT (okb b9) rfl) ?_
                    exact WL.weaken (by repeat (first | exact Sub.nil | refine Sub.cons rfl ?_)) (hQ _ _ ⟨!now, rfl, by rw [b9] <;> rfl, rfl⟩)
                  · refine WL.gno rfl rfl (okb b9) rfl ?_
                    refine WL.gno rfl rfl (okb b9) rfl ?_
                    refine WL.y rfl (Yld.pickF (okb b9) rfl) ?_
                    exact WL.weaken (by repeat (first | exact Sub.nil | refine Sub.cons rfl ?_)) (hQ _ _ ⟨false, rfl, by rw [b9] <;> rfl, rfl⟩)
              · clear hJ1
                refine WA.y 0 rfl (by kernel_rfl) rfl (fun w' hw' => Yld.pure tab_ok rfl) ?_
                refine WA.y 2 rfl (by kernel_rfl) rfl (fun w' hw' => Yld.pure tab_ok rfl) ?_
                refine WA.y 5 rfl (by kernel_rfl) rfl (fun w' hw' => Yld.bagg (vs := [vs a_Pkg, vs a_Name]) tab_ok (Bl.g0 k4 hw') rfl rfl rfl rfl) ?_
                refine WA.y 6 rfl (by kernel_rfl) rfl (fun w' hw' => Yld.bagg (vs := [vs b_Pkg, vs b_Name]) tab_ok (Bl.g0 k5 hw') rfl rfl rfl rfl) ?_
                refine WA.split [1, 3] (by kernel_rfl) (by kernel_rfl) ⟨?_, ?_⟩
                · refine WI.call rfl rfl wants_none rfl rfl (W_smithyref_Texts (hspecs.grown gr4) rfl H) (fun v w' h w2 e => gr_eqv (gr_trans (gr_refl _ none) h.1) e) ?_
                  rintro _ w20 ⟨hg17, t492, A_t49, c_t49, rfl, ht492, H⟩
                  have hb1 := ht492.ge'
                  have k38 := ht492.base (fun g hg => Nat.le_trans (size_le gr4) (hb1 g hg))
                  have gr20 := gr_trans gr4 hg17
                  have k39 := k4.g0 hg17
                  have k40 := k5.g0 hg17
                  have gt1 := gr_trans (gr_refl _ none) hg17
                  refine WA.split [3] (by kernel_rfl) (by kernel_rfl) ?_
                  · refine WI.put rfl rfl rfl (Eff.lit tab_ok rfl rfl (all1c rfl all1n) rfl (by omega)) (fun v w' ⟨_, _, h⟩ => gr_trans gt1 h) ?_
                    rintro _ w21 ⟨rfl, hB8, hg18⟩
                    obtain ⟨g_t51, hl8⟩ : ∃ g, g = w20.heap.size := ⟨_, rfl⟩
                    rw [← hl8] at hB8
                    rw [← hl8]
                    have hO6 : Own vs w21 w.heap.size 9 (some ⟨g_t51, 0, none⟩) 1 ([more] : List (List UInt8)) := Own.ofBl hB8 (Nat.le_trans (size_le gr20) (Nat.le_of_eq hl8.symm)) (by simp [maxLen]) rfl
                    have gr21 := gr_trans gr20 hg18
                    have k41 := k39.g0 hg18
                    have k42 := k40.g0 hg18
                    have k43 := k38.grown hg18
                    have gt2 := gr_trans gt1 hg18
                    refine WA.split [4] (by kernel_rfl) (by kernel_rfl) ?_
                    · obtain ⟨h7, H⟩ := H
                      refine WI.put rfl rfl rfl (Eff.append tab_ok rfl One.s k43 rfl rfl hO6.rd rfl rfl h7 (applen h7) (size_le gr21)) (fun v w' ⟨_, _, _, _, h, _⟩ => gr_mod gt2 h (Ge.le hb1 (size_le (gr_refl _ none)))) ?_
                      rintro _ w22 ⟨A_t522, c_t522, rfl, hO7, hg19, hk1⟩
                      have gr22 := gr_mod gr21 hg19 k43.ge'
                      have k44 := k41.go hg19 (Dj.new k4.lt' hb1)
                      have k45 := k42.go hg19 (Dj.new k5.lt' hb1)
                      have k46 := hO6.go hg19 ((Dj.new k38.lt' (Ge.box (Nat.le_of_eq hl8.symm))).symm)
                      have gt3 := gr_mod gt2 hg19 (Ge.le hb1 (size_le (gr_refl _ none)))
                      exact WA.doneF _ (by kernel_rfl) ⟨t492, A_t522, c_t522, rfl, H, gr22, k44, k45, hO7, (Dj.app (Dj.new k4.lt' hb1).symm k41.lt' hk1).symm, (Dj.app (Dj.new k5.lt' hb1).symm k42.lt' hk1).symm⟩ (by repeat (first | exact Sub.nil | refine Sub.cons rfl ?_))
                · refine WI.put rfl rfl rfl (Eff.lit tab_ok rfl rfl (all1c rfl all1n) rfl (by omega)) (fun v w' ⟨_, _, h⟩ => gr_trans (gr_refl _ none) h) ?_
                  rintro _ w23 ⟨rfl, hB9, hg20⟩
                  obtain ⟨g_t512, hl9⟩ : ∃ g, g = w4.heap.size := ⟨_, rfl⟩
                  rw [← hl9] at hB9
                  rw [← hl9]
                  have hO8 : Own vs w23 w.heap.size 9 (some ⟨g_t512, 0, none⟩) 1 ([more] : List (List UInt8)) := Own.ofBl hB9 (Nat.le_trans (size_le gr4) (Nat.le_of_eq hl9.symm)) (by simp [maxLen]) rfl
                  have gr23 := gr_trans gr4 hg20
                  have k47 := k4.g0 hg20
                  have k48 := k5.g0 hg20
                  have gt4 := gr_trans (gr_refl _ none) hg20
                  refine WA.split [1] (by kernel_rfl) (by kernel_rfl) ?_
                  · refine WI.call rfl rfl wants_none rfl rfl (W_smithyref_Texts (hspecs.grown gr23) rfl H) (fun v w' h w2 e => gr_eqv (gr_trans gt4 h.1) e) ?_
                    rintro _ w24 ⟨hg21, t493, A_t492, c_t492, rfl, ht493, H⟩
                    have hb2 := ht493.ge'
                    have k49 := ht493.base (fun g hg => Nat.le_trans (size_le gr23) (hb2 g hg))
                    have gr24 := gr_trans gr23 hg21
                    have k50 := k47.g0 hg21
                    have k51 := k48.g0 hg21
                    have k52 := hO8.grown hg21
                    have gt5 := gr_trans gt4 hg21
                    refine WA.split [4] (by kernel_rfl) (by kernel_rfl) ?_
                    · obtain ⟨h8, H⟩ := H
                      refine WI.put rfl rfl rfl (Eff.append tab_ok rfl One.s k49 rfl rfl k52.rd rfl rfl h8 (applen h8) (size_le gr24)) (fun v w' ⟨_, _, _, _, h, _⟩ => gr_mod gt5 h (Ge.le hb2 (size_le gt4))) ?_
                      rintro _ w25 ⟨A_t523, c_t523, rfl, hO9, hg22, hk2⟩
                      have gr25 := gr_mod gr24 hg22 k49.ge'
                      have k53 := k50.go hg22 (Dj.new k47.lt' hb2)
                      have k54 := k51.go hg22 (Dj.new k48.lt' hb2)
                      have k55 := k52.go hg22 (Dj.new hO8.lt' hb2)
                      have gt6 := gr_mod gt5 hg22 (Ge.le hb2 (size_le gt4))
                      exact WA.doneF _ (by kernel_rfl) ⟨t493, A_t523, c_t523, rfl, H, gr25, k53, k54, hO9, (Dj.app (Dj.new k47.lt' hb2).symm k50.lt' hk2).symm, (Dj.app (Dj.new k48.lt' hb2).symm k51.lt' hk2).symm⟩ (by repeat (first | exact Sub.nil | refine Sub.cons rfl ?_))
          · clear H
            rcases Bool.eq_false_or_eq_true ((((!t20) || (decide ((300 : Int) < (more.length : Int)))) || (decide ((100 : Int) < (a_Pkg.length : Int)))) || (decide ((100 : Int) < (b_Pkg.length : Int)))) with b10 | b10
            · refine WL.gno rfl rfl (okb b10) rfl ?_
              refine WL.gno rfl rfl (okb b10) rfl ?_
              refine WL.y rfl (Yld.pickT (okb b10) rfl) ?_
              exact WL.weaken (by repeat (first | exact Sub.nil | refine Sub.cons rfl ?_)) (hQ _ _ ⟨true, rfl, by rw [b10] <;> rfl, rfl⟩)
            · refine WL.gyes rfl rfl (okb b10) rfl (Yld.pure tab_ok rfl) ?_
              refine WL.gyes rfl rfl (okb b10) rfl (Yld.pure tab_ok rfl) ?_
              refine WL.y rfl (Yld.pickF (okb b10) rfl) ?_
              exact WL.weaken (by repeat (first | exact Sub.nil | refine Sub.cons rfl ?_)) (hQ _ _ ⟨!ok, rfl, by rw [b10] <;> rfl, rfl⟩)
        · clear H
          rcases Bool.eq_false_or_eq_true (((!t20) || (decide ((300 : Int) < (more.length : Int)))) || (decide ((100 : Int) < (a_Pkg.length : Int)))) with b11 | b11
          · refine WL.gno rfl rfl (okb b11) rfl ?_
            refine WL.gno rfl rfl (okb b11) rfl ?_
            refine WL.gno rfl rfl (okb b11) rfl ?_
            refine WL.gno rfl rfl (okb b11) rfl ?_
            refine WL.y rfl (Yld.pickT (okb b11) rfl) ?_
            exact WL.weaken (by repeat (first | exact Sub.nil | refine Sub.cons rfl ?_)) (hQ _ _ ⟨true, rfl, by rw [b11] <;> rfl, rfl⟩)
          · refine WL.gyes rfl rfl (okb b11) rfl (Yld.pure tab_ok rfl) ?_
            refine WL.gyes rfl rfl (okb b11) rfl (Yld.bload tab_ok k3 rfl rfl rfl) ?_
            refine WL.gyes rfl rfl (okb b11) rfl (Yld.pure tab_ok rfl) ?_
            refine WL.gyes rfl rfl (okb b11) rfl (Yld.pure tab_ok rfl) ?_
            refine WL.y rfl (Yld.pickF (okb b11) rfl) ?_
            exact WL.weaken (by repeat (first | exact Sub.nil | refine Sub.cons rfl ?_)) (hQ _ _ ⟨decide ((100 : Int) < (b_Pkg.length : Int)), rfl, by rw [b11] <;> rfl, rfl⟩)
      · clear H
        rcases Bool.eq_false_or_eq_true ((!t20) || (decide ((300 : Int) < (more.length : Int)))) with b12 | b12
        · refine WL.gno rfl rfl (okb b12) rfl ?_
          refine WL.gno rfl rfl (okb b12) rfl ?_
          refine WL.gno rfl rfl (okb b12) rfl ?_
          refine WL.gno rfl rfl (okb b12) rfl ?_
          refine WL.y rfl (Yld.pickT (okb b12) rfl) ?_
          exact WL.weaken (by repeat (first | exact Sub.nil | refine Sub.cons rfl ?_)) (hQ _ _ ⟨true, rfl, by rw [b12] <;> rfl, rfl⟩)
        · refine WL.gyes rfl rfl (okb b12) rfl (Yld.pure tab_ok rfl) ?_
          refine WL.gyes rfl rfl (okb b12) rfl (Yld.bload tab_ok k2 rfl rfl rfl) ?_
          refine WL.gyes rfl rfl (okb b12) rfl (Yld.pure tab_ok rfl) ?_
          refine WL.gyes rfl rfl (okb b12) rfl (Yld.pure tab_ok rfl) ?_
          refine WL.y rfl (Yld.pickF (okb b12) rfl) ?_
          exact WL.weaken (by repeat (first | exact Sub.nil | refine Sub.cons rfl ?_)) (hQ _ _ ⟨decide ((100 : Int) < (a_Pkg.length : Int)), rfl, by rw [b12] <;> rfl, rfl⟩)
    · clear H
      rcases Bool.eq_false_or_eq_true (!t20) with b13 | b13
      · refine WL.gno rfl rfl (okb b13) rfl ?_
        refine WL.gno rfl rfl (okb b13) rfl ?_
        refine WL.gno rfl rfl (okb b13) rfl ?_
        refine WL.y rfl (Yld.pickT (okb b13) rfl) ?_
        exact WL.weaken (by repeat (first | exact Sub.nil | refine Sub.cons rfl ?_)) (hQ _ _ ⟨true, rfl, by rw [b13] <;> rfl, rfl⟩)
      · refine WL.gyes rfl rfl (okb b13) rfl (Yld.pure tab_ok rfl) ?_
        refine WL.gyes rfl rfl (okb b13) rfl (Yld.pure tab_ok rfl) ?_
        refine WL.gyes rfl rfl (okb b13) rfl (Yld.pure tab_ok rfl) ?_
        refine WL.y rfl (Yld.pickF (okb b13) rfl) ?_
        exact WL.weaken (by repeat (first | exact Sub.nil | refine Sub.cons rfl ?_)) (hQ _ _ ⟨decide ((300 : Int) < (more.length : Int)), rfl, by rw [b13] <;> rfl, rfl⟩)

end Go.Proofs.YtcfljnfaakjdjaaDoor
 /- VisGrows, plainly. -/
namespace Go.Proofs.YtcfljnfaakjdjaaDoor
open Go Go.RowKit
theorem grows_ok {specs : List (List UInt8)} {more aP aN bP bN : List UInt8} {K : Bool → Prop} (_ : ∀ x ∈ specs, x.length ≤ maxLen) (_ : more.length ≤ maxLen) (_ : aP.length ≤ maxLen) (_ : aN.length ≤ maxLen) (_ : bP.length ≤ maxLen) (_ : bN.length ≤ maxLen) (H : K true) : M_smithylaw20_VisGrows specs more aP aN bP bN K := by
  intro _
  refine vfirst_M ⟨fun h => by simp at h, fun _ => ?_⟩
  refine vtexts_M ⟨fun _ => H, fun h => by simp at h⟩ (fun h1 h1' h2 => ⟨fun _ => H, fun h3 => ?_⟩) (by decide)
  have h4 : (more.length ≤ 300 ∧ aP.length ≤ 100) ∧ bP.length ≤ 100 := by simp at h3; omega
  obtain ⟨⟨b1, b2⟩, b3⟩ := h4
  have hx : ∀ s ∈ specs, s.length ≤ 100000 := fun s hs => by have := h2 s hs; omega
  have hxm : ∀ s ∈ specs ++ [more], s.length ≤ 100000 := fun s hs => by
    rcases List.mem_append.1 hs with h | h
    · exact hx s h
    · simp at h; subst h; omega
  refine may_M (by omega) hx ?_
  refine ⟨fun t => t = specs, texts_M (by omega) ⟨by simp only [List.length_cons, List.length_nil]; omega, rfl⟩, ?_⟩
  intro t ht
  have ht := ht.symm
  subst ht
  refine may_M (by simp; omega) hxm ?_
  have hgrow : (mayB specs aP bP && !mayB (specs ++ [more]) aP bP) = false := by
    unfold mayB
    rw [List.any_append]
    cases decide (aP = bP) <;> cases (specs.any fun s => letsB s bP) <;> rfl
  rw [hgrow]
  refine ⟨fun b => b = false, ⟨fun h => (by cases h), fun _ => may_M (by omega) hx (by unfold mayB; simp)⟩, ?_⟩
  rintro _ rfl
  refine ⟨fun b => b = false, ⟨fun h => (by cases h), fun _ => may_M (by simp) (fun s hs => by simp at hs; subst hs; simp) (by show (!mayB [wPub] aP bP) = false; unfold mayB; simp [lets_pub])⟩, ?_⟩
  rintro _ rfl
  refine ⟨fun h => (by cases h), fun _ => ?_⟩
  have hone : ∀ t, t = wPkg ∨ t = wSub → mayB [[47, 47] ++ bP ++ 58 :: t] aP bP = (decide (aP = bP) || specOk bP) := fun t ht => by
    unfold mayB
    simp only [List.any_cons, List.any_nil, Bool.or_false]
    rw [lets_spec bP t ht]
  have hlen : ∀ t : List UInt8, t = wPkg ∨ t = wSub → ([47, 47] ++ bP ++ 58 :: t).length ≤ 100000 := fun t ht => by
    rcases ht with rfl | rfl <;> simp [wPkg, wSub] <;> omega
  refine ⟨by simp only [List.length_cons, List.length_nil]; omega, by simp only [List.length_append, List.length_cons, List.length_nil]; omega, may_M (by simp) (fun s hs => by simp only [List.mem_singleton] at hs; subst hs; exact hlen wPkg (.inl rfl)) ?_⟩
  refine ⟨by simp only [List.length_cons, List.length_nil]; omega, by simp only [List.length_append, List.length_cons, List.length_nil]; omega, may_M (by simp) (fun s hs => by simp only [List.mem_singleton] at hs; subst hs; exact hlen wSub (.inr rfl)) ?_⟩
  have e1 : mayB [([47, 47] : List UInt8) ++ bP ++ ([58, 95, 95, 112, 107, 103, 95, 95] : List UInt8)] aP bP = (decide (aP = bP) || specOk bP) := hone wPkg (.inl rfl)
  have e2 : mayB [([47, 47] : List UInt8) ++ bP ++ ([58, 95, 95, 115, 117, 98, 112, 97, 99, 107, 97, 103, 101, 115, 95, 95] : List UInt8)] aP bP = (decide (aP = bP) || specOk bP) := hone wSub (.inr rfl)
  rw [e1, e2]
  have hpriv : mayB [wPriv] aP bP = decide (aP = bP) := by
    unfold mayB
    simp [lets_priv]
  have fin : ∀ e : Er, decide (e = Er.ok) = specOk bP → M_vis_May [wPriv] aP aN bP bN (fun (private_ : Bool) => K ((((decide (aP = bP) || specOk bP) == ((decide (e = Er.ok)) || (decide (aP = bP)))) && ((decide (aP = bP) || specOk bP) == (decide (aP = bP) || specOk bP))) && (private_ == (decide (aP = bP))))) := fun e he => by
    refine may_M (by simp) (fun s hs => by simp only [List.mem_singleton] at hs; subst hs; simp [wPriv]) ?_
    rw [hpriv, he, Bool.or_comm (specOk bP)]
    simpa using H
  refine ⟨by simp only [List.length_cons, List.length_nil]; omega, by simp only [List.length_append, List.length_cons, List.length_nil]; omega, validOne_M (hlen wPkg (.inl rfl)) (fun hf => fin _ ?_) (fun hf => fin _ ?_)⟩
  · have := fair_spec bP
    rw [show fairS ([47, 47] ++ bP ++ 58 :: wPkg) = true from hf] at this
    rw [← this]; rfl
  · have := fair_spec bP
    rw [show fairS ([47, 47] ++ bP ++ 58 :: wPkg) = false from hf] at this
    rw [← this]; rfl
end Go.Proofs.YtcfljnfaakjdjaaDoor
 