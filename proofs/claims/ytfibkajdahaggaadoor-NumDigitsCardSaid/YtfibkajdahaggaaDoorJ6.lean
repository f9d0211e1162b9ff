/- Texts of this claim, joined by a program: GNd, Txt, NumD. -/
import Derived.Test.YtfibkajdahaggaaDoorJ5
/- Printed by a program (wip/vg): what the functions mean, plainly, and their walks. -/
namespace Go.Proofs.YtfibkajdahaggaaDoor
open Go Go.RowKit
attribute [local irreducible] WL WC WX WQ WK WJ Yld Eff Ef0 Fn
def M_num_Num_Digits (a : Int) (m_a : Nat) (K : Int → Prop) : Prop :=
 M_num_Num_Text a m_a (fun (t4 : List UInt8) =>
 M_strings_TrimPrefix t4 ([45] : List UInt8) (fun (t5 : List UInt8) =>
 K (t5.length : Int)))

def M_smithylaw9_NumDigits (n : Int) (neg : Bool) (K : Bool → Prop) : Prop :=
 M_smithylaw9_first (fun (ok : Bool) =>
 (((!ok) = true → K false) ∧
 ((!ok) = false → ((500 : Int) ≠ 0) ∧
 (In .i64 ((n.tmod (500 : Int)) + (500 : Int))) ∧
 ((500 : Int) ≠ 0) ∧
 (In .i64 ((((n.tmod (500 : Int)) + (500 : Int)).tmod (500 : Int)) + (1 : Int))) ∧
 Lp3 (fun (s : List UInt8) (z : List UInt8) (i : Int) k_1 => ((i < ((((n.tmod (500 : Int)) + (500 : Int)).tmod (500 : Int)) + (1 : Int)) → (s.length + ([57] : List UInt8).length ≤ 9223372036854775807) ∧
 (z.length + ([48] : List UInt8).length ≤ 9223372036854775807) ∧
 (In .i64 (i + (1 : Int))) ∧
 k_1 (s ++ ([57] : List UInt8)) (z ++ ([48] : List UInt8)) (i + (1 : Int))) ∧
 (¬ (i < ((((n.tmod (500 : Int)) + (500 : Int)).tmod (500 : Int)) + (1 : Int))) → M_num_Parse s (fun (t400 : Int) (m_t400 : Nat) (t401 : Er) =>
 ∃ J1 : Bool → Prop, (((!decide (t401 = Er.ok)) = true → J1 true) ∧
 ((!decide (t401 = Er.ok)) = false → M_num_Num_Digits t400 m_t400 (fun (t47 : Int) =>
 J1 (!decide (t47 = ((((n.tmod (500 : Int)) + (500 : Int)).tmod (500 : Int)) + (1 : Int))))))) ∧
 (∀ q1 : Bool, J1 q1 → ∃ J2 : Bool → Prop, ((q1 = true → J2 true) ∧
 (q1 = false → M_num_Num_Text t400 m_t400 (fun (t53 : List UInt8) =>
 J2 (!decide (t53 = s))))) ∧
 (∀ q2 : Bool, J2 q2 → ((q2 = true → K false) ∧
 (q2 = false → ∃ J3 : Int → Nat → Prop, M_num_Of (1 : Int) (fun (t58 : Int) (m_t58 : Nat) =>
 M_num_Num_Add t400 m_t400 t58 m_t58 (fun (t59 : Int) (m_t59 : Nat) =>
 J3 t59 m_t59)) ∧
 (∀ t59 : Int, ∀ m_t59 : Nat, J3 t59 m_t59 → M_num_Num_Text t59 m_t59 (fun (t61 : List UInt8) =>
 ∃ J4 : Bool → Prop, (((!decide (t61 = z)) = true → J4 true) ∧
 ((!decide (t61 = z)) = false → M_num_Num_Digits t59 m_t59 (fun (t66 : Int) =>
 (In .i64 (((((n.tmod (500 : Int)) + (500 : Int)).tmod (500 : Int)) + (1 : Int)) + (1 : Int))) ∧
 J4 (!decide (t66 = (((((n.tmod (500 : Int)) + (500 : Int)).tmod (500 : Int)) + (1 : Int)) + (1 : Int))))))) ∧
 (∀ q3 : Bool, J4 q3 → ∃ J5 : Bool → Prop, ((q3 = true → J5 true) ∧
 (q3 = false → M_num_Of (1 : Int) (fun (t73 : Int) (m_t73 : Nat) =>
 M_num_Num_Sub t59 m_t59 t73 m_t73 (fun (t74 : Int) (m_t74 : Nat) =>
 M_num_Num_Cmp t74 m_t74 t400 m_t400 (fun (t76 : Int) =>
 J5 (!decide (t76 = (0 : Int)))))))) ∧
 (∀ q4 : Bool, J5 q4 → ((q4 = true → K false) ∧
 (q4 = false → ∃ J6 : Int → Nat → Prop, ((neg = true → M_num_Num_Neg t400 m_t400 (fun (t82 : Int) (m_t82 : Nat) =>
 J6 t82 m_t82)) ∧
 (neg = false → J6 t400 m_t400)) ∧
 (∀ c0 : Int, ∀ m_c0 : Nat, J6 c0 m_c0 → M_num_Num_Add c0 m_c0 c0 m_c0 (fun (t86 : Int) (m_t86 : Nat) =>
 M_num_Of (2 : Int) (fun (t87 : Int) (m_t87 : Nat) =>
 M_num_Num_Div t86 m_t86 t87 m_t87 (fun (t880 : Int) (m_t880 : Nat) (t881 : Bool) =>
 ∃ J7 : Int → Nat → Bool → Prop, M_num_Num_Mul t59 m_t59 t59 m_t59 (fun (t94 : Int) (m_t94 : Nat) =>
 M_num_Num_Div t94 m_t94 t59 m_t59 (fun (t960 : Int) (m_t960 : Nat) (t961 : Bool) =>
 J7 t960 m_t960 t961)) ∧
 (∀ t960 : Int, ∀ m_t960 : Nat, ∀ t961 : Bool, J7 t960 m_t960 t961 → (([48] : List UInt8).length + s.length ≤ 9223372036854775807) ∧
 M_num_Parse (([48] : List UInt8) ++ s) (fun (t1020 : Int) (m_t1020 : Nat) (t1021 : Er) =>
 M_num_Parse ([45, 48] : List UInt8) (fun (t1060 : Int) (m_t1060 : Nat) (t1061 : Er) =>
 ∃ J8 : Bool → Prop, (((ok && t881) = true → M_num_Num_Cmp t880 m_t880 c0 m_c0 (fun (t116 : Int) =>
 J8 (decide (t116 = (0 : Int))))) ∧
 ((ok && t881) = false → J8 false)) ∧
 (∀ q6 : Bool, J8 q6 → ∃ J9 : Bool → Prop, (((q6 && t961) = true → M_num_Num_Cmp t960 m_t960 t59 m_t59 (fun (t125 : Int) =>
 J9 (decide (t125 = (0 : Int))))) ∧
 ((q6 && t961) = false → J9 false)) ∧
 (∀ q8 : Bool, J9 q8 → ∃ J10 : Bool → Prop, ((q8 = true → M_smithysee_Is t1021 (113 : Int) (fun (t130 : Bool) =>
 J10 t130)) ∧
 (q8 = false → J10 false)) ∧
 (∀ q9 : Bool, J10 q9 → ∃ J11 : Bool → Prop, ((q9 = true → M_smithysee_Is t1061 (113 : Int) (fun (t134 : Bool) =>
 J11 t134)) ∧
 (q9 = false → J11 false)) ∧
 (∀ q10 : Bool, J11 q10 → K q10))))))))))))))))))))))))) ([] : List UInt8) ([49] : List UInt8) (0 : Int))))

set_option maxHeartbeats 8000000 in
theorem W_num_Num_Digits {w : World} {v_a : Value} {v_a2 : Value} {a : Int} {m_a : Nat} {K : Int → Prop} (ha : Nm w (.agg ⟨[v_a, v_a2]⟩) a m_a) (H : M_num_Num_Digits a m_a K) : Fn Tryd.prog 32 ⟨[.agg ⟨[v_a, v_a2]⟩]⟩ w (fun v w' => w.grownBy w' none ∧ ∃ (r : Int), v = .int .i64 r ∧ K r) := by
  unfold M_num_Num_Digits at H
  refine Fn.enter (by kernel_rfl) Tryd.func32 rfl Tryd.ntmps32 rfl ?_
  refine WC.seq ?_
  refine WC.region ?_
  refine WL.box (us := [v_a, v_a2]) rfl rfl rfl (fun g1 w1 hB1 hg1 hl1 => ?_)
  have gr1 := hg1
  refine WL.y rfl (Yld.pure tab_ok rfl) ?_
  refine WL.nil (WX.then_normal ?_)
  refine WC.seq ?_
  refine WC.region ?_
  refine WL.y rfl (Yld.bagg (vs := [v_a, v_a2]) tab_ok hB1 rfl rfl rfl rfl) ?_
  refine WL.call rfl rfl (W_num_Num_Text (ha.grown gr1) H) ?_
  rintro _ w2 ⟨hg2, t4, rfl, H⟩
  have gr2 := gr_trans gr1 hg2
  refine WL.call rfl rfl (W_strings_TrimPrefix H) ?_
  rintro _ _ ⟨rfl, t5, rfl, H⟩
  refine WL.y rfl (Yld.pure tab_ok rfl) ?_
  refine WL.y rfl (Yld.pure tab_ok rfl) ?_
  refine WL.nil (WX.then_normal ?_)
  refine WC.ret ?_
  exact WX.ret1 rfl rfl ⟨gr2, (t5.length : Int), rfl, H⟩

set_option maxHeartbeats 8000000 in
theorem W_smithylaw9_NumDigits {S : List Nat} {w : World} {n : Int} {neg : Bool} {K : Bool → Prop} (hG : GOK S w) (hS0 : 0 ∈ S) (hS1 : 1 ∈ S) (hS2 : 2 ∈ S) (hS3 : 3 ∈ S) (hS4 : 4 ∈ S) (hS5 : 5 ∈ S) (hS6 : 6 ∈ S) (hS7 : 7 ∈ S) (hS8 : 8 ∈ S) (hS9 : 9 ∈ S) (hS10 : 10 ∈ S) (hS11 : 11 ∈ S) (hS12 : 12 ∈ S) (hS13 : 13 ∈ S) (hS14 : 14 ∈ S) (hS15 : 15 ∈ S) (hS16 : 16 ∈ S) (H : M_smithylaw9_NumDigits n neg K) : Fn Tryd.prog 6 ⟨[.int .i64 n, .bool neg]⟩ w (fun v w' => w.grownBy w' none ∧ ∃ (r : Bool), v = .bool r ∧ K r) := by
  unfold M_smithylaw9_NumDigits at H
  refine Fn.enter (by kernel_rfl) Tryd.func6 rfl Tryd.ntmps6 rfl ?_
  refine WC.seq ?_
  refine WC.region ?_
  refine WL.y rfl (Yld.pure tab_ok rfl) ?_
  refine WL.nil (WX.then_normal ?_)
  refine WC.seq ?_
  refine WC.region ?_
  refine WL.call rfl rfl (W_smithylaw9_first H) ?_
  rintro _ w1 ⟨hg1, ok, rfl, H⟩
  have gr1 := hg1
  refine WL.y rfl (Yld.pure tab_ok rfl) ?_
  refine WL.nil (WX.then_normal ?_)
  refine WC.seq ?_
  refine WC.seq ?_
  refine WC.region ?_
  refine WL.y rfl (Yld.pure tab_ok rfl) ?_
  refine WL.y rfl (Yld.pure tab_ok rfl) ?_
  refine WL.nil (WX.then_normal ?_)
  refine WC.cond rfl (fun b1 => ?_) (fun b1 => ?_)
  · replace H := H.1 (b1)
    refine WC.seq ?_
    refine WC.region ?_
    refine WL.y rfl (Yld.pure tab_ok rfl) ?_
    refine WL.nil (WX.then_normal ?_)
    refine WC.ret (WX.then_ret ?_)
    exact WX.ret1 rfl rfl ⟨gr1, false, rfl, H⟩
  · replace H := H.2 (b1)
    refine WC.skip (WX.then_normal ?_)
    refine WC.seq ?_
    refine WC.region ?_
    refine WL.y rfl (Yld.pure tab_ok rfl) ?_
    obtain ⟨h1, H⟩ := H
    refine WL.y rfl (Yld.rem' rfl rfl h1) ?_
    obtain ⟨h2, H⟩ := H
    refine WL.y rfl (Yld.add rfl rfl h2) ?_
    obtain ⟨h3, H⟩ := H
    refine WL.y rfl (Yld.rem' rfl rfl h3) ?_
    obtain ⟨h4, H⟩ := H
    refine WL.y rfl (Yld.add rfl rfl h4) ?_
    refine WL.y rfl (Yld.pure tab_ok rfl) ?_
    refine WL.nil (WX.then_normal ?_)
    refine WC.seq ?_
    refine WC.region ?_
    refine WL.y rfl (Yld.pure tab_ok rfl) ?_
    refine WL.nil (WX.then_normal ?_)
    refine WC.seq ?_
    refine WC.region ?_
    refine WL.y rfl (Yld.pure tab_ok rfl) ?_
    refine WL.nil (WX.then_normal ?_)
    refine WC.seq ?_
    refine WC.seq ?_
    refine WC.region ?_
    refine WL.y rfl (Yld.pure tab_ok rfl) ?_
    refine WL.nil (WX.then_normal ?_)
    refine WC.block ?_
    obtain ⟨I1, mu1, h0_1, HR1⟩ := H
    refine WC.loopF (fun n' L' w' => ∃ (s : List UInt8), ∃ (z : List UInt8), ∃ (i : Int), n' = mu1 s z i ∧ L' = [(0, .int .i64 ((((n.tmod (500 : Int)) + (500 : Int)).tmod (500 : Int)) + (1 : Int))), (1, .bool neg), (5, .bool ok), (6, vs s), (7, vs z), (8, .int .i64 i)] ∧ I1 s z i ∧ w1 = w') _ _ ⟨([] : List UInt8), ([49] : List UInt8), (0 : Int), rfl, rfl, h0_1, rfl⟩ (by repeat (first | exact Sub.nil | refine Sub.cons rfl ?_)) ?_
    clear h0_1
    rintro _ _ _ ⟨s, z, i, rfl, rfl, hI1, rfl⟩
    have H := HR1 s z i hI1
    refine WC.seq ?_
    refine WC.seq ?_
    refine WC.region ?_
    refine WL.y rfl (Yld.pure tab_ok rfl) ?_
    refine WL.y rfl (Yld.pure tab_ok rfl) ?_
    refine WL.y rfl (Yld.pure tab_ok rfl) ?_
    refine WL.nil (WX.then_normal ?_)
    refine WC.cond rfl (fun b2 => ?_) (fun b2 => ?_)
    · replace H := H.1 (of_decide_eq_true b2)
      refine WC.skip (WX.then_normal ?_)
      refine WC.seq ?_
      refine WC.block ?_
      refine WC.seq ?_
      refine WC.region ?_
      refine WL.y rfl (Yld.pure tab_ok rfl) ?_
      obtain ⟨h5, H⟩ := H
      refine WL.y rfl (Yld.sadd rfl rfl h5) ?_
      refine WL.y rfl (Yld.pure tab_ok rfl) ?_
      refine WL.nil (WX.then_normal ?_)
      refine WC.region ?_
      refine WL.y rfl (Yld.pure tab_ok rfl) ?_
      obtain ⟨h6, H⟩ := H
      refine WL.y rfl (Yld.sadd rfl rfl h6) ?_
      refine WL.y rfl (Yld.pure tab_ok rfl) ?_
      refine WL.nil (WX.block_normal (WX.then_normal ?_))
      refine WC.region ?_
      refine WL.y rfl (Yld.pure tab_ok rfl) ?_
      obtain ⟨h7, H⟩ := H
      refine WL.y rfl (Yld.add rfl rfl h7) ?_
      refine WL.y rfl (Yld.pure tab_ok rfl) ?_
      refine WL.nil ?_
      exact WX.roundF _ ⟨s ++ ([57] : List UInt8), z ++ ([48] : List UInt8), i + (1 : Int), rfl, rfl, H.1, rfl⟩ (by repeat (first | exact Sub.nil | refine Sub.cons rfl ?_)) H.2
    · replace H := H.2 (of_decide_eq_false b2)
      refine WC.exit (WX.then_exit (WX.then_exit (WX.block_same (WX.then_normal ?_))))
      refine WC.seq ?_
      refine WC.region ?_
      refine WL.y rfl (Yld.pure tab_ok rfl) ?_
      refine WL.call rfl rfl (W_num_Parse (hG.grown gr1) hS7 hS12 H) ?_
      rintro _ w2 ⟨hg2, v_t400, v_t4002, t400, m_t400, v_t401, t401, rfl, ht400, ht401, one_v_t400, one_v_t4002, H⟩
      have gr2 := gr_trans gr1 hg2
      refine WL.y rfl (Yld.pure tab_ok rfl) ?_
      refine WL.y rfl (Yld.pure tab_ok rfl) ?_
      refine WL.y rfl (Yld.pure tab_ok rfl) ?_
      refine WL.alloc rfl zero50 (fun g1 w3 hB1 hg3 hl1 => ?_)
      have gr3 := gr_trans gr2 hg3
      have k1 := ht400.grown hg3
      have k2 := ht401.grown hg3
      refine WL.storeW (vs := [v_t400, v_t4002]) tab_ok rfl rfl rfl (all1c one_v_t400 (all1c one_v_t4002 all1n)) hB1 rfl rfl (fun w4 hB2 hg4 => ?_)
      have gr4 := gr_mod gr3 hg4 (Ge.le (Ge.box hl1) (size_le gr2))
      have k3 := k1.stored hB1 (noC (fun x h => Value.noConfusion h) (noC (fun x h => Value.noConfusion h) noN)) hg4
      have k4 := ErrR.go k2 hG gr3 hg4 gr4 hB1 rfl
      refine WL.y rfl (Yld.pure tab_ok rfl) ?_
      refine WL.nil (WX.then_normal ?_)
      refine WC.seq ?_
      refine WC.seq ?_
      refine WC.region ?_
      refine WL.y rfl (Yld.pure tab_ok rfl) ?_
      refine WL.y rfl (Yld.errneq Tryd.underlying34 k4 rfl) ?_
      refine WL.y rfl (Yld.pure tab_ok rfl) ?_
      obtain ⟨J1, H, hJ1⟩ := H
      refine WL.midF 5 (fun L' w' => ∃ q1 : Bool, L' = [(50, .bool q1), (0, .int .i64 ((((n.tmod (500 : Int)) + (500 : Int)).tmod (500 : Int)) + (1 : Int))), (1, .bool neg), (5, .bool ok), (6, vs s), (7, vs z), (9, .pointer (some ⟨g1, 0, none⟩))] ∧ J1 q1 ∧ w.grownBy w' none ∧ Nm w' (.agg ⟨[v_t400, v_t4002]⟩) t400 m_t400 ∧ Bl w' g1 50 [v_t400, v_t4002]) ?_ (fun hQ => ?_)
      · clear H
        rintro _ w5 ⟨q1, rfl, H, gr5, k5, k6⟩
        replace H := hJ1 q1 H
        refine WL.y rfl (Yld.pure tab_ok rfl) ?_
        obtain ⟨J2, H, hJ2⟩ := H
        refine WL.midF 5 (fun L' w' => ∃ q2 : Bool, L' = [(56, .bool q2), (0, .int .i64 ((((n.tmod (500 : Int)) + (500 : Int)).tmod (500 : Int)) + (1 : Int))), (1, .bool neg), (5, .bool ok), (6, vs s), (7, vs z), (9, .pointer (some ⟨g1, 0, none⟩))] ∧ J2 q2 ∧ w.grownBy w' none ∧ Nm w' (.agg ⟨[v_t400, v_t4002]⟩) t400 m_t400 ∧ Bl w' g1 50 [v_t400, v_t4002]) ?_ (fun hQ => ?_)
        · clear H
          rintro _ w6 ⟨q2, rfl, H, gr6, k7, k8⟩
          replace H := hJ2 q2 H
          refine WL.nil (WX.then_normal ?_)
          refine WC.cond rfl (fun b3 => ?_) (fun b3 => ?_)
          · replace H := H.1 (b3)
            refine WC.seq ?_
            refine WC.region ?_
            refine WL.y rfl (Yld.pure tab_ok rfl) ?_
            refine WL.nil (WX.then_normal ?_)
            refine WC.ret (WX.then_ret ?_)
            exact WX.ret1 rfl rfl ⟨gr6, false, rfl, H⟩
          · replace H := H.2 (b3)
            refine WC.skip (WX.then_normal ?_)
            refine WC.seq ?_
            obtain ⟨J3, H, hJ3⟩ := H
            refine WC.ordersF 4 (fun k => !(Nat.beq k 1 || Nat.beq k 2 || Nat.beq k 3)) (fun w' => w6.grownBy w' none) (fun L' w' => ∃ (v_t59 : Value), ∃ (v_t592 : Value), ∃ (t59 : Int), ∃ (m_t59 : Nat), ∃ (g_b : Nat), L' = [(0, .int .i64 ((((n.tmod (500 : Int)) + (500 : Int)).tmod (500 : Int)) + (1 : Int))), (1, .bool neg), (5, .bool ok), (6, vs s), (7, vs z), (9, .pointer (some ⟨g1, 0, none⟩)), (11, .pointer (some ⟨g_b, 0, none⟩)), (59, .agg ⟨[v_t59, v_t592]⟩)] ∧ J3 t59 m_t59 ∧ w.grownBy w' none ∧ Nm w' (.agg ⟨[v_t400, v_t4002]⟩) t400 m_t400 ∧ Bl w' g1 50 [v_t400, v_t4002] ∧ Nm w' (.agg ⟨[v_t59, v_t592]⟩) t59 m_t59 ∧ Bl w' g_b 50 [.bool false, .slice none 0 0] ∧ v_t59.oneCell' = true ∧ v_t592.oneCell' = true ∧ Dj (some g1) (some g_b) ∧ Ge (some g_b) w.heap.size) mixed (by kernel_rfl) (fun w' h => gr_eqv (gr_refl _ _) h) ?_ ?_
            · clear H
              rintro _ w7 ⟨v_t59, v_t592, t59, m_t59, g_b, rfl, H, gr7, k9, k10, k11, k12, one_v_t59, one_v_t592, dj1, hge1⟩
              replace H := hJ3 t59 m_t59 H
              refine WL.storeW (vs := [v_t59, v_t592]) tab_ok rfl rfl rfl (all1c one_v_t59 (all1c one_v_t592 all1n)) k12 rfl rfl (fun w8 hB3 hg5 => ?_)
              have gr8 := gr_mod gr7 hg5 hge1
              have k13 := k9.stored k12 (noC (fun x h => Value.noConfusion h) (noC (fun x h => Value.noConfusion h) noN)) hg5
              have k14 := k10.go hg5 dj1
              have k15 := k11.stored k12 (noC (fun x h => Value.noConfusion h) (noC (fun x h => Value.noConfusion h) noN)) hg5
              refine WL.nil (WX.then_normal ?_)
              refine WC.seq ?_
              refine WC.seq ?_
              refine WC.chainF (fun k => !(Nat.beq k 1 || Nat.beq k 6 || Nat.beq k 13 || Nat.beq k 14 || Nat.beq k 16)) (LD [0, 5, 12, 15] (fun w' => Bl w' g_b 50 [v_t59, v_t592] ∧ Bl w' g1 50 [v_t400, v_t4002])) mixed (by kernel_rfl) (fun k w' h _ => ⟨(bl_eqv h hB3), (bl_eqv h k14)⟩) ?_
              refine WJ.y rfl rfl (fun w' hw' => Yld.bagg (vs := [v_t59, v_t592]) tab_ok (hw' rfl).1 rfl rfl rfl rfl) ?_
              refine WJ.call rfl (wants_none) rfl rfl (W_num_Num_Text k15 H) (fun v w' h w2 e => DD.keep (⟨(Bl.g0 hB3 (gr_eqv h.1 e)), (Bl.g0 k14 (gr_eqv h.1 e))⟩)) ?_
              rintro _ w9 ⟨hg6, t61, rfl, H⟩
              have gr9 := gr_trans gr8 hg6
              have k16 := k13.grown hg6
              have k17 := k14.g0 hg6
              have k18 := k15.grown hg6
              have k19 := hB3.g0 hg6
              refine WJ.y rfl rfl (fun w' hw' => Yld.pure tab_ok rfl) ?_
              refine WJ.y rfl rfl (fun w' hw' => Yld.pure tab_ok rfl) ?_
              refine WJ.y rfl rfl (fun w' hw' => Yld.pure tab_ok rfl) ?_
              obtain ⟨J4, H, hJ4⟩ := H
              refine WJ.midF 6 (fun L' w' => ∃ q3 : Bool, L' = [(70, .bool q3), (1, .bool neg), (5, .bool ok), (6, vs s), (9, .pointer (some ⟨g1, 0, none⟩)), (11, .pointer (some ⟨g_b, 0, none⟩))] ∧ J4 q3 ∧ w.grownBy w' none ∧ Nm w' (.agg ⟨[v_t400, v_t4002]⟩) t400 m_t400 ∧ Bl w' g1 50 [v_t400, v_t4002] ∧ Nm w' (.agg ⟨[v_t59, v_t592]⟩) t59 m_t59 ∧ Bl w' g_b 50 [v_t59, v_t592]) ?_ (fun hQ => ?_)
              · clear H
                rintro _ w10 ⟨q3, rfl, H, gr10, k20, k21, k22, k23⟩
                replace H := hJ4 q3 H
                refine WJ.y rfl rfl (fun w' hw' => Yld.pure tab_ok rfl) ?_
                obtain ⟨J5, H, hJ5⟩ := H
                refine WJ.midF 7 (fun L' w' => ∃ q4 : Bool, L' = [(78, .bool q4), (1, .bool neg), (5, .bool ok), (6, vs s), (9, .pointer (some ⟨g1, 0, none⟩)), (11, .pointer (some ⟨g_b, 0, none⟩))] ∧ J5 q4 ∧ w.grownBy w' none ∧ Nm w' (.agg ⟨[v_t400, v_t4002]⟩) t400 m_t400 ∧ Bl w' g1 50 [v_t400, v_t4002] ∧ Nm w' (.agg ⟨[v_t59, v_t592]⟩) t59 m_t59 ∧ Bl w' g_b 50 [v_t59, v_t592]) ?_ (fun hQ => ?_)
                · clear H
                  rintro _ w11 ⟨q4, rfl, H, gr11, k24, k25, k26, k27⟩
                  replace H := hJ5 q4 H
                  refine WJ.nil (WX.then_normal ?_)
                  refine WC.cond rfl (fun b4 => ?_) (fun b4 => ?_)
                  · replace H := H.1 (b4)
                    refine WC.seq ?_
                    refine WC.region ?_
                    refine WL.y rfl (Yld.pure tab_ok rfl) ?_
                    refine WL.nil (WX.then_normal ?_)
                    refine WC.ret (WX.then_ret ?_)
                    exact WX.ret1 rfl rfl ⟨gr11, false, rfl, H⟩
                  · replace H := H.2 (b4)
                    refine WC.skip (WX.then_normal ?_)
                    refine WC.seq ?_
                    refine WC.region ?_
                    refine WL.y rfl (Yld.bagg (vs := [v_t400, v_t4002]) tab_ok k25 rfl rfl rfl rfl) ?_
                    refine WL.alloc rfl zero50 (fun g2 w12 hB4 hg7 hl2 => ?_)
                    have gr12 := gr_trans gr11 hg7
                    have k28 := k24.grown hg7
                    have k29 := k25.g0 hg7
                    have k30 := k26.grown hg7
                    have k31 := k27.g0 hg7
                    refine WL.storeW (vs := [v_t400, v_t4002]) tab_ok rfl rfl rfl (all1c one_v_t400 (all1c one_v_t4002 all1n)) hB4 rfl rfl (fun w13 hB5 hg8 => ?_)
                    have gr13 := gr_mod gr12 hg8 (Ge.le (Ge.box hl2) (size_le gr11))
                    have k32 := k28.stored hB4 (noC (fun x h => Value.noConfusion h) (noC (fun x h => Value.noConfusion h) noN)) hg8
                    have k33 := k29.go hg8 (Dj.new k25.lt' (Ge.box hl2))
                    have k34 := k30.stored hB4 (noC (fun x h => Value.noConfusion h) (noC (fun x h => Value.noConfusion h) noN)) hg8
                    have k35 := k31.go hg8 (Dj.new k27.lt' (Ge.box hl2))
                    refine WL.nil (WX.then_normal ?_)
                    refine WC.seq ?_
                    obtain ⟨J6, H, hJ6⟩ := H
                    refine WC.midF (fun L' w' => ∃ (v_c0 : Value), ∃ (v_c02 : Value), ∃ (c0 : Int), ∃ (m_c0 : Nat), L' = [(5, .bool ok), (6, vs s), (11, .pointer (some ⟨g_b, 0, none⟩)), (12, .pointer (some ⟨g2, 0, none⟩))] ∧ J6 c0 m_c0 ∧ v_c0.oneCell' = true ∧ v_c02.oneCell' = true ∧ w.grownBy w' none ∧ Nm w' (.agg ⟨[v_t59, v_t592]⟩) t59 m_t59 ∧ Bl w' g_b 50 [v_t59, v_t592] ∧ Bl w' g2 50 [v_c0, v_c02] ∧ Nm w' (.agg ⟨[v_c0, v_c02]⟩) c0 m_c0 ∧ Dj (some g_b) (some g2)) ?_ (fun hQ => ?_)
                    · clear H
                      rintro _ w14 ⟨v_c0, v_c02, c0, m_c0, rfl, H, one_v_c0, one_v_c02, gr14, k36, k37, k38, k39, dj2⟩
                      replace H := hJ6 c0 m_c0 H
                      refine WX.then_normal ?_
                      refine WC.seq ?_
                      refine WC.region ?_
                      refine WL.y rfl (Yld.bagg (vs := [v_c0, v_c02]) tab_ok k38 rfl rfl rfl rfl) ?_
                      refine WL.y rfl (Yld.bagg (vs := [v_c0, v_c02]) tab_ok k38 rfl rfl rfl rfl) ?_
                      refine WL.call rfl rfl (W_num_Num_Add k39 k39 H) ?_
                      rintro _ w15 ⟨hg9, v_t86, v_t862, t86, m_t86, rfl, ht86, one_v_t86, one_v_t862, H⟩
                      have gr15 := gr_trans gr14 hg9
                      have k40 := k36.grown hg9
                      have k41 := k37.g0 hg9
                      have k42 := k38.g0 hg9
                      have k43 := k39.grown hg9
                      refine WL.call rfl rfl (W_num_Of H) ?_
                      rintro _ w16 ⟨hg10, v_t87, v_t872, t87, m_t87, rfl, ht87, one_v_t87, one_v_t872, H⟩
                      have gr16 := gr_trans gr15 hg10
                      have k44 := k40.grown hg10
                      have k45 := k41.g0 hg10
                      have k46 := k42.g0 hg10
                      have k47 := k43.grown hg10
                      have k48 := ht86.grown hg10
                      refine WL.call rfl rfl (W_num_Num_Div k48 ht87 H) ?_
                      rintro _ w17 ⟨hg11, v_t880, v_t8802, t880, m_t880, t881, rfl, ht880, one_v_t880, one_v_t8802, H⟩
                      have gr17 := gr_trans gr16 hg11
                      have k49 := k44.grown hg11
                      have k50 := k45.g0 hg11
                      have k51 := k46.g0 hg11
                      have k52 := k47.grown hg11
                      refine WL.y rfl (Yld.pure tab_ok rfl) ?_
                      refine WL.y rfl (Yld.pure tab_ok rfl) ?_
                      refine WL.y rfl (Yld.pure tab_ok rfl) ?_
                      refine WL.alloc rfl zero50 (fun g3 w18 hB6 hg12 hl3 => ?_)
                      have gr18 := gr_trans gr17 hg12
                      have k53 := k49.grown hg12
                      have k54 := k50.g0 hg12
                      have k55 := k51.g0 hg12
                      have k56 := k52.grown hg12
                      have k57 := ht880.grown hg12
                      refine WL.storeW (vs := [v_t880, v_t8802]) tab_ok rfl rfl rfl (all1c one_v_t880 (all1c one_v_t8802 all1n)) hB6 rfl rfl (fun w19 hB7 hg13 => ?_)
                      have gr19 := gr_mod gr18 hg13 (Ge.le (Ge.box hl3) (size_le gr17))
                      have k58 := k53.stored hB6 (noC (fun x h => Value.noConfusion h) (noC (fun x h => Value.noConfusion h) noN)) hg13
                      have k59 := k54.go hg13 (Dj.new k50.lt' (Ge.box hl3))
                      have k60 := k55.go hg13 (Dj.new k51.lt' (Ge.box hl3))
                      have k61 := k56.stored hB6 (noC (fun x h => Value.noConfusion h) (noC (fun x h => Value.noConfusion h) noN)) hg13
                      have k62 := k57.stored hB6 (noC (fun x h => Value.noConfusion h) (noC (fun x h => Value.noConfusion h) noN)) hg13
                      refine WL.y rfl (Yld.pure tab_ok rfl) ?_
                      refine WL.nil (WX.then_normal ?_)
                      refine WC.seq ?_
                      obtain ⟨J7, H, hJ7⟩ := H
                      refine WC.ordersF 10 (fun k => !(Nat.beq k 2 || Nat.beq k 4 || Nat.beq k 8 || Nat.beq k 9)) (fun w' => w19.grownBy w' none) (fun L' w' => ∃ (v_t960 : Value), ∃ (v_t9602 : Value), ∃ (t960 : Int), ∃ (m_t960 : Nat), ∃ (t961 : Bool), ∃ (g_q : Nat), L' = [(5, .bool ok), (6, vs s), (11, .pointer (some ⟨g_b, 0, none⟩)), (12, .pointer (some ⟨g2, 0, none⟩)), (13, .pointer (some ⟨g3, 0, none⟩)), (14, .bool t881), (15, .pointer (some ⟨g_q, 0, none⟩)), (98, .bool t961)] ∧ J7 t960 m_t960 t961 ∧ w.grownBy w' none ∧ Nm w' (.agg ⟨[v_t59, v_t592]⟩) t59 m_t59 ∧ Bl w' g_b 50 [v_t59, v_t592] ∧ Bl w' g2 50 [v_c0, v_c02] ∧ Nm w' (.agg ⟨[v_c0, v_c02]⟩) c0 m_c0 ∧ Nm w' (.agg ⟨[v_t880, v_t8802]⟩) t880 m_t880 ∧ Bl w' g3 50 [v_t880, v_t8802] ∧ Nm w' (.agg ⟨[v_t960, v_t9602]⟩) t960 m_t960 ∧ Bl w' g_q 50 [v_t960, v_t9602] ∧ v_t960.oneCell' = true ∧ v_t9602.oneCell' = true ∧ Dj (some g_b) (some g_q) ∧ Dj (some g2) (some g_q) ∧ Dj (some g3) (some g_q) ∧ Ge (some g_q) w.heap.size) mixed (by kernel_rfl) (fun w' h => gr_eqv (gr_refl _ _) h) ?_ ?_
                      · clear H
                        rintro _ w20 ⟨v_t960, v_t9602, t960, m_t960, t961, g_q, rfl, H, gr20, k63, k64, k65, k66, k67, k68, k69, k70, one_v_t960, one_v_t9602, dj3, dj4, dj5, hge2⟩
                        replace H := hJ7 t960 m_t960 t961 H
                        refine WL.y rfl (Yld.pure tab_ok rfl) ?_
                        refine WL.nil (WX.then_normal ?_)
                        refine WC.seq ?_
                        refine WC.region ?_
                        refine WL.y rfl (Yld.pure tab_ok rfl) ?_
                        obtain ⟨h8, H⟩ := H
                        refine WL.y rfl (Yld.sadd rfl rfl h8) ?_
                        refine WL.call rfl rfl (W_num_Parse (hG.grown gr20) hS7 hS12 H) ?_
                        rintro _ w21 ⟨hg14, v_t1020, v_t10202, t1020, m_t1020, v_t1021, t1021, rfl, ht1020, ht1021, one_v_t1020, one_v_t10202, H⟩
                        have gr21 := gr_trans gr20 hg14
                        have k71 := k63.grown hg14
                        have k72 := k64.g0 hg14
                        have k73 := k65.g0 hg14
                        have k74 := k66.grown hg14
                        have k75 := k67.grown hg14
                        have k76 := k68.g0 hg14
                        have k77 := k69.grown hg14
                        have k78 := k70.g0 hg14
                        refine WL.y rfl (Yld.pure tab_ok rfl) ?_
                        refine WL.y rfl (Yld.pure tab_ok rfl) ?_
                        refine WL.y rfl (Yld.pure tab_ok rfl) ?_
                        refine WL.alloc rfl zero50 (fun g4 w22 hB8 hg15 hl4 => ?_)
                        have gr22 := gr_trans gr21 hg15
                        have k79 := k71.grown hg15
                        have k80 := k72.g0 hg15
                        have k81 := k73.g0 hg15
                        have k82 := k74.grown hg15
                        have k83 := k75.grown hg15
                        have k84 := k76.g0 hg15
                        have k85 := k77.grown hg15
                        have k86 := k78.g0 hg15
                        have k87 := ht1020.grown hg15
                        have k88 := ht1021.grown hg15
                        refine WL.storeW (vs := [v_t1020, v_t10202]) tab_ok rfl rfl rfl (all1c one_v_t1020 (all1c one_v_t10202 all1n)) hB8 rfl rfl (fun w23 hB9 hg16 => ?_)
                        have gr23 := gr_mod gr22 hg16 (Ge.le (Ge.box hl4) (size_le gr21))
                        have k89 := k79.stored hB8 (noC (fun x h => Value.noConfusion h) (noC (fun x h => Value.noConfusion h) noN)) hg16
                        have k90 := k80.go hg16 (Dj.new k72.lt' (Ge.box hl4))
                        have k91 := k81.go hg16 (Dj.new k73.lt' (Ge.box hl4))
                        have k92 := k82.stored hB8 (noC (fun x h => Value.noConfusion h) (noC (fun x h => Value.noConfusion h) noN)) hg16
                        have k93 := k83.stored hB8 (noC (fun x h => Value.noConfusion h) (noC (fun x h => Value.noConfusion h) noN)) hg16
                        have k94 := k84.go hg16 (Dj.new k76.lt' (Ge.box hl4))
                        have k95 := k85.stored hB8 (noC (fun x h => Value.noConfusion h) (noC (fun x h => Value.noConfusion h) noN)) hg16
                        have k96 := k86.go hg16 (Dj.new k78.lt' (Ge.box hl4))
                        have k97 := ErrR.go k88 hG gr22 hg16 gr23 hB8 rfl
                        refine WL.y rfl (Yld.pure tab_ok rfl) ?_
                        refine WL.nil (WX.then_normal ?_)
                        refine WC.seq ?_
                        refine WC.region ?_
                        refine WL.call rfl rfl (W_num_Parse (hG.grown gr23) hS7 hS12 H) ?_
                        rintro _ w24 ⟨hg17, v_t1060, v_t10602, t1060, m_t1060, v_t1061, t1061, rfl, ht1060, ht1061, one_v_t1060, one_v_t10602, H⟩
                        have gr24 := gr_trans gr23 hg17
                        have k98 := k89.grown hg17
                        have k99 := k90.g0 hg17
                        have k100 := k91.g0 hg17
                        have k101 := k92.grown hg17
                        have k102 := k93.grown hg17
                        have k103 := k94.g0 hg17
                        have k104 := k95.grown hg17
                        have k105 := k96.g0 hg17
                        have k106 := k97.grown hg17
                        refine WL.y rfl (Yld.pure tab_ok rfl) ?_
                        refine WL.y rfl (Yld.pure tab_ok rfl) ?_
                        refine WL.y rfl (Yld.pure tab_ok rfl) ?_
                        refine WL.alloc rfl zero50 (fun g5 w25 hB10 hg18 hl5 => ?_)
                        have gr25 := gr_trans gr24 hg18
                        have k107 := k98.grown hg18
                        have k108 := k99.g0 hg18
                        have k109 := k100.g0 hg18
                        have k110 := k101.grown hg18
                        have k111 := k102.grown hg18
                        have k112 := k103.g0 hg18
                        have k113 := k104.grown hg18
                        have k114 := k105.g0 hg18
                        have k115 := k106.grown hg18
                        have k116 := ht1060.grown hg18
                        have k117 := ht1061.grown hg18
                        refine WL.storeW (vs := [v_t1060, v_t10602]) tab_ok rfl rfl rfl (all1c one_v_t1060 (all1c one_v_t10602 all1n)) hB10 rfl rfl (fun w26 hB11 hg19 => ?_)
                        have gr26 := gr_mod gr25 hg19 (Ge.le (Ge.box hl5) (size_le gr24))
                        have k118 := k107.stored hB10 (noC (fun x h => Value.noConfusion h) (noC (fun x h => Value.noConfusion h) noN)) hg19
                        have k119 := k108.go hg19 (Dj.new k99.lt' (Ge.box hl5))
                        have k120 := k109.go hg19 (Dj.new k100.lt' (Ge.box hl5))
                        have k121 := k110.stored hB10 (noC (fun x h => Value.noConfusion h) (noC (fun x h => Value.noConfusion h) noN)) hg19
                        have k122 := k111.stored hB10 (noC (fun x h => Value.noConfusion h) (noC (fun x h => Value.noConfusion h) noN)) hg19
                        have k123 := k112.go hg19 (Dj.new k103.lt' (Ge.box hl5))
                        have k124 := k113.stored hB10 (noC (fun x h => Value.noConfusion h) (noC (fun x h => Value.noConfusion h) noN)) hg19
                        have k125 := k114.go hg19 (Dj.new k105.lt' (Ge.box hl5))
                        have k126 := ErrR.go k115 hG gr25 hg19 gr26 hB10 rfl
                        have k127 := ErrR.go k117 hG gr25 hg19 gr26 hB10 rfl
                        refine WL.y rfl (Yld.pure tab_ok rfl) ?_
                        refine WL.nil (WX.then_normal ?_)
                        refine WC.seq ?_
                        refine WC.region ?_
                        refine WL.y rfl (Yld.pure tab_ok rfl) ?_
                        refine WL.y rfl (Yld.pure tab_ok rfl) ?_
                        refine WL.midF 2 (fun L' w' => ∃ q5 : Bool, L' = [(112, .bool q5), (11, .pointer (some ⟨g_b, 0, none⟩)), (12, .pointer (some ⟨g2, 0, none⟩)), (13, .pointer (some ⟨g3, 0, none⟩)), (15, .pointer (some ⟨g_q, 0, none⟩)), (16, .bool t961), (18, v_t1021), (20, v_t1061)] ∧ q5 = (ok && t881) ∧ w26 = w') ?_ (fun hQ => ?_)
                        · rintro _ _ ⟨q5, rfl, rfl, rfl⟩
                          refine WL.y rfl (Yld.pure tab_ok rfl) ?_
                          obtain ⟨J8, H, hJ8⟩ := H
                          refine WL.midF 5 (fun L' w' => ∃ q6 : Bool, L' = [(118, .bool q6), (11, .pointer (some ⟨g_b, 0, none⟩)), (15, .pointer (some ⟨g_q, 0, none⟩)), (16, .bool t961), (18, v_t1021), (20, v_t1061)] ∧ J8 q6 ∧ w.grownBy w' none ∧ Nm w' (.agg ⟨[v_t59, v_t592]⟩) t59 m_t59 ∧ Bl w' g_b 50 [v_t59, v_t592] ∧ Nm w' (.agg ⟨[v_t960, v_t9602]⟩) t960 m_t960 ∧ Bl w' g_q 50 [v_t960, v_t9602] ∧ ErrR S w' v_t1021 t1021 ∧ ErrR S w' v_t1061 t1061) ?_ (fun hQ => ?_)
                          · clear H
                            rintro _ w27 ⟨q6, rfl, H, gr27, k128, k129, k130, k131, k132, k133⟩
                            replace H := hJ8 q6 H
                            refine WL.y rfl (Yld.pure tab_ok rfl) ?_
                            refine WL.midF 2 (fun L' w' => ∃ q7 : Bool, L' = [(121, .bool q7), (11, .pointer (some ⟨g_b, 0, none⟩)), (15, .pointer (some ⟨g_q, 0, none⟩)), (18, v_t1021), (20, v_t1061)] ∧ q7 = (q6 && t961) ∧ w27 = w') ?_ (fun hQ => ?_)
                            · rintro _ _ ⟨q7, rfl, rfl, rfl⟩
                              refine WL.y rfl (Yld.pure tab_ok rfl) ?_
                              obtain ⟨J9, H, hJ9⟩ := H
                              refine WL.midF 5 (fun L' w' => ∃ q8 : Bool, L' = [(127, .bool q8), (18, v_t1021), (20, v_t1061)] ∧ J9 q8 ∧ w.grownBy w' none ∧ ErrR S w' v_t1021 t1021 ∧ ErrR S w' v_t1061 t1061) ?_ (fun hQ => ?_)
                              · clear H
                                rintro _ w28 ⟨q8, rfl, H, gr28, k134, k135⟩
                                replace H := hJ9 q8 H
                                refine WL.y rfl (Yld.pure tab_ok rfl) ?_
                                obtain ⟨J10, H, hJ10⟩ := H
                                refine WL.midF 3 (fun L' w' => ∃ q9 : Bool, L' = [(131, .bool q9), (20, v_t1061)] ∧ J10 q9 ∧ w.grownBy w' none ∧ ErrR S w' v_t1061 t1061) ?_ (fun hQ => ?_)
                                · clear H
                                  rintro _ w29 ⟨q9, rfl, H, gr29, k136⟩
                                  replace H := hJ10 q9 H
                                  refine WL.y rfl (Yld.pure tab_ok rfl) ?_
                                  obtain ⟨J11, H, hJ11⟩ := H
                                  refine WL.midF 3 (fun L' w' => ∃ q10 : Bool, L' = [(135, .bool q10)] ∧ J11 q10 ∧ w.grownBy w' none) ?_ (fun hQ => ?_)
                                  · clear H
                                    rintro _ w30 ⟨q10, rfl, H, gr30⟩
                                    replace H := hJ11 q10 H
                                    refine WL.y rfl (Yld.pure tab_ok rfl) ?_
                                    refine WL.nil (WX.then_normal ?_)
                                    refine WC.ret ?_
                                    exact WX.ret1 rfl rfl ⟨gr30, q10, rfl, H⟩
                                  · clear hJ11
                                    rcases Bool.eq_false_or_eq_true (q9) with b5 | b5
                                    · replace H := H.1 b5
                                      refine WL.gyes rfl rfl (okb b5) rfl (Yld.pure tab_ok rfl) ?_
                                      refine WL.callw (wants_some rfl rfl (okb b5)) rfl rfl (W_smithysee_Is (hG.grown gr29) hS0 hS1 hS2 hS3 hS4 hS5 hS6 hS7 hS8 hS9 hS10 hS11 hS12 hS13 hS14 hS15 hS16 k136 H) ?_
                                      rintro _ w31 ⟨hg20, t134, rfl, H⟩
                                      have gr31 := gr_trans gr29 hg20
                                      have k137 := k136.grown hg20
                                      refine WL.y rfl (Yld.pickT (okb b5) rfl) ?_
                                      exact WL.weaken (by repeat (first | exact Sub.nil | refine Sub.cons rfl ?_)) (hQ _ _ ⟨t134, rfl, H, gr31⟩)
                                    · replace H := H.2 b5
                                      refine WL.gno rfl rfl (okb b5) rfl ?_
                                      refine WL.gno rfl rfl (okb b5) rfl ?_
                                      refine WL.y rfl (Yld.pickF (okb b5) rfl) ?_
                                      exact WL.weaken (by repeat (first | exact Sub.nil | refine Sub.cons rfl ?_)) (hQ _ _ ⟨false, rfl, H, gr29⟩)
                                · clear hJ10
                                  rcases Bool.eq_false_or_eq_true (q8) with b6 | b6
                                  · replace H := H.1 b6
                                    refine WL.gyes rfl rfl (okb b6) rfl (Yld.pure tab_ok rfl) ?_
                                    refine WL.callw (wants_some rfl rfl (okb b6)) rfl rfl (W_smithysee_Is (hG.grown gr28) hS0 hS1 hS2 hS3 hS4 hS5 hS6 hS7 hS8 hS9 hS10 hS11 hS12 hS13 hS14 hS15 hS16 k134 H) ?_
                                    rintro _ w32 ⟨hg21, t130, rfl, H⟩
                                    have gr32 := gr_trans gr28 hg21
                                    have k138 := k134.grown hg21
                                    have k139 := k135.grown hg21
                                    refine WL.y rfl (Yld.pickT (okb b6) rfl) ?_
                                    exact WL.weaken (by repeat (first | exact Sub.nil | refine Sub.cons rfl ?_)) (hQ _ _ ⟨t130, rfl, H, gr32, k139⟩)
                                  · replace H := H.2 b6
                                    refine WL.gno rfl rfl (okb b6) rfl ?_
                                    refine WL.gno rfl rfl (okb b6) rfl ?_
                                    refine WL.y rfl (Yld.pickF (okb b6) rfl) ?_
                                    exact WL.weaken (by repeat (first | exact Sub.nil | refine Sub.cons rfl ?_)) (hQ _ _ ⟨false, rfl, H, gr28, k135⟩)
                              · clear hJ9
                                rcases Bool.eq_false_or_eq_true (q6 && t961) with b7 | b7
                                · replace H := H.1 b7
                                  refine WL.gyes rfl rfl (okb b7) rfl (Yld.bagg (vs := [v_t960, v_t9602]) tab_ok k131 rfl rfl rfl rfl) ?_
                                  refine WL.gyes rfl rfl (okb b7) rfl (Yld.bagg (vs := [v_t59, v_t592]) tab_ok k129 rfl rfl rfl rfl) ?_
                                  refine WL.callw (wants_some rfl rfl (okb b7)) rfl rfl (W_num_Num_Cmp k130 k128 H) ?_
                                  rintro _ w33 ⟨hg22, t125, rfl, H⟩
                                  have gr33 := gr_trans gr27 hg22
                                  have k140 := k128.grown hg22
                                  have k141 := k130.grown hg22
                                  have k142 := k132.grown hg22
                                  have k143 := k133.grown hg22
                                  refine WL.gyes rfl rfl (okb b7) rfl (Yld.pure tab_ok rfl) ?_
                                  refine WL.y rfl (Yld.pickT (okb b7) rfl) ?_
                                  exact WL.weaken (by repeat (first | exact Sub.nil | refine Sub.cons rfl ?_)) (hQ _ _ ⟨decide (t125 = (0 : Int)), rfl, H, gr33, k142, k143⟩)
                                · replace H := H.2 b7
                                  refine WL.gno rfl rfl (okb b7) rfl ?_
                                  refine WL.gno rfl rfl (okb b7) rfl ?_
                                  refine WL.gno rfl rfl (okb b7) rfl ?_
                                  refine WL.gno rfl rfl (okb b7) rfl ?_
                                  refine WL.y rfl (Yld.pickF (okb b7) rfl) ?_
                                  exact WL.weaken (by repeat (first | exact Sub.nil | refine Sub.cons rfl ?_)) (hQ _ _ ⟨false, rfl, H, gr27, k132, k133⟩)
                            · clear H
                              rcases Bool.eq_false_or_eq_true (q6) with b8 | b8
                              · refine WL.gyes rfl rfl (okb b8) rfl (Yld.pure tab_ok rfl) ?_
                                refine WL.y rfl (Yld.pickT (okb b8) rfl) ?_
                                exact WL.weaken (by repeat (first | exact Sub.nil | refine Sub.cons rfl ?_)) (hQ _ _ ⟨t961, rfl, by rw [b8] <;> rfl, rfl⟩)
                              · refine WL.gno rfl rfl (okb b8) rfl ?_
                                refine WL.y rfl (Yld.pickF (okb b8) rfl) ?_
                                exact WL.weaken (by repeat (first | exact Sub.nil | refine Sub.cons rfl ?_)) (hQ _ _ ⟨false, rfl, by rw [b8] <;> rfl, rfl⟩)
                          · clear hJ8
                            rcases Bool.eq_false_or_eq_true (ok && t881) with b9 | b9
                            · replace H := H.1 b9
                              refine WL.gyes rfl rfl (okb b9) rfl (Yld.bagg (vs := [v_t880, v_t8802]) tab_ok k123 rfl rfl rfl rfl) ?_
                              refine WL.gyes rfl rfl (okb b9) rfl (Yld.bagg (vs := [v_c0, v_c02]) tab_ok k120 rfl rfl rfl rfl) ?_
                              refine WL.callw (wants_some rfl rfl (okb b9)) rfl rfl (W_num_Num_Cmp k122 k121 H) ?_
                              rintro _ w34 ⟨hg23, t116, rfl, H⟩
                              have gr34 := gr_trans gr26 hg23
                              have k144 := k118.grown hg23
                              have k145 := k119.g0 hg23
                              have k146 := k121.grown hg23
                              have k147 := k122.grown hg23
                              have k148 := k124.grown hg23
                              have k149 := k125.g0 hg23
                              have k150 := k126.grown hg23
                              have k151 := k127.grown hg23
                              refine WL.gyes rfl rfl (okb b9) rfl (Yld.pure tab_ok rfl) ?_
                              refine WL.y rfl (Yld.pickT (okb b9) rfl) ?_
                              exact WL.weaken (by repeat (first | exact Sub.nil | refine Sub.cons rfl ?_)) (hQ _ _ ⟨decide (t116 = (0 : Int)), rfl, H, gr34, k144, k145, k148, k149, k150, k151⟩)
                            · replace H := H.2 b9
                              refine WL.gno rfl rfl (okb b9) rfl ?_
                              refine WL.gno rfl rfl (okb b9) rfl ?_
                              refine WL.gno rfl rfl (okb b9) rfl ?_
                              refine WL.gno rfl rfl (okb b9) rfl ?_
                              refine WL.y rfl (Yld.pickF (okb b9) rfl) ?_
                              exact WL.weaken (by repeat (first | exact Sub.nil | refine Sub.cons rfl ?_)) (hQ _ _ ⟨false, rfl, H, gr26, k118, k119, k124, k125, k126, k127⟩)
                        · clear H
                          rcases Bool.eq_false_or_eq_true (ok) with b10 | b10
                          · refine WL.gyes rfl rfl (okb b10) rfl (Yld.pure tab_ok rfl) ?_
                            refine WL.y rfl (Yld.pickT (okb b10) rfl) ?_
                            exact WL.weaken (by repeat (first | exact Sub.nil | refine Sub.cons rfl ?_)) (hQ _ _ ⟨t881, rfl, by rw [b10] <;> rfl, rfl⟩)
                          · refine WL.gno rfl rfl (okb b10) rfl ?_
                            refine WL.y rfl (Yld.pickF (okb b10) rfl) ?_
                            exact WL.weaken (by repeat (first | exact Sub.nil | refine Sub.cons rfl ?_)) (hQ _ _ ⟨false, rfl, by rw [b10] <;> rfl, rfl⟩)
                      · clear hJ7
                        refine WA.y 0 rfl (by kernel_rfl) rfl (fun w' hw' => Yld.bagg (vs := [v_t59, v_t592]) tab_ok (Bl.g0 k59 hw') rfl rfl rfl rfl) ?_
                        refine WA.y 1 rfl (by kernel_rfl) rfl (fun w' hw' => Yld.bagg (vs := [v_t59, v_t592]) tab_ok (Bl.g0 k59 hw') rfl rfl rfl rfl) ?_
                        refine WA.y 3 rfl (by kernel_rfl) rfl (fun w' hw' => Yld.bagg (vs := [v_t59, v_t592]) tab_ok (Bl.g0 k59 hw') rfl rfl rfl rfl) ?_
                        refine WA.split [2, 8] (by kernel_rfl) (by kernel_rfl) ⟨?_, ?_⟩
                        · refine WI.call rfl rfl wants_none rfl rfl (W_num_Num_Mul k58 k58 H) (fun v w' h w2 e => gr_eqv (gr_trans (gr_refl _ none) h.1) e) ?_
                          rintro _ w35 ⟨hg24, v_t94, v_t942, t94, m_t94, rfl, ht94, one_v_t94, one_v_t942, H⟩
                          have gr35 := gr_trans gr19 hg24
                          have k152 := k58.grown hg24
                          have k153 := k59.g0 hg24
                          have k154 := k60.g0 hg24
                          have k155 := k61.grown hg24
                          have k156 := k62.grown hg24
                          have k157 := hB7.g0 hg24
                          have gt1 := gr_trans (gr_refl _ none) hg24
                          refine WA.split [4, 8] (by kernel_rfl) (by kernel_rfl) ⟨?_, ?_⟩
                          · refine WI.call rfl rfl wants_none rfl rfl (W_num_Num_Div ht94 k152 H) (fun v w' h w2 e => gr_eqv (gr_trans gt1 h.1) e) ?_
                            rintro _ w36 ⟨hg25, v_t9603, v_t9604, t9602, m_t9602, t9612, rfl, ht9602, one_v_t9603, one_v_t9604, H⟩
                            have gr36 := gr_trans gr35 hg25
                            have k158 := k152.grown hg25
                            have k159 := k153.g0 hg25
                            have k160 := k154.g0 hg25
                            have k161 := k155.grown hg25
                            have k162 := k156.grown hg25
                            have k163 := k157.g0 hg25
                            have k164 := ht94.grown hg25
                            have gt2 := gr_trans gt1 hg25
                            refine WA.y 5 rfl (by kernel_rfl) rfl (fun w' hw' => Yld.pure tab_ok rfl) ?_
                            refine WA.y 6 rfl (by kernel_rfl) rfl (fun w' hw' => Yld.pure tab_ok rfl) ?_
                            refine WA.y 7 rfl (by kernel_rfl) rfl (fun w' hw' => Yld.pure tab_ok rfl) ?_
                            refine WA.split [8] (by kernel_rfl) (by kernel_rfl) ?_
                            · refine WI.put rfl rfl rfl (Eff.alloc zero50) (fun v w' h => gr_trans gt2 h.2.2) ?_
                              rintro _ w37 ⟨rfl, hB12, hg26⟩
                              obtain ⟨g_q2, hl6⟩ : ∃ g, g = w36.heap.size := ⟨_, rfl⟩
                              rw [← hl6] at hB12
                              rw [← hl6]
                              have gr37 := gr_trans gr36 hg26
                              have k165 := k158.grown hg26
                              have k166 := k159.g0 hg26
                              have k167 := k160.g0 hg26
                              have k168 := k161.grown hg26
                              have k169 := k162.grown hg26
                              have k170 := k163.g0 hg26
                              have k171 := k164.grown hg26
                              have k172 := ht9602.grown hg26
                              have gt3 := gr_trans gt2 hg26
                              refine WA.split [9] (by kernel_rfl) (by kernel_rfl) ?_
                              · refine WI.eff rfl rfl (Ef0.storeW (vs := [v_t9603, v_t9604]) tab_ok rfl rfl rfl (all1c one_v_t9603 (all1c one_v_t9604 all1n)) hB12 rfl rfl) (fun w' h => gr_mod gt3 h.2 (Ge.le (Ge.box (Nat.le_of_eq hl6.symm)) (size_le gt2))) ?_
                                rintro w38 ⟨hB13, hg27⟩
                                have gr38 := gr_mod gr37 hg27 (Ge.le (Ge.box (Nat.le_of_eq hl6.symm)) (size_le gr36))
                                have k173 := k165.stored hB12 (noC (fun x h => Value.noConfusion h) (noC (fun x h => Value.noConfusion h) noN)) hg27
                                have k174 := k166.go hg27 (Dj.new k159.lt' (Ge.box (Nat.le_of_eq hl6.symm)))
                                have k175 := k167.go hg27 (Dj.new k160.lt' (Ge.box (Nat.le_of_eq hl6.symm)))
                                have k176 := k168.stored hB12 (noC (fun x h => Value.noConfusion h) (noC (fun x h => Value.noConfusion h) noN)) hg27
                                have k177 := k169.stored hB12 (noC (fun x h => Value.noConfusion h) (noC (fun x h => Value.noConfusion h) noN)) hg27
                                have k178 := k170.go hg27 (Dj.new k163.lt' (Ge.box (Nat.le_of_eq hl6.symm)))
                                have k179 := k171.stored hB12 (noC (fun x h => Value.noConfusion h) (noC (fun x h => Value.noConfusion h) noN)) hg27
                                have k180 := k172.stored hB12 (noC (fun x h => Value.noConfusion h) (noC (fun x h => Value.noConfusion h) noN)) hg27
                                have gt4 := gr_mod gt3 hg27 (Ge.le (Ge.box (Nat.le_of_eq hl6.symm)) (size_le gt2))
                                exact WA.doneF _ (by kernel_rfl) ⟨v_t9603, v_t9604, t9602, m_t9602, t9612, g_q2, rfl, H, gr38, k173, k174, k175, k176, k177, k178, k180, hB13, one_v_t9603, one_v_t9604, (Dj.new k159.lt' (Ge.box (Nat.le_of_eq hl6.symm))), (Dj.new k160.lt' (Ge.box (Nat.le_of_eq hl6.symm))), (Dj.new k163.lt' (Ge.box (Nat.le_of_eq hl6.symm))), (Ge.le (Ge.box (Nat.le_of_eq hl6.symm)) (size_le gr36))⟩ (by repeat (first | exact Sub.nil | refine Sub.cons rfl ?_))
                          · refine WI.put rfl rfl rfl (Eff.alloc zero50) (fun v w' h => gr_trans gt1 h.2.2) ?_
                            rintro _ w39 ⟨rfl, hB14, hg28⟩
                            obtain ⟨g_q3, hl7⟩ : ∃ g, g = w35.heap.size := ⟨_, rfl⟩
                            rw [← hl7] at hB14
                            rw [← hl7]
                            have gr39 := gr_trans gr35 hg28
                            have k181 := k152.grown hg28
                            have k182 := k153.g0 hg28
                            have k183 := k154.g0 hg28
                            have k184 := k155.grown hg28
                            have k185 := k156.grown hg28
                            have k186 := k157.g0 hg28
                            have k187 := ht94.grown hg28
                            have gt5 := gr_trans gt1 hg28
                            refine WA.split [4] (by kernel_rfl) (by kernel_rfl) ?_
                            · refine WI.call rfl rfl wants_none rfl rfl (W_num_Num_Div k187 k181 H) (fun v w' h w2 e => gr_eqv (gr_trans gt5 h.1) e) ?_
                              rintro _ w40 ⟨hg29, v_t9605, v_t9606, t9603, m_t9603, t9613, rfl, ht9603, one_v_t9605, one_v_t9606, H⟩
                              have gr40 := gr_trans gr39 hg29
                              have k188 := k181.grown hg29
                              have k189 := k182.g0 hg29
                              have k190 := k183.g0 hg29
                              have k191 := k184.grown hg29
                              have k192 := k185.grown hg29
                              have k193 := k186.g0 hg29
                              have k194 := k187.grown hg29
                              have k195 := hB14.g0 hg29
                              have gt6 := gr_trans gt5 hg29
                              refine WA.y 5 rfl (by kernel_rfl) rfl (fun w' hw' => Yld.pure tab_ok rfl) ?_
                              refine WA.y 6 rfl (by kernel_rfl) rfl (fun w' hw' => Yld.pure tab_ok rfl) ?_
                              refine WA.y 7 rfl (by kernel_rfl) rfl (fun w' hw' => Yld.pure tab_ok rfl) ?_
                              refine WA.split [9] (by kernel_rfl) (by kernel_rfl) ?_
                              · refine WI.eff rfl rfl (Ef0.storeW (vs := [v_t9605, v_t9606]) tab_ok rfl rfl rfl (all1c one_v_t9605 (all1c one_v_t9606 all1n)) k195 rfl rfl) (fun w' h => gr_mod gt6 h.2 (Ge.le (Ge.box (Nat.le_of_eq hl7.symm)) (size_le gt1))) ?_
                                rintro w41 ⟨hB15, hg30⟩
                                have gr41 := gr_mod gr40 hg30 (Ge.le (Ge.box (Nat.le_of_eq hl7.symm)) (size_le gr35))
                                have k196 := k188.stored k195 (noC (fun x h => Value.noConfusion h) (noC (fun x h => Value.noConfusion h) noN)) hg30
                                have k197 := k189.go hg30 (Dj.new k153.lt' (Ge.box (Nat.le_of_eq hl7.symm)))
                                have k198 := k190.go hg30 (Dj.new k154.lt' (Ge.box (Nat.le_of_eq hl7.symm)))
                                have k199 := k191.stored k195 (noC (fun x h => Value.noConfusion h) (noC (fun x h => Value.noConfusion h) noN)) hg30
                                have k200 := k192.stored k195 (noC (fun x h => Value.noConfusion h) (noC (fun x h => Value.noConfusion h) noN)) hg30
                                have k201 := k193.go hg30 (Dj.new k157.lt' (Ge.box (Nat.le_of_eq hl7.symm)))
                                have k202 := k194.stored k195 (noC (fun x h => Value.noConfusion h) (noC (fun x h => Value.noConfusion h) noN)) hg30
                                have k203 := ht9603.stored k195 (noC (fun x h => Value.noConfusion h) (noC (fun x h => Value.noConfusion h) noN)) hg30
                                have gt7 := gr_mod gt6 hg30 (Ge.le (Ge.box (Nat.le_of_eq hl7.symm)) (size_le gt1))
                                exact WA.doneF _ (by kernel_rfl) ⟨v_t9605, v_t9606, t9603, m_t9603, t9613, g_q3, rfl, H, gr41, k196, k197, k198, k199, k200, k201, k203, hB15, one_v_t9605, one_v_t9606, (Dj.new k153.lt' (Ge.box (Nat.le_of_eq hl7.symm))), (Dj.new k154.lt' (Ge.box (Nat.le_of_eq hl7.symm))), (Dj.new k157.lt' (Ge.box (Nat.le_of_eq hl7.symm))), (Ge.le (Ge.box (Nat.le_of_eq hl7.symm)) (size_le gr35))⟩ (by repeat (first | exact Sub.nil | refine Sub.cons rfl ?_))
                        · refine WI.put rfl rfl rfl (Eff.alloc zero50) (fun v w' h => gr_trans (gr_refl _ none) h.2.2) ?_
                          rintro _ w42 ⟨rfl, hB16, hg31⟩
                          obtain ⟨g_q4, hl8⟩ : ∃ g, g = w19.heap.size := ⟨_, rfl⟩
                          rw [← hl8] at hB16
                          rw [← hl8]
                          have gr42 := gr_trans gr19 hg31
                          have k204 := k58.grown hg31
                          have k205 := k59.g0 hg31
                          have k206 := k60.g0 hg31
                          have k207 := k61.grown hg31
                          have k208 := k62.grown hg31
                          have k209 := hB7.g0 hg31
                          have gt8 := gr_trans (gr_refl _ none) hg31
                          refine WA.split [2] (by kernel_rfl) (by kernel_rfl) ?_
                          · refine WI.call rfl rfl wants_none rfl rfl (W_num_Num_Mul k204 k204 H) (fun v w' h w2 e => gr_eqv (gr_trans gt8 h.1) e) ?_
                            rintro _ w43 ⟨hg32, v_t943, v_t944, t942, m_t942, rfl, ht942, one_v_t943, one_v_t944, H⟩
                            have gr43 := gr_trans gr42 hg32
                            have k210 := k204.grown hg32
                            have k211 := k205.g0 hg32
                            have k212 := k206.g0 hg32
                            have k213 := k207.grown hg32
                            have k214 := k208.grown hg32
                            have k215 := k209.g0 hg32
                            have k216 := hB16.g0 hg32
                            have gt9 := gr_trans gt8 hg32
                            refine WA.split [4] (by kernel_rfl) (by kernel_rfl) ?_
                            · refine WI.call rfl rfl wants_none rfl rfl (W_num_Num_Div ht942 k210 H) (fun v w' h w2 e => gr_eqv (gr_trans gt9 h.1) e) ?_
                              rintro _ w44 ⟨hg33, v_t9607, v_t9608, t9604, m_t9604, t9614, rfl, ht9604, one_v_t9607, one_v_t9608, H⟩
                              have gr44 := gr_trans gr43 hg33
                              have k217 := k210.grown hg33
                              have k218 := k211.g0 hg33
                              have k219 := k212.g0 hg33
                              have k220 := k213.grown hg33
                              have k221 := k214.grown hg33
                              have k222 := k215.g0 hg33
                              have k223 := k216.g0 hg33
                              have k224 := ht942.grown hg33
                              have gt10 := gr_trans gt9 hg33
                              refine WA.y 5 rfl (by kernel_rfl) rfl (fun w' hw' => Yld.pure tab_ok rfl) ?_
                              refine WA.y 6 rfl (by kernel_rfl) rfl (fun w' hw' => Yld.pure tab_ok rfl) ?_
                              refine WA.y 7 rfl (by kernel_rfl) rfl (fun w' hw' => Yld.pure tab_ok rfl) ?_
                              refine WA.split [9] (by kernel_rfl) (by kernel_rfl) ?_
                              · refine WI.eff rfl rfl (Ef0.storeW (vs := [v_t9607, v_t9608]) tab_ok rfl rfl rfl (all1c one_v_t9607 (all1c one_v_t9608 all1n)) k223 rfl rfl) (fun w' h => gr_mod gt10 h.2 (Ge.le (Ge.box (Nat.le_of_eq hl8.symm)) (size_le (gr_refl _ none)))) ?_
                                rintro w45 ⟨hB17, hg34⟩
                                have gr45 := gr_mod gr44 hg34 (Ge.le (Ge.box (Nat.le_of_eq hl8.symm)) (size_le gr19))
                                have k225 := k217.stored k223 (noC (fun x h => Value.noConfusion h) (noC (fun x h => Value.noConfusion h) noN)) hg34
                                have k226 := k218.go hg34 (Dj.new k59.lt' (Ge.box (Nat.le_of_eq hl8.symm)))
                                have k227 := k219.go hg34 (Dj.new k60.lt' (Ge.box (Nat.le_of_eq hl8.symm)))
                                have k228 := k220.stored k223 (noC (fun x h => Value.noConfusion h) (noC (fun x h => Value.noConfusion h) noN)) hg34
                                have k229 := k221.stored k223 (noC (fun x h => Value.noConfusion h) (noC (fun x h => Value.noConfusion h) noN)) hg34
                                have k230 := k222.go hg34 (Dj.new hB7.lt' (Ge.box (Nat.le_of_eq hl8.symm)))
                                have k231 := k224.stored k223 (noC (fun x h => Value.noConfusion h) (noC (fun x h => Value.noConfusion h) noN)) hg34
                                have k232 := ht9604.stored k223 (noC (fun x h => Value.noConfusion h) (noC (fun x h => Value.noConfusion h) noN)) hg34
                                have gt11 := gr_mod gt10 hg34 (Ge.le (Ge.box (Nat.le_of_eq hl8.symm)) (size_le (gr_refl _ none)))
                                exact WA.doneF _ (by kernel_rfl) ⟨v_t9607, v_t9608, t9604, m_t9604, t9614, g_q4, rfl, H, gr45, k225, k226, k227, k228, k229, k230, k232, hB17, one_v_t9607, one_v_t9608, (Dj.new k59.lt' (Ge.box (Nat.le_of_eq hl8.symm))), (Dj.new k60.lt' (Ge.box (Nat.le_of_eq hl8.symm))), (Dj.new hB7.lt' (Ge.box (Nat.le_of_eq hl8.symm))), (Ge.le (Ge.box (Nat.le_of_eq hl8.symm)) (size_le gr19))⟩ (by repeat (first | exact Sub.nil | refine Sub.cons rfl ?_))
                    · clear hJ6
                      refine WC.seq ?_
                      refine WC.region ?_
                      refine WL.y rfl (Yld.pure tab_ok rfl) ?_
                      refine WL.nil (WX.then_normal ?_)
                      refine WC.cond rfl (fun b11 => ?_) (fun b11 => ?_)
                      · replace H := H.1 (b11)
                        refine WC.region ?_
                        refine WL.y rfl (Yld.bagg (vs := [v_t400, v_t4002]) tab_ok k33 rfl rfl rfl rfl) ?_
                        refine WL.call rfl rfl (W_num_Num_Neg k32 H) ?_
                        rintro _ w46 ⟨hg35, v_t82, v_t822, t82, m_t82, rfl, ht82, one_v_t82, one_v_t822, H⟩
                        have gr46 := gr_trans gr13 hg35
                        have k233 := k32.grown hg35
                        have k234 := k34.grown hg35
                        have k235 := k35.g0 hg35
                        have k236 := hB5.g0 hg35
                        refine WL.storeW (vs := [v_t82, v_t822]) tab_ok rfl rfl rfl (all1c one_v_t82 (all1c one_v_t822 all1n)) k236 rfl rfl (fun w47 hB18 hg36 => ?_)
                        have gr47 := gr_mod gr46 hg36 (Ge.le (Ge.box hl2) (size_le gr11))
                        have k237 := k234.stored k236 (noC (k233.no _ (List.Mem.head _)) (noC (k233.no _ (List.Mem.tail _ (List.Mem.head _))) noN)) hg36
                        have k238 := k235.go hg36 (Dj.new k27.lt' (Ge.box hl2))
                        have k239 := ht82.stored k236 (noC (k233.no _ (List.Mem.head _)) (noC (k233.no _ (List.Mem.tail _ (List.Mem.head _))) noN)) hg36
                        refine WL.nil ?_
                        exact WX.weaken (by repeat (first | exact Sub.nil | refine Sub.cons rfl ?_)) (hQ _ _ ⟨v_t82, v_t822, t82, m_t82, rfl, H, one_v_t82, one_v_t822, gr47, k237, k238, hB18, k239, (Dj.new k27.lt' (Ge.box hl2))⟩)
                      · replace H := H.2 (b11)
                        refine WC.skip ?_
                        exact WX.weaken (by repeat (first | exact Sub.nil | refine Sub.cons rfl ?_)) (hQ _ _ ⟨v_t400, v_t4002, t400, m_t400, rfl, H, one_v_t400, one_v_t4002, gr13, k34, k35, hB5, k32, (Dj.new k27.lt' (Ge.box hl2))⟩)
                · clear hJ5
                  rcases Bool.eq_false_or_eq_true (q3) with b12 | b12
                  · replace H := H.1 b12
                    refine WJ.no rfl rfl (okb b12) rfl ?_
                    refine WJ.no rfl rfl (okb b12) rfl ?_
                    refine WJ.no rfl rfl (okb b12) rfl ?_
                    refine WJ.no rfl rfl (okb b12) rfl ?_
                    refine WJ.no rfl rfl (okb b12) rfl ?_
                    refine WJ.no rfl rfl (okb b12) rfl ?_
                    refine WJ.y rfl rfl (fun w' hw' => Yld.pickT (okb b12) rfl) ?_
                    exact WJ.weaken (by repeat (first | exact Sub.nil | refine Sub.cons rfl ?_)) (hQ _ _ ⟨true, rfl, H, gr10, k20, k21, k22, k23⟩)
                  · replace H := H.2 b12
                    refine WJ.yw rfl (wants_some rfl rfl (okb b12)) rfl (fun w' hw' => Yld.bagg (vs := [v_t59, v_t592]) tab_ok (hw' rfl).1 rfl rfl rfl rfl) ?_
                    refine WJ.call rfl (wants_some rfl rfl (okb b12)) rfl rfl (W_num_Of H) (fun v w' h w2 e => DD.keep (⟨(Bl.g0 k23 (gr_eqv h.1 e)), (Bl.g0 k21 (gr_eqv h.1 e))⟩)) ?_
                    rintro _ w48 ⟨hg37, v_t73, v_t732, t73, m_t73, rfl, ht73, one_v_t73, one_v_t732, H⟩
                    have gr48 := gr_trans gr10 hg37
                    have k240 := k20.grown hg37
                    have k241 := k21.g0 hg37
                    have k242 := k22.grown hg37
                    have k243 := k23.g0 hg37
                    refine WJ.call rfl (wants_some rfl rfl (okb b12)) rfl rfl (W_num_Num_Sub k242 ht73 H) (fun v w' h w2 e => DD.keep (⟨(Bl.g0 k243 (gr_eqv h.1 e)), (Bl.g0 k241 (gr_eqv h.1 e))⟩)) ?_
                    rintro _ w49 ⟨hg38, v_t74, v_t742, t74, m_t74, rfl, ht74, one_v_t74, one_v_t742, H⟩
                    have gr49 := gr_trans gr48 hg38
                    have k244 := k240.grown hg38
                    have k245 := k241.g0 hg38
                    have k246 := k242.grown hg38
                    have k247 := k243.g0 hg38
                    have k248 := ht73.grown hg38
                    refine WJ.yw rfl (wants_some rfl rfl (okb b12)) rfl (fun w' hw' => Yld.bagg (vs := [v_t400, v_t4002]) tab_ok (hw' rfl).2 rfl rfl rfl rfl) ?_
                    refine WJ.call rfl (wants_some rfl rfl (okb b12)) rfl rfl (W_num_Num_Cmp ht74 k244 H) (fun v w' h w2 e => DD.keep (⟨(Bl.g0 k247 (gr_eqv h.1 e)), (Bl.g0 k245 (gr_eqv h.1 e))⟩)) ?_
                    rintro _ w50 ⟨hg39, t76, rfl, H⟩
                    have gr50 := gr_trans gr49 hg39
                    have k249 := k244.grown hg39
                    have k250 := k245.g0 hg39
                    have k251 := k246.grown hg39
                    have k252 := k247.g0 hg39
                    have k253 := ht74.grown hg39
                    refine WJ.yw rfl (wants_some rfl rfl (okb b12)) rfl (fun w' hw' => Yld.pure tab_ok rfl) ?_
                    refine WJ.y rfl rfl (fun w' hw' => Yld.pickF (okb b12) rfl) ?_
                    exact WJ.weaken (by repeat (first | exact Sub.nil | refine Sub.cons rfl ?_)) (hQ _ _ ⟨!decide (t76 = (0 : Int)), rfl, H, gr50, k249, k250, k251, k252⟩)
              · clear hJ4
                rcases Bool.eq_false_or_eq_true (!decide (t61 = z)) with b13 | b13
                · replace H := H.1 b13
                  refine WJ.no rfl rfl (okb b13) rfl ?_
                  refine WJ.no rfl rfl (okb b13) rfl ?_
                  refine WJ.no rfl rfl (okb b13) rfl ?_
                  refine WJ.no rfl rfl (okb b13) rfl ?_
                  refine WJ.no rfl rfl (okb b13) rfl ?_
                  refine WJ.y rfl rfl (fun w' hw' => Yld.pickT (okb b13) rfl) ?_
                  exact WJ.weaken (by repeat (first | exact Sub.nil | refine Sub.cons rfl ?_)) (hQ _ _ ⟨true, rfl, H, gr9, k16, k17, k18, k19⟩)
                · replace H := H.2 b13
                  refine WJ.yw rfl (wants_some rfl rfl (okb b13)) rfl (fun w' hw' => Yld.bagg (vs := [v_t59, v_t592]) tab_ok (hw' rfl).1 rfl rfl rfl rfl) ?_
                  refine WJ.call rfl (wants_some rfl rfl (okb b13)) rfl rfl (W_num_Num_Digits k18 H) (fun v w' h w2 e => DD.keep (⟨(Bl.g0 k19 (gr_eqv h.1 e)), (Bl.g0 k17 (gr_eqv h.1 e))⟩)) ?_
                  rintro _ w51 ⟨hg40, t66, rfl, H⟩
                  have gr51 := gr_trans gr9 hg40
                  have k254 := k16.grown hg40
                  have k255 := k17.g0 hg40
                  have k256 := k18.grown hg40
                  have k257 := k19.g0 hg40
                  refine WJ.yw rfl (wants_some rfl rfl (okb b13)) rfl (fun w' hw' => Yld.pure tab_ok rfl) ?_
                  obtain ⟨h9, H⟩ := H
                  refine WJ.yw rfl (wants_some rfl rfl (okb b13)) rfl (fun w' hw' => Yld.add rfl rfl h9) ?_
                  refine WJ.yw rfl (wants_some rfl rfl (okb b13)) rfl (fun w' hw' => Yld.pure tab_ok rfl) ?_
                  refine WJ.y rfl rfl (fun w' hw' => Yld.pickF (okb b13) rfl) ?_
                  exact WJ.weaken (by repeat (first | exact Sub.nil | refine Sub.cons rfl ?_)) (hQ _ _ ⟨!decide (t66 = (((((n.tmod (500 : Int)) + (500 : Int)).tmod (500 : Int)) + (1 : Int)) + (1 : Int))), rfl, H, gr51, k254, k255, k256, k257⟩)
            · clear hJ3
              refine WA.y 0 rfl (by kernel_rfl) rfl (fun w' hw' => Yld.bagg (vs := [v_t400, v_t4002]) tab_ok (Bl.g0 k8 hw') rfl rfl rfl rfl) ?_
              refine WA.split [1, 3] (by kernel_rfl) (by kernel_rfl) ⟨?_, ?_⟩
              · refine WI.call rfl rfl wants_none rfl rfl (W_num_Of H) (fun v w' h w2 e => gr_eqv (gr_trans (gr_refl _ none) h.1) e) ?_
                rintro _ w52 ⟨hg41, v_t58, v_t582, t58, m_t58, rfl, ht58, one_v_t58, one_v_t582, H⟩
                have gr52 := gr_trans gr6 hg41
                have k258 := k7.grown hg41
                have k259 := k8.g0 hg41
                have gt12 := gr_trans (gr_refl _ none) hg41
                refine WA.split [2, 3] (by kernel_rfl) (by kernel_rfl) ⟨?_, ?_⟩
                · refine WI.call rfl rfl wants_none rfl rfl (W_num_Num_Add k258 ht58 H) (fun v w' h w2 e => gr_eqv (gr_trans gt12 h.1) e) ?_
                  rintro _ w53 ⟨hg42, v_t593, v_t594, t592, m_t592, rfl, ht592, one_v_t593, one_v_t594, H⟩
                  have gr53 := gr_trans gr52 hg42
                  have k260 := k258.grown hg42
                  have k261 := k259.g0 hg42
                  have k262 := ht58.grown hg42
                  have gt13 := gr_trans gt12 hg42
                  refine WA.split [3] (by kernel_rfl) (by kernel_rfl) ?_
                  · refine WI.put rfl rfl rfl (Eff.alloc zero50) (fun v w' h => gr_trans gt13 h.2.2) ?_
                    rintro _ w54 ⟨rfl, hB19, hg43⟩
                    obtain ⟨g_b2, hl9⟩ : ∃ g, g = w53.heap.size := ⟨_, rfl⟩
                    rw [← hl9] at hB19
                    rw [← hl9]
                    have gr54 := gr_trans gr53 hg43
                    have k263 := k260.grown hg43
                    have k264 := k261.g0 hg43
                    have k265 := k262.grown hg43
                    have k266 := ht592.grown hg43
                    have gt14 := gr_trans gt13 hg43
                    exact WA.doneF _ (by kernel_rfl) ⟨v_t593, v_t594, t592, m_t592, g_b2, rfl, H, gr54, k263, k264, k266, hB19, one_v_t593, one_v_t594, (Dj.new k261.lt' (Ge.box (Nat.le_of_eq hl9.symm))), (Ge.le (Ge.box (Nat.le_of_eq hl9.symm)) (size_le gr53))⟩ (by repeat (first | exact Sub.nil | refine Sub.cons rfl ?_))
                · refine WI.put rfl rfl rfl (Eff.alloc zero50) (fun v w' h => gr_trans gt12 h.2.2) ?_
                  rintro _ w55 ⟨rfl, hB20, hg44⟩
                  obtain ⟨g_b3, hl10⟩ : ∃ g, g = w52.heap.size := ⟨_, rfl⟩
                  rw [← hl10] at hB20
                  rw [← hl10]
                  have gr55 := gr_trans gr52 hg44
                  have k267 := k258.grown hg44
                  have k268 := k259.g0 hg44
                  have k269 := ht58.grown hg44
                  have gt15 := gr_trans gt12 hg44
                  refine WA.split [2] (by kernel_rfl) (by kernel_rfl) ?_
                  · refine WI.call rfl rfl wants_none rfl rfl (W_num_Num_Add k267 k269 H) (fun v w' h w2 e => gr_eqv (gr_trans gt15 h.1) e) ?_
                    rintro _ w56 ⟨hg45, v_t595, v_t596, t593, m_t593, rfl, ht593, one_v_t595, one_v_t596, H⟩
                    have gr56 := gr_trans gr55 hg45
                    have k270 := k267.grown hg45
                    have k271 := k268.g0 hg45
                    have k272 := k269.grown hg45
                    have k273 := hB20.g0 hg45
                    have gt16 := gr_trans gt15 hg45
                    exact WA.doneF _ (by kernel_rfl) ⟨v_t595, v_t596, t593, m_t593, g_b3, rfl, H, gr56, k270, k271, ht593, k273, one_v_t595, one_v_t596, (Dj.new k259.lt' (Ge.box (Nat.le_of_eq hl10.symm))), (Ge.le (Ge.box (Nat.le_of_eq hl10.symm)) (size_le gr52))⟩ (by repeat (first | exact Sub.nil | refine Sub.cons rfl ?_))
              · refine WI.put rfl rfl rfl (Eff.alloc zero50) (fun v w' h => gr_trans (gr_refl _ none) h.2.2) ?_
                rintro _ w57 ⟨rfl, hB21, hg46⟩
                obtain ⟨g_b4, hl11⟩ : ∃ g, g = w6.heap.size := ⟨_, rfl⟩
                rw [← hl11] at hB21
                rw [← hl11]
                have gr57 := gr_trans gr6 hg46
                have k274 := k7.grown hg46
                have k275 := k8.g0 hg46
                have gt17 := gr_trans (gr_refl _ none) hg46
                refine WA.split [1] (by kernel_rfl) (by kernel_rfl) ?_
                · refine WI.call rfl rfl wants_none rfl rfl (W_num_Of H) (fun v w' h w2 e => gr_eqv (gr_trans gt17 h.1) e) ?_
                  rintro _ w58 ⟨hg47, v_t583, v_t584, t582, m_t582, rfl, ht582, one_v_t583, one_v_t584, H⟩
                  have gr58 := gr_trans gr57 hg47
                  have k276 := k274.grown hg47
                  have k277 := k275.g0 hg47
                  have k278 := hB21.g0 hg47
                  have gt18 := gr_trans gt17 hg47
                  refine WA.split [2] (by kernel_rfl) (by kernel_rfl) ?_
                  · refine WI.call rfl rfl wants_none rfl rfl (W_num_Num_Add k276 ht582 H) (fun v w' h w2 e => gr_eqv (gr_trans gt18 h.1) e) ?_
                    rintro _ w59 ⟨hg48, v_t597, v_t598, t594, m_t594, rfl, ht594, one_v_t597, one_v_t598, H⟩
                    have gr59 := gr_trans gr58 hg48
                    have k279 := k276.grown hg48
                    have k280 := k277.g0 hg48
                    have k281 := k278.g0 hg48
                    have k282 := ht582.grown hg48
                    have gt19 := gr_trans gt18 hg48
                    exact WA.doneF _ (by kernel_rfl) ⟨v_t597, v_t598, t594, m_t594, g_b4, rfl, H, gr59, k279, k280, ht594, k281, one_v_t597, one_v_t598, (Dj.new k8.lt' (Ge.box (Nat.le_of_eq hl11.symm))), (Ge.le (Ge.box (Nat.le_of_eq hl11.symm)) (size_le gr6))⟩ (by repeat (first | exact Sub.nil | refine Sub.cons rfl ?_))
        · clear hJ2
          rcases Bool.eq_false_or_eq_true (q1) with b14 | b14
          · replace H := H.1 b14
            refine WL.gno rfl rfl (okb b14) rfl ?_
            refine WL.gno rfl rfl (okb b14) rfl ?_
            refine WL.gno rfl rfl (okb b14) rfl ?_
            refine WL.gno rfl rfl (okb b14) rfl ?_
            refine WL.y rfl (Yld.pickT (okb b14) rfl) ?_
            exact WL.weaken (by repeat (first | exact Sub.nil | refine Sub.cons rfl ?_)) (hQ _ _ ⟨true, rfl, H, gr5, k5, k6⟩)
          · replace H := H.2 b14
            refine WL.gyes rfl rfl (okb b14) rfl (Yld.bagg (vs := [v_t400, v_t4002]) tab_ok k6 rfl rfl rfl rfl) ?_
            refine WL.callw (wants_some rfl rfl (okb b14)) rfl rfl (W_num_Num_Text k5 H) ?_
            rintro _ w60 ⟨hg49, t53, rfl, H⟩
            have gr60 := gr_trans gr5 hg49
            have k283 := k5.grown hg49
            have k284 := k6.g0 hg49
            refine WL.gyes rfl rfl (okb b14) rfl (Yld.pure tab_ok rfl) ?_
            refine WL.gyes rfl rfl (okb b14) rfl (Yld.pure tab_ok rfl) ?_
            refine WL.y rfl (Yld.pickF (okb b14) rfl) ?_
            exact WL.weaken (by repeat (first | exact Sub.nil | refine Sub.cons rfl ?_)) (hQ _ _ ⟨!decide (t53 = s), rfl, H, gr60, k283, k284⟩)
      · clear hJ1
        rcases Bool.eq_false_or_eq_true (!decide (t401 = Er.ok)) with b15 | b15
        · replace H := H.1 b15
          refine WL.gno rfl rfl (okb b15) rfl ?_
          refine WL.gno rfl rfl (okb b15) rfl ?_
          refine WL.gno rfl rfl (okb b15) rfl ?_
          refine WL.gno rfl rfl (okb b15) rfl ?_
          refine WL.y rfl (Yld.pickT (okb b15) rfl) ?_
          exact WL.weaken (by repeat (first | exact Sub.nil | refine Sub.cons rfl ?_)) (hQ _ _ ⟨true, rfl, H, gr4, k3, hB2⟩)
        · replace H := H.2 b15
          refine WL.gyes rfl rfl (okb b15) rfl (Yld.bagg (vs := [v_t400, v_t4002]) tab_ok hB2 rfl rfl rfl rfl) ?_
          refine WL.callw (wants_some rfl rfl (okb b15)) rfl rfl (W_num_Num_Digits k3 H) ?_
          rintro _ w61 ⟨hg50, t47, rfl, H⟩
          have gr61 := gr_trans gr4 hg50
          have k285 := k3.grown hg50
          have k286 := hB2.g0 hg50
          refine WL.gyes rfl rfl (okb b15) rfl (Yld.pure tab_ok rfl) ?_
          refine WL.gyes rfl rfl (okb b15) rfl (Yld.pure tab_ok rfl) ?_
          refine WL.y rfl (Yld.pickF (okb b15) rfl) ?_
          exact WL.weaken (by repeat (first | exact Sub.nil | refine Sub.cons rfl ?_)) (hQ _ _ ⟨!decide (t47 = ((((n.tmod (500 : Int)) + (500 : Int)).tmod (500 : Int)) + (1 : Int))), rfl, H, gr61, k285, k286⟩)

end Go.Proofs.YtfibkajdahaggaaDoor
/- A number's text and what it says: there and back. -/
namespace Go.Proofs.YtfibkajdahaggaaDoor
open Go Go.RowKit
theorem dc_of {v : Nat} {c : UInt8} (h : digB c = true) : dc (v * 10 + (c.toNat - 48)) = c := by
  have h' := of_decide_eq_true h
  unfold dc
  apply UInt8.toNat_inj.mp
  rw [UInt8.toNat_ofNat']
  omega
theorem dd_dval : ∀ (k : Nat) (t : List UInt8), t.length = k → t.all digB = true → t.head? ≠ some 48 → dd (dval t) = t.reverse := by
  intro k
  induction k with
  | zero => intro t ht _ _; obtain rfl : t = [] := List.length_eq_zero_iff.mp ht; simp [dval, dd_zero]
  | succ k ih =>
    intro t ht hall hh
    have hne : t ≠ [] := by intro e; subst e; simp at ht
    obtain ⟨s, c, rfl⟩ : ∃ s c, t = s ++ [c] := ⟨t.dropLast, t.getLast hne, (List.dropLast_concat_getLast hne).symm⟩
    simp only [List.all_append, List.all_cons, List.all_nil, Bool.and_true, Bool.and_eq_true] at hall
    have hs : s.length = k := by simpa using ht
    have hc := of_decide_eq_true hall.2
    rw [dval_push, List.reverse_append]
    simp only [List.reverse_cons, List.reverse_nil, List.nil_append, List.singleton_append]
    by_cases he : s = []
    · subst he
      have h0 : c ≠ 48 := by intro e; subst e; simp at hh
      have h1 : c.toNat ≠ 48 := fun e => h0 (UInt8.toNat_inj.mp (by rw [e]; rfl))
      have : dval [] = 0 := rfl
      rw [dd_pos (by omega), dc_of hall.2, this, show (0 * 10 + (c.toNat - 48)) / 10 = 0 by omega, dd_zero]
      rfl
    · have hh' : s.head? ≠ some 48 := by
        cases s with
        | nil => exact absurd rfl he
        | cons x s => simpa using hh
      have h2 := ih s hs hall.1 hh'
      have h3 : dval s ≠ 0 := fun e => by
        rw [e, dd_zero] at h2
        exact he (List.reverse_eq_nil_iff.mp h2.symm)
      rw [dd_pos (by omega), dc_of hall.2, show (dval s * 10 + (c.toNat - 48)) / 10 = dval s by omega, h2]
theorem lead_head {t : List UInt8} {neg : Bool} (h : lead t neg = false) : t ≠ [] ∧ (t.head? ≠ some 48 ∨ (t = [48] ∧ neg = false)) := by
  have h1 := of_decide_eq_false h
  have h2 : t ≠ [] := fun e => h1 (.inl e)
  refine ⟨h2, ?_⟩
  cases t with
  | nil => exact absurd rfl h2
  | cons c t =>
    by_cases hc : c = 48
    · right
      subst hc
      have h3 : ¬ (1 < (48 :: t).length ∨ neg = true) := fun h => h1 (.inr ⟨by simp, h⟩)
      constructor
      · cases t with
        | nil => rfl
        | cons d t => exact absurd (.inl (by simp)) h3
      · cases neg with
        | false => rfl
        | true => exact absurd (.inr rfl) h3
    · left; simpa using hc
theorem txt_sval {s : List UInt8} (h : shape s = true) : txt (sval s) = s := by
  unfold shape at h
  simp only [Bool.and_eq_true, Bool.not_eq_true'] at h
  obtain ⟨hl, hall⟩ := h
  obtain ⟨hne, hh⟩ := lead_head hl
  have hs : (bif isPre [45] s then [45] ++ cutm s else cutm s) = s := by
    unfold cutm
    cases hp : isPre [45] s with
    | false => simp
    | true =>
      have hp' := of_decide_eq_true hp
      simp only [cond_true, if_true]
      have := List.take_append_drop 1 s
      rw [show s.take 1 = [45] from hp'.2] at this
      exact this
  unfold sval
  rcases hh with hh | ⟨he, hn⟩
  · have hd := dd_dval _ _ rfl hall hh
    have h3 : dval (cutm s) ≠ 0 := fun e => by
      rw [e, dd_zero] at hd
      exact hne (List.reverse_eq_nil_iff.mp hd.symm)
    cases hp : isPre [45] s with
    | false =>
      rw [hp] at hs
      simp only [cond_false] at hs ⊢
      unfold txt
      rw [if_neg (by omega), if_neg (by omega), Int.natAbs_natCast, hd, List.reverse_reverse]
      exact hs
    | true =>
      rw [hp] at hs
      simp only [cond_true] at hs ⊢
      unfold txt
      rw [if_neg (by omega), if_pos (by omega), Int.natAbs_neg, Int.natAbs_natCast, hd, List.reverse_reverse]
      exact hs
  · rw [hn] at hs ⊢
    rw [he] at hs ⊢
    simp only [cond_false] at hs ⊢
    rw [← hs]
    rfl
theorem dval_zeros (k : Nat) : dval (List.replicate k 48) = 0 := by
  induction k with
  | zero => rfl
  | succ k ih => rw [List.replicate_succ', dval_push, ih]; rfl
theorem dval_nines (k : Nat) : dval (List.replicate k 57) + 1 = 10 ^ k := by
  induction k with
  | zero => rfl
  | succ k ih => rw [List.replicate_succ', dval_push, Nat.pow_succ]; have : (57 : UInt8).toNat - 48 = 9 := rfl; omega
theorem dval_ten (k : Nat) : dval (49 :: List.replicate k 48) = 10 ^ k := by
  have := dval_app [49] (List.replicate k 48)
  simp only [List.singleton_append, List.length_replicate, dval_zeros] at this
  rw [this]
  have h1 : dval [49] = 1 := rfl
  rw [h1]; simp
end Go.Proofs.YtfibkajdahaggaaDoor
/- NumDigits, plainly. -/
namespace Go.Proofs.YtfibkajdahaggaaDoor
open Go Go.RowKit
theorem parse_ok {s : List UInt8} {K : Int → Nat → Er → Prop} (hs : s.length ≤ maxLen) (h1 : shape s = true) (h2 : (cutm s).length ≤ 2400) (h : K (sval s) (cutm s).length .ok) : M_num_Parse s K :=
  ⟨hs, fun _ _ => h, fun _ h3 => absurd h2 (by omega), fun h3 => by rw [h1] at h3; cases h3⟩
theorem parse_bad {s : List UInt8} {K : Int → Nat → Er → Prop} (hs : s.length ≤ maxLen) (h1 : shape s = false) (h : K 0 0 (.e 12)) : M_num_Parse s K :=
  ⟨hs, fun h3 => (by rw [h1] at h3; cases h3), fun h3 => (by rw [h1] at h3; cases h3), fun _ => h⟩
def isB : Er → Int → Bool
  | .ok, c => decide (0 = c)
  | .e n, c => decide (101 + (n : Int) = c)
  | .at_ _ _, _ => false
theorem is_M {e : Er} {code : Int} {K : Bool → Prop} (h : K (isB e code)) : M_smithysee_Is e code K := by
  unfold M_smithysee_Is M_smithyref_Bare M_smithysee_Same M_smithysee_Fault M_smithyref_None M_smithyref_SameFault M_smithysee_placed M_smithysee_sentinel M_smithyref_Bare M_smithyref_Placed M_smithyref_None
  cases e with
  | ok => refine ⟨fun _ => ?_, fun h2 => absurd rfl h2⟩; exact (congrArg K (show isB .ok code = _ by simp [isB])).mp h
  | e n => refine ⟨fun h2 => (by cases h2), fun _ => ⟨fun p m h2 => (by cases h2), fun _ => ?_⟩⟩; exact (congrArg K (show isB (.e n) code = _ by rw [Bool.eq_iff_iff]; simp [isB, sentV]; exact decide_eq_true_iff.symm)).mp h
  | at_ p n =>
    refine ⟨fun h2 => (by cases h2), fun _ => ⟨fun p' m h2 => ?_, fun h2 => absurd rfl (h2 p n)⟩⟩
    cases h2
    refine ⟨fun h2 => (by simp at h2), fun _ => ⟨fun h2 => (by simp only [sentV] at h2; omega), fun _ => ?_⟩⟩
    exact (congrArg K (show isB (.at_ p n) code = _ by simp [isB])).mp h
theorem cutm_digit {s : List UInt8} {c : UInt8} (hc : c ≠ 45) : cutm (c :: s) = c :: s ∧ isPre [45] (c :: s) = false := by
  have : isPre [45] (c :: s) = false := decide_eq_false (fun h => by
    have h2 := h.2
    simp at h2
    exact hc h2)
  exact ⟨by unfold cutm; rw [this]; simp, this⟩
theorem shape_digits {s : List UInt8} {c : UInt8} (h : (c :: s).all digB = true) (h0 : c ≠ 48) : shape (c :: s) = true ∧ cutm (c :: s) = c :: s ∧ sval (c :: s) = dval (c :: s) := by
  have hc : c ≠ 45 := by
    intro e
    subst e
    simp [digB] at h
  obtain ⟨h1, h2⟩ := cutm_digit (s := s) hc
  refine ⟨?_, h1, ?_⟩
  · unfold shape
    rw [h1, h2, h]
    have : lead (c :: s) false = false := decide_eq_false (fun h => by
      rcases h with h | h
      · cases h
      · exact h0 (by simpa using h.1))
    rw [this]; rfl
  · unfold sval; rw [h1, h2]; rfl
theorem txt_dval {s : List UInt8} {c : UInt8} (h : (c :: s).all digB = true) (h0 : c ≠ 48) : txt (dval (c :: s) : Int) = c :: s := by
  obtain ⟨h1, h2, h3⟩ := shape_digits h h0
  rw [← h3]
  exact txt_sval h1
theorem digits_M {x : Int} {m : Nat} {K : Int → Prop} (hm : m ≤ 90000) (hl : (txt x).length ≤ maxLen) (h : K (cutm (txt x)).length) : M_num_Num_Digits x m K :=
  ⟨hm, hl, h⟩
set_option maxRecDepth 10000 in
theorem digits_ok {n : Int} {neg : Bool} {K : Bool → Prop} (hn : In .i64 n) (H : K true) : M_smithylaw9_NumDigits n neg K := by
  unfold M_smithylaw9_NumDigits M_smithylaw9_first
  have hr : 1 ≤ ((n.tmod 500) + 500).tmod 500 + 1 ∧ ((n.tmod 500) + 500).tmod 500 + 1 ≤ 500 ∧ -500 ≤ n.tmod 500 ∧ n.tmod 500 ≤ 500 := by
    have h1 : -500 < n.tmod 500 := Int.lt_tmod_of_pos n (by omega)
    have h2 : n.tmod 500 < 500 := Int.tmod_lt_of_pos n (by omega)
    have h3 := Int.tmod_eq_emod_of_nonneg (a := n.tmod 500 + 500) (b := 500) (by omega)
    omega
  refine ⟨fun h => by simp at h, fun _ => ⟨by omega, by simp only [In]; omega, by omega, by simp only [In]; omega, ?_⟩⟩
  generalize ((n.tmod 500) + 500).tmod 500 + 1 = N at *
  refine ⟨fun s z i => ∃ k : Nat, i = k ∧ i ≤ N ∧ s = List.replicate k 57 ∧ z = 49 :: List.replicate k 48, fun _ _ i => (N - i).toNat, ⟨0, rfl, by omega, rfl, rfl⟩, ?_⟩
  rintro s z _ ⟨k, rfl, hk, rfl, rfl⟩
  refine ⟨fun h => ⟨by simp; omega, by simp; omega, by simp only [In]; omega, ⟨k + 1, by omega, by omega, by rw [List.replicate_succ'], by rw [List.replicate_succ' (n := k) (a := (48 : UInt8))]; rfl⟩, by dsimp only; omega⟩, fun h => ?_⟩
  obtain rfl : N = k := by omega
  obtain ⟨m, rfl⟩ : ∃ m, k = m + 1 := ⟨k - 1, by omega⟩
  have hm : m + 1 ≤ 500 := by omega
  clear hk h
  have a1 : (List.replicate (m + 1) (57 : UInt8)).all digB = true := by simp [digB]
  have a2 : (49 :: List.replicate (m + 1) (48 : UInt8)).all digB = true := by simp [digB]
  have ne1 : (57 : UInt8) ≠ 48 := by decide
  have ne2 : (49 : UInt8) ≠ 48 := by decide
  obtain ⟨s1, c1, v1⟩ := shape_digits (s := List.replicate m 57) (c := 57) a1 ne1
  obtain ⟨s2, c2, v2⟩ := shape_digits a2 ne2
  have e1 : (57 : UInt8) :: List.replicate m 57 = List.replicate (m + 1) 57 := rfl
  have x1 := dval_nines (m + 1)
  have x2 := dval_ten (m + 1)
  have t1 := txt_dval (s := List.replicate m 57) (c := 57) a1 ne1
  have t2 := txt_dval a2 ne2
  rw [e1] at s1 c1 v1 t1
  have hvv : (dval (List.replicate (m + 1) 57) : Int) + 1 = (dval (49 :: List.replicate (m + 1) 48) : Int) := by omega
  refine parse_ok (by simp [maxLen]; omega) s1 (by rw [c1]; simp; omega) ?_
  rw [c1, v1, List.length_replicate]
  generalize hx : (dval (List.replicate (m + 1) 57) : Int) = x at *
  generalize hy : (dval (49 :: List.replicate (m + 1) 48) : Int) = y at *
  have hy0 : y ≠ 0 := by
    have : 0 < 10 ^ (m + 1) := Nat.pow_pos (by omega)
    omega
  have l1 : (txt x).length ≤ maxLen := by rw [t1]; simp [maxLen]; omega
  have l2 : (txt y).length ≤ maxLen := by rw [t2]; simp [maxLen]; omega
  refine ⟨fun q => q = false, ⟨fun h => by simp at h, fun _ => digits_M (by omega) l1 ?_⟩, ?_⟩
  · rw [t1, c1]; simp
  rintro _ rfl
  refine ⟨fun q => q = false, ⟨nofun, fun _ => ⟨by omega, ?_⟩⟩, ?_⟩
  · rw [t1]; simp
  rintro _ rfl
  refine ⟨nofun, fun _ => ⟨fun a b => a = y ∧ b ≤ 600, ⟨by omega, by omega, by omega, by omega, by omega⟩, ?_⟩⟩
  rintro y1 my ⟨hy1, hmy⟩
  have hy2 := hy1.symm
  subst hy2
  refine ⟨by omega, fun q => q = false, ⟨fun h => by rw [t2] at h; simp at h, fun _ => digits_M (by omega) l2 ⟨by simp only [In]; omega, ?_⟩⟩, ?_⟩
  · rw [t2, c2]; simp
  rintro _ rfl
  refine ⟨fun q => q = false, ⟨nofun, fun _ => ⟨by omega, by omega, by omega, by omega, ?_⟩⟩, ?_⟩
  · rw [show y - 1 = x by omega]; simp
  rintro _ rfl
  refine ⟨nofun, fun _ => ⟨fun a b => b ≤ 600 , ⟨fun _ => ⟨by omega, by omega⟩, fun _ => by omega⟩, ?_⟩⟩
  intro c mc hmc
  refine ⟨by omega, by omega, by omega, by omega, fun q hq => ?_⟩
  obtain ⟨r, hq⟩ := hq (by omega)
  have hqc : q = c := by
    have hf : Floor (c + c) 2 c 0 := ⟨by omega, .inl ⟨by omega, by omega⟩⟩
    exact (Floor.unique hq hf).1
  subst hqc
  refine ⟨fun a b e => a = y ∧ b ≤ 2000 ∧ e = true, ⟨by omega, by omega, fun z hz => ⟨?_, by omega, by simp [hy0]⟩⟩, ?_⟩
  · obtain ⟨r, hz⟩ := hz hy0
    have hf : Floor (y * y) y y 0 := ⟨by omega, by rcases Int.lt_trichotomy y 0 with h | h | h <;> omega⟩
    exact (Floor.unique hz hf).1
  rintro z1 mz _ ⟨hz1, hmz, rfl⟩
  have hz2 := hz1.symm
  subst hz2
  have hb1 : shape ([48] ++ List.replicate (m + 1) (57 : UInt8)) = false := by
    have hc : cutm ([48] ++ List.replicate (m + 1) (57 : UInt8)) = [48] ++ List.replicate (m + 1) 57 ∧ isPre [45] ([48] ++ List.replicate (m + 1) (57 : UInt8)) = false := cutm_digit (by decide)
    unfold shape
    rw [hc.1, hc.2]
    have : lead ([48] ++ List.replicate (m + 1) (57 : UInt8)) false = true := decide_eq_true (.inr ⟨rfl, .inl (by simp)⟩)
    rw [this]; rfl
  refine ⟨by simp; omega, parse_bad (by simp [maxLen]; omega) hb1 (parse_bad (by simp [maxLen]) (by decide +kernel) ?_)⟩
  refine ⟨fun q => q = true, ⟨fun _ => ⟨by omega, by simp⟩, fun h => by simp at h⟩, ?_⟩
  rintro _ rfl
  refine ⟨fun q => q = true, ⟨fun _ => ⟨by omega, by simp⟩, fun h => by simp at h⟩, ?_⟩
  rintro _ rfl
  refine ⟨fun q => q = true, ⟨fun _ => is_M (show isB (.e 12) 113 = true by decide), nofun⟩, ?_⟩
  rintro _ rfl
  refine ⟨fun q => q = true, ⟨fun _ => is_M (show isB (.e 12) 113 = true by decide), nofun⟩, ?_⟩
  rintro _ rfl
  exact H
end Go.Proofs.YtfibkajdahaggaaDoor
