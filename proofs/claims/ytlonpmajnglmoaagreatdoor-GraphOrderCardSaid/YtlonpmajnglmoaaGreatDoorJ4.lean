/- Texts of this claim, joined by a program: GGb, GGr, GrP, GrQ, GrT, GrR, Ord, GGs, GrS, GrU, GoS, Quo, GGo. -/
import Derived.Test.YtlonpmajnglmoaaGreatDoorJ3
import Derived.Lib.LaidU8
/- Printed by a program (wip/vg): what the functions mean, plainly, and their walks. -/
namespace Go.Proofs.YtlonpmajnglmoaaGreatDoor
open Go Go.RowKit
attribute [local irreducible] WL WC WX WQ WK WJ Yld Eff Ef0 Fn
def M_pgraph_Graph_Before (g_l : List (Int × List (List UInt8) × List (List UInt8) × List UInt8)) (g_makers : List (List UInt8 × Int)) (g_before : List (List Int)) (g_after : List (List Int)) (i : Int) (K : (List Int) → Prop) : Prop :=
 (g_l.length ≤ maxLen →
 (g_before.length ≤ maxLen →
 (g_after.length ≤ maxLen →
 ((((decide (i < (0 : Int))) || (decide ((g_l.length : Int) ≤ i))) = true → K []) ∧
 (((decide (i < (0 : Int))) || (decide ((g_l.length : Int) ≤ i))) = false → (0 ≤ i ∧ i < (g_before.length : Nat)) ∧
 M_slices_Clone_int_int (g_before.getD i.toNat []) (fun (t4 : List Int) =>
 K t4))))))

def M_graph_Only (l : List (Int × List (List UInt8) × List (List UInt8) × List UInt8)) (outputs : List (List UInt8)) (K : (List (Int × List (List UInt8) × List (List UInt8) × List UInt8)) → Prop) : Prop :=
 (l.length ≤ maxLen →
 (outputs.length ≤ maxLen →
 M_graph_New l (fun (t121 : Er) =>
 ((¬ (t121 = Er.ok) → K []) ∧
 (t121 = Er.ok → False))) (fun (t120_l : List (Int × List (List UInt8) × List (List UInt8) × List UInt8)) (t120_makers : List (List UInt8 × Int)) (t120_before : List (List Int)) (t120_after : List (List Int)) (t1212 : Er) =>
 ((¬ (t1212 = Er.ok) → K []) ∧
 (t1212 = Er.ok → M_pgraph_Graph_Needs t120_l t120_makers t120_before t120_after outputs (fun (t19 : List Int) =>
 Lp2 (fun (out : List (Int × List (List UInt8) × List (List UInt8) × List UInt8)) (t21 : Int) kont1 => ((t21 < (t19.length : Int) → (0 ≤ t21 ∧ t21 < (t19.length : Nat)) ∧
 (0 ≤ t19.getD t21.toNat 0 ∧ t19.getD t21.toNat 0 < (t120_l.length : Nat)) ∧
 M_graph_copied ((t120_l.getD ((t19.getD t21.toNat 0).toNat) (0, [], [], [])).1) ((t120_l.getD ((t19.getD t21.toNat 0).toNat) (0, [], [], [])).2.1) ((t120_l.getD ((t19.getD t21.toNat 0).toNat) (0, [], [], [])).2.2.1) ((t120_l.getD ((t19.getD t21.toNat 0).toNat) (0, [], [], [])).2.2.2) (fun (t33_Tool : Int) (t33_Args : List (List UInt8)) (t33_Inputs : List (List UInt8)) (t33_Output : List UInt8) =>
 ((out.length + (([(t33_Tool, t33_Args, t33_Inputs, t33_Output)] : List (Int × List (List UInt8) × List (List UInt8) × List UInt8))).length) * 72 ≤ 140737488355328) ∧
 (In .i64 (t21 + (1 : Int))) ∧
 kont1 (out ++ ([(t33_Tool, t33_Args, t33_Inputs, t33_Output)] : List (Int × List (List UInt8) × List (List UInt8) × List UInt8))) (t21 + (1 : Int)))) ∧
 (¬ (t21 < (t19.length : Int)) → K out))) [] (0 : Int)))))))

def M_smithyref_Among (l : List Int) (n : Int) (K : Bool → Prop) : Prop :=
 (l.length ≤ maxLen →
 Lp1 (fun (i : Int) kont1 => ((i < (l.length : Int) → (0 ≤ i ∧ i < (l.length : Nat)) ∧
 (((l.getD i.toNat 0) = n → K true) ∧
 (¬ ((l.getD i.toNat 0) = n) → (In .i64 (i + (1 : Int))) ∧
 kont1 (i + (1 : Int))))) ∧
 (¬ (i < (l.length : Int)) → K false))) (0 : Int))

def M_smithyworld_Actions (l : List (Int × List (List UInt8) × List (List UInt8) × List UInt8)) (K : Bool → Prop) : Prop :=
 (l.length ≤ maxLen →
 (((24 : Int) < (l.length : Int) → K false) ∧
 (¬ ((24 : Int) < (l.length : Int)) → Lp1 (fun (i : Int) kont1 => ((i < (l.length : Int) → (0 ≤ i ∧ i < (l.length : Nat)) ∧
 M_smithyworld_Texts ((l.getD i.toNat (0, [], [], [])).2.1) (8 : Int) (100 : Int) (fun (t18 : Bool) =>
 ∃ J1 : Bool → Prop, ((((!t18) = true → J1 true) ∧
 ((!t18) = false → (0 ≤ i ∧ i < (l.length : Nat)) ∧
 M_smithyworld_Texts ((l.getD i.toNat (0, [], [], [])).2.2.1) (10 : Int) (250 : Int) (fun (t26 : Bool) =>
 J1 (!t26))))) ∧
 (∀ q1 : Bool, J1 q1 → (q1 = false → (0 ≤ i ∧ i < (l.length : Nat))) ∧
 (((q1 || (decide ((250 : Int) < (((l.getD i.toNat (0, [], [], [])).2.2.2).length : Int)))) = true → K false) ∧
 ((q1 || (decide ((250 : Int) < (((l.getD i.toNat (0, [], [], [])).2.2.2).length : Int)))) = false → (In .i64 (i + (1 : Int))) ∧
 kont1 (i + (1 : Int))))))) ∧
 (¬ (i < (l.length : Int)) → K true))) (0 : Int))))

set_option maxHeartbeats 8000000 in
theorem W_pgraph_Graph_Before {w : World} {g_g : Nat} {g_l : List (Int × List (List UInt8) × List (List UInt8) × List UInt8)} {A_g_l : Option Addr} {c_g_l : Nat} {hs_g_l : List (Int × Hdr × Hdr × List UInt8)} {g_g_makers : Nat} {g_makers : List (List UInt8 × Int)} {g_before : List (List Int)} {A_g_before : Option Addr} {c_g_before : Nat} {hs_g_before : List Hdr} {g_after : List (List Int)} {A_g_after : Option Addr} {c_g_after : Nat} {hs_g_after : List Hdr} {i : Int} {n_g_l : Nat} {n_g_before : Nat} {n_g_after : Nat} {K : (List Int) → Prop} (hg_l : RdK 4 encH94 w A_g_l c_g_l hs_g_l) (hn_g_l : n_g_l = g_l.length) (hr_g_l : RelD de94 w hs_g_l g_l) (hg_makers : MapB vs okS vi w g_g_makers g_makers) (hg_before : Rd vh w A_g_before c_g_before hs_g_before) (hn_g_before : n_g_before = g_before.length) (hr_g_before : RelD de98 w hs_g_before g_before) (hg_after : Rd vh w A_g_after c_g_after hs_g_after) (hn_g_after : n_g_after = g_after.length) (hr_g_after : RelD de98 w hs_g_after g_after) (hg : Bl w g_g 169 [.slice A_g_l n_g_l c_g_l, .map (some g_g_makers), .slice A_g_before n_g_before c_g_before, .slice A_g_after n_g_after c_g_after]) (H : M_pgraph_Graph_Before g_l g_makers g_before g_after i K) : Fn Tryz.prog 55 ⟨[.pointer (some ⟨g_g, 0, none⟩), .int .i64 i]⟩ w (fun v w' => w.grownBy w' none ∧ ∃ (r : List Int), ∃ (A_r : Option Addr), ∃ (c_r : Nat), v = .slice A_r r.length c_r ∧ Own vi w' w.heap.size 3 A_r c_r r ∧ K r) := by
  subst hn_g_l
  subst hn_g_before
  subst hn_g_after
  unfold M_pgraph_Graph_Before at H
  refine Fn.enter (by kernel_rfl) Tryz.func55 rfl Tryz.ntmps55 rfl ?_
  replace H := H (by rw [← hr_g_l.1]; exact Nat.le_trans hg_l.cap hg_l.max)
  replace H := H (by rw [← hr_g_before.1]; exact Nat.le_trans hg_before.cap hg_before.max)
  replace H := H (by rw [← hr_g_after.1]; exact Nat.le_trans hg_after.cap hg_after.max)
  refine WC.seq ?_
  refine WC.region ?_
  refine WL.y rfl (Yld.pure tab_ok rfl) ?_
  refine WL.nil (WX.then_normal ?_)
  refine WC.seq ?_
  refine WC.seq ?_
  refine WC.region ?_
  refine WL.y rfl (Yld.pure tab_ok rfl) ?_
  refine WL.y rfl (Yld.pure tab_ok rfl) ?_
  refine WL.y rfl (Yld.pure tab_ok rfl) ?_
  refine WL.midF 8 (fun L' w' => ∃ q1 : Bool, L' = [(15, .bool q1), (0, .pointer (some ⟨g_g, 0, none⟩)), (1, .int .i64 i)] ∧ ((decide (i < (0 : Int))) || (decide ((g_l.length : Int) ≤ i))) = q1 ∧ w = w') ?_ (fun hQ => ?_)
  · rintro _ _ ⟨q1, rfl, rfl, rfl⟩
    refine WL.nil (WX.then_normal ?_)
    refine WC.cond rfl (fun b1 => ?_) (fun b1 => ?_)
    · replace H := H.1 (b1)
      refine WC.seq ?_
      refine WC.region ?_
      refine WL.y rfl (Yld.pure tab_ok rfl) ?_
      refine WL.nil (WX.then_normal ?_)
      refine WC.ret (WX.then_ret ?_)
      exact WX.ret1 rfl rfl ⟨(gr_refl _ _), [], none, 0, rfl, (Own.nil vi w w.heap.size 3), H⟩
    · replace H := H.2 (b1)
      refine WC.skip (WX.then_normal ?_)
      refine WC.seq ?_
      refine WC.region ?_
      refine WL.y rfl (Yld.pure tab_ok rfl) ?_
      refine WL.y rfl (Yld.pure tab_ok rfl) ?_
      refine WL.y rfl (Yld.pure tab_ok rfl) ?_
      refine WL.y rfl (Yld.bload tab_ok hg rfl rfl rfl) ?_
      refine WL.y rfl (Yld.pure tab_ok rfl) ?_
      obtain ⟨h1, H⟩ := H
      refine WL.y rfl (Yld.iaddrW tab_ok hg_before rfl rfl hr_g_before.1.symm rfl h1.1 h1.2) ?_
      obtain ⟨⟨A_el, n1, c_el⟩, eh1, ⟨en1, hR1⟩⟩ := RelD.at hr_g_before hd0 [] (j := i.toNat) (Nat.lt_of_lt_of_eq (iltN h1 hr_g_before.1.symm) hr_g_before.1)
      have en1 : n1 = (g_before.getD i.toNat []).length := en1
      subst en1
      refine WL.y rfl (Yld.to (v := .slice A_el ((g_before.getD i.toNat []).length) c_el) (Yld.iload hd0 tab_ok hg_before rfl rfl (iltN h1 hr_g_before.1.symm)) (by rw [eh1]; rfl)) ?_
      refine WL.call rfl rfl (W_slices_Clone_int_int hR1 rfl H) ?_
      rintro _ w1 ⟨hg1, t4, A_t4, c_t4, rfl, ht4, H⟩
      have hb1 := ht4.ge'
      have k1 := ht4.base (fun g hg => Nat.le_trans (Nat.le_refl _) (hb1 g hg))
      have gr1 := hg1
      refine WL.y rfl (Yld.pure tab_ok rfl) ?_
      refine WL.nil (WX.then_normal ?_)
      refine WC.ret ?_
      exact WX.ret1 rfl rfl ⟨gr1, t4, A_t4, c_t4, rfl, k1, H⟩
  · clear H
    rcases Bool.eq_false_or_eq_true (decide (i < (0 : Int))) with b2 | b2
    · refine WL.gno rfl rfl (okb b2) rfl ?_
      refine WL.gno rfl rfl (okb b2) rfl ?_
      refine WL.gno rfl rfl (okb b2) rfl ?_
      refine WL.gno rfl rfl (okb b2) rfl ?_
      refine WL.gno rfl rfl (okb b2) rfl ?_
      refine WL.gno rfl rfl (okb b2) rfl ?_
      refine WL.gno rfl rfl (okb b2) rfl ?_
      refine WL.y rfl (Yld.pickT (okb b2) rfl) ?_
      exact WL.weaken (by repeat (first | exact Sub.nil | refine Sub.cons rfl ?_)) (hQ _ _ ⟨true, rfl, by rw [b2] <;> rfl, rfl⟩)
    · refine WL.gyes rfl rfl (okb b2) rfl (Yld.pure tab_ok rfl) ?_
      refine WL.gyes rfl rfl (okb b2) rfl (Yld.pure tab_ok rfl) ?_
      refine WL.gyes rfl rfl (okb b2) rfl (Yld.pure tab_ok rfl) ?_
      refine WL.gyes rfl rfl (okb b2) rfl (Yld.pure tab_ok rfl) ?_
      refine WL.gyes rfl rfl (okb b2) rfl (Yld.bload tab_ok hg rfl rfl rfl) ?_
      refine WL.gyes rfl rfl (okb b2) rfl (Yld.pure tab_ok rfl) ?_
      refine WL.gyes rfl rfl (okb b2) rfl (Yld.pure tab_ok rfl) ?_
      refine WL.y rfl (Yld.pickF (okb b2) rfl) ?_
      exact WL.weaken (by repeat (first | exact Sub.nil | refine Sub.cons rfl ?_)) (hQ _ _ ⟨decide ((g_l.length : Int) ≤ i), rfl, by rw [b2] <;> rfl, rfl⟩)

set_option maxHeartbeats 8000000 in
theorem W_graph_Only {S : List Nat} {w : World} {l : List (Int × List (List UInt8) × List (List UInt8) × List UInt8)} {A_l : Option Addr} {c_l : Nat} {hs_l : List (Int × Hdr × Hdr × List UInt8)} {outputs : List (List UInt8)} {A_outputs : Option Addr} {c_outputs : Nat} {n_l : Nat} {n_outputs : Nat} {K : (List (Int × List (List UInt8) × List (List UInt8) × List UInt8)) → Prop} (hG : GOK S w) (hS4 : 4 ∈ S) (hS6 : 6 ∈ S) (hS9 : 9 ∈ S) (hS10 : 10 ∈ S) (hS11 : 11 ∈ S) (hS100 : 100 ∈ S) (hl : RdK 4 encH94 w A_l c_l hs_l) (hn_l : n_l = l.length) (hr_l : RelD de94 w hs_l l) (houtputs : Rd vs w A_outputs c_outputs outputs) (hn_outputs : n_outputs = outputs.length) (H : M_graph_Only l outputs K) : Fn Tryz.prog 45 ⟨[.slice A_l n_l c_l, .slice A_outputs n_outputs c_outputs]⟩ w (fun v w' => w.grownBy w' none ∧ ∃ (r : List (Int × List (List UInt8) × List (List UInt8) × List UInt8)), ∃ (A_r : Option Addr), ∃ (c_r : Nat), ∃ (hs_r : List (Int × Hdr × Hdr × List UInt8)), v = .slice A_r r.length c_r ∧ OwnK 4 encH94 w' w.heap.size 94 A_r c_r hs_r ∧ RelD de94 w' hs_r r ∧ K r) := by
  subst hn_l
  subst hn_outputs
  unfold M_graph_Only at H
  refine Fn.enter (by kernel_rfl) Tryz.func45 rfl Tryz.ntmps45 rfl ?_
  replace H := H (by rw [← hr_l.1]; exact Nat.le_trans hl.cap hl.max)
  replace H := H (Nat.le_trans houtputs.cap houtputs.max)
  refine WC.seq ?_
  refine WC.region ?_
  refine WL.y rfl (Yld.pure tab_ok rfl) ?_
  refine WL.nil (WX.then_normal ?_)
  refine WC.seq ?_
  refine WC.region ?_
  refine WL.y rfl (Yld.pure tab_ok rfl) ?_
  refine WL.call rfl rfl (W_graph_New hG hS4 hS6 hS9 hS10 hS11 hS100 hl rfl hr_l H) ?_
  rintro v_ w1 ⟨hg_, hc_ | hc_⟩
  · obtain ⟨v_t121, t121, rfl, ht121, H⟩ := hc_
    have hg1 := hg_
    have gr1 := hg1
    refine WL.y rfl (Yld.pure tab_ok rfl) ?_
    refine WL.y rfl (Yld.pure tab_ok rfl) ?_
    refine WL.y rfl (Yld.pure tab_ok rfl) ?_
    refine WL.y rfl (Yld.pure tab_ok rfl) ?_
    refine WL.y rfl (Yld.pure tab_ok rfl) ?_
    refine WL.nil (WX.then_normal ?_)
    refine WC.seq ?_
    refine WC.seq ?_
    refine WC.region ?_
    refine WL.y rfl (Yld.pure tab_ok rfl) ?_
    refine WL.y rfl (Yld.errneq Tryz.underlying26 ht121 rfl) ?_
    refine WL.nil (WX.then_normal ?_)
    refine WC.cond rfl (fun b1 => ?_) (fun b1 => ?_)
    · replace H := H.1 (nd_true b1)
      refine WC.seq ?_
      refine WC.region ?_
      refine WL.y rfl (Yld.pure tab_ok rfl) ?_
      refine WL.nil (WX.then_normal ?_)
      refine WC.ret (WX.then_ret ?_)
      exact WX.ret1 rfl rfl ⟨gr1, [], none, 0, [], rfl, (OwnK.nil encH94_ok w1 w.heap.size 94), (RelD.nil (d := de94) (w := w1)), H⟩
    · replace H := H.2 (nd_false b1)
      refine WC.skip (WX.then_normal ?_)
      refine WC.seq ?_
      refine WC.region ?_
      refine WL.y rfl (Yld.pure tab_ok rfl) ?_
      refine WL.nil (WX.then_normal ?_)
      refine WC.seq ?_
      refine WC.seq ?_
      refine WC.region ?_
      refine WL.y rfl (Yld.pure tab_ok rfl) ?_
      refine WL.y rfl (Yld.pure tab_ok rfl) ?_
      exact False.elim H
  · obtain ⟨g_t120, t120_l, A_t120_l, c_t120_l, hs_t120_l, g_t120_makers, t120_makers, t120_before, A_t120_before, c_t120_before, hs_t120_before, t120_after, A_t120_after, c_t120_after, hs_t120_after, v_t1212, t1212, rfl, ht120_l, hr_t120_l, nd1, dj1, ht120_before, hr_t120_before, nd2, dj2, ht120_after, hr_t120_after, nd3, dj3, ht1212, ht120_makers, hge1, ht120, hge2, dj4, dj5, dj6, dj7, dj8, dj9, dj10, dj11, dj12, dj13, dj14, dj15, dj16, dj17, dj18, dj19, dj20, dj21, dj22, dj23, dj24, dj25, dj26, dj27, dj28, H⟩ := hc_
    have hg2 := hg_
    have hb1 := ht120_l.ge'
    have k1 := ht120_l.base (fun g hg => Nat.le_trans (Nat.le_refl _) (hb1 g hg))
    have hb2 := ht120_before.ge'
    have k2 := ht120_before.base (fun g hg => Nat.le_trans (Nat.le_refl _) (hb2 g hg))
    have hb3 := ht120_after.ge'
    have k3 := ht120_after.base (fun g hg => Nat.le_trans (Nat.le_refl _) (hb3 g hg))
    have gr2 := hg2
    refine WL.y rfl (Yld.pure tab_ok rfl) ?_
    refine WL.y rfl (Yld.pure tab_ok rfl) ?_
    refine WL.y rfl (Yld.pure tab_ok rfl) ?_
    refine WL.y rfl (Yld.pure tab_ok rfl) ?_
    refine WL.y rfl (Yld.pure tab_ok rfl) ?_
    refine WL.nil (WX.then_normal ?_)
    refine WC.seq ?_
    refine WC.seq ?_
    refine WC.region ?_
    refine WL.y rfl (Yld.pure tab_ok rfl) ?_
    refine WL.y rfl (Yld.errneq Tryz.underlying26 ht1212 rfl) ?_
    refine WL.nil (WX.then_normal ?_)
    refine WC.cond rfl (fun b2 => ?_) (fun b2 => ?_)
    · replace H := H.1 (nd_true b2)
      refine WC.seq ?_
      refine WC.region ?_
      refine WL.y rfl (Yld.pure tab_ok rfl) ?_
      refine WL.nil (WX.then_normal ?_)
      refine WC.ret (WX.then_ret ?_)
      exact WX.ret1 rfl rfl ⟨gr2, [], none, 0, [], rfl, (OwnK.nil encH94_ok w1 w.heap.size 94), (RelD.nil (d := de94) (w := w1)), H⟩
    · replace H := H.2 (nd_false b2)
      refine WC.skip (WX.then_normal ?_)
      refine WC.seq ?_
      refine WC.region ?_
      refine WL.y rfl (Yld.pure tab_ok rfl) ?_
      refine WL.nil (WX.then_normal ?_)
      refine WC.seq ?_
      refine WC.seq ?_
      refine WC.region ?_
      refine WL.y rfl (Yld.pure tab_ok rfl) ?_
      refine WL.y rfl (Yld.pure tab_ok rfl) ?_
      refine WL.call rfl rfl (W_pgraph_Graph_Needs k1.rd rfl hr_t120_l ht120_makers k2.rd rfl hr_t120_before k3.rd rfl hr_t120_after ht120 (houtputs.grown gr2) rfl H) ?_
      rintro _ w4 ⟨hg3, t19, A_t19, c_t19, rfl, ht19, H⟩
      have hb4 := ht19.ge'
      have k4 := ht19.base (fun g hg => Nat.le_trans (size_le gr2) (hb4 g hg))
      have gr3 := gr_trans gr2 hg3
      have k5 := k1.grown hg3
      have k6 := hr_t120_l.grown hg3
      have k7 := k2.grown hg3
      have k8 := hr_t120_before.grown hg3
      have k9 := k3.grown hg3
      have k10 := hr_t120_after.grown hg3
      have k11 := ht120_makers.g0 hg3
      have k12 := ht120.g0 hg3
      refine WL.y rfl (Yld.pure tab_ok rfl) ?_
      refine WL.y rfl (Yld.pure tab_ok rfl) ?_
      refine WL.nil (WX.then_normal ?_)
      refine WC.block ?_
      obtain ⟨I1, mu1, h0_1, HR1⟩ := H
      refine WC.loopF (fun n' L' w' => ∃ (out : List (Int × List (List UInt8) × List (List UInt8) × List UInt8)), ∃ (A_out : Option Addr), ∃ (c_out : Nat), ∃ (n_out : Nat), ∃ (hs_out : List (Int × Hdr × Hdr × List UInt8)), ∃ (t21 : Int), n' = mu1 out t21 ∧ L' = [(5, .pointer (some ⟨g_t120, 0, none⟩)), (7, .slice A_out n_out c_out), (19, .slice A_t19 t19.length c_t19), (20, .int .i64 (t19.length : Int)), (21, .int .i64 t21)] ∧ I1 out t21 ∧ n_out = out.length ∧ w.grownBy w' none ∧ OwnK 4 encH94 w' w.heap.size 94 A_t120_l c_t120_l hs_t120_l ∧ RelD de94 w' hs_t120_l t120_l ∧ Own vh w' w.heap.size 98 A_t120_before c_t120_before hs_t120_before ∧ RelD de98 w' hs_t120_before t120_before ∧ Own vh w' w.heap.size 98 A_t120_after c_t120_after hs_t120_after ∧ RelD de98 w' hs_t120_after t120_after ∧ MapB vs okS vi w' g_t120_makers t120_makers ∧ Bl w' g_t120 169 [.slice A_t120_l t120_l.length c_t120_l, .map (some g_t120_makers), .slice A_t120_before t120_before.length c_t120_before, .slice A_t120_after t120_after.length c_t120_after] ∧ Own vi w' w.heap.size 3 A_t19 c_t19 t19 ∧ OwnK 4 encH94 w' w.heap.size 94 A_out c_out hs_out ∧ RelD de94 w' hs_out out ∧ Dj (blk A_t120_l) (blk A_t120_before) ∧ Dj (blk A_t120_l) (blk A_t120_after) ∧ Dj (blk A_t120_l) (some g_t120_makers) ∧ Dj (blk A_t120_l) (some g_t120) ∧ Dj (blk A_t120_l) (blk A_t19) ∧ Dj (blk A_t120_l) (blk A_out) ∧ DnD de94 hs_t120_l t120_l (blk A_t120_l) ∧ DnD de94 hs_t120_l t120_l (blk A_t120_before) ∧ DnD de94 hs_t120_l t120_l (blk A_t120_after) ∧ DnD de94 hs_t120_l t120_l (some g_t120_makers) ∧ DnD de94 hs_t120_l t120_l (some g_t120) ∧ DnD de94 hs_t120_l t120_l (blk A_t19) ∧ DnD de94 hs_t120_l t120_l (blk A_out) ∧ Dj (blk A_t120_before) (blk A_t120_after) ∧ Dj (blk A_t120_before) (some g_t120) ∧ Dj (blk A_t120_before) (blk A_t19) ∧ Dj (blk A_t120_before) (blk A_out) ∧ DnD de98 hs_t120_before t120_before (blk A_t120_l) ∧ DnD de98 hs_t120_before t120_before (blk A_t120_before) ∧ DnD de98 hs_t120_before t120_before (blk A_t120_after) ∧ DnD de98 hs_t120_before t120_before (some g_t120_makers) ∧ DnD de98 hs_t120_before t120_before (some g_t120) ∧ DnD de98 hs_t120_before t120_before (blk A_t19) ∧ DnD de98 hs_t120_before t120_before (blk A_out) ∧ Dj (blk A_t120_after) (some g_t120) ∧ Dj (blk A_t120_after) (blk A_t19) ∧ Dj (blk A_t120_after) (blk A_out) ∧ DnD de98 hs_t120_after t120_after (blk A_t120_l) ∧ DnD de98 hs_t120_after t120_after (blk A_t120_before) ∧ DnD de98 hs_t120_after t120_after (blk A_t120_after) ∧ DnD de98 hs_t120_after t120_after (some g_t120_makers) ∧ DnD de98 hs_t120_after t120_after (some g_t120) ∧ DnD de98 hs_t120_after t120_after (blk A_t19) ∧ DnD de98 hs_t120_after t120_after (blk A_out) ∧ Dj (some g_t120_makers) (blk A_t120_before) ∧ Dj (some g_t120_makers) (blk A_t120_after) ∧ Dj (some g_t120_makers) (some g_t120) ∧ Dj (some g_t120_makers) (blk A_t19) ∧ Dj (some g_t120_makers) (blk A_out) ∧ Dj (some g_t120) (blk A_t19) ∧ Dj (some g_t120) (blk A_out) ∧ Dj (blk A_t19) (blk A_out) ∧ DnD de94 hs_out out (blk A_t120_l) ∧ DnD de94 hs_out out (blk A_t120_before) ∧ DnD de94 hs_out out (blk A_t120_after) ∧ DnD de94 hs_out out (some g_t120_makers) ∧ DnD de94 hs_out out (some g_t120) ∧ DnD de94 hs_out out (blk A_t19) ∧ DnD de94 hs_out out (blk A_out) ∧ NewD de94 hs_out out w.heap.size) _ _ ⟨[], none, 0, 0, [], (0 : Int), rfl, rfl, h0_1, rfl, gr3, k5, k6, k7, k8, k9, k10, k11, k12, k4, (OwnK.nil encH94_ok w4 w.heap.size 94), (RelD.nil (d := de94) (w := w4)), dj19, dj20, dj21, dj22, (Dj.new k1.lt' hb4), Dj.nr, dj1, dj5, dj6, dj7, dj8, (hr_t120_l.new hb4), (DnD.none k6), dj23, dj25, (Dj.new k2.lt' hb4), Dj.nr, dj9, dj2, dj11, dj12, dj13, (hr_t120_before.new hb4), (DnD.none k8), dj27, (Dj.new k3.lt' hb4), Dj.nr, dj14, dj15, dj3, dj17, dj18, (hr_t120_after.new hb4), (DnD.none k10), dj24.symm, dj26.symm, dj28, (Dj.new ht120_makers.lt' hb4), Dj.nr, (Dj.new ht120.lt' hb4), Dj.nr, Dj.nr, DnD.nil, DnD.nil, DnD.nil, DnD.nil, DnD.nil, DnD.nil, DnD.nil, (NewD.nil (d := de94))⟩ (by repeat (first | exact Sub.nil | refine Sub.cons rfl ?_)) ?_
      clear h0_1
      rintro _ _ w5 ⟨out, A_out, c_out, n_out, hs_out, t21, rfl, rfl, hI1, rfl, gr4, k13, k14, k15, k16, k17, k18, k19, k20, k21, k22, k23, dj29, dj30, dj31, dj32, dj33, dj34, dj35, dj36, dj37, dj38, dj39, dj40, dj41, dj42, dj43, dj44, dj45, dj46, dj47, dj48, dj49, dj50, dj51, dj52, dj53, dj54, dj55, dj56, dj57, dj58, dj59, dj60, dj61, dj62, dj63, dj64, dj65, dj66, dj67, dj68, dj69, dj70, dj71, dj72, dj73, dj74, dj75, dj76, dj77, or1⟩
      have H := HR1 out t21 hI1
      refine WC.seq ?_
      refine WC.region ?_
      refine WL.y rfl (Yld.pure tab_ok rfl) ?_
      refine WL.nil (WX.then_normal ?_)
      refine WC.seq ?_
      refine WC.cond rfl (fun b3 => ?_) (fun b3 => ?_)
      · replace H := H.1 (of_decide_eq_true b3)
        refine WC.skip (WX.then_normal ?_)
        refine WC.seq ?_
        refine WC.block ?_
        refine WC.seq ?_
        refine WC.region ?_
        obtain ⟨h1, H⟩ := H
        refine WL.y rfl (Yld.iaddrW tab_ok k21.rd rfl rfl rfl rfl h1.1 h1.2) ?_
        refine WL.y rfl (Yld.iload 0 tab_ok k21.rd rfl rfl (iltN h1 rfl)) ?_
        refine WL.y rfl (Yld.pure tab_ok rfl) ?_
        refine WL.nil (WX.then_normal ?_)
        refine WC.region ?_
        refine WL.y rfl (Yld.pure tab_ok rfl) ?_
        refine WL.y rfl (Yld.pure tab_ok rfl) ?_
        refine WL.y rfl (Yld.pure tab_ok rfl) ?_
        refine WL.y rfl (Yld.pure tab_ok rfl) ?_
        refine WL.y rfl (Yld.bload tab_ok k20 rfl rfl rfl) ?_
        refine WL.y rfl (Yld.pure tab_ok rfl) ?_
        obtain ⟨h2, H⟩ := H
        refine WL.y rfl (Yld.iaddrK tab_ok k13.rd rfl rfl hr_t120_l.1.symm rfl h2.1 h2.2) ?_
        obtain ⟨⟨f1, ⟨A_el, n1, c_el⟩, ⟨A_el2, n2, c_el2⟩, f2⟩, eh1, ⟨en1, ⟨en2, hR1⟩, ⟨en3, hR2⟩, en4⟩⟩ := RelD.at k14 (0, hd0, hd0, []) (0, [], [], []) (j := (t19.getD t21.toNat 0).toNat) (Nat.lt_of_lt_of_eq (iltN h2 hr_t120_l.1.symm) k14.1)
        have en1 : f1 = (t120_l.getD ((t19.getD t21.toNat 0).toNat) (0, [], [], [])).1 := en1
        subst en1
        have en2 : n1 = ((t120_l.getD ((t19.getD t21.toNat 0).toNat) (0, [], [], [])).2.1).length := en2
        subst en2
        have en3 : n2 = ((t120_l.getD ((t19.getD t21.toNat 0).toNat) (0, [], [], [])).2.2.1).length := en3
        subst en3
        have en4 : f2 = (t120_l.getD ((t19.getD t21.toNat 0).toNat) (0, [], [], [])).2.2.2 := en4
        subst en4
        refine WL.y rfl (Yld.to (v := .agg ⟨[.int .i64 ((t120_l.getD ((t19.getD t21.toNat 0).toNat) (0, [], [], [])).1), .slice A_el (((t120_l.getD ((t19.getD t21.toNat 0).toNat) (0, [], [], [])).2.1).length) c_el, .slice A_el2 (((t120_l.getD ((t19.getD t21.toNat 0).toNat) (0, [], [], [])).2.2.1).length) c_el2, vs ((t120_l.getD ((t19.getD t21.toNat 0).toNat) (0, [], [], [])).2.2.2)]⟩) (Yld.iloadK (0, hd0, hd0, []) tab_ok k13.rd rfl rfl (iltN h2 hr_t120_l.1.symm)) (by rw [eh1]; rfl)) ?_
        refine WL.call rfl rfl (W_graph_copied hR1 rfl hR2 rfl H) ?_
        rintro _ w6 ⟨hg4, t33_Tool, t33_Args, A_t33_Args, c_t33_Args, t33_Inputs, A_t33_Inputs, c_t33_Inputs, t33_Output, rfl, ht33_Args, ht33_Inputs, dj78, H⟩
        have hb5 := ht33_Args.ge'
        have k24 := ht33_Args.base (fun g hg => Nat.le_trans (size_le gr4) (hb5 g hg))
        have hb6 := ht33_Inputs.ge'
        have k25 := ht33_Inputs.base (fun g hg => Nat.le_trans (size_le gr4) (hb6 g hg))
        have gr5 := gr_trans gr4 hg4
        have k26 := k13.grown hg4
        have k27 := k14.grown hg4
        have k28 := k15.grown hg4
        have k29 := k16.grown hg4
        have k30 := k17.grown hg4
        have k31 := k18.grown hg4
        have k32 := k19.g0 hg4
        have k33 := k20.g0 hg4
        have k34 := k21.grown hg4
        have k35 := k22.grown hg4
        have k36 := k23.grown hg4
        refine WL.litK (f := encH94) ([(t33_Tool, ⟨A_t33_Args, t33_Args.length, c_t33_Args⟩, ⟨A_t33_Inputs, t33_Inputs.length, c_t33_Inputs⟩, t33_Output)] : List (Int × Hdr × Hdr × List UInt8)) encH94_ok rfl ow77 rfl rfl rfl (fun g2 w8 hB2 hg6 hl2 => ?_)
        have hO2 : OwnK 4 encH94 w8 w.heap.size 94 (some ⟨g2, 0, none⟩) 1 ([(t33_Tool, ⟨A_t33_Args, t33_Args.length, c_t33_Args⟩, ⟨A_t33_Inputs, t33_Inputs.length, c_t33_Inputs⟩, t33_Output)] : List (Int × Hdr × Hdr × List UInt8)) := OwnK.ofBl encH94_ok hB2 (Nat.le_trans (size_le gr5) hl2) (by simp [maxLen]) rfl
        have gr6 := gr_trans gr5 hg6
        have k37 := k26.grown hg6
        have k38 := k27.grown hg6
        have k39 := k28.grown hg6
        have k40 := k29.grown hg6
        have k41 := k30.grown hg6
        have k42 := k31.grown hg6
        have k43 := k32.g0 hg6
        have k44 := k33.g0 hg6
        have k45 := k34.grown hg6
        have k46 := k35.grown hg6
        have k47 := k36.grown hg6
        have k48 := k24.grown hg6
        have k49 := k25.grown hg6
        have hr1 : RelD de94 w8 ([(t33_Tool, ⟨A_t33_Args, t33_Args.length, c_t33_Args⟩, ⟨A_t33_Inputs, t33_Inputs.length, c_t33_Inputs⟩, t33_Output)] : List (Int × Hdr × Hdr × List UInt8)) ([(t33_Tool, t33_Args, t33_Inputs, t33_Output)] : List (Int × List (List UInt8) × List (List UInt8) × List UInt8)) := (RelD.cons ⟨rfl, ⟨rfl, k48.rd⟩, ⟨rfl, k49.rd⟩, rfl⟩ RelD.nil)
        have nd4 : NewD de94 ([(t33_Tool, ⟨A_t33_Args, t33_Args.length, c_t33_Args⟩, ⟨A_t33_Inputs, t33_Inputs.length, c_t33_Inputs⟩, t33_Output)] : List (Int × Hdr × Hdr × List UInt8)) ([(t33_Tool, t33_Args, t33_Inputs, t33_Output)] : List (Int × List (List UInt8) × List (List UInt8) × List UInt8)) w.heap.size := (NewD.cons (d := de94) (fun p_ hp_ => ⟨trivial, (Dn.of (Dj.new hp_ k48.ge').symm), (Dn.of (Dj.new hp_ k49.ge').symm), trivial⟩) NewD.nil)
        have dj79 : DnD de94 ([(t33_Tool, ⟨A_t33_Args, t33_Args.length, c_t33_Args⟩, ⟨A_t33_Inputs, t33_Inputs.length, c_t33_Inputs⟩, t33_Output)] : List (Int × Hdr × Hdr × List UInt8)) ([(t33_Tool, t33_Args, t33_Inputs, t33_Output)] : List (Int × List (List UInt8) × List (List UInt8) × List UInt8)) (blk A_t120_l) := (DnD.cons (d := de94) ⟨trivial, (Dn.of (Dj.new k13.lt' hb5).symm), (Dn.of (Dj.new k13.lt' hb6).symm), trivial⟩ DnD.nil)
        have dj80 : DnD de94 ([(t33_Tool, ⟨A_t33_Args, t33_Args.length, c_t33_Args⟩, ⟨A_t33_Inputs, t33_Inputs.length, c_t33_Inputs⟩, t33_Output)] : List (Int × Hdr × Hdr × List UInt8)) ([(t33_Tool, t33_Args, t33_Inputs, t33_Output)] : List (Int × List (List UInt8) × List (List UInt8) × List UInt8)) (blk A_t120_before) := (DnD.cons (d := de94) ⟨trivial, (Dn.of (Dj.new k15.lt' hb5).symm), (Dn.of (Dj.new k15.lt' hb6).symm), trivial⟩ DnD.nil)
        have dj81 : DnD de94 ([(t33_Tool, ⟨A_t33_Args, t33_Args.length, c_t33_Args⟩, ⟨A_t33_Inputs, t33_Inputs.length, c_t33_Inputs⟩, t33_Output)] : List (Int × Hdr × Hdr × List UInt8)) ([(t33_Tool, t33_Args, t33_Inputs, t33_Output)] : List (Int × List (List UInt8) × List (List UInt8) × List UInt8)) (blk A_t120_after) := (DnD.cons (d := de94) ⟨trivial, (Dn.of (Dj.new k17.lt' hb5).symm), (Dn.of (Dj.new k17.lt' hb6).symm), trivial⟩ DnD.nil)
        have dj82 : DnD de94 ([(t33_Tool, ⟨A_t33_Args, t33_Args.length, c_t33_Args⟩, ⟨A_t33_Inputs, t33_Inputs.length, c_t33_Inputs⟩, t33_Output)] : List (Int × Hdr × Hdr × List UInt8)) ([(t33_Tool, t33_Args, t33_Inputs, t33_Output)] : List (Int × List (List UInt8) × List (List UInt8) × List UInt8)) (some g_t120_makers) := (DnD.cons (d := de94) ⟨trivial, (Dn.of (Dj.new k19.lt' hb5).symm), (Dn.of (Dj.new k19.lt' hb6).symm), trivial⟩ DnD.nil)
        have dj83 : DnD de94 ([(t33_Tool, ⟨A_t33_Args, t33_Args.length, c_t33_Args⟩, ⟨A_t33_Inputs, t33_Inputs.length, c_t33_Inputs⟩, t33_Output)] : List (Int × Hdr × Hdr × List UInt8)) ([(t33_Tool, t33_Args, t33_Inputs, t33_Output)] : List (Int × List (List UInt8) × List (List UInt8) × List UInt8)) (some g_t120) := (DnD.cons (d := de94) ⟨trivial, (Dn.of (Dj.new k20.lt' hb5).symm), (Dn.of (Dj.new k20.lt' hb6).symm), trivial⟩ DnD.nil)
        have dj84 : DnD de94 ([(t33_Tool, ⟨A_t33_Args, t33_Args.length, c_t33_Args⟩, ⟨A_t33_Inputs, t33_Inputs.length, c_t33_Inputs⟩, t33_Output)] : List (Int × Hdr × Hdr × List UInt8)) ([(t33_Tool, t33_Args, t33_Inputs, t33_Output)] : List (Int × List (List UInt8) × List (List UInt8) × List UInt8)) (blk A_t19) := (DnD.cons (d := de94) ⟨trivial, (Dn.of (Dj.new k21.lt' hb5).symm), (Dn.of (Dj.new k21.lt' hb6).symm), trivial⟩ DnD.nil)
        have dj85 : DnD de94 ([(t33_Tool, ⟨A_t33_Args, t33_Args.length, c_t33_Args⟩, ⟨A_t33_Inputs, t33_Inputs.length, c_t33_Inputs⟩, t33_Output)] : List (Int × Hdr × Hdr × List UInt8)) ([(t33_Tool, t33_Args, t33_Inputs, t33_Output)] : List (Int × List (List UInt8) × List (List UInt8) × List UInt8)) (blk A_out) := (DnD.cons (d := de94) ⟨trivial, (Dn.of (Dj.new k22.lt' hb5).symm), (Dn.of (Dj.new k22.lt' hb6).symm), trivial⟩ DnD.nil)
        have dj86 : DnD de94 ([(t33_Tool, ⟨A_t33_Args, t33_Args.length, c_t33_Args⟩, ⟨A_t33_Inputs, t33_Inputs.length, c_t33_Inputs⟩, t33_Output)] : List (Int × Hdr × Hdr × List UInt8)) ([(t33_Tool, t33_Args, t33_Inputs, t33_Output)] : List (Int × List (List UInt8) × List (List UInt8) × List UInt8)) (blk (some ⟨g2, 0, none⟩)) := (DnD.cons (d := de94) ⟨trivial, (Dn.of (Dj.new k24.lt' (Ge.box hl2))), (Dn.of (Dj.new k25.lt' (Ge.box hl2))), trivial⟩ DnD.nil)
        obtain ⟨h3, H⟩ := H
        have h4 : ((hs_out : List (Int × Hdr × Hdr × List UInt8)).length + ([(t33_Tool, ⟨A_t33_Args, t33_Args.length, c_t33_Args⟩, ⟨A_t33_Inputs, t33_Inputs.length, c_t33_Inputs⟩, t33_Output)] : List (Int × Hdr × Hdr × List UInt8)).length) * 72 ≤ 140737488355328 := by rw [k47.1, hr1.1]; exact h3
        refine WL.appendK rfl ow77 k46 rfl k23.1.symm hO2.rd rfl rfl h4 (applen h4) (size_le gr6) (fun A_out2 c_out2 w9 hO3 hg7 hk1 => ?_)
        have el1 : (hs_out ++ ([(t33_Tool, ⟨A_t33_Args, t33_Args.length, c_t33_Args⟩, ⟨A_t33_Inputs, t33_Inputs.length, c_t33_Inputs⟩, t33_Output)] : List (Int × Hdr × Hdr × List UInt8))).length = (out ++ ([(t33_Tool, t33_Args, t33_Inputs, t33_Output)] : List (Int × List (List UInt8) × List (List UInt8) × List UInt8))).length := by rw [List.length_append, List.length_append, k47.1, hr1.1]
        rw [el1]
        have gr7 := gr_mod gr6 hg7 k46.ge'
        have k50 := k37.go hg7 dj34
        have k51 := k38.go hg7 dj41
        have k52 := k39.go hg7 dj45
        have k53 := k40.go hg7 dj52
        have k54 := k41.go hg7 dj55
        have k55 := k42.go hg7 dj62
        have k56 := k43.go hg7 dj67
        have k57 := k44.go hg7 dj69
        have k58 := k45.go hg7 dj70
        have k59 := k47.go hg7 dj77
        have k60 := hr1.go hg7 dj85
        have hr2 : RelD de94 w9 (hs_out ++ ([(t33_Tool, ⟨A_t33_Args, t33_Args.length, c_t33_Args⟩, ⟨A_t33_Inputs, t33_Inputs.length, c_t33_Inputs⟩, t33_Output)] : List (Int × Hdr × Hdr × List UInt8))) (out ++ ([(t33_Tool, t33_Args, t33_Inputs, t33_Output)] : List (Int × List (List UInt8) × List (List UInt8) × List UInt8))) := RelD.append k59 k60
        have nd5 : NewD de94 (hs_out ++ ([(t33_Tool, ⟨A_t33_Args, t33_Args.length, c_t33_Args⟩, ⟨A_t33_Inputs, t33_Inputs.length, c_t33_Inputs⟩, t33_Output)] : List (Int × Hdr × Hdr × List UInt8))) (out ++ ([(t33_Tool, t33_Args, t33_Inputs, t33_Output)] : List (Int × List (List UInt8) × List (List UInt8) × List UInt8))) w.heap.size := NewD.append k47.1 or1 nd4
        have dj87 : DnD de94 (hs_out ++ ([(t33_Tool, ⟨A_t33_Args, t33_Args.length, c_t33_Args⟩, ⟨A_t33_Inputs, t33_Inputs.length, c_t33_Inputs⟩, t33_Output)] : List (Int × Hdr × Hdr × List UInt8))) (out ++ ([(t33_Tool, t33_Args, t33_Inputs, t33_Output)] : List (Int × List (List UInt8) × List (List UInt8) × List UInt8))) (blk A_t120_l) := (DnD.append k47.1 dj71 dj79)
        have dj88 : DnD de94 (hs_out ++ ([(t33_Tool, ⟨A_t33_Args, t33_Args.length, c_t33_Args⟩, ⟨A_t33_Inputs, t33_Inputs.length, c_t33_Inputs⟩, t33_Output)] : List (Int × Hdr × Hdr × List UInt8))) (out ++ ([(t33_Tool, t33_Args, t33_Inputs, t33_Output)] : List (Int × List (List UInt8) × List (List UInt8) × List UInt8))) (blk A_t120_before) := (DnD.append k47.1 dj72 dj80)
        have dj89 : DnD de94 (hs_out ++ ([(t33_Tool, ⟨A_t33_Args, t33_Args.length, c_t33_Args⟩, ⟨A_t33_Inputs, t33_Inputs.length, c_t33_Inputs⟩, t33_Output)] : List (Int × Hdr × Hdr × List UInt8))) (out ++ ([(t33_Tool, t33_Args, t33_Inputs, t33_Output)] : List (Int × List (List UInt8) × List (List UInt8) × List UInt8))) (blk A_t120_after) := (DnD.append k47.1 dj73 dj81)
        have dj90 : DnD de94 (hs_out ++ ([(t33_Tool, ⟨A_t33_Args, t33_Args.length, c_t33_Args⟩, ⟨A_t33_Inputs, t33_Inputs.length, c_t33_Inputs⟩, t33_Output)] : List (Int × Hdr × Hdr × List UInt8))) (out ++ ([(t33_Tool, t33_Args, t33_Inputs, t33_Output)] : List (Int × List (List UInt8) × List (List UInt8) × List UInt8))) (some g_t120_makers) := (DnD.append k47.1 dj74 dj82)
        have dj91 : DnD de94 (hs_out ++ ([(t33_Tool, ⟨A_t33_Args, t33_Args.length, c_t33_Args⟩, ⟨A_t33_Inputs, t33_Inputs.length, c_t33_Inputs⟩, t33_Output)] : List (Int × Hdr × Hdr × List UInt8))) (out ++ ([(t33_Tool, t33_Args, t33_Inputs, t33_Output)] : List (Int × List (List UInt8) × List (List UInt8) × List UInt8))) (some g_t120) := (DnD.append k47.1 dj75 dj83)
        have dj92 : DnD de94 (hs_out ++ ([(t33_Tool, ⟨A_t33_Args, t33_Args.length, c_t33_Args⟩, ⟨A_t33_Inputs, t33_Inputs.length, c_t33_Inputs⟩, t33_Output)] : List (Int × Hdr × Hdr × List UInt8))) (out ++ ([(t33_Tool, t33_Args, t33_Inputs, t33_Output)] : List (Int × List (List UInt8) × List (List UInt8) × List UInt8))) (blk A_t19) := (DnD.append k47.1 dj76 dj84)
        have dj93 : DnD de94 (hs_out ++ ([(t33_Tool, ⟨A_t33_Args, t33_Args.length, c_t33_Args⟩, ⟨A_t33_Inputs, t33_Inputs.length, c_t33_Inputs⟩, t33_Output)] : List (Int × Hdr × Hdr × List UInt8))) (out ++ ([(t33_Tool, t33_Args, t33_Inputs, t33_Output)] : List (Int × List (List UInt8) × List (List UInt8) × List UInt8))) (blk (some ⟨g2, 0, none⟩)) := (DnD.append k47.1 (k36.new (Ge.box hl2)) dj86)
        have dj94 : DnD de94 (hs_out ++ ([(t33_Tool, ⟨A_t33_Args, t33_Args.length, c_t33_Args⟩, ⟨A_t33_Inputs, t33_Inputs.length, c_t33_Inputs⟩, t33_Output)] : List (Int × Hdr × Hdr × List UInt8))) (out ++ ([(t33_Tool, t33_Args, t33_Inputs, t33_Output)] : List (Int × List (List UInt8) × List (List UInt8) × List UInt8))) (blk A_out2) := (DnD.append k47.1 (RelD.app k47 dj77 hk1) (RelD.app hr1 dj85 hk1))
        refine WL.y rfl (Yld.pure tab_ok rfl) ?_
        refine WL.nil (WX.block_normal (WX.then_normal ?_))
        refine WC.region ?_
        obtain ⟨h5, H⟩ := H
        refine WL.y rfl (Yld.add rfl rfl h5) ?_
        refine WL.y rfl (Yld.pure tab_ok rfl) ?_
        refine WL.nil ?_
        exact WX.roundF _ ⟨out ++ ([(t33_Tool, t33_Args, t33_Inputs, t33_Output)] : List (Int × List (List UInt8) × List (List UInt8) × List UInt8)), A_out2, c_out2, (out ++ ([(t33_Tool, t33_Args, t33_Inputs, t33_Output)] : List (Int × List (List UInt8) × List (List UInt8) × List UInt8))).length, hs_out ++ ([(t33_Tool, ⟨A_t33_Args, t33_Args.length, c_t33_Args⟩, ⟨A_t33_Inputs, t33_Inputs.length, c_t33_Inputs⟩, t33_Output)] : List (Int × Hdr × Hdr × List UInt8)), t21 + (1 : Int), rfl, rfl, H.1, rfl, gr7, k50, k51, k52, k53, k54, k55, k56, k57, k58, hO3, hr2, dj29, dj30, dj31, dj32, dj33, (Dj.app dj34.symm k37.lt' hk1).symm, dj35, dj36, dj37, dj38, dj39, dj40, (RelD.app k38 dj41 hk1), dj42, dj43, dj44, (Dj.app dj45.symm k39.lt' hk1).symm, dj46, dj47, dj48, dj49, dj50, dj51, (RelD.app k40 dj52 hk1), dj53, dj54, (Dj.app dj55.symm k41.lt' hk1).symm, dj56, dj57, dj58, dj59, dj60, dj61, (RelD.app k42 dj62 hk1), dj63, dj64, dj65, dj66, (Dj.app dj67.symm k43.lt' hk1).symm, dj68, (Dj.app dj69.symm k44.lt' hk1).symm, (Dj.app dj70.symm k45.lt' hk1).symm, dj87, dj88, dj89, dj90, dj91, dj92, dj94, nd5⟩ (by repeat (first | exact Sub.nil | refine Sub.cons rfl ?_)) H.2
      · replace H := H.2 (of_decide_eq_false b3)
        refine WC.exit (WX.then_exit (WX.then_exit (WX.block_same (WX.then_normal ?_))))
        refine WC.seq ?_
        refine WC.region ?_
        refine WL.y rfl (Yld.pure tab_ok rfl) ?_
        refine WL.y rfl (Yld.pure tab_ok rfl) ?_
        refine WL.nil (WX.then_normal ?_)
        refine WC.ret ?_
        exact WX.ret1 rfl rfl ⟨gr4, out, A_out, c_out, hs_out, (by rw [k23.1.symm]), k22, k23, H⟩

set_option maxHeartbeats 8000000 in
theorem W_smithyref_Among {w : World} {l : List Int} {A_l : Option Addr} {c_l : Nat} {n : Int} {n_l : Nat} {K : Bool → Prop} (hl : Rd vi w A_l c_l l) (hn_l : n_l = l.length) (H : M_smithyref_Among l n K) : Fn Tryz.prog 64 ⟨[.slice A_l n_l c_l, .int .i64 n]⟩ w (fun v w' => w = w' ∧ ∃ (r : Bool), v = .bool r ∧ K r) := by
  subst hn_l
  unfold M_smithyref_Among at H
  refine Fn.enter (by kernel_rfl) Tryz.func64 rfl Tryz.ntmps64 rfl ?_
  replace H := H (Nat.le_trans hl.cap hl.max)
  refine WC.seq ?_
  refine WC.region ?_
  refine WL.y rfl (Yld.pure tab_ok rfl) ?_
  refine WL.nil (WX.then_normal ?_)
  refine WC.seq ?_
  refine WC.seq ?_
  refine WC.region ?_
  refine WL.y rfl (Yld.pure tab_ok rfl) ?_
  refine WL.nil (WX.then_normal ?_)
  refine WC.block ?_
  obtain ⟨I1, mu1, h0_1, HR1⟩ := H
  refine WC.loopF (fun n' L' w' => ∃ (i : Int), n' = mu1 i ∧ L' = [(0, .slice A_l l.length c_l), (1, .int .i64 n), (5, .int .i64 i)] ∧ I1 i ∧ w = w') _ _ ⟨(0 : Int), rfl, rfl, h0_1, rfl⟩ (by repeat (first | exact Sub.nil | refine Sub.cons rfl ?_)) ?_
  clear h0_1
  rintro _ _ _ ⟨i, rfl, rfl, hI1, rfl⟩
  have H := HR1 i hI1
  refine WC.seq ?_
  refine WC.seq ?_
  refine WC.region ?_
  refine WL.y rfl (Yld.pure tab_ok rfl) ?_
  refine WL.y rfl (Yld.pure tab_ok rfl) ?_
  refine WL.y rfl (Yld.pure tab_ok rfl) ?_
  refine WL.y rfl (Yld.pure tab_ok rfl) ?_
  refine WL.nil (WX.then_normal ?_)
  refine WC.cond rfl (fun b1 => ?_) (fun b1 => ?_)
  · replace H := H.1 (of_decide_eq_true b1)
    refine WC.skip (WX.then_normal ?_)
    refine WC.seq ?_
    refine WC.block ?_
    refine WC.seq ?_
    refine WC.region ?_
    refine WL.y rfl (Yld.pure tab_ok rfl) ?_
    refine WL.y rfl (Yld.pure tab_ok rfl) ?_
    obtain ⟨h1, H⟩ := H
    refine WL.y rfl (Yld.iaddrW tab_ok hl rfl rfl rfl rfl h1.1 h1.2) ?_
    refine WL.y rfl (Yld.iload 0 tab_ok hl rfl rfl (iltN h1 rfl)) ?_
    refine WL.y rfl (Yld.pure tab_ok rfl) ?_
    refine WL.y rfl (Yld.pure tab_ok rfl) ?_
    refine WL.nil (WX.then_normal ?_)
    refine WC.cond rfl (fun b2 => ?_) (fun b2 => ?_)
    · replace H := H.1 (of_decide_eq_true b2)
      refine WC.seq ?_
      refine WC.region ?_
      refine WL.y rfl (Yld.pure tab_ok rfl) ?_
      refine WL.nil (WX.then_normal ?_)
      refine WC.ret (WX.block_ret (WX.then_ret (WX.then_ret (WX.block_ret (WX.then_ret ?_)))))
      exact WX.ret1 rfl rfl ⟨rfl, true, rfl, H⟩
    · replace H := H.2 (of_decide_eq_false b2)
      refine WC.skip (WX.block_normal (WX.then_normal ?_))
      refine WC.region ?_
      refine WL.y rfl (Yld.pure tab_ok rfl) ?_
      obtain ⟨h2, H⟩ := H
      refine WL.y rfl (Yld.add rfl rfl h2) ?_
      refine WL.y rfl (Yld.pure tab_ok rfl) ?_
      refine WL.nil ?_
      exact WX.roundF _ ⟨i + (1 : Int), rfl, rfl, H.1, rfl⟩ (by repeat (first | exact Sub.nil | refine Sub.cons rfl ?_)) H.2
  · replace H := H.2 (of_decide_eq_false b1)
    refine WC.exit (WX.then_exit (WX.then_exit (WX.block_same (WX.then_normal ?_))))
    refine WC.seq ?_
    refine WC.region ?_
    refine WL.y rfl (Yld.pure tab_ok rfl) ?_
    refine WL.nil (WX.then_normal ?_)
    refine WC.ret ?_
    exact WX.ret1 rfl rfl ⟨rfl, false, rfl, H⟩

set_option maxHeartbeats 8000000 in
theorem W_smithyworld_Actions {w : World} {l : List (Int × List (List UInt8) × List (List UInt8) × List UInt8)} {A_l : Option Addr} {c_l : Nat} {hs_l : List (Int × Hdr × Hdr × List UInt8)} {n_l : Nat} {K : Bool → Prop} (hl : RdK 4 encH94 w A_l c_l hs_l) (hn_l : n_l = l.length) (hr_l : RelD de94 w hs_l l) (H : M_smithyworld_Actions l K) : Fn Tryz.prog 39 ⟨[.slice A_l n_l c_l]⟩ w (fun v w' => w = w' ∧ ∃ (r : Bool), v = .bool r ∧ K r) := by
  subst hn_l
  unfold M_smithyworld_Actions at H
  refine Fn.enter (by kernel_rfl) Tryz.func39 rfl Tryz.ntmps39 rfl ?_
  replace H := H (by rw [← hr_l.1]; exact Nat.le_trans hl.cap hl.max)
  refine WC.seq ?_
  refine WC.region ?_
  refine WL.y rfl (Yld.pure tab_ok rfl) ?_
  refine WL.nil (WX.then_normal ?_)
  refine WC.seq ?_
  refine WC.seq ?_
  refine WC.region ?_
  refine WL.y rfl (Yld.pure tab_ok rfl) ?_
  refine WL.y rfl (Yld.pure tab_ok rfl) ?_
  refine WL.y rfl (Yld.pure tab_ok rfl) ?_
  refine WL.nil (WX.then_normal ?_)
  refine WC.cond rfl (fun b1 => ?_) (fun b1 => ?_)
  · replace H := H.1 (of_decide_eq_true b1)
    refine WC.seq ?_
    refine WC.region ?_
    refine WL.y rfl (Yld.pure tab_ok rfl) ?_
    refine WL.nil (WX.then_normal ?_)
    refine WC.ret (WX.then_ret ?_)
    exact WX.ret1 rfl rfl ⟨rfl, false, rfl, H⟩
  · replace H := H.2 (of_decide_eq_false b1)
    refine WC.skip (WX.then_normal ?_)
    refine WC.seq ?_
    refine WC.seq ?_
    refine WC.region ?_
    refine WL.y rfl (Yld.pure tab_ok rfl) ?_
    refine WL.nil (WX.then_normal ?_)
    refine WC.block ?_
    obtain ⟨I1, mu1, h0_1, HR1⟩ := H
    refine WC.loopF (fun n' L' w' => ∃ (i : Int), n' = mu1 i ∧ L' = [(0, .slice A_l l.length c_l), (3, .int .i64 i)] ∧ I1 i ∧ w = w') _ _ ⟨(0 : Int), rfl, rfl, h0_1, rfl⟩ (by repeat (first | exact Sub.nil | refine Sub.cons rfl ?_)) ?_
    clear h0_1
    rintro _ _ _ ⟨i, rfl, rfl, hI1, rfl⟩
    have H := HR1 i hI1
    refine WC.seq ?_
    refine WC.seq ?_
    refine WC.region ?_
    refine WL.y rfl (Yld.pure tab_ok rfl) ?_
    refine WL.y rfl (Yld.pure tab_ok rfl) ?_
    refine WL.y rfl (Yld.pure tab_ok rfl) ?_
    refine WL.y rfl (Yld.pure tab_ok rfl) ?_
    refine WL.nil (WX.then_normal ?_)
    refine WC.cond rfl (fun b2 => ?_) (fun b2 => ?_)
    · replace H := H.1 (of_decide_eq_true b2)
      refine WC.skip (WX.then_normal ?_)
      refine WC.seq ?_
      refine WC.block ?_
      refine WC.seq ?_
      refine WC.region ?_
      refine WL.y rfl (Yld.pure tab_ok rfl) ?_
      refine WL.y rfl (Yld.pure tab_ok rfl) ?_
      obtain ⟨h1, H⟩ := H
      refine WL.y rfl (Yld.iaddrK tab_ok hl rfl rfl hr_l.1.symm rfl h1.1 h1.2) ?_
      refine WL.y rfl (Yld.faddrK tab_ok hl (iltN h1 hr_l.1.symm) rfl rfl rfl) ?_
      obtain ⟨⟨f1, ⟨A_el, n1, c_el⟩, ⟨A_el2, n2, c_el2⟩, f2⟩, eh1, ⟨en1, ⟨en2, hR1⟩, ⟨en3, hR2⟩, en4⟩⟩ := RelD.at hr_l (0, hd0, hd0, []) (0, [], [], []) (j := i.toNat) (Nat.lt_of_lt_of_eq (iltN h1 hr_l.1.symm) hr_l.1)
      have en1 : f1 = (l.getD i.toNat (0, [], [], [])).1 := en1
      subst en1
      have en2 : n1 = ((l.getD i.toNat (0, [], [], [])).2.1).length := en2
      subst en2
      have en3 : n2 = ((l.getD i.toNat (0, [], [], [])).2.2.1).length := en3
      subst en3
      have en4 : f2 = (l.getD i.toNat (0, [], [], [])).2.2.2 := en4
      subst en4
      refine WL.y rfl (Yld.iloadF (v := .slice A_el (((l.getD i.toNat (0, [], [], [])).2.1).length) c_el) (0, hd0, hd0, []) tab_ok hl rfl rfl (iltN h1 hr_l.1.symm) (by rw [eh1]; rfl)) ?_
      refine WL.call rfl rfl (W_smithyworld_Texts hR1 rfl H) ?_
      rintro _ _ ⟨rfl, t18, rfl, H⟩
      refine WL.y rfl (Yld.pure tab_ok rfl) ?_
      refine WL.y rfl (Yld.pure tab_ok rfl) ?_
      obtain ⟨J1, H, hJ1⟩ := H
      refine WL.midF 8 (fun L' w' => ∃ q1 : Bool, L' = [(28, .bool q1), (0, .slice A_l l.length c_l), (3, .int .i64 i)] ∧ J1 q1 ∧ w = w') ?_ (fun hQ => ?_)
      · clear H
        rintro _ _ ⟨q1, rfl, H, rfl⟩
        replace H := hJ1 q1 H
        refine WL.y rfl (Yld.pure tab_ok rfl) ?_
        obtain ⟨h2, H⟩ := H
        refine WL.midF 8 (fun L' w' => ∃ q2 : Bool, L' = [(37, .bool q2), (0, .slice A_l l.length c_l), (3, .int .i64 i)] ∧ (q1 || (decide ((250 : Int) < (((l.getD i.toNat (0, [], [], [])).2.2.2).length : Int)))) = q2 ∧ w = w') ?_ (fun hQ => ?_)
        · rintro _ _ ⟨q2, rfl, rfl, rfl⟩
          refine WL.nil (WX.then_normal ?_)
          refine WC.cond rfl (fun b3 => ?_) (fun b3 => ?_)
          · replace H := H.1 (b3)
            refine WC.seq ?_
            refine WC.region ?_
            refine WL.y rfl (Yld.pure tab_ok rfl) ?_
            refine WL.nil (WX.then_normal ?_)
            refine WC.ret (WX.block_ret (WX.then_ret (WX.then_ret (WX.block_ret (WX.then_ret ?_)))))
            exact WX.ret1 rfl rfl ⟨rfl, false, rfl, H⟩
          · replace H := H.2 (b3)
            refine WC.skip (WX.block_normal (WX.then_normal ?_))
            refine WC.region ?_
            refine WL.y rfl (Yld.pure tab_ok rfl) ?_
            obtain ⟨h3, H⟩ := H
            refine WL.y rfl (Yld.add rfl rfl h3) ?_
            refine WL.y rfl (Yld.pure tab_ok rfl) ?_
            refine WL.nil ?_
            exact WX.roundF _ ⟨i + (1 : Int), rfl, rfl, H.1, rfl⟩ (by repeat (first | exact Sub.nil | refine Sub.cons rfl ?_)) H.2
        · clear H
          rcases Bool.eq_false_or_eq_true (q1) with b4 | b4
          · refine WL.gno rfl rfl (okb b4) rfl ?_
            refine WL.gno rfl rfl (okb b4) rfl ?_
            refine WL.gno rfl rfl (okb b4) rfl ?_
            refine WL.gno rfl rfl (okb b4) rfl ?_
            refine WL.gno rfl rfl (okb b4) rfl ?_
            refine WL.gno rfl rfl (okb b4) rfl ?_
            refine WL.gno rfl rfl (okb b4) rfl ?_
            refine WL.y rfl (Yld.pickT (okb b4) rfl) ?_
            exact WL.weaken (by repeat (first | exact Sub.nil | refine Sub.cons rfl ?_)) (hQ _ _ ⟨true, rfl, by rw [b4] <;> rfl, rfl⟩)
          · refine WL.gyes rfl rfl (okb b4) rfl (Yld.pure tab_ok rfl) ?_
            refine WL.gyes rfl rfl (okb b4) rfl (Yld.pure tab_ok rfl) ?_
            refine WL.gyes rfl rfl (okb b4) rfl (Yld.iaddrK tab_ok hl rfl rfl hr_l.1.symm rfl (h2 b4).1 (h2 b4).2) ?_
            refine WL.gyes rfl rfl (okb b4) rfl (Yld.faddrK tab_ok hl (iltN (h2 b4) hr_l.1.symm) rfl rfl rfl) ?_
            refine WL.gyes rfl rfl (okb b4) rfl (Yld.iloadF (v := vs ((l.getD i.toNat (0, [], [], [])).2.2.2)) (0, hd0, hd0, []) tab_ok hl rfl rfl (iltN (h2 b4) hr_l.1.symm) (by rw [eh1]; rfl)) ?_
            refine WL.gyes rfl rfl (okb b4) rfl (Yld.pure tab_ok rfl) ?_
            refine WL.gyes rfl rfl (okb b4) rfl (Yld.pure tab_ok rfl) ?_
            refine WL.y rfl (Yld.pickF (okb b4) rfl) ?_
            exact WL.weaken (by repeat (first | exact Sub.nil | refine Sub.cons rfl ?_)) (hQ _ _ ⟨decide ((250 : Int) < (((l.getD i.toNat (0, [], [], [])).2.2.2).length : Int)), rfl, by rw [b4] <;> rfl, rfl⟩)
      · clear hJ1
        rcases Bool.eq_false_or_eq_true (!t18) with b5 | b5
        · replace H := H.1 b5
          refine WL.gno rfl rfl (okb b5) rfl ?_
          refine WL.gno rfl rfl (okb b5) rfl ?_
          refine WL.gno rfl rfl (okb b5) rfl ?_
          refine WL.gno rfl rfl (okb b5) rfl ?_
          refine WL.gno rfl rfl (okb b5) rfl ?_
          refine WL.gno rfl rfl (okb b5) rfl ?_
          refine WL.gno rfl rfl (okb b5) rfl ?_
          refine WL.y rfl (Yld.pickT (okb b5) rfl) ?_
          exact WL.weaken (by repeat (first | exact Sub.nil | refine Sub.cons rfl ?_)) (hQ _ _ ⟨true, rfl, H, rfl⟩)
        · replace H := H.2 b5
          refine WL.gyes rfl rfl (okb b5) rfl (Yld.pure tab_ok rfl) ?_
          refine WL.gyes rfl rfl (okb b5) rfl (Yld.pure tab_ok rfl) ?_
          obtain ⟨h4, H⟩ := H
          refine WL.gyes rfl rfl (okb b5) rfl (Yld.iaddrK tab_ok hl rfl rfl hr_l.1.symm rfl h4.1 h4.2) ?_
          refine WL.gyes rfl rfl (okb b5) rfl (Yld.faddrK tab_ok hl (iltN h4 hr_l.1.symm) rfl rfl rfl) ?_
          refine WL.gyes rfl rfl (okb b5) rfl (Yld.iloadF (v := .slice A_el2 (((l.getD i.toNat (0, [], [], [])).2.2.1).length) c_el2) (0, hd0, hd0, []) tab_ok hl rfl rfl (iltN h4 hr_l.1.symm) (by rw [eh1]; rfl)) ?_
          refine WL.callw (wants_some rfl rfl (okb b5)) rfl rfl (W_smithyworld_Texts hR2 rfl H) ?_
          rintro _ _ ⟨rfl, t26, rfl, H⟩
          refine WL.gyes rfl rfl (okb b5) rfl (Yld.pure tab_ok rfl) ?_
          refine WL.y rfl (Yld.pickF (okb b5) rfl) ?_
          exact WL.weaken (by repeat (first | exact Sub.nil | refine Sub.cons rfl ?_)) (hQ _ _ ⟨!t26, rfl, H, rfl⟩)
    · replace H := H.2 (of_decide_eq_false b2)
      refine WC.exit (WX.then_exit (WX.then_exit (WX.block_same (WX.then_normal ?_))))
      refine WC.seq ?_
      refine WC.region ?_
      refine WL.y rfl (Yld.pure tab_ok rfl) ?_
      refine WL.nil (WX.then_normal ?_)
      refine WC.ret ?_
      exact WX.ret1 rfl rfl ⟨rfl, true, rfl, H⟩

end Go.Proofs.YtlonpmajnglmoaaGreatDoor

 /- Printed by a program (wip/vg): what the functions mean, plainly, and their walks. -/
namespace Go.Proofs.YtlonpmajnglmoaaGreatDoor
open Go Go.RowKit
attribute [local irreducible] WL WC WX WQ WK WJ Yld Eff Ef0 Fn
end Go.Proofs.YtlonpmajnglmoaaGreatDoor

 /- A graph of actions, plainly: the chapter's own words. -/
namespace Go.Proofs.YtlonpmajnglmoaaGreatDoor
open Go Go.RowKit
theorem amongI_M {l : List Int} {n : Int} {K : Bool → Prop} (hl : l.length ≤ 1000000000) (h : K (decide (n ∈ l))) : M_smithyref_Among l n K := by
  intro _
  refine ⟨fun i => 0 ≤ i ∧ i ≤ l.length ∧ ∀ j, j < i.toNat → l.getD j 0 ≠ n, fun i => l.length - i.toNat, ⟨by omega, by omega, by intro j hj; simp at hj⟩, fun i ⟨a0, a1, a2⟩ => ⟨fun hlt => ⟨⟨a0, hlt⟩, fun he => ?_, fun hne => ⟨by simp only [In]; omega, ⟨by omega, by omega, fun j hj => ?_⟩, by (try dsimp only); omega⟩⟩, fun hge => ?_⟩⟩
  · rwa [decide_eq_true (he ▸ getD_mem2 (by omega))] at h
  · by_cases e : j = i.toNat
    · rw [e]; exact hne
    · exact a2 j (by omega)
  · rwa [decide_eq_false fun hm => by
      obtain ⟨j, hj, he⟩ := List.getElem_of_mem hm
      exact a2 j (by omega) (by simp [List.getD, hj, he])] at h
/-! ### who writes what -/
def Dst (l : List GAct) : Prop := ∀ i j, i < l.length → j < l.length → (l.getD i az).2.2.2 = (l.getD j az).2.2.2 → i = j
theorem mkP_get {l : List GAct} (hd : Dst l) : ∀ {i : Nat}, i ≤ l.length → ∀ j, j < i → mget (mkP l i) (l.getD j az).2.2.2 = some (j : Int)
  | 0, _, j, hj => absurd hj (Nat.not_lt_zero _)
  | i + 1, hi, j, hj => by
    rw [mkP_succ, mget_mput]
    by_cases e : (l.getD i az).2.2.2 = (l.getD j az).2.2.2
    · rw [if_pos e, hd i j (by omega) (by omega) e]
    · rw [if_neg e]
      have hne : j ≠ i := fun h => e (by rw [h])
      exact mkP_get hd (by omega) j (by omega)
theorem fits_dst {l : List GAct} (h : ∀ j, j < l.length → fitsAt l j = .ok) : Dst l := by
  have key : ∀ i, i ≤ l.length → ∀ j k, j < i → k < i → (l.getD j az).2.2.2 = (l.getD k az).2.2.2 → j = k := by
    intro i
    induction i with
    | zero => intro _ j k hj; exact absurd hj (Nat.not_lt_zero _)
    | succ i ih =>
      intro hi j k hj hk e
      have hf := h i (by omega)
      have hnew : ∀ q, q < i → (l.getD q az).2.2.2 ≠ (l.getD i az).2.2.2 := fun q hq he => by
        have hdst : ∀ m, m ≤ i → q < m → mget (mkP l m) (l.getD q az).2.2.2 = some (q : Int) := by
          intro m
          induction m with
          | zero => intro _ h; exact absurd h (Nat.not_lt_zero _)
          | succ m ihm =>
            intro hm hqm
            rw [mkP_succ, mget_mput]
            by_cases e2 : (l.getD m az).2.2.2 = (l.getD q az).2.2.2
            · rw [if_pos e2, ih (by omega) m q (by omega) (by omega) e2]
            · rw [if_neg e2]
              have hne : q ≠ m := fun h => e2 (by rw [h])
              exact ihm (by omega) (by omega)
        have hg := hdst i (Nat.le_refl _) hq
        unfold fitsAt fitsP at hf
        rw [← he, hg] at hf
        split at hf
        · cases hf
        · split at hf
          · cases hf
          · rw [if_pos (show (some (q : Int)).isSome = true from rfl)] at hf; cases hf
      rcases Nat.lt_or_eq_of_le (Nat.le_of_lt_succ hj) with hj | hj <;> rcases Nat.lt_or_eq_of_le (Nat.le_of_lt_succ hk) with hk | hk
      · exact ih (by omega) j k hj hk e
      · subst hk; exact absurd e (hnew j hj)
      · subst hj; exact absurd e.symm (hnew k hk)
      · omega
  exact fun i j hi hj e => key l.length (Nat.le_refl _) i j hi hj e
end Go.Proofs.YtlonpmajnglmoaaGreatDoor


 /- A graph of actions, plainly: the chapter's reach, order, needs, sources; whether actions are a graph. -/
namespace Go.Proofs.YtlonpmajnglmoaaGreatDoor
open Go Go.RowKit
section
variable {l : List GAct}
theorem tot_bef {c : Nat} (hi : ∀ j, (l.getD j az).2.2.1.length ≤ c) (m : Nat) : tot (befL l l.length) m ≤ c * m := tot_le (fun j => by
  rw [befL_getD]
  split
  · exact Nat.le_trans (bsP_len l j) (hi j)
  · simp) m
theorem bef_in {j : Nat} {k : Int} (h : k ∈ (befL l l.length).getD j []) : 0 ≤ k ∧ k < (l.length : Int) := by
  rw [befL_getD] at h
  split at h
  · exact bsP_in h
  · cases h
/-- what was reached says its list -/
theorem ones_eq {met met' : List Bool} {n : Nat} (h : ∀ k, k < n → (met.getD k false = true ↔ met'.getD k false = true)) : onesN met n = onesN met' n := by
  unfold onesN
  congr 1
  refine List.filter_congr fun k hk => ?_
  rw [Bool.eq_iff_iff]
  exact h k (List.mem_range.1 hk)
theorem onesN_mem {met : List Bool} {n : Nat} {x : Int} : x ∈ onesN met n ↔ ∃ k : Nat, k < n ∧ x = (k : Int) ∧ met.getD k false = true := by
  unfold onesN
  rw [List.mem_map]
  constructor
  · rintro ⟨q, hq, rfl⟩
    rw [List.mem_filter, List.mem_range] at hq
    exact ⟨q, hq.1, rfl, hq.2⟩
  · rintro ⟨q, h1, rfl, h2⟩
    exact ⟨q, List.mem_filter.2 ⟨List.mem_range.2 h1, h2⟩, rfl⟩
end
end Go.Proofs.YtlonpmajnglmoaaGreatDoor


 /- A graph of actions, plainly: whether actions are one, by the program and by the chapter. -/
namespace Go.Proofs.YtlonpmajnglmoaaGreatDoor
open Go Go.RowKit
/-- what comes of actions -/
def GBad (l : List GAct) : Prop := 1000 < l.length ∨ l.any manyA = true
def GCy (l : List GAct) (i : Nat) : Prop := Rch (befL l l.length) (bsP l i) (i : Int)
def GRes (l : List GAct) (e : Er) : Prop :=
  (GBad l ∧ e = .e 9) ∨ (¬ GBad l ∧ ∃ (i n : Nat), i < l.length ∧ (∀ j, j < i → fitsAt l j = .ok) ∧ fitsAt l i = .e n ∧ e = .at_ (i : Int) n) ∨
  (¬ GBad l ∧ (∀ j, j < l.length → fitsAt l j = .ok) ∧ ∃ i : Nat, i < l.length ∧ (∀ j, j < i → ¬ GCy l j) ∧ GCy l i ∧ e = .at_ (i : Int) 4) ∨
  (¬ GBad l ∧ (∀ j, j < l.length → fitsAt l j = .ok) ∧ (∀ j, j < l.length → ¬ GCy l j) ∧ e = .ok)
theorem GRes.uniq {l : List GAct} {e e' : Er} (h : GRes l e) (h' : GRes l e') : e = e' := by
  rcases h with ⟨a, rfl⟩ | ⟨a, i, n, a1, a2, a3, rfl⟩ | ⟨a, a1, i, a2, a3, a4, rfl⟩ | ⟨a, a1, a2, rfl⟩ <;>
  rcases h' with ⟨b, rfl⟩ | ⟨b, i', n', b1, b2, b3, rfl⟩ | ⟨b, b1, i', b2, b3, b4, rfl⟩ | ⟨b, b1, b2, rfl⟩
  · rfl
  · exact absurd a b
  · exact absurd a b
  · exact absurd a b
  · exact absurd b a
  · rcases Nat.lt_trichotomy i i' with h | h | h
    · rw [b2 i h] at a3; cases a3
    · subst h; rw [a3] at b3; cases b3; rfl
    · rw [a2 i' h] at b3; cases b3
  · rw [b1 i a1] at a3; cases a3
  · rw [b1 i a1] at a3; cases a3
  · exact absurd b a
  · rw [a1 i' b1] at b3; cases b3
  · rcases Nat.lt_trichotomy i i' with h | h | h
    · exact absurd a4 (b3 i h)
    · subst h; rfl
    · exact absurd b4 (a3 i' h)
  · exact absurd a4 (b2 i a2)
  · exact absurd b a
  · rw [a1 i' b1] at b3; cases b3
  · exact absurd b4 (a2 i' b2)
  · rfl
structure GOk (l : List GAct) : Prop where
  len : l.length ≤ 1000
  dst : Dst l
  inp : ∀ j, (l.getD j az).2.2.1.length ≤ 1000
  arg : ∀ j, (l.getD j az).2.1.length ≤ 1000
  acy : AcyB (befL l l.length) l.length
theorem not_bad {l : List GAct} (h : ¬ GBad l) : l.length ≤ 1000 ∧ l.any manyA = false ∧ ∀ j, (l.getD j az).2.2.1.length ≤ 1000 ∧ (l.getD j az).2.1.length ≤ 1000 := by
  have h1 : l.length ≤ 1000 := Nat.le_of_not_lt fun h2 => h (.inl h2)
  have h2 : l.any manyA = false := by simpa using fun h3 => h (.inr h3)
  refine ⟨h1, h2, fun j => ?_⟩
  by_cases hj : j < l.length
  · have h3 := List.any_eq_false.1 h2 _ (getD_mem2 (d := az) hj)
    have h3 : manyA (l.getD j az) = false := by simpa using h3
    unfold manyA at h3
    rw [Bool.or_eq_false_iff, decide_eq_false_iff_not, decide_eq_false_iff_not] at h3
    omega
  · have : l.getD j az = az := by simp [List.getD, List.getElem?_eq_none (show l.length ≤ j by omega)]
    rw [this]; decide
theorem GRes.good {l : List GAct} (h : GRes l .ok) : GOk l := by
  rcases h with ⟨_, h⟩ | ⟨_, _, _, _, _, _, h⟩ | ⟨_, _, _, _, _, _, h⟩ | ⟨a, a1, a2, _⟩
  · cases h
  · cases h
  · cases h
  · obtain ⟨h1, h2, h3⟩ := not_bad a
    refine ⟨h1, fits_dst a1, fun j => (h3 j).1, fun j => (h3 j).2, fun j hj k hk => bef_in hk, fun j hj => ?_⟩
    have := a2 j hj
    unfold GCy at this
    rwa [befL_getD, if_pos hj]
theorem new_R {l : List GAct} {K0 : Er → Prop} {K : List GAct → MK → List (List Int) → List (List Int) → Er → Prop} (hl : l.length ≤ 1000000) (hsz : ∀ a ∈ l, (∀ s ∈ a.2.2.1, s.length ≤ 3999999999) ∧ a.2.2.2.length ≤ 3999999999)
    (h0 : ∀ e, GRes l e → e ≠ .ok → K0 e) (h1 : GRes l .ok → K l (mkP l l.length) (befL l l.length) (aftL l l.length) .ok) : M_graph_New l K0 K := by
  have nb : l.length ≤ 1000 → l.any manyA = false → ¬ GBad l := fun a b h => h.elim (fun h => by omega) (fun h => by rw [b] at h; cases h)
  refine new_M hl (fun a ha => ⟨fun s hs => Nat.le_trans ((hsz a ha).1 s hs) (by omega), Nat.le_trans (hsz a ha).2 (by omega)⟩) (fun h => h0 _ (.inl ⟨h, rfl⟩) (by simp)) (fun a b i n hi hj he => ?_) (fun a b hf i hi hj hc => ?_) (fun a b hf hc => ?_)
  · exact h0 _ (.inr (.inl ⟨nb a b, i, n, hi, hj, he, rfl⟩)) (by simp)
  · exact h0 _ (.inr (.inr (.inl ⟨nb a b, hf, i, hi, hj, hc, rfl⟩))) (by simp)
  · exact h1 (.inr (.inr (.inr ⟨nb a b, hf, hc, rfl⟩)))
end Go.Proofs.YtlonpmajnglmoaaGreatDoor


 /- Actions in a row, and in a ring, plainly. -/
namespace Go.Proofs.YtlonpmajnglmoaaGreatDoor
open Go Go.RowKit
structure NOk (nm : Nat → List UInt8) (ex : TL) (N : Nat) : Prop where
  inj : ∀ i, i < N → ∀ j, j < N → nm i = nm j → i = j
  val : ∀ i, i < N → validB (nm i) = true
  len : ∀ i, i < N → (nm i).length ≤ 10
  exv : ∀ s ∈ ex, validB s = true
  exs : ∀ s ∈ ex, s.length ≤ 10
  exn : ∀ s ∈ ex, ∀ i, i < N → nm i ≠ s
  exl : ex.length ≤ 10
def ci (nm : Nat → List UInt8) (ex : TL) (i : Nat) : TL := if i = 0 then [] else nm (i - 1) :: ex
/-- so many actions in a row; the one at b hangs on the last one, too -/
def rg (nm : Nat → List UInt8) (ex : TL) (n : Nat) (b : Option Nat) : List GAct := (List.range n).map fun i => (1, [], ci nm ex i ++ (if some i = b then [nm (n - 1)] else []), nm i)
section
variable {nm : Nat → List UInt8} {ex : TL} {N n : Nat} {b : Option Nat}
theorem rg_len : (rg nm ex n b).length = n := by unfold rg; rw [List.length_map, List.length_range]
theorem rg_at {i : Nat} (h : i < n) : (rg nm ex n b).getD i az = (1, [], ci nm ex i ++ (if some i = b then [nm (n - 1)] else []), nm i) := by
  unfold rg; rw [rng_getD h]
theorem rg_inp {i : Nat} {s : List UInt8} (hi : i < n) (h : s ∈ ci nm ex i ++ (if some i = b then [nm (n - 1)] else [])) : (∃ j, j < n ∧ s = nm j) ∨ s ∈ ex := by
  rcases List.mem_append.1 h with h | h
  · unfold ci at h
    split at h
    · simp at h
    · rcases List.mem_cons.1 h with h | h
      · exact .inl ⟨i - 1, by omega, h⟩
      · exact .inr h
  · split at h
    · exact .inl ⟨n - 1, by omega, List.mem_singleton.1 h⟩
    · simp at h
theorem rg_inl {i : Nat} (ok : NOk nm ex N) : (ci nm ex i ++ (if some i = b then [nm (n - 1)] else [])).length ≤ 12 := by
  have := ok.exl
  rw [List.length_append]
  unfold ci
  split <;> split <;> simp <;> omega
theorem rg_mget (ok : NOk nm ex N) (hn : n ≤ N) {i : Nat} (hi : i ≤ n) {s : List UInt8} {v : Int} (h : mget (mkP (rg nm ex n b) i) s = some v) : ∃ j, j < i ∧ v = (j : Int) ∧ nm j = s := by
  obtain ⟨j, h1, h2, h3⟩ := mkP_val h
  rw [rg_at (by omega)] at h3
  exact ⟨j, h1, h2, h3⟩
theorem rg_get (ok : NOk nm ex N) (hn : n ≤ N) : ∀ {i : Nat}, i ≤ n → ∀ j, j < i → mget (mkP (rg nm ex n b) i) (nm j) = some (j : Int)
  | 0, _, j, hj => by omega
  | i + 1, hi, j, hj => by
    rw [mkP_succ, mget_mput, rg_at (by omega)]
    by_cases e : i = j
    · subst e; rw [if_pos rfl]
    · rw [if_neg (fun h => e (ok.inj _ (by omega) _ (by omega) h))]
      exact rg_get ok hn (by omega) j (by omega)
theorem rg_fits (ok : NOk nm ex N) (hn : n ≤ N) {i : Nat} (hi : i < n) : fitsAt (rg nm ex n b) i = .ok := by
  unfold fitsAt fitsP
  rw [rg_at hi]
  have h1 : inval (ci nm ex i ++ (if some i = b then [nm (n - 1)] else [])) = false := by
    unfold inval
    rw [List.any_eq_false]
    intro s hs
    rcases rg_inp hi hs with ⟨j, hj, rfl⟩ | hs
    · simp [ok.val j (by omega)]
    · simp [ok.exv s hs]
  have h2 : mget (mkP (rg nm ex n b) i) (nm i) = none := by
    cases h : mget (mkP (rg nm ex n b) i) (nm i) with
    | none => rfl
    | some v =>
      obtain ⟨j, g1, _, g3⟩ := rg_mget ok hn (by omega) h
      have := ok.inj _ (by omega) _ (by omega) g3
      omega
  rw [if_neg (by dsimp only; omega), if_neg (by
    dsimp only
    rw [ok.val i (by omega), h1]; simp), if_neg (by
    dsimp only
    rw [h2]; simp)]
theorem rg_many (ok : NOk nm ex N) : (rg nm ex n b).any manyA = false := by
  rw [List.any_eq_false]
  intro a ha
  obtain ⟨i, _, rfl⟩ := List.mem_map.1 ha
  have := rg_inl (i := i) (b := b) (n := n) ok
  unfold manyA
  dsimp only
  rw [decide_eq_false (by omega), decide_eq_false (by simp)]
  simp
theorem rg_bs (ok : NOk nm ex N) (hn : n ≤ N) {i : Nat} (hi : i < n) {k : Int} : k ∈ bsP (rg nm ex n b) i ↔ (0 < i ∧ k = (i : Int) - 1) ∨ (some i = b ∧ k = (n : Int) - 1) := by
  rw [bsP_mem, rg_at hi, rg_len]
  dsimp only
  constructor
  · rintro ⟨s, hs, hk⟩
    obtain ⟨j, g1, g2, g3⟩ := rg_mget ok hn (Nat.le_refl _) hk
    rcases List.mem_append.1 hs with hs | hs
    · unfold ci at hs
      split at hs
      · simp at hs
      · rcases List.mem_cons.1 hs with hs | hs
        · left
          rw [hs] at g3
          have := ok.inj _ (by omega) _ (by omega) g3
          omega
        · exact absurd g3 (ok.exn s hs _ (by omega))
    · split at hs
      · right
        rw [List.mem_singleton.1 hs] at g3
        have := ok.inj _ (by omega) _ (by omega) g3
        exact ⟨by assumption, by omega⟩
      · simp at hs
  · rintro (⟨h0, rfl⟩ | ⟨hb, rfl⟩)
    · refine ⟨nm (i - 1), List.mem_append_left _ ?_, ?_⟩
      · unfold ci; rw [if_neg (by omega)]; exact List.mem_cons_self
      · rw [rg_get ok hn (Nat.le_refl _) (i - 1) (by omega)]
        congr 1; omega
    · refine ⟨nm (n - 1), List.mem_append_right _ (by rw [if_pos hb]; simp), ?_⟩
      rw [rg_get ok hn (Nat.le_refl _) (n - 1) (by omega)]
      congr 1; omega
theorem rg_bef (ok : NOk nm ex N) (hn : n ≤ N) {i : Nat} {k : Int} (h : k ∈ (befL (rg nm ex n b) n).getD i []) : i < n ∧ ((0 < i ∧ k = (i : Int) - 1) ∨ (some i = b ∧ k = (n : Int) - 1)) := by
  rw [befL_getD] at h
  split at h
  · rename_i hi; exact ⟨hi, (rg_bs ok hn hi).1 h⟩
  · simp at h
/-- ahead of b all that is reached lies ahead -/
theorem rg_low (ok : NOk nm ex N) (hn : n ≤ N) {m : Nat} (hm : ∀ i, i < m → some i ≠ b) {fr : List Int} (hf : ∀ f ∈ fr, 0 ≤ f ∧ f < (m : Int)) {x : Int} (h : Rch (befL (rg nm ex n b) n) fr x) : 0 ≤ x ∧ x < (m : Int) := by
  induction h with
  | base h => exact hf _ h
  | step _ hk ih =>
    obtain ⟨_, h1 | h1⟩ := rg_bef ok hn hk
    · omega
    · exact absurd h1.1 (hm _ (by omega))
theorem rg_down (ok : NOk nm ex N) (hn : n ≤ N) {fr : List Int} : ∀ (d y : Nat), y + d < n → Rch (befL (rg nm ex n b) n) fr ((y + d : Nat) : Int) → Rch (befL (rg nm ex n b) n) fr (y : Int)
  | 0, _, _, h => h
  | d + 1, y, hd, h => rg_down ok hn d y (by omega) (.step h (by
      rw [Int.toNat_natCast, befL_getD, if_pos hd, rg_bs ok hn hd]
      exact .inl ⟨by omega, by omega⟩))
theorem rg_acyc (ok : NOk nm ex N) (hn : n ≤ N) {j : Nat} (hj : j < n) (hm : ∀ i, i ≤ j → some i ≠ b) : ¬ Rch (befL (rg nm ex n b) n) (bsP (rg nm ex n b) j) (j : Int) := fun h => by
  have := rg_low ok hn (m := j) (fun i hi => hm i (by omega)) (fun f hf => by
    rcases (rg_bs ok hn hj).1 hf with h1 | h1
    · omega
    · exact absurd h1.1 (hm j (Nat.le_refl _))) h
  omega
theorem rg_sz (ok : NOk nm ex N) (hn : n ≤ N) : ∀ a ∈ rg nm ex n b, (∀ s ∈ a.2.2.1, s.length ≤ 4000000000) ∧ a.2.2.2.length ≤ 4000000000 := fun a ha => by
  obtain ⟨i, hi, rfl⟩ := List.mem_map.1 ha
  have hi := List.mem_range.1 hi
  have h1 := ok.len i (by omega)
  refine ⟨fun s hs => ?_, by dsimp only; omega⟩
  rcases rg_inp hi hs with ⟨j, hj, rfl⟩ | hs
  · have := ok.len j (by omega); omega
  · have := ok.exs s hs; omega
/-- a row is a graph -/
theorem row_M (ok : NOk nm ex N) (hn : n ≤ N) (hN : N ≤ 100) {K0 : Er → Prop} {K : List GAct → MK → List (List Int) → List (List Int) → Er → Prop} (h : K (rg nm ex n none) (mkP (rg nm ex n none) n) (befL (rg nm ex n none) n) (aftL (rg nm ex n none) n) .ok) : M_graph_New (rg nm ex n none) K0 K := by
  have hl := rg_len (nm := nm) (ex := ex) (n := n) (b := none)
  refine new_M (by omega) (rg_sz ok hn) (fun hm => ?_) (fun _ _ i m hi _ hf => ?_) (fun _ _ _ i hi _ hc => ?_) (fun _ _ _ _ => ?_)
  · rcases hm with hm | hm
    · omega
    · rw [rg_many ok] at hm; cases hm
  · rw [rg_fits ok hn (by omega)] at hf; cases hf
  · rw [hl] at hc
    exact absurd hc (rg_acyc ok hn (by omega) (fun i _ => by simp))
  · rw [hl]; exact h
/-! ### what a row answers -/
theorem row_bs (ok : NOk nm ex N) (hn : n ≤ N) {i : Nat} (hi : i < n) : bsP (rg nm ex n none) i = if i = 0 then [] else [(i : Int) - 1] := by
  refine strictG_uniq ltI_T (uniqG_strict ltI_T _) ?_ fun x => ?_
  · split
    · exact List.Pairwise.nil
    · exact List.pairwise_singleton _ _
  · show x ∈ bsP (rg nm ex n none) i ↔ _
    rw [rg_bs ok hn hi]
    split
    · rename_i h; simp; omega
    · rename_i h
      simp
      omega
theorem row_aft (ok : NOk nm ex N) (hn : n ≤ N) {k : Nat} : ∀ i, i ≤ n → aftK (rg nm ex n none) i k = if k + 1 < i then [(k : Int) + 1] else []
  | 0, _ => by rw [if_neg (by omega)]; rfl
  | i + 1, hi => by
    rw [aftK_succ, row_aft ok hn i (by omega), row_bs ok hn (by omega)]
    by_cases e : k + 1 = i
    · have h1 : ¬ k + 1 < i := by omega
      have h2 : k + 1 < i + 1 := by omega
      have h3 : (k : Int) ∈ (if i = 0 then [] else [(i : Int) - 1]) := by
        rw [if_neg (by omega)]; simp; omega
      rw [if_neg h1, if_pos h2, if_pos h3, List.nil_append]
      congr 1; omega
    · have h3 : ¬ (k : Int) ∈ (if i = 0 then [] else [(i : Int) - 1]) := by
        split
        · simp
        · simp; omega
      rw [if_neg h3, List.append_nil]
      by_cases h1 : k + 1 < i
      · have h2 : k + 1 < i + 1 := by omega
        rw [if_pos h1, if_pos h2]
      · have h2 : ¬ k + 1 < i + 1 := by omega
        rw [if_neg h1, if_neg h2]
theorem row_tot (ok : NOk nm ex N) (hn : n ≤ N) : tot (befL (rg nm ex n none) n) n ≤ 1 * n := tot_le (fun j => by
  rw [befL_getD]
  split
  · rw [row_bs ok hn (by assumption)]; split <;> simp
  · simp) _
theorem onesN_upto {met : List Bool} {m : Nat} : ∀ {n : Nat}, (∀ k, k < n → (met.getD k false = true ↔ k < m)) → onesN met n = (List.range (min m n)).map fun (k : Nat) => (k : Int)
  | 0, _ => by simp [onesN]
  | n + 1, h => by
    rw [onesN_succ, onesN_upto fun k hk => h k (by omega)]
    have hk := h n (by omega)
    by_cases hm : n < m
    · rw [if_pos (hk.2 hm), show min m n = n by omega, show min m (n + 1) = n + 1 by omega, List.range_succ, List.map_append]; rfl
    · rw [if_neg (fun e => hm (hk.1 e)), List.append_nil, show min m n = m by omega, show min m (n + 1) = m by omega]
theorem row_needs (ok : NOk nm ex N) (hn : n ≤ N) (hN : N ≤ 100) {k : Nat} (hk : k < n) {aft : List (List Int)} {K : List Int → Prop} (h : K ((List.range (k + 1)).map fun (j : Nat) => (j : Int))) : M_pgraph_Graph_Needs (rg nm ex n none) (mkP (rg nm ex n none) n) (befL (rg nm ex n none) n) aft [nm k] K := by
  have hl := rg_len (nm := nm) (ex := ex) (n := n) (b := none)
  have ht := row_tot (nm := nm) (ex := ex) ok hn
  have hfm : [nm k].filterMap (mget (mkP (rg nm ex n none) n)) = [(k : Int)] := by
    rw [List.filterMap_cons, rg_get ok hn (Nat.le_refl _) k hk]; rfl
  have hkl := ok.len k (by omega)
  refine needs_M (by omega) (by unfold befL; rw [List.length_map, List.length_range, hl]) (fun j _ x hx => ?_) (by simp) (fun s hs => ?_) (fun s v hv => ?_) (by rw [hl]; omega) fun met m1 m2 => ?_
  · obtain ⟨h1, h2 | h2⟩ := rg_bef ok hn hx
    · omega
    · cases h2.1
  · rw [List.mem_singleton.1 hs]; omega
  · obtain ⟨j, h1, h2, _⟩ := rg_mget ok hn (Nat.le_refl _) hv
    omega
  · rw [hl, hfm] at m2
    rw [hl]
    rw [onesN_upto (m := k + 1) fun j hj => ?_, show min (k + 1) n = k + 1 by omega]
    · exact h
    · rw [m2 j hj]
      constructor
      · intro hR
        have := rg_low ok hn (m := k + 1) (fun i _ => by simp) (fun f hf => by rw [List.mem_singleton.1 hf]; omega) hR
        omega
      · intro hj2
        refine rg_down ok hn (k - j) j (by omega) (.base ?_)
        rw [show j + (k - j) = k by omega]
        exact List.mem_singleton.2 rfl
theorem row_order (ok : NOk nm ex N) (hn : n ≤ N) (hN : N ≤ 100) {mk : MK} {K : List Int → Prop} (h : K ((List.range n).map fun (j : Nat) => (j : Int))) : M_pgraph_Graph_Order (rg nm ex n none) mk (befL (rg nm ex n none) n) (aftL (rg nm ex n none) n) K := by
  have hl := rg_len (nm := nm) (ex := ex) (n := n) (b := none)
  have hbl : (befL (rg nm ex n none) n).length = n := by unfold befL; rw [List.length_map, List.length_range]
  have hal : (aftL (rg nm ex n none) n).length = n := by unfold aftL; rw [List.length_map, List.length_range, hl]
  have hnn : ((n : Nat) : Int).toNat = n := by omega
  intro _ _ _
  rw [hl, hnn]
  refine ⟨⟨by omega, by omega, by omega⟩, fun t left => 0 ≤ t ∧ t ≤ n ∧ left = (List.range n).map fun j => if j < t.toNat then (if j = 0 then (0 : Int) else 1) else 0, fun t _ => n - t.toNat, ⟨by omega, by omega, ?_⟩, fun t left ⟨a0, a1, a2⟩ _ => ⟨fun hlt => ?_, fun hge => ?_⟩⟩
  · refine List.ext_getElem (by simp) fun k h1 h2 => ?_
    simp
  · have ht : t.toNat < n := by omega
    refine ⟨⟨a0, by omega⟩, ⟨a0, by omega⟩, by simp only [In]; omega, ⟨by omega, by omega, ?_⟩, by (try dsimp only); omega⟩
    rw [befL_getD, if_pos ht, row_bs ok hn ht, a2, rng_set]
    refine List.map_congr_left fun k _ => ?_
    by_cases e : t.toNat = k
    · subst e
      have h2 : t.toNat < (t + 1).toNat := by omega
      rw [if_pos rfl, if_pos h2]
      by_cases h0 : t.toNat = 0
      · rw [if_pos h0, if_pos h0]; rfl
      · rw [if_neg h0, if_neg h0]; rfl
    · rw [if_neg e]
      by_cases h1 : k < t.toNat
      · have h2 : k < (t + 1).toNat := by omega
        rw [if_pos h1, if_pos h2]
      · have h2 : ¬ k < (t + 1).toNat := by omega
        rw [if_neg h1, if_neg h2]
  · have ht : t.toNat = n := by omega
    refine ⟨fun out t left => 0 ≤ t ∧ t ≤ n ∧ out = (List.range t.toNat).map (fun (j : Nat) => (j : Int)) ∧ left = (List.range n).map fun j => if j < t.toNat then (-1 : Int) else if j = t.toNat then 0 else 1, fun _ t _ => n - t.toNat, ⟨by omega, by omega, rfl, ?_⟩, fun out t left ⟨b0, b1, b2, b3⟩ _ => ⟨fun hlt => ?_, fun hge2 => ?_⟩⟩
    · rw [a2, ht]
      refine List.map_congr_left fun k hk => ?_
      have := List.mem_range.1 hk
      rw [if_pos this]
      simp
    · have ht2 : t.toNat < n := by omega
      have htt : (t.toNat : Int) = t := by omega
      have hll : left.length = n := by rw [b3, List.length_map, List.length_range]
      have hA : (aftL (rg nm ex n none) n).getD t.toNat [] = if t.toNat + 1 < n then [(t.toNat : Int) + 1] else [] := by
        unfold aftL
        rw [hl, rng_getD ht2, row_aft ok hn n (Nat.le_refl _)]
      refine index_M (i := t.toNat) (by omega) (by omega) (by rw [b3, rng_getD ht2, if_neg (by omega), if_pos rfl]) (fun j hj => by rw [b3, rng_getD (by omega), if_pos hj]; decide) ?_
      rw [Int.toNat_natCast, hA]
      refine ⟨⟨by omega, by omega⟩, by rw [b2, List.length_map, List.length_range, List.length_singleton]; omega, ⟨by omega, by omega⟩, fun q left3 => 0 ≤ q ∧ q ≤ (if t.toNat + 1 < n then [(t.toNat : Int) + 1] else []).length ∧ left3 = (List.range n).map fun j => if j < t.toNat + 1 then (-1 : Int) else if j = t.toNat + 1 then (if q = 0 then 1 else 0) else 1, fun q _ => (if t.toNat + 1 < n then [(t.toNat : Int) + 1] else []).length - q.toNat, ⟨by omega, by omega, ?_⟩, fun q left3 ⟨c0, c1, c2⟩ _ => ⟨fun hlt3 => ?_, fun hge3 => ?_⟩⟩
      · rw [b3, rng_set]
        refine List.map_congr_left fun k _ => ?_
        by_cases e : t.toNat = k
        · subst e
          rw [if_pos rfl, if_pos (by omega)]
        · rw [if_neg e]
          by_cases h1 : k < t.toNat
          · have h2 : k < t.toNat + 1 := by omega
            rw [if_pos h1, if_pos h2]
          · have h2 : ¬ k < t.toNat + 1 := by omega
            have h3 : ¬ k = t.toNat := by omega
            rw [if_neg h1, if_neg h2, if_neg h3]
            simp
      · by_cases hh : t.toNat + 1 < n
        · rw [if_pos hh] at c1 hlt3 ⊢
          obtain rfl : q = 0 := by simp at hlt3; omega
          have hg : left3.getD (t.toNat + 1) 0 = 1 := by
            rw [c2, rng_getD hh, if_neg (by omega), if_pos rfl, if_pos rfl]
          have he : ([(t.toNat : Int) + 1] : List Int).getD (0 : Int).toNat 0 = (t.toNat : Int) + 1 := rfl
          have hx : ((t.toNat : Int) + 1).toNat = t.toNat + 1 := by omega
          rw [he, hx, hg]
          refine ⟨⟨by omega, hlt3⟩, ⟨by omega, by omega⟩, by simp only [In]; omega, ⟨by omega, by omega⟩, by simp only [In]; omega, ⟨by omega, by simp, ?_⟩, by simp⟩
          rw [c2, rng_set]
          refine List.map_congr_left fun k _ => ?_
          by_cases e : t.toNat + 1 = k
          · subst e
            rw [if_pos rfl, if_neg (by omega), if_pos rfl]; rfl
          · rw [if_neg e]
            by_cases h1 : k < t.toNat + 1
            · rw [if_pos h1, if_pos h1]
            · have h3 : ¬ k = t.toNat + 1 := fun e2 => e e2.symm
              rw [if_neg h1, if_neg h1, if_neg h3, if_neg h3]
        · rw [if_neg hh] at hlt3
          simp at hlt3
          omega
      · refine ⟨by simp only [In]; omega, ⟨by omega, by omega, ?_, ?_⟩, by (try dsimp only); omega⟩
        · rw [show (t + 1).toNat = t.toNat + 1 by omega, List.range_succ, List.map_append, b2]
          rfl
        · rw [c2]
          refine List.map_congr_left fun k hk => ?_
          have hkn := List.mem_range.1 hk
          have h1 : (k < (t + 1).toNat) = (k < t.toNat + 1) := by rw [show (t + 1).toNat = t.toNat + 1 by omega]
          have h2 : (k = (t + 1).toNat) = (k = t.toNat + 1) := by rw [show (t + 1).toNat = t.toNat + 1 by omega]
          simp only [h1, h2]
          by_cases e : k = t.toNat + 1
          · have hh : t.toNat + 1 < n := by omega
            rw [if_pos hh] at c1 hge3
            have hq : ¬ q = 0 := fun hq => by rw [hq] at hge3; simp at hge3
            rw [if_pos e, if_pos e, if_neg hq]
          · rw [if_neg e, if_neg e]
    · have ht2 : t.toNat = n := by omega
      rw [ht2] at b2
      rw [b2]; exact h
end
end Go.Proofs.YtlonpmajnglmoaaGreatDoor


 /- Regions some of whose operations may come in several orders: the floats once, the others order by order, what stands behind once. -/
namespace Go.Proofs.YtlonpmajnglmoaaGreatDoor
open Go Go.RowKit
section
variable {P : Program} {N : Nat} {ops : Array Oper} {fl : Nat → Bool} {D : World → Prop} {n g : Nat} {K : Act → World → Prop} {Q : Post} {L : Slots} {w : World} {f : Nat} {listed : Array Bool} {d : Nat} {op : Op} {ty : TypeId} {pos : String} {af : Array Edge} {gd : Option (Nat × Bool)}
structure HeadOk (ops : Array Oper) (n : Nat) : Prop where
  sel : Region.noSelect ops = true
  sink : Region.sinkB .any ops n = true
  chain : Region.chainB .any ops n = true
  lt : n < ops.size
def WA (P : Program) (N : Nat) (ops : Array Oper) (fl : Nat → Bool) (D : World → Prop) (n g : Nat) (K : Act → World → Prop) (f : Nat) (listed : Array Bool) (L : Slots) (w : World) : Prop :=
  HeadOk ops n → HeadInv .any ops n listed → ∀ a w1, Eqv w w1 → D w1 → Has N L a → anyT P .any ops fl D n (fun l' a' w' => Region.seqB .any ops g n l' = true ∧ K a' w') f listed a w1
def WI (P : Program) (N : Nat) (ops : Array Oper) (fl : Nat → Bool) (D : World → Prop) (n g : Nat) (K : Act → World → Prop) (f : Nat) (listed : Array Bool) (L : Slots) (w : World) (i : Nat) : Prop :=
  HeadOk ops n → HeadInv .any ops n (listed.setIfInBounds i true) → ∀ a w1, Eqv w w1 → D w1 → Has N L a → ∃ o, ops[i]? = some o ∧ fl i = false ∧ sRun P ops D o a w1 fun a' w' => anyT P .any ops fl D n (fun l' a' w' => Region.seqB .any ops g n l' = true ∧ K a' w') f (listed.setIfInBounds i true) a' w'
theorem WA.y {v : Value} (k : Nat) (ho : ops[k]? = some ⟨some d, op, ty, pos, af, none⟩) (hf : (fl k && ((Region.ready .any ops listed).contains k && (Region.free .any ops listed k && Nat.blt k n))) = true) (hd : Nat.blt d N = true) (hy : ∀ w', D w' → Yld P N w' ⟨some d, op, ty, pos, af, none⟩ L v)
    (h : WA P N ops fl D n g K f (listed.setIfInBounds k true) ((d, v) :: L) w) : WA P N ops fl D n g K (f + 1) listed L w := fun ok inv a w1 e hw ha => by
  simp only [Bool.and_eq_true] at hf
  obtain ⟨hfl, hr, hfr, hkn⟩ := hf
  have hr' : k ∈ Region.ready .any ops listed := by simpa using hr
  have hkn' : k < n := by simpa [Nat.blt_eq] using hkn
  exact float_firstT ho hfl (Region.noSelect_spec ok.sel) ok.sink ok.chain ok.lt hkn' (fun _ _ _ hL => seqB_ready hL.1) f listed a w1 hw inv (Region.free_spec ho hfr) hr'
    (.inl ⟨by simp [Region.wanted], fun w' hw' => hy w' hw' a w' (Eqv.refl _) ha⟩) (h ok (inv.set hr' hkn') _ _ e hw (ha.put hd v))
def AllL {α : Type} (p : α → Prop) : List α → Prop
  | [] => True
  | [x] => p x
  | x :: y :: l => p x ∧ AllL p (y :: l)
theorem AllL.mem {α : Type} {p : α → Prop} : ∀ {l : List α}, AllL p l → ∀ x ∈ l, p x
  | [], _, x, h => by simp at h
  | [y], h, x, hx => by simp at hx; subst hx; exact h
  | y :: z :: l, h, x, hx => by
    rcases List.mem_cons.1 hx with rfl | hx
    · exact h.1
    · exact AllL.mem h.2 x hx
theorem WA.split (is : List Nat) (hr : Region.ready .any ops listed = is) (hc : (!is.isEmpty && is.all fun i => Nat.blt i n) = true) (h : AllL (WI P N ops fl D n g K f listed L w) is) : WA P N ops fl D n g K (f + 1) listed L w := fun ok inv a w1 e hw ha => by
  simp only [Bool.and_eq_true] at hc
  refine ⟨fun h0 => ?_, fun i hi => ?_⟩
  · rw [hr] at h0; subst h0; simp at hc
  · have hi' := hi
    rw [hr] at hi'
    have hin : i < n := by have := List.all_eq_true.1 hc.2 i hi'; simpa [Nat.blt_eq] using this
    obtain ⟨o, ho, hfl, hs⟩ := h.mem i hi' ok (inv.set hi hin) a w1 e hw ha
    exact ⟨hin, o, ho, .inr ⟨hfl, hs⟩⟩
theorem WI.put {i : Nat} {R : Value → World → Prop} (ho : ops[i]? = some ⟨some d, op, ty, pos, af, none⟩) (hf : fl i = false) (hd : Nat.blt d N = true) (hr : Eff P N w ⟨some d, op, ty, pos, af, none⟩ L R) (hD : ∀ v w', R v w' → D w')
    (hk : ∀ v w', R v w' → WA P N ops fl D n g K f (listed.setIfInBounds i true) ((d, v) :: L) w') : WI P N ops fl D n g K f listed L w i := fun ok inv a w1 e hw ha => by
  refine ⟨_, ho, hf, ?_⟩
  unfold sRun
  rw [if_pos (by simp [Region.wanted])]
  obtain ⟨v, w', h, hR⟩ := hr a w1 e ha
  rw [h]
  exact ⟨hD v w' hR, hk v w' hR ok inv _ w' (Eqv.refl _) (hD v w' hR) (ha.put hd v)⟩
theorem WI.eff {i : Nat} {R : World → Prop} (ho : ops[i]? = some ⟨none, op, ty, pos, af, none⟩) (hf : fl i = false) (hr : Ef0 P N w ⟨none, op, ty, pos, af, none⟩ L R) (hD : ∀ w', R w' → D w')
    (hk : ∀ w', R w' → WA P N ops fl D n g K f (listed.setIfInBounds i true) L w') : WI P N ops fl D n g K f listed L w i := fun ok inv a w1 e hw ha => by
  refine ⟨_, ho, hf, ?_⟩
  unfold sRun
  rw [if_pos (by simp [Region.wanted])]
  obtain ⟨w', h, hR⟩ := hr a w1 e ha
  rw [h]
  exact ⟨hD w' hR, hk w' hR ok inv _ w' (Eqv.refl _) (hD w' hR) ha⟩
theorem WI.call {i : Nat} {R : Value → World → Prop} {fn : FuncId} {as_ : List Operand} {ts : Array TypeId} {vs : List Value} (ho : ops[i]? = some ⟨some d, .call ⟨.value (.func fn), ⟨as_⟩, ts⟩, ty, pos, af, gd⟩) (hf : fl i = false) (hg : Wants N ops L gd) (hd : Nat.blt d N = true) (hv : opvs L as_ = some vs) (hc : Fn P fn ⟨vs⟩ w R) (hD : ∀ v w', R v w' → ∀ w2, Eqv w' w2 → D w2)
    (hk : ∀ v w', R v w' → WA P N ops fl D n g K f (listed.setIfInBounds i true) ((d, v) :: L) w') : WI P N ops fl D n g K f listed L w i := fun ok inv a w1 e hw ha => by
  refine ⟨_, ho, hf, ?_⟩
  unfold sRun
  rw [if_pos (Wants.wanted (o := ⟨some d, .call ⟨.value (.func fn), ⟨as_⟩, ts⟩, ty, pos, af, gd⟩) hg ha), run_enter ha hv hc.1]
  refine (hc.2 w1 e).mono ?_
  rintro en w' ⟨v, w0, rfl, h0, hR⟩
  exact ⟨v, rfl, hD v w0 hR w' h0, hk v w0 hR ok inv _ w' h0 (hD v w0 hR w' h0) (ha.put hd v)⟩
end
end Go.Proofs.YtlonpmajnglmoaaGreatDoor

 /- Printed by a program (wip/vg): what the functions mean, plainly, and their walks. -/
namespace Go.Proofs.YtlonpmajnglmoaaGreatDoor
open Go Go.RowKit
attribute [local irreducible] WL WC WX WQ WK WJ Yld Eff Ef0 Fn
def M_smithylaw22_first (K : Bool → Prop) : Prop :=
 M_smithylaw22_act ([97] : List UInt8) [] (fun (t4_Tool : Int) (t4_Args : List (List UInt8)) (t4_Inputs : List (List UInt8)) (t4_Output : List UInt8) =>
 M_smithylaw22_act ([98] : List UInt8) ([([97] : List UInt8)] : List (List UInt8)) (fun (t6_Tool : Int) (t6_Args : List (List UInt8)) (t6_Inputs : List (List UInt8)) (t6_Output : List UInt8) =>
 M_graph_New ([(t4_Tool, t4_Args, t4_Inputs, t4_Output), (t6_Tool, t6_Args, t6_Inputs, t6_Output)] : List (Int × List (List UInt8) × List (List UInt8) × List UInt8)) (fun (t81 : Er) =>
 K false) (fun (t80_l : List (Int × List (List UInt8) × List (List UInt8) × List UInt8)) (t80_makers : List (List UInt8 × Int)) (t80_before : List (List Int)) (t80_after : List (List Int)) (t812 : Er) =>
 ∃ J3 : Bool → Prop, ((((decide (t812 = Er.ok)) = true → M_pgraph_Graph_Order t80_l t80_makers t80_before t80_after (fun (t19 : List Int) =>
 M_smithyref_SameInts t19 ([(0 : Int), (1 : Int)] : List Int) (fun (t21 : Bool) =>
 J3 t21))) ∧
 ((decide (t812 = Er.ok)) = false → J3 false))) ∧
 (∀ q5 : Bool, J3 q5 → ∃ J4 : Bool → Prop, (((q5 = true → M_pgraph_Graph_Needs t80_l t80_makers t80_before t80_after ([([98] : List UInt8)] : List (List UInt8)) (fun (t26 : List Int) =>
 M_smithyref_SameInts t26 ([(0 : Int), (1 : Int)] : List Int) (fun (t28 : Bool) =>
 J4 t28))) ∧
 (q5 = false → J4 false))) ∧
 (∀ q6 : Bool, J4 q6 → K q6)))))

set_option maxHeartbeats 8000000 in
theorem W_smithylaw22_first {S : List Nat} {w : World} {K : Bool → Prop} (hG : GOK S w) (hS4 : 4 ∈ S) (hS6 : 6 ∈ S) (hS9 : 9 ∈ S) (hS10 : 10 ∈ S) (hS11 : 11 ∈ S) (hS100 : 100 ∈ S) (H : M_smithylaw22_first  K) : Fn Tryz.prog 38 ⟨[]⟩ w (fun v w' => w.grownBy w' none ∧ ∃ (r : Bool), v = .bool r ∧ K r) := by
  unfold M_smithylaw22_first at H
  refine Fn.enter (by kernel_rfl) Tryz.func38 rfl Tryz.ntmps38 rfl ?_
  refine WC.seq ?_
  refine WC.region ?_
  refine WL.y rfl (Yld.pure tab_ok rfl) ?_
  refine WL.nil (WX.then_normal ?_)
  refine WC.seq ?_
  refine WC.region ?_
  refine WL.call rfl rfl (W_smithylaw22_act (Own.nil vs w w.heap.size 9).rd rfl H) ?_
  rintro _ w1 ⟨hg1, t4_Tool, t4_Args, A_t4_Args, c_t4_Args, t4_Inputs, A_t4_Inputs, c_t4_Inputs, t4_Output, rfl, ht4_Args, ho1, ht4_Inputs, ho2, H⟩
  have gr1 := hg1
  refine WL.lit tab_ok rfl rfl rfl (all1c rfl all1n) rfl (by omega) (fun g1 w2 hB1 hg2 hl1 => ?_)
  have hO1 : Own vs w2 w.heap.size 9 (some ⟨g1, 0, none⟩) 1 ([([97] : List UInt8)] : List (List UInt8)) := Own.ofBl hB1 (Nat.le_trans (size_le gr1) hl1) (by simp [maxLen]) rfl
  have gr2 := gr_trans gr1 hg2
  have k1 := ht4_Args.grown hg2
  have k2 := ht4_Inputs.grown hg2
  refine WL.call rfl rfl (W_smithylaw22_act hO1.rd rfl H) ?_
  rintro _ w3 ⟨hg3, t6_Tool, t6_Args, A_t6_Args, c_t6_Args, t6_Inputs, A_t6_Inputs, c_t6_Inputs, t6_Output, rfl, ht6_Args, ho3, ht6_Inputs, ho4, H⟩
  have gr3 := gr_trans gr2 hg3
  have k3 := k1.grown hg3
  have k4 := k2.grown hg3
  refine WL.litK (f := encH94) ([(t4_Tool, ⟨A_t4_Args, t4_Args.length, c_t4_Args⟩, ⟨A_t4_Inputs, t4_Inputs.length, c_t4_Inputs⟩, t4_Output), (t6_Tool, ⟨A_t6_Args, t6_Args.length, c_t6_Args⟩, ⟨A_t6_Inputs, t6_Inputs.length, c_t6_Inputs⟩, t6_Output)] : List (Int × Hdr × Hdr × List UInt8)) encH94_ok rfl ow77 rfl rfl rfl (fun g3 w5 hB3 hg5 hl3 => ?_)
  have hO3 : OwnK 4 encH94 w5 w.heap.size 94 (some ⟨g3, 0, none⟩) 2 ([(t4_Tool, ⟨A_t4_Args, t4_Args.length, c_t4_Args⟩, ⟨A_t4_Inputs, t4_Inputs.length, c_t4_Inputs⟩, t4_Output), (t6_Tool, ⟨A_t6_Args, t6_Args.length, c_t6_Args⟩, ⟨A_t6_Inputs, t6_Inputs.length, c_t6_Inputs⟩, t6_Output)] : List (Int × Hdr × Hdr × List UInt8)) := OwnK.ofBl encH94_ok hB3 (Nat.le_trans (size_le gr3) hl3) (by simp [maxLen]) rfl
  have gr4 := gr_trans gr3 hg5
  have k5 := k3.grown hg5
  have k6 := k4.grown hg5
  have k7 := ht6_Args.grown hg5
  have k8 := ht6_Inputs.grown hg5
  have hr1 : RelD de94 w5 ([(t4_Tool, ⟨A_t4_Args, t4_Args.length, c_t4_Args⟩, ⟨A_t4_Inputs, t4_Inputs.length, c_t4_Inputs⟩, t4_Output), (t6_Tool, ⟨A_t6_Args, t6_Args.length, c_t6_Args⟩, ⟨A_t6_Inputs, t6_Inputs.length, c_t6_Inputs⟩, t6_Output)] : List (Int × Hdr × Hdr × List UInt8)) ([(t4_Tool, t4_Args, t4_Inputs, t4_Output), (t6_Tool, t6_Args, t6_Inputs, t6_Output)] : List (Int × List (List UInt8) × List (List UInt8) × List UInt8)) := (RelD.cons ⟨rfl, ⟨rfl, k5⟩, ⟨rfl, k6⟩, rfl⟩ (RelD.cons ⟨rfl, ⟨rfl, k7⟩, ⟨rfl, k8⟩, rfl⟩ RelD.nil))
  have dj1 : DnD de94 ([(t4_Tool, ⟨A_t4_Args, t4_Args.length, c_t4_Args⟩, ⟨A_t4_Inputs, t4_Inputs.length, c_t4_Inputs⟩, t4_Output), (t6_Tool, ⟨A_t6_Args, t6_Args.length, c_t6_Args⟩, ⟨A_t6_Inputs, t6_Inputs.length, c_t6_Inputs⟩, t6_Output)] : List (Int × Hdr × Hdr × List UInt8)) ([(t4_Tool, t4_Args, t4_Inputs, t4_Output), (t6_Tool, t6_Args, t6_Inputs, t6_Output)] : List (Int × List (List UInt8) × List (List UInt8) × List UInt8)) (blk (some ⟨g3, 0, none⟩)) := (DnD.cons (d := de94) ⟨trivial, (Dn.new (fun hx => k3.lt' hx) (Ge.box hl3)), (Dn.new (fun hx => k4.lt' hx) (Ge.box hl3)), trivial⟩ (DnD.cons (d := de94) ⟨trivial, (Dn.new (fun hx => ht6_Args.lt' hx) (Ge.box hl3)), (Dn.new (fun hx => ht6_Inputs.lt' hx) (Ge.box hl3)), trivial⟩ DnD.nil))
  refine WL.call rfl rfl (W_graph_New (hG.grown gr4) hS4 hS6 hS9 hS10 hS11 hS100 hO3.rd (rfl.trans hr1.1) hr1 H) ?_
  rintro v_ w6 ⟨hg_, hc_ | hc_⟩
  · obtain ⟨v_t81, t81, rfl, ht81, H⟩ := hc_
    have hg6 := hg_
    have gr5 := gr_trans gr4 hg6
    refine WL.y rfl (Yld.pure tab_ok rfl) ?_
    refine WL.y rfl (Yld.pure tab_ok rfl) ?_
    refine WL.y rfl (Yld.pure tab_ok rfl) ?_
    refine WL.y rfl (Yld.pure tab_ok rfl) ?_
    refine WL.y rfl (Yld.pure tab_ok rfl) ?_
    refine WL.nil (WX.then_normal ?_)
    refine WC.seq ?_
    refine WC.region ?_
    refine WL.y rfl (Yld.pure tab_ok rfl) ?_
    refine WL.y rfl (Yld.pnenil Tryz.underlying81 rfl rfl) ?_
    refine WL.y rfl (Yld.pure tab_ok rfl) ?_
    refine WL.midF 3 (fun L' w' => ∃ q1 : Bool, L' = [(16, .bool q1), (1, .pointer none)] ∧ false = q1 ∧ w6 = w') ?_ (fun hQ => ?_)
    · rintro _ _ ⟨q1, rfl, rfl, rfl⟩
      refine WL.y rfl (Yld.pure tab_ok rfl) ?_
      refine WL.midF 5 (fun L' w' => L' = [(22, .bool false), (1, .pointer none)] ∧ w.grownBy w' none) ?_ (fun hQ => ?_)
      · rintro _ w8 ⟨rfl, gr6⟩
        refine WL.y rfl (Yld.pure tab_ok rfl) ?_
        refine WL.midF 6 (fun L' w' => L' = [(29, .bool false)] ∧ w.grownBy w' none) ?_ (fun hQ => ?_)
        · rintro _ w9 ⟨rfl, gr7⟩
          refine WL.y rfl (Yld.pure tab_ok rfl) ?_
          refine WL.nil (WX.then_normal ?_)
          refine WC.ret ?_
          exact WX.ret1 rfl rfl ⟨gr7, false, rfl, H⟩
        · clear H
          refine WL.gno rfl rfl (rfl) rfl ?_
          refine WL.gno rfl rfl (rfl) rfl ?_
          refine WL.gno rfl rfl (rfl) rfl ?_
          refine WL.gno rfl rfl (rfl) rfl ?_
          refine WL.gno rfl rfl (rfl) rfl ?_
          refine WL.y rfl (Yld.pickF (rfl) rfl) ?_
          exact WL.weaken (by repeat (first | exact Sub.nil | refine Sub.cons rfl ?_)) (hQ _ _ ⟨rfl, gr6⟩)
      · clear H
        refine WL.gno rfl rfl (rfl) rfl ?_
        refine WL.gno rfl rfl (rfl) rfl ?_
        refine WL.gno rfl rfl (rfl) rfl ?_
        refine WL.gno rfl rfl (rfl) rfl ?_
        refine WL.y rfl (Yld.pickF (rfl) rfl) ?_
        exact WL.weaken (by repeat (first | exact Sub.nil | refine Sub.cons rfl ?_)) (hQ _ _ ⟨rfl, gr5⟩)
    · clear H
      refine WL.gno rfl rfl (rfl) rfl ?_
      refine WL.gno rfl rfl (rfl) rfl ?_
      refine WL.y rfl (Yld.pickF (rfl) rfl) ?_
      exact WL.weaken (by repeat (first | exact Sub.nil | refine Sub.cons rfl ?_)) (hQ _ _ ⟨false, rfl, rfl, rfl⟩)
  · obtain ⟨g_t80, t80_l, A_t80_l, c_t80_l, hs_t80_l, g_t80_makers, t80_makers, t80_before, A_t80_before, c_t80_before, hs_t80_before, t80_after, A_t80_after, c_t80_after, hs_t80_after, v_t812, t812, rfl, ht80_l, hr_t80_l, nd1, dj2, ht80_before, hr_t80_before, nd2, dj3, ht80_after, hr_t80_after, nd3, dj4, ht812, ht80_makers, hge1, ht80, hge2, dj5, dj6, dj7, dj8, dj9, dj10, dj11, dj12, dj13, dj14, dj15, dj16, dj17, dj18, dj19, dj20, dj21, dj22, dj23, dj24, dj25, dj26, dj27, dj28, dj29, H⟩ := hc_
    have hg7 := hg_
    have hb1 := ht80_l.ge'
    have k9 := ht80_l.base (fun g hg => Nat.le_trans (size_le gr4) (hb1 g hg))
    have hb2 := ht80_before.ge'
    have k10 := ht80_before.base (fun g hg => Nat.le_trans (size_le gr4) (hb2 g hg))
    have hb3 := ht80_after.ge'
    have k11 := ht80_after.base (fun g hg => Nat.le_trans (size_le gr4) (hb3 g hg))
    have gr8 := gr_trans gr4 hg7
    refine WL.y rfl (Yld.pure tab_ok rfl) ?_
    refine WL.y rfl (Yld.pure tab_ok rfl) ?_
    refine WL.y rfl (Yld.pure tab_ok rfl) ?_
    refine WL.y rfl (Yld.pure tab_ok rfl) ?_
    refine WL.y rfl (Yld.pure tab_ok rfl) ?_
    refine WL.nil (WX.then_normal ?_)
    refine WC.seq ?_
    refine WC.region ?_
    refine WL.y rfl (Yld.pure tab_ok rfl) ?_
    refine WL.y rfl (Yld.pnenil Tryz.underlying81 rfl rfl) ?_
    refine WL.y rfl (Yld.pure tab_ok rfl) ?_
    refine WL.midF 3 (fun L' w' => ∃ q4 : Bool, L' = [(16, .bool q4), (1, .pointer (some ⟨g_t80, 0, none⟩))] ∧ (decide (t812 = Er.ok)) = q4 ∧ w6 = w') ?_ (fun hQ => ?_)
    · rintro _ _ ⟨q4, rfl, rfl, rfl⟩
      refine WL.y rfl (Yld.pure tab_ok rfl) ?_
      obtain ⟨J3, H, hJ3⟩ := H
      refine WL.midF 5 (fun L' w' => ∃ q5 : Bool, L' = [(22, .bool q5), (1, .pointer (some ⟨g_t80, 0, none⟩))] ∧ J3 q5 ∧ w.grownBy w' none ∧ OwnK 4 encH94 w' w.heap.size 94 A_t80_l c_t80_l hs_t80_l ∧ RelD de94 w' hs_t80_l t80_l ∧ Own vh w' w.heap.size 98 A_t80_before c_t80_before hs_t80_before ∧ RelD de98 w' hs_t80_before t80_before ∧ Own vh w' w.heap.size 98 A_t80_after c_t80_after hs_t80_after ∧ RelD de98 w' hs_t80_after t80_after ∧ MapB vs okS vi w' g_t80_makers t80_makers ∧ Bl w' g_t80 169 [.slice A_t80_l t80_l.length c_t80_l, .map (some g_t80_makers), .slice A_t80_before t80_before.length c_t80_before, .slice A_t80_after t80_after.length c_t80_after]) ?_ (fun hQ => ?_)
      · clear H
        rintro _ w11 ⟨q5, rfl, H, gr9, k12, k13, k14, k15, k16, k17, k18, k19⟩
        replace H := hJ3 q5 H
        refine WL.y rfl (Yld.pure tab_ok rfl) ?_
        obtain ⟨J4, H, hJ4⟩ := H
        refine WL.midF 6 (fun L' w' => ∃ q6 : Bool, L' = [(29, .bool q6)] ∧ J4 q6 ∧ w.grownBy w' none) ?_ (fun hQ => ?_)
        · clear H
          rintro _ w12 ⟨q6, rfl, H, gr10⟩
          replace H := hJ4 q6 H
          refine WL.y rfl (Yld.pure tab_ok rfl) ?_
          refine WL.nil (WX.then_normal ?_)
          refine WC.ret ?_
          exact WX.ret1 rfl rfl ⟨gr10, q6, rfl, H⟩
        · clear hJ4
          rcases Bool.eq_false_or_eq_true (q5) with b1 | b1
          · replace H := H.1 b1
            refine WL.gyes rfl rfl (okb b1) rfl (Yld.pure tab_ok rfl) ?_
            refine WL.putw (wants_some rfl rfl (okb b1)) rfl (Eff.lit tab_ok rfl rfl (all1c rfl all1n) rfl (by omega)) ?_
            rintro _ w13 ⟨rfl, hB4, hg8⟩
            obtain ⟨g_t25, hl4⟩ : ∃ g, g = w11.heap.size := ⟨_, rfl⟩
            rw [← hl4] at hB4
            rw [← hl4]
            have hO4 : Own vs w13 w.heap.size 9 (some ⟨g_t25, 0, none⟩) 1 ([([98] : List UInt8)] : List (List UInt8)) := Own.ofBl hB4 (Nat.le_trans (size_le gr9) (Nat.le_of_eq hl4.symm)) (by simp [maxLen]) rfl
            have gr11 := gr_trans gr9 hg8
            have k20 := k12.grown hg8
            have k21 := k13.grown hg8
            have k22 := k14.grown hg8
            have k23 := k15.grown hg8
            have k24 := k16.grown hg8
            have k25 := k17.grown hg8
            have k26 := k18.g0 hg8
            have k27 := k19.g0 hg8
            refine WL.callw (wants_some rfl rfl (okb b1)) rfl rfl (W_pgraph_Graph_Needs k20.rd rfl k21 k26 k22.rd rfl k23 k24.rd rfl k25 k27 hO4.rd rfl H) ?_
            rintro _ w14 ⟨hg9, t26, A_t26, c_t26, rfl, ht26, H⟩
            have hb4 := ht26.ge'
            have k28 := ht26.base (fun g hg => Nat.le_trans (size_le gr11) (hb4 g hg))
            have gr12 := gr_trans gr11 hg9
            have k29 := k20.grown hg9
            have k30 := k21.grown hg9
            have k31 := k22.grown hg9
            have k32 := k23.grown hg9
            have k33 := k24.grown hg9
            have k34 := k25.grown hg9
            have k35 := k26.g0 hg9
            have k36 := k27.g0 hg9
            have k37 := hO4.grown hg9
            refine WL.putw (wants_some rfl rfl (okb b1)) rfl (Eff.lit tab_ok rfl rfl (all1c rfl (all1c rfl all1n)) rfl (by omega)) ?_
            rintro _ w15 ⟨rfl, hB5, hg10⟩
            obtain ⟨g_t27, hl5⟩ : ∃ g, g = w14.heap.size := ⟨_, rfl⟩
            rw [← hl5] at hB5
            rw [← hl5]
            have hO5 : Own vi w15 w.heap.size 3 (some ⟨g_t27, 0, none⟩) 2 ([(0 : Int), (1 : Int)] : List Int) := Own.ofBl hB5 (Nat.le_trans (size_le gr12) (Nat.le_of_eq hl5.symm)) (by simp [maxLen]) rfl
            have gr13 := gr_trans gr12 hg10
            have k38 := k28.grown hg10
            refine WL.callw (wants_some rfl rfl (okb b1)) rfl rfl (W_smithyref_SameInts k38.rd rfl hO5.rd rfl H) ?_
            rintro _ _ ⟨rfl, t28, rfl, H⟩
            refine WL.y rfl (Yld.pickT (okb b1) rfl) ?_
            exact WL.weaken (by repeat (first | exact Sub.nil | refine Sub.cons rfl ?_)) (hQ _ _ ⟨t28, rfl, H, gr13⟩)
          · replace H := H.2 b1
            refine WL.gno rfl rfl (okb b1) rfl ?_
            refine WL.gno rfl rfl (okb b1) rfl ?_
            refine WL.gno rfl rfl (okb b1) rfl ?_
            refine WL.gno rfl rfl (okb b1) rfl ?_
            refine WL.gno rfl rfl (okb b1) rfl ?_
            refine WL.y rfl (Yld.pickF (okb b1) rfl) ?_
            exact WL.weaken (by repeat (first | exact Sub.nil | refine Sub.cons rfl ?_)) (hQ _ _ ⟨false, rfl, H, gr9⟩)
      · clear hJ3
        rcases Bool.eq_false_or_eq_true (decide (t812 = Er.ok)) with b2 | b2
        · replace H := H.1 b2
          refine WL.gyes rfl rfl (okb b2) rfl (Yld.pure tab_ok rfl) ?_
          refine WL.callw (wants_some rfl rfl (okb b2)) rfl rfl (W_pgraph_Graph_Order k9.rd rfl hr_t80_l ht80_makers k10.rd rfl hr_t80_before k11.rd rfl hr_t80_after ht80 H) ?_
          rintro _ w16 ⟨hg11, t19, A_t19, c_t19, rfl, ht19, H⟩
          have hb5 := ht19.ge'
          have k39 := ht19.base (fun g hg => Nat.le_trans (size_le gr8) (hb5 g hg))
          have gr14 := gr_trans gr8 hg11
          have k40 := k9.grown hg11
          have k41 := hr_t80_l.grown hg11
          have k42 := k10.grown hg11
          have k43 := hr_t80_before.grown hg11
          have k44 := k11.grown hg11
          have k45 := hr_t80_after.grown hg11
          have k46 := ht80_makers.g0 hg11
          have k47 := ht80.g0 hg11
          refine WL.putw (wants_some rfl rfl (okb b2)) rfl (Eff.lit tab_ok rfl rfl (all1c rfl (all1c rfl all1n)) rfl (by omega)) ?_
          rintro _ w17 ⟨rfl, hB6, hg12⟩
          obtain ⟨g_t20, hl6⟩ : ∃ g, g = w16.heap.size := ⟨_, rfl⟩
          rw [← hl6] at hB6
          rw [← hl6]
          have hO6 : Own vi w17 w.heap.size 3 (some ⟨g_t20, 0, none⟩) 2 ([(0 : Int), (1 : Int)] : List Int) := Own.ofBl hB6 (Nat.le_trans (size_le gr14) (Nat.le_of_eq hl6.symm)) (by simp [maxLen]) rfl
          have gr15 := gr_trans gr14 hg12
          have k48 := k40.grown hg12
          have k49 := k41.grown hg12
          have k50 := k42.grown hg12
          have k51 := k43.grown hg12
          have k52 := k44.grown hg12
          have k53 := k45.grown hg12
          have k54 := k46.g0 hg12
          have k55 := k47.g0 hg12
          have k56 := k39.grown hg12
          refine WL.callw (wants_some rfl rfl (okb b2)) rfl rfl (W_smithyref_SameInts k56.rd rfl hO6.rd rfl H) ?_
          rintro _ _ ⟨rfl, t21, rfl, H⟩
          refine WL.y rfl (Yld.pickT (okb b2) rfl) ?_
          exact WL.weaken (by repeat (first | exact Sub.nil | refine Sub.cons rfl ?_)) (hQ _ _ ⟨t21, rfl, H, gr15, k48, k49, k50, k51, k52, k53, k54, k55⟩)
        · replace H := H.2 b2
          refine WL.gno rfl rfl (okb b2) rfl ?_
          refine WL.gno rfl rfl (okb b2) rfl ?_
          refine WL.gno rfl rfl (okb b2) rfl ?_
          refine WL.gno rfl rfl (okb b2) rfl ?_
          refine WL.y rfl (Yld.pickF (okb b2) rfl) ?_
          exact WL.weaken (by repeat (first | exact Sub.nil | refine Sub.cons rfl ?_)) (hQ _ _ ⟨false, rfl, H, gr8, k9, hr_t80_l, k10, hr_t80_before, k11, hr_t80_after, ht80_makers, ht80⟩)
    · clear H
      refine WL.gyes rfl rfl (rfl) rfl (Yld.pure tab_ok rfl) ?_
      refine WL.gyes rfl rfl (rfl) rfl (Yld.erreql Tryz.underlying26 ht812 rfl) ?_
      refine WL.y rfl (Yld.pickT (rfl) rfl) ?_
      exact WL.weaken (by repeat (first | exact Sub.nil | refine Sub.cons rfl ?_)) (hQ _ _ ⟨decide (t812 = Er.ok), rfl, rfl, rfl⟩)

end Go.Proofs.YtlonpmajnglmoaaGreatDoor

 /- GraphRings, plainly. -/
namespace Go.Proofs.YtlonpmajnglmoaaGreatDoor
open Go Go.RowKit
def abN (i : Nat) : List UInt8 := [UInt8.ofNat (97 + i)]
theorem ab_ok : NOk abN [] 2 := ⟨by decide, fun i hi => by
  match i, hi with
  | 0, _ => decide +kernel
  | 1, _ => decide +kernel, fun i _ => by simp [abN], by simp, by simp, by simp, by simp⟩
theorem gfirst_M {K : Bool → Prop} (h : K true) : M_smithylaw22_first K := by
  refine fun _ _ => ?_
  have e : ([((1 : Int), ([] : TL), ([] : TL), ([97] : List UInt8)), (1, [], [[97]], [98])] : List GAct) = rg abN [] 2 none := by decide
  show M_graph_New ([((1 : Int), ([] : TL), ([] : TL), ([97] : List UInt8)), (1, [], [[97]], [98])] : List GAct) _ _
  rw [e]
  refine row_M ab_ok (by omega) (by omega) ?_
  refine ⟨fun b => b = true, ⟨fun _ => row_order ab_ok (by omega) (by omega) (sameInts_M (by simp) ?_), fun h => by simp at h⟩, fun q5 hq5 => ?_⟩
  · decide
  · subst hq5
    refine ⟨fun b => b = true, ⟨fun _ => row_needs (nm := abN) (k := 1) ab_ok (by omega) (by omega) (by omega) (sameInts_M (by simp) ?_), fun h => by simp at h⟩, fun q6 hq6 => by rw [hq6]; exact h⟩
    decide
end Go.Proofs.YtlonpmajnglmoaaGreatDoor


 /- GraphSays, plainly. -/
namespace Go.Proofs.YtlonpmajnglmoaaGreatDoor
open Go Go.RowKit
def pick (l : List GAct) (ns : List Int) : List GAct := ns.map fun k => l.getD k.toNat az
structure GSmall (l : List GAct) : Prop where
  len : l.length ≤ 24
  arg : ∀ a ∈ l, a.2.1.length ≤ 8 ∧ ∀ s ∈ a.2.1, s.length ≤ 100
  inp : ∀ a ∈ l, a.2.2.1.length ≤ 10 ∧ ∀ s ∈ a.2.2.1, s.length ≤ 250
  out : ∀ a ∈ l, a.2.2.2.length ≤ 250
theorem GSmall.sz {l : List GAct} (h : GSmall l) : ∀ a ∈ l, (∀ s ∈ a.2.2.1, s.length ≤ 3999999999) ∧ a.2.2.2.length ≤ 3999999999 := fun a ha => ⟨fun s hs => Nat.le_trans ((h.inp a ha).2 s hs) (by omega), Nat.le_trans (h.out a ha) (by omega)⟩
theorem GSmall.at {l : List GAct} (h : GSmall l) (j : Nat) : (l.getD j az).2.1.length ≤ 8 ∧ (l.getD j az).2.2.1.length ≤ 10 := by
  by_cases hj : j < l.length
  · exact ⟨(h.arg _ (getD_mem2 hj)).1, (h.inp _ (getD_mem2 hj)).1⟩
  · have : l.getD j az = az := by simp [List.getD, List.getElem?_eq_none (show l.length ≤ j by omega)]
    rw [this]; decide
theorem gtx_B {l : TL} {most long : Int} {K : Bool → Prop} (hm : most ≤ 1000000) (h : ∀ t : Bool, (t = true → (l.length : Int) ≤ most ∧ ∀ x ∈ l, (x.length : Int) ≤ long) → K t) : M_smithyworld_Texts l most long K := by
  intro _
  refine ⟨fun _ => h false fun h => (by cases h), fun hle => ?_⟩
  refine ⟨fun i => 0 ≤ i ∧ i ≤ l.length ∧ ∀ j, j < i.toNat → ((l.getD j []).length : Int) ≤ long, fun i => l.length - i.toNat, ⟨by omega, by omega, fun j hj => by simp at hj⟩, fun i ⟨a0, a1, a2⟩ => ⟨fun hlt => ⟨⟨a0, hlt⟩, fun _ => h false fun h => (by cases h), fun hn => ⟨by simp only [In]; omega, ⟨by omega, by omega, fun j hj => ?_⟩, by (try dsimp only); omega⟩⟩, fun hge => h true fun _ => ⟨by omega, fun x hx => ?_⟩⟩⟩
  · by_cases e : j = i.toNat
    · rw [e]; omega
    · exact a2 j (by omega)
  · obtain ⟨j, hj, rfl⟩ := List.getElem_of_mem hx
    have := a2 j (by omega)
    simpa [List.getD, hj] using this
theorem gacts_B {l : List GAct} {K : Bool → Prop} (h : ∀ t : Bool, (t = true → GSmall l) → K t) : M_smithyworld_Actions l K := by
  intro _
  refine ⟨fun _ => h false fun h => (by cases h), fun hle => ?_⟩
  refine ⟨fun i => 0 ≤ i ∧ i ≤ l.length ∧ ∀ j, j < i.toNat → ((l.getD j az).2.1.length ≤ 8 ∧ ∀ s ∈ (l.getD j az).2.1, s.length ≤ 100) ∧ ((l.getD j az).2.2.1.length ≤ 10 ∧ ∀ s ∈ (l.getD j az).2.2.1, s.length ≤ 250) ∧ (l.getD j az).2.2.2.length ≤ 250, fun i => l.length - i.toNat, ⟨by omega, by omega, fun j hj => by simp at hj⟩, fun i ⟨a0, a1, a2⟩ => ⟨fun hlt => ?_, fun hge => h true fun _ => ?_⟩⟩
  · have hgd : l.getD i.toNat (0, [], [], []) = l.getD i.toNat az := rfl
    rw [hgd]
    refine ⟨⟨a0, hlt⟩, gtx_B (by omega) fun t ht => ?_⟩
    refine ⟨fun q => q = false → ((l.getD i.toNat az).2.1.length ≤ 8 ∧ ∀ s ∈ (l.getD i.toNat az).2.1, s.length ≤ 100) ∧ ((l.getD i.toNat az).2.2.1.length ≤ 10 ∧ ∀ s ∈ (l.getD i.toNat az).2.2.1, s.length ≤ 250), ⟨fun _ h => (by cases h), fun hq => ⟨⟨a0, hlt⟩, gtx_B (by omega) fun t2 ht2 h2 => ?_⟩⟩, fun q hq => ⟨fun _ => ⟨a0, hlt⟩, fun _ => h false fun h => (by cases h), fun hc => ⟨by simp only [In]; omega, ⟨by omega, by omega, fun j hj => ?_⟩, by (try dsimp only); omega⟩⟩⟩
    · obtain ⟨p1, p2⟩ := ht (by simpa using hq)
      obtain ⟨p3, p4⟩ := ht2 (by simpa using h2)
      exact ⟨⟨by omega, fun s hs => by have := p2 s hs; omega⟩, ⟨by omega, fun s hs => by have := p4 s hs; omega⟩⟩
    · rw [Bool.or_eq_false_iff, decide_eq_false_iff_not] at hc
      by_cases e : j = i.toNat
      · rw [e]
        obtain ⟨p1, p2⟩ := hq hc.1
        exact ⟨p1, p2, by omega⟩
      · exact a2 j (by omega)
  · have key : ∀ a ∈ l, (a.2.1.length ≤ 8 ∧ ∀ s ∈ a.2.1, s.length ≤ 100) ∧ (a.2.2.1.length ≤ 10 ∧ ∀ s ∈ a.2.2.1, s.length ≤ 250) ∧ a.2.2.2.length ≤ 250 := fun a ha => by
      obtain ⟨j, hj, rfl⟩ := List.getElem_of_mem ha
      have := a2 j (by omega)
      simpa [List.getD, hj] using this
    exact ⟨by omega, fun a ha => (key a ha).1, fun a ha => (key a ha).2.1, fun a ha => (key a ha).2.2⟩
section
variable {l : List GAct} {outs : TL}
theorem pneeds_R {K : List Int → Prop} {aft : List (List Int)} (hs : GSmall l) (g : GOk l) (ho : outs.length ≤ 1000) (hol : ∀ s ∈ outs, s.length ≤ 1000)
    (h : ∀ met : List Bool, met.length = l.length → (∀ k : Nat, k < l.length → (met.getD k false = true ↔ Rch (befL l l.length) (outs.filterMap (mget (mkP l l.length))) k)) → K (onesN met l.length)) : M_pgraph_Graph_Needs l (mkP l l.length) (befL l l.length) aft outs K := by
  have h1 := hs.len
  have h2 := tot_bef (c := 1000) g.inp l.length
  refine needs_M (by omega) (befL_len l l.length) (fun j _ k hk => bef_in hk) (by omega) (fun s hs => by have := hol s hs; omega) (fun s v hv => ?_) (by omega) h
  obtain ⟨j, j1, j2, _⟩ := mkP_val hv
  omega
theorem only_R {K : List GAct → Prop} (hs : GSmall l) (ho : outs.length ≤ 1000) (hol : ∀ s ∈ outs, s.length ≤ 1000) (h0 : ∀ e, GRes l e → e ≠ .ok → K [])
    (h1 : GRes l .ok → ∀ met : List Bool, (∀ k : Nat, k < l.length → (met.getD k false = true ↔ Rch (befL l l.length) (outs.filterMap (mget (mkP l l.length))) k)) → K (pick l (onesN met l.length))) : M_graph_Only l outs K := by
  intro _ _
  have hl := hs.len
  refine new_R (by omega) hs.sz (fun e he hne => ⟨fun _ => h0 e he hne, fun he => absurd he hne⟩) fun hok => ⟨fun h => absurd rfl h, fun _ => pneeds_R hs hok.good ho hol fun met _ m2 => ?_⟩
  have hK := h1 hok met m2
  have hnl := onesN_len met l.length
  have hin : ∀ x ∈ onesN met l.length, 0 ≤ x ∧ x < (l.length : Int) := fun x hx => by
    obtain ⟨k, k1, k2, _⟩ := onesN_mem.1 hx
    omega
  generalize onesN met l.length = ns at hK hin hnl
  refine ⟨fun out t => 0 ≤ t ∧ t ≤ ns.length ∧ out = pick l (ns.take t.toNat), fun _ t => ns.length - t.toNat, ⟨by omega, by omega, rfl⟩, fun out t ⟨a0, a1, a2⟩ => ⟨fun hlt => ?_, fun hge => ?_⟩⟩
  · have ht : t.toNat < ns.length := by omega
    obtain ⟨b0, b1⟩ := hin _ (getD_mem2 (d := 0) ht)
    have hat := hs.at (ns.getD t.toNat 0).toNat
    have hol : out.length = t.toNat := by rw [a2]; unfold pick; rw [List.length_map, List.length_take]; omega
    refine ⟨⟨a0, hlt⟩, ⟨b0, b1⟩, copied_M (by show (l.getD (ns.getD t.toNat 0).toNat az).2.1.length ≤ _; omega) (by show (l.getD (ns.getD t.toNat 0).toNat az).2.2.1.length ≤ _; omega) ⟨by rw [hol, List.length_singleton]; omega, by simp only [In]; omega, ⟨by omega, by omega, ?_⟩, by (try dsimp only); omega⟩⟩
    rw [show (t + 1).toNat = t.toNat + 1 by omega, take_succ_getD 0 ht, a2]
    unfold pick
    rw [List.map_append]; rfl
  · have : t.toNat = ns.length := by omega
    rw [a2, this, List.take_length]; exact hK
variable {i : Int}
def inR (l : List GAct) (i : Int) : Prop := 0 ≤ i ∧ i < (l.length : Int)
theorem pbefore_R {mk : MK} {aft : List (List Int)} {K : List Int → Prop} (hs : GSmall l) (h0 : ¬ inR l i → K []) (h : inR l i → K (bsP l i.toNat)) : M_pgraph_Graph_Before l mk (befL l l.length) aft i K := by
  intro _ _ _
  refine ⟨fun hb => h0 fun hc => ?_, fun hb => ?_⟩
  · rw [Bool.or_eq_true, decide_eq_true_eq, decide_eq_true_eq] at hb
    unfold inR at hc; omega
  · rw [Bool.or_eq_false_iff, decide_eq_false_iff_not, decide_eq_false_iff_not] at hb
    have hr : inR l i := by unfold inR; omega
    have hil : i.toNat < l.length := by omega
    have h1 := bsP_len l i.toNat
    have h2 := (hs.at i.toNat).2
    refine ⟨by rw [befL_len]; exact hr, ?_⟩
    rw [befL_getD, if_pos hil]
    exact cloneI_M (by omega) (h hr)
theorem pafter_R {mk : MK} {bef : List (List Int)} {K : List Int → Prop} (hs : GSmall l) (h0 : ¬ inR l i → K []) (h : inR l i → K (aftK l l.length i.toNat)) : M_pgraph_Graph_After l mk bef (aftL l l.length) i K := by
  intro _ _ _
  refine ⟨fun hb => h0 fun hc => ?_, fun hb => ?_⟩
  · rw [Bool.or_eq_true, decide_eq_true_eq, decide_eq_true_eq] at hb
    unfold inR at hc; omega
  · rw [Bool.or_eq_false_iff, decide_eq_false_iff_not, decide_eq_false_iff_not] at hb
    have hr : inR l i := by unfold inR; omega
    have hil : i.toNat < l.length := by omega
    have h1 := aftK_len l l.length i.toNat
    have h2 := hs.len
    have he : (aftL l l.length).getD i.toNat [] = aftK l l.length i.toNat := by unfold aftL; rw [rng_getD hil]
    refine ⟨by rw [aftL_len]; exact hr, ?_⟩
    rw [he]
    exact cloneI_M (by omega) (h hr)
end
end Go.Proofs.YtlonpmajnglmoaaGreatDoor


 /- Graphs of some of the actions of a graph, in whatever order. -/
namespace Go.Proofs.YtlonpmajnglmoaaGreatDoor
open Go Go.RowKit
theorem Rch.map {B B' : List (List Int)} {fr fr' : List Int} (σ : Int → Int) (h0 : ∀ k ∈ fr', Rch B fr (σ k)) (h1 : ∀ j k : Int, Rch B' fr' j → k ∈ B'.getD j.toNat [] → σ k ∈ B.getD (σ j).toNat []) {k : Int} (h : Rch B' fr' k) : Rch B fr (σ k) := by
  induction h with
  | base hk => exact h0 _ hk
  | step hj hk ih => exact .step ih (h1 _ _ hj hk)
structure SubG (l l' : List GAct) (σ : Nat → Nat) : Prop where
  lt : ∀ j, j < l'.length → σ j < l.length
  inj : ∀ i j, i < l'.length → j < l'.length → σ i = σ j → i = j
  tool : ∀ j, j < l'.length → (l'.getD j az).1 = (l.getD (σ j) az).1
  inp : ∀ j, j < l'.length → (l'.getD j az).2.2.1 = (l.getD (σ j) az).2.2.1
  out : ∀ j, j < l'.length → (l'.getD j az).2.2.2 = (l.getD (σ j) az).2.2.2
theorem fits_ok {mk : MK} {a : GAct} : fitsP mk a = .ok ↔ ¬ (a.1 < 1 ∨ 5 < a.1) ∧ ¬ (validB a.2.2.2 = false ∨ inval a.2.2.1 = true) ∧ mget mk a.2.2.2 = none := by
  unfold fitsP
  constructor
  · intro h
    split at h
    · cases h
    · split at h
      · cases h
      · split at h
        · cases h
        · rename_i h1 h2 h3
          exact ⟨h1, h2, by simpa using h3⟩
  · rintro ⟨h1, h2, h3⟩
    rw [if_neg h1, if_neg h2, if_neg (by rw [h3]; simp)]
theorem gok_parts {l : List GAct} (h : GRes l .ok) : ¬ GBad l ∧ (∀ j, j < l.length → fitsAt l j = .ok) ∧ (∀ j, j < l.length → ¬ GCy l j) := by
  rcases h with ⟨_, h⟩ | ⟨_, _, _, _, _, _, h⟩ | ⟨_, _, _, _, _, _, h⟩ | ⟨a, a1, a2, _⟩
  · cases h
  · cases h
  · cases h
  · exact ⟨a, a1, a2⟩
section
variable {l l' : List GAct} {σ : Nat → Nat}
theorem SubG.bs (s : SubG l l' σ) (hd : Dst l) {j : Nat} (hj : j < l'.length) {k : Int} (h : k ∈ bsP l' j) : (σ k.toNat : Int) ∈ bsP l (σ j) := by
  obtain ⟨x, hx, hm⟩ := bsP_mem.1 h
  obtain ⟨q, q1, rfl, q2⟩ := mkP_val hm
  rw [Int.toNat_natCast, bsP_mem]
  refine ⟨x, by rw [← s.inp j hj]; exact hx, ?_⟩
  rw [← q2, s.out q q1]
  exact mkP_get hd (Nat.le_refl _) _ (s.lt q q1)
theorem SubG.rch (s : SubG l l' σ) (hd : Dst l) {fr fr' : List Int} (h0 : ∀ k ∈ fr', (0 ≤ k ∧ k < (l'.length : Int)) ∧ Rch (befL l l.length) fr (σ k.toNat : Int)) {k : Int} (h : Rch (befL l' l'.length) fr' k) : Rch (befL l l.length) fr (σ k.toNat : Int) := by
  have hin : ∀ j : Int, Rch (befL l' l'.length) fr' j → 0 ≤ j ∧ j < (l'.length : Int) := fun j hj => by
    cases hj with
    | base hk => exact (h0 _ hk).1
    | step _ hk => exact bef_in hk
  refine Rch.map (fun k => (σ k.toNat : Int)) (fun k hk => (h0 k hk).2) (fun j k hj hk => ?_) h
  obtain ⟨j0, j1⟩ := hin j hj
  have hjn : j.toNat < l'.length := by omega
  rw [befL_getD, if_pos hjn] at hk
  rw [Int.toNat_natCast, befL_getD, if_pos (s.lt _ hjn)]
  exact s.bs hd hjn hk
theorem SubG.ok (s : SubG l l' σ) (h : GRes l .ok) (hb : ¬ GBad l') : GRes l' .ok := by
  obtain ⟨h1, h2, h3⟩ := gok_parts h
  have hd := fits_dst h2
  refine .inr (.inr (.inr ⟨hb, fun j hj => ?_, fun j hj hc => ?_, rfl⟩))
  · obtain ⟨f1, f2, f3⟩ := fits_ok.1 (h2 _ (s.lt j hj))
    refine fits_ok.2 ⟨by rw [s.tool j hj]; exact f1, by rw [s.inp j hj, s.out j hj]; exact f2, ?_⟩
    cases hm : mget (mkP l' j) (l'.getD j az).2.2.2 with
    | none => rfl
    | some v =>
      obtain ⟨q, q1, _, q2⟩ := mkP_val hm
      have hq : q < l'.length := by omega
      rw [s.out q hq, s.out j hj] at q2
      have := s.inj q j hq hj (hd _ _ (s.lt q hq) (s.lt j hj) q2)
      omega
  · refine h3 (σ j) (s.lt j hj) ?_
    unfold GCy at hc ⊢
    have := s.rch hd (fr := bsP l (σ j)) (fun k hk => ⟨bsP_in hk, .base (s.bs hd hj hk)⟩) hc
    rwa [Int.toNat_natCast] at this
end
/-! ### turned round -/
theorem rev_getD {l : List GAct} {j : Nat} (h : j < l.length) : l.reverse.getD j az = l.getD (l.length - 1 - j) az := by
  simp only [List.getD]
  rw [List.getElem?_reverse h]
theorem sub_rev (l : List GAct) : SubG l l.reverse (fun j => l.length - 1 - j) := by
  refine ⟨fun j hj => ?_, fun i j hi hj h => ?_, fun j hj => ?_, fun j hj => ?_, fun j hj => ?_⟩
  all_goals rw [List.length_reverse] at hj
  · omega
  · rw [List.length_reverse] at hi; omega
  · rw [rev_getD hj]
  · rw [rev_getD hj]
  · rw [rev_getD hj]
theorem bad_rev {l : List GAct} (h : ¬ GBad l) : ¬ GBad l.reverse := fun hb => h (hb.elim (fun h => .inl (by rwa [List.length_reverse] at h)) fun h => .inr (by rwa [List.any_reverse] at h))
/-! ### those that one needs -/
theorem sub_pick {l : List GAct} {met : List Bool} : SubG l (pick l (onesN met l.length)) (fun j => ((onesN met l.length).getD j 0).toNat) := by
  have hl : (pick l (onesN met l.length)).length = (onesN met l.length).length := by unfold pick; rw [List.length_map]
  have hin : ∀ x ∈ onesN met l.length, 0 ≤ x ∧ x < (l.length : Int) := fun x hx => by
    obtain ⟨k, k1, k2, _⟩ := onesN_mem.1 hx
    omega
  have hnd : (onesN met l.length).Nodup := by
    unfold onesN
    exact List.Pairwise.map _ (fun a b (hab : a ≠ b) (e : (a : Int) = (b : Int)) => hab (by omega)) (List.Pairwise.filter _ List.nodup_range)
  have hg : ∀ j, j < (onesN met l.length).length → (pick l (onesN met l.length)).getD j az = l.getD ((onesN met l.length).getD j 0).toNat az := fun j hj => by
    unfold pick
    simp [List.getD, hj]
  refine ⟨fun j hj => ?_, fun i j hi hj h => ?_, fun j hj => ?_, fun j hj => ?_, fun j hj => ?_⟩
  all_goals rw [hl] at hj
  · have := hin _ (getD_mem2 (d := 0) hj); omega
  · rw [hl] at hi
    have a := hin _ (getD_mem2 (d := 0) hi)
    have b := hin _ (getD_mem2 (d := 0) hj)
    have e : (onesN met l.length).getD i 0 = (onesN met l.length).getD j 0 := by omega
    simp only [List.getD, List.getElem?_eq_getElem hi, List.getElem?_eq_getElem hj, Option.getD_some] at e
    rcases Nat.lt_trichotomy i j with h1 | h1 | h1
    · exact absurd e (List.pairwise_iff_getElem.1 hnd i j hi hj h1)
    · exact h1
    · exact absurd e.symm (List.pairwise_iff_getElem.1 hnd j i hj hi h1)
  · rw [hg j hj]
  · rw [hg j hj]
  · rw [hg j hj]
theorem bad_pick {l : List GAct} {met : List Bool} (h : ¬ GBad l) : ¬ GBad (pick l (onesN met l.length)) := fun hb => by
  have hn := onesN_len met l.length
  rcases hb with hb | hb
  · unfold pick at hb
    rw [List.length_map] at hb
    exact h (.inl (by omega))
  · obtain ⟨a, ha, hm⟩ := List.any_eq_true.1 hb
    obtain ⟨x, hx, rfl⟩ := List.mem_map.1 ha
    obtain ⟨k, k1, k2, _⟩ := onesN_mem.1 hx
    exact h (.inr (List.any_eq_true.2 ⟨_, getD_mem2 (d := az) (show x.toNat < l.length by omega), hm⟩))
/-- what was picked for one is needed for it, all -/
theorem pick_all {l : List GAct} {met : List Bool} {k : Nat} (h : GRes l .ok) (hk : k < l.length) (hm : ∀ j : Nat, j < l.length → (met.getD j false = true ↔ Rch (befL l l.length) [(k : Int)] j))
    {met' : List Bool} (hm' : ∀ j : Nat, j < (pick l (onesN met l.length)).length → (met'.getD j false = true ↔ Rch (befL (pick l (onesN met l.length)) (pick l (onesN met l.length)).length) ([(l.getD k az).2.2.2].filterMap (mget (mkP (pick l (onesN met l.length)) (pick l (onesN met l.length)).length))) j)) :
    ∀ j, j < (pick l (onesN met l.length)).length → met'.getD j false = true := by
  have hs := sub_pick (l := l) (met := met)
  have hl : (pick l (onesN met l.length)).length = (onesN met l.length).length := by unfold pick; rw [List.length_map]
  have hd := h.good.dst
  have hok := hs.ok h (bad_pick (gok_parts h).1)
  have hd' := hok.good.dst
  have hmem : ∀ v : Nat, v < l.length → met.getD v false = true → ∃ j, j < (onesN met l.length).length ∧ (onesN met l.length).getD j 0 = (v : Int) := fun v hv hmv => by
    obtain ⟨j, hj, he⟩ := List.getElem_of_mem (onesN_mem.2 ⟨v, hv, rfl, hmv⟩)
    exact ⟨j, hj, by simp [List.getD, hj, he]⟩
  have hval : ∀ j, j < (onesN met l.length).length → ∃ v : Nat, v < l.length ∧ (onesN met l.length).getD j 0 = (v : Int) ∧ met.getD v false = true := fun j hj => onesN_mem.1 (getD_mem2 (d := 0) hj)
  generalize hL : pick l (onesN met l.length) = L at hs hl hok hd' hm' ⊢
  have key : ∀ v : Int, Rch (befL l l.length) [(k : Int)] v → ∃ j : Nat, j < L.length ∧ (onesN met l.length).getD j 0 = v ∧ Rch (befL L L.length) ([(l.getD k az).2.2.2].filterMap (mget (mkP L L.length))) (j : Int) := by
    intro v hv
    induction hv with
    | base hb =>
      have hb := List.mem_singleton.1 hb
      obtain ⟨j, j1, j2⟩ := hmem k hk ((hm k hk).2 (.base (List.mem_singleton.2 rfl)))
      have hjL : j < L.length := by omega
      refine ⟨j, hjL, by rw [j2, hb], .base ?_⟩
      rw [List.mem_filterMap]
      refine ⟨_, List.mem_singleton.2 rfl, ?_⟩
      have ho := hs.out j hjL
      simp only [j2, Int.toNat_natCast] at ho
      rw [← ho]
      exact mkP_get hd' (Nat.le_refl _) j hjL
    | step hr he ih =>
      rename_i p q
      obtain ⟨j, j1, j2, j3⟩ := ih
      have hjo : j < (onesN met l.length).length := by omega
      obtain ⟨v, v1, v2, v3⟩ := hval j hjo
      have hpv : p = (v : Int) := by rw [← j2, v2]
      subst hpv
      obtain ⟨q0, q1⟩ := bef_in he
      have hqq : ((q.toNat : Nat) : Int) = q := by omega
      have hqn : q.toNat < l.length := by omega
      obtain ⟨i, i1, i2⟩ := hmem q.toNat hqn ((hm _ hqn).2 (by rw [hqq]; exact .step hr he))
      have hiL : i < L.length := by omega
      refine ⟨i, hiL, by rw [i2, hqq], .step j3 ?_⟩
      rw [Int.toNat_natCast, befL_getD, if_pos v1, bsP_mem] at he
      obtain ⟨x, x1, x2⟩ := he
      obtain ⟨r, r1, r2, r3⟩ := mkP_val x2
      have hrq : r = q.toNat := by omega
      rw [Int.toNat_natCast, befL_getD, if_pos j1, bsP_mem]
      refine ⟨x, ?_, ?_⟩
      · have hi := hs.inp j j1
        simp only [v2, Int.toNat_natCast] at hi
        rw [hi]; exact x1
      · have ho := hs.out i hiL
        simp only [i2, Int.toNat_natCast] at ho
        rw [← r3, hrq, ← ho]
        exact mkP_get hd' (Nat.le_refl _) i hiL
  intro j hj
  have hjo : j < (onesN met l.length).length := by omega
  obtain ⟨v, v1, v2, v3⟩ := hval j hjo
  obtain ⟨i, i1, i2, i3⟩ := key v ((hm v v1).1 v3)
  have : i = j := hs.inj i j i1 hj (by show ((onesN met l.length).getD i 0).toNat = ((onesN met l.length).getD j 0).toNat; rw [i2, v2])
  subst this
  exact (hm' i i1).2 i3
end Go.Proofs.YtlonpmajnglmoaaGreatDoor


 /- strconv.Quote: its contract in the generator's form; what the laid tables give. -/
namespace Go.Proofs.YtlonpmajnglmoaaGreatDoor
open Go Go.RowKit
def M_strconv_Itoa (n : Int) (K : List UInt8 → Prop) : Prop := In .i64 n ∧ K (Lib.itoa n)
theorem W_strconv_Itoa {S : List Nat} {w : World} {n : Int} {K : List UInt8 → Prop} (hG : GOK S w) (h101 : 101 ∈ S) (H : M_strconv_Itoa n K) : Fn Tryz.prog 148 ⟨[.int .i64 n]⟩ w (fun v w' => w.grownBy w' none ∧ ∃ r : List UInt8, v = vs r ∧ K r) := by
  have hin := H.1
  simp only [In] at hin
  refine ⟨by kernel_rfl, fun w1 e => (Tryz.strconv_Itoa n (by omega) (by omega) w1 ?_).mono fun _ w' ⟨he, k, os, hw⟩ => ⟨_, w', he, Eqv.refl _, ?_, Lib.itoa n, rfl, H.2⟩⟩
  · have := hG.p10 h101
    unfold Lib.TabIs World.var? at this ⊢
    rw [e.heap]
    exact this
  · rw [hw]
    exact eqv_gr e ⟨rfl, rfl, rfl, by show w1.heap.size ≤ (w1.heap ++ os).size; rw [Array.size_append]; omega, fun g hg _ => by show (w1.heap ++ os)[g]? = _; exact Array.getElem?_append_left hg⟩
def quoteL (s : List UInt8) : List UInt8 := (strOfNums (Lib.quoteZ Lib.goPrintTabs ⟨⟨s⟩⟩)).data.toList
theorem quoteL_len (s : List UInt8) : (quoteL s).length ≤ 10 * s.length + 2 := by
  have h := Lib.quoteZ_length_le Lib.goPrintTabs ⟨⟨s⟩⟩
  have e : (quoteL s).length = (Lib.quoteZ Lib.goPrintTabs ⟨⟨s⟩⟩).length := by
    unfold quoteL
    rw [Array.length_toList]
    exact strOfNums_size _
  rw [e]
  exact h
def M_strconv_Quote (s : List UInt8) (K : List UInt8 → Prop) : Prop := 10 * s.length + 12 ≤ 140737488355328 ∧ K (quoteL s)
theorem W_strconv_Quote {S : List Nat} {w : World} {s : List UInt8} {K : List UInt8 → Prop} (hG : GOK S w) (h102 : 102 ∈ S) (H : M_strconv_Quote s K) : Fn Tryz.prog 149 ⟨[vs s]⟩ w (fun v w' => w.grownBy w' none ∧ ∃ r : List UInt8, v = vs r ∧ K r) := by
  have hq := hG.qt h102
  refine ⟨by kernel_rfl, fun w1 e => (Tryz.strconv_Quote Lib.goPrintTabs ⟨⟨s⟩⟩ w1 H.1 ?_ ?_).mono fun _ w' ⟨he, hb⟩ => ⟨_, w', he, Eqv.refl _, eqv_gr e (gr_below hb none), quoteL s, rfl, H.2⟩⟩
  · exact (hq.grown (gr_eqv (gr_refl _ _) e)).1
  · exact (hq.grown (gr_eqv (gr_refl _ _) e)).2
theorem qtab_of_laid {W : World} {l : List (String × DataW Unit)} (h : laidMetH Tryz.prog l W) (hp : (l.all fun x => x.2.handleName?.isNone) = true)
    (m1 : ("unicode/utf8.first", Lib.firstData) ∈ l) (m2 : ("unicode/utf8.acceptRanges", Lib.acceptData) ∈ l) (m3 : ("strconv.isPrint16", Lib.sliceData .u16 Lib.goPrintTabs.p16) ∈ l) (m4 : ("strconv.isNotPrint16", Lib.sliceData .u16 Lib.goPrintTabs.n16) ∈ l)
    (m5 : ("strconv.isPrint32", Lib.sliceData .u32 Lib.goPrintTabs.p32) ∈ l) (m6 : ("strconv.isNotPrint32", Lib.sliceData .u16 Lib.goPrintTabs.n32) ∈ l) : QTab W := by
  rw [MakeChecks.laidMetH_plain _ _ _ hp] at h
  exact ⟨printTabs_of_reads (ρ := Tryz.lays177_ren) { Tryz.lays177 with } ⟨by kernel_rfl, by kernel_rfl, by kernel_rfl, by kernel_rfl, by kernel_rfl, by kernel_rfl, by kernel_rfl, by kernel_rfl, by kernel_rfl, by kernel_rfl⟩
      (Lib.laidMet.reads h m3) (Lib.laidMet.reads h m4) (Lib.laidMet.reads h m5) (Lib.laidMet.reads h m6),
    utf8Tabs_of_reads (ρ := Tryz.lays177_ren) { Tryz.lays177 with } ⟨by kernel_rfl, by kernel_rfl, by kernel_rfl, by kernel_rfl, by kernel_rfl, by kernel_rfl, by kernel_rfl⟩ (Lib.laidMet.reads h m1) (Lib.laidMet.reads h m2)⟩
end Go.Proofs.YtlonpmajnglmoaaGreatDoor


 /- Printed by a program (wip/vg): what the functions mean, plainly, and their walks. -/
namespace Go.Proofs.YtlonpmajnglmoaaGreatDoor
open Go Go.RowKit
attribute [local irreducible] WL WC WX WQ WK WJ Yld Eff Ef0 Fn
def M_slices_Equal_string_string (s1 : List (List UInt8)) (s2 : List (List UInt8)) (K : Bool → Prop) : Prop :=
 (s1.length ≤ maxLen →
 (s2.length ≤ maxLen →
 ((¬ ((s1.length : Int) = (s2.length : Int)) → K false) ∧
 ((s1.length : Int) = (s2.length : Int) → Lp1 (fun (t13 : Int) kont1 => ((t13 < (s1.length : Int) → (0 ≤ t13 ∧ t13 < (s1.length : Nat)) ∧
 (0 ≤ t13 ∧ t13 < (s2.length : Nat)) ∧
 ((¬ ((s1.getD t13.toNat []) = (s2.getD t13.toNat [])) → K false) ∧
 ((s1.getD t13.toNat []) = (s2.getD t13.toNat []) → (In .i64 (t13 + (1 : Int))) ∧
 kont1 (t13 + (1 : Int))))) ∧
 (¬ (t13 < (s1.length : Int)) → K true))) (0 : Int)))))

def M_graph_text (x_Tool : Int) (x_Args : List (List UInt8)) (x_Inputs : List (List UInt8)) (x_Output : List UInt8) (K : (List UInt8) → Prop) : Prop :=
 (x_Args.length ≤ maxLen →
 (x_Inputs.length ≤ maxLen →
 M_strconv_Itoa x_Tool (fun (t8 : List UInt8) =>
 M_strconv_Itoa (x_Args.length : Int) (fun (t12 : List UInt8) =>
 M_strconv_Quote x_Output (fun (t15 : List UInt8) =>
 M_slices_Concat_string_string_2 x_Args x_Inputs (fun (t22 : List (List UInt8)) =>
 Lp2 (fun (l : List (List UInt8)) (t24 : Int) kont1 => ((t24 < (t22.length : Int) → (0 ≤ t24 ∧ t24 < (t22.length : Nat)) ∧
 M_strconv_Quote (t22.getD t24.toNat []) (fun (t30 : List UInt8) =>
 ((l.length + (([t30] : List (List UInt8))).length) * 16 ≤ 140737488355328) ∧
 (In .i64 (t24 + (1 : Int))) ∧
 kont1 (l ++ ([t30] : List (List UInt8))) (t24 + (1 : Int)))) ∧
 (¬ (t24 < (t22.length : Int)) → M_strings_Join l ([32] : List UInt8) (fun (t2 : List UInt8) =>
 K t2)))) ([t8, t12, t15] : List (List UInt8)) (0 : Int)))))))

def M_pgraph_Graph_Same_1 (l : List (Int × List (List UInt8) × List (List UInt8) × List UInt8)) (K : (List (List UInt8)) → Prop) : Prop :=
 (l.length ≤ maxLen →
 Lp2 (fun (out : List (List UInt8)) (t8 : Int) kont1 => ((t8 < (l.length : Int) → (0 ≤ t8 ∧ t8 < (l.length : Nat)) ∧
 M_graph_text ((l.getD t8.toNat (0, [], [], [])).1) ((l.getD t8.toNat (0, [], [], [])).2.1) ((l.getD t8.toNat (0, [], [], [])).2.2.1) ((l.getD t8.toNat (0, [], [], [])).2.2.2) (fun (t14 : List UInt8) =>
 ((out.length + (([t14] : List (List UInt8))).length) * 16 ≤ 140737488355328) ∧
 (In .i64 (t8 + (1 : Int))) ∧
 kont1 (out ++ ([t14] : List (List UInt8))) (t8 + (1 : Int)))) ∧
 (¬ (t8 < (l.length : Int)) → M_slices_Sort_string_string out (fun (ys : List (List UInt8)) =>
 K ys)))) [] (0 : Int))

def M_pgraph_Graph_Same (g_l : List (Int × List (List UInt8) × List (List UInt8) × List UInt8)) (g_makers : List (List UInt8 × Int)) (g_before : List (List Int)) (g_after : List (List Int)) (o_l : List (Int × List (List UInt8) × List (List UInt8) × List UInt8)) (o_makers : List (List UInt8 × Int)) (o_before : List (List Int)) (o_after : List (List Int)) (K : Bool → Prop) : Prop :=
 (g_l.length ≤ maxLen →
 (g_before.length ≤ maxLen →
 (g_after.length ≤ maxLen →
 (o_l.length ≤ maxLen →
 (o_before.length ≤ maxLen →
 (o_after.length ≤ maxLen →
 M_pgraph_Graph_Same_1 g_l (fun (t11 : List (List UInt8)) =>
 M_pgraph_Graph_Same_1 o_l (fun (t17 : List (List UInt8)) =>
 M_slices_Equal_string_string t11 t17 (fun (t4 : Bool) =>
 K t4)))))))))

set_option maxHeartbeats 8000000 in
theorem W_slices_Equal_string_string {w : World} {s1 : List (List UInt8)} {A_s1 : Option Addr} {c_s1 : Nat} {s2 : List (List UInt8)} {A_s2 : Option Addr} {c_s2 : Nat} {n_s1 : Nat} {n_s2 : Nat} {K : Bool → Prop} (hs1 : Rd vs w A_s1 c_s1 s1) (hn_s1 : n_s1 = s1.length) (hs2 : Rd vs w A_s2 c_s2 s2) (hn_s2 : n_s2 = s2.length) (H : M_slices_Equal_string_string s1 s2 K) : Fn Tryz.prog 119 ⟨[.slice A_s1 n_s1 c_s1, .slice A_s2 n_s2 c_s2]⟩ w (fun v w' => w = w' ∧ ∃ (r : Bool), v = .bool r ∧ K r) := by
  subst hn_s1
  subst hn_s2
  unfold M_slices_Equal_string_string at H
  refine Fn.enter (by kernel_rfl) Tryz.func119 rfl Tryz.ntmps119 rfl ?_
  replace H := H (Nat.le_trans hs1.cap hs1.max)
  replace H := H (Nat.le_trans hs2.cap hs2.max)
  refine WC.seq ?_
  refine WC.region ?_
  refine WL.y rfl (Yld.pure tab_ok rfl) ?_
  refine WL.nil (WX.then_normal ?_)
  refine WC.seq ?_
  refine WC.seq ?_
  refine WC.region ?_
  refine WL.y rfl (Yld.pure tab_ok rfl) ?_
  refine WL.y rfl (Yld.pure tab_ok rfl) ?_
  refine WL.y rfl (Yld.pure tab_ok rfl) ?_
  refine WL.y rfl (Yld.pure tab_ok rfl) ?_
  refine WL.y rfl (Yld.pure tab_ok rfl) ?_
  refine WL.nil (WX.then_normal ?_)
  refine WC.cond rfl (fun b1 => ?_) (fun b1 => ?_)
  · replace H := H.1 (nd_true b1)
    refine WC.seq ?_
    refine WC.region ?_
    refine WL.y rfl (Yld.pure tab_ok rfl) ?_
    refine WL.nil (WX.then_normal ?_)
    refine WC.ret (WX.then_ret ?_)
    exact WX.ret1 rfl rfl ⟨rfl, false, rfl, H⟩
  · replace H := H.2 (nd_false b1)
    refine WC.skip (WX.then_normal ?_)
    refine WC.seq ?_
    refine WC.seq ?_
    refine WC.region ?_
    refine WL.y rfl (Yld.pure tab_ok rfl) ?_
    refine WL.y rfl (Yld.pure tab_ok rfl) ?_
    refine WL.y rfl (Yld.pure tab_ok rfl) ?_
    refine WL.nil (WX.then_normal ?_)
    refine WC.block ?_
    obtain ⟨I1, mu1, h0_1, HR1⟩ := H
    refine WC.loopF (fun n' L' w' => ∃ (t13 : Int), n' = mu1 t13 ∧ L' = [(0, .slice A_s1 s1.length c_s1), (1, .slice A_s2 s2.length c_s2), (12, .int .i64 (s1.length : Int)), (13, .int .i64 t13)] ∧ I1 t13 ∧ w = w') _ _ ⟨(0 : Int), rfl, rfl, h0_1, rfl⟩ (by repeat (first | exact Sub.nil | refine Sub.cons rfl ?_)) ?_
    clear h0_1
    rintro _ _ _ ⟨t13, rfl, rfl, hI1, rfl⟩
    have H := HR1 t13 hI1
    refine WC.seq ?_
    refine WC.region ?_
    refine WL.y rfl (Yld.pure tab_ok rfl) ?_
    refine WL.nil (WX.then_normal ?_)
    refine WC.seq ?_
    refine WC.cond rfl (fun b2 => ?_) (fun b2 => ?_)
    · replace H := H.1 (of_decide_eq_true b2)
      refine WC.skip (WX.then_normal ?_)
      refine WC.seq ?_
      refine WC.block ?_
      refine WC.seq ?_
      refine WC.region ?_
      refine WL.y rfl (Yld.pure tab_ok rfl) ?_
      refine WL.y rfl (Yld.pure tab_ok rfl) ?_
      refine WL.nil (WX.then_normal ?_)
      refine WC.seq ?_
      refine WC.quiet mixed (by kernel_rfl) ?_
      refine WQ.y rfl (Yld.pure tab_ok rfl) ?_
      refine WQ.y rfl (Yld.pure tab_ok rfl) ?_
      obtain ⟨h1, H⟩ := H
      refine WQ.y rfl (Yld.iaddrW tab_ok hs1 rfl rfl rfl rfl h1.1 h1.2) ?_
      refine WQ.y rfl (Yld.iload [] tab_ok hs1 rfl rfl (iltN h1 rfl)) ?_
      refine WQ.y rfl (Yld.pure tab_ok rfl) ?_
      refine WQ.y rfl (Yld.pure tab_ok rfl) ?_
      obtain ⟨h2, H⟩ := H
      refine WQ.y rfl (Yld.iaddrW tab_ok hs2 rfl rfl rfl rfl h2.1 h2.2) ?_
      refine WQ.y rfl (Yld.iload [] tab_ok hs2 rfl rfl (iltN h2 rfl)) ?_
      refine WQ.y rfl (Yld.pure tab_ok rfl) ?_
      refine WQ.nil (WX.then_normal ?_)
      refine WC.cond rfl (fun b3 => ?_) (fun b3 => ?_)
      · replace H := H.1 (nd_true b3)
        refine WC.seq ?_
        refine WC.region ?_
        refine WL.y rfl (Yld.pure tab_ok rfl) ?_
        refine WL.nil (WX.then_normal ?_)
        refine WC.ret (WX.block_ret (WX.then_ret (WX.then_ret (WX.block_ret (WX.then_ret ?_)))))
        exact WX.ret1 rfl rfl ⟨rfl, false, rfl, H⟩
      · replace H := H.2 (nd_false b3)
        refine WC.skip (WX.block_normal (WX.then_normal ?_))
        refine WC.region ?_
        obtain ⟨h3, H⟩ := H
        refine WL.y rfl (Yld.add rfl rfl h3) ?_
        refine WL.y rfl (Yld.pure tab_ok rfl) ?_
        refine WL.nil ?_
        exact WX.roundF _ ⟨t13 + (1 : Int), rfl, rfl, H.1, rfl⟩ (by repeat (first | exact Sub.nil | refine Sub.cons rfl ?_)) H.2
    · replace H := H.2 (of_decide_eq_false b2)
      refine WC.exit (WX.then_exit (WX.then_exit (WX.block_same (WX.then_normal ?_))))
      refine WC.seq ?_
      refine WC.region ?_
      refine WL.y rfl (Yld.pure tab_ok rfl) ?_
      refine WL.nil (WX.then_normal ?_)
      refine WC.ret ?_
      exact WX.ret1 rfl rfl ⟨rfl, true, rfl, H⟩

set_option maxHeartbeats 8000000 in
theorem W_graph_text {S : List Nat} {w : World} {x_Tool : Int} {x_Args : List (List UInt8)} {A_x_Args : Option Addr} {c_x_Args : Nat} {x_Inputs : List (List UInt8)} {A_x_Inputs : Option Addr} {c_x_Inputs : Nat} {x_Output : List UInt8} {n_x_Args : Nat} {n_x_Inputs : Nat} {K : (List UInt8) → Prop} (hG : GOK S w) (hS101 : 101 ∈ S) (hS102 : 102 ∈ S) (hx_Args : Rd vs w A_x_Args c_x_Args x_Args) (hn_x_Args : n_x_Args = x_Args.length) (hx_Inputs : Rd vs w A_x_Inputs c_x_Inputs x_Inputs) (hn_x_Inputs : n_x_Inputs = x_Inputs.length) (H : M_graph_text x_Tool x_Args x_Inputs x_Output K) : Fn Tryz.prog 118 ⟨[.agg ⟨[.int .i64 x_Tool, .slice A_x_Args n_x_Args c_x_Args, .slice A_x_Inputs n_x_Inputs c_x_Inputs, vs x_Output]⟩]⟩ w (fun v w' => w.grownBy w' none ∧ ∃ (r : List UInt8), v = vs r ∧ K r) := by
  subst hn_x_Args
  subst hn_x_Inputs
  unfold M_graph_text at H
  refine Fn.enter (by kernel_rfl) Tryz.func118 rfl Tryz.ntmps118 rfl ?_
  replace H := H (Nat.le_trans hx_Args.cap hx_Args.max)
  replace H := H (Nat.le_trans hx_Inputs.cap hx_Inputs.max)
  refine WC.seq ?_
  refine WC.region ?_
  refine WL.box (us := [.int .i64 x_Tool, .slice A_x_Args x_Args.length c_x_Args, .slice A_x_Inputs x_Inputs.length c_x_Inputs, vs x_Output]) rfl rfl rfl (fun g1 w1 hB1 hg1 hl1 => ?_)
  have gr1 := hg1
  refine WL.y rfl (Yld.pure tab_ok rfl) ?_
  refine WL.nil (WX.then_normal ?_)
  refine WC.seq ?_
  refine WC.chainF (fun k => !(Nat.beq k 2 || Nat.beq k 6 || Nat.beq k 9 || Nat.beq k 10)) (LD [1, 4, 8] (fun w' => Bl w' g1 94 [.int .i64 x_Tool, .slice A_x_Args x_Args.length c_x_Args, .slice A_x_Inputs x_Inputs.length c_x_Inputs, vs x_Output])) mixed (by kernel_rfl) (fun k w' h _ => (bl_eqv h hB1)) ?_
  refine WJ.y rfl rfl (fun w' hw' => Yld.pure tab_ok rfl) ?_
  refine WJ.y rfl rfl (fun w' hw' => Yld.bload tab_ok (hw' rfl) rfl rfl rfl) ?_
  refine WJ.call rfl (wants_none) rfl rfl (W_strconv_Itoa (hG.grown gr1) hS101 H) (fun v w' h w2 e => DD.keep (Bl.g0 hB1 (gr_eqv h.1 e))) ?_
  rintro _ w2 ⟨hg2, t8, rfl, H⟩
  have gr2 := gr_trans gr1 hg2
  have k1 := hB1.g0 hg2
  refine WJ.y rfl rfl (fun w' hw' => Yld.pure tab_ok rfl) ?_
  refine WJ.y rfl rfl (fun w' hw' => Yld.bload tab_ok (hw' rfl) rfl rfl rfl) ?_
  refine WJ.y rfl rfl (fun w' hw' => Yld.pure tab_ok rfl) ?_
  refine WJ.call rfl (wants_none) rfl rfl (W_strconv_Itoa (hG.grown gr2) hS101 H) (fun v w' h w2 e => DD.keep (Bl.g0 k1 (gr_eqv h.1 e))) ?_
  rintro _ w3 ⟨hg3, t12, rfl, H⟩
  have gr3 := gr_trans gr2 hg3
  have k2 := k1.g0 hg3
  refine WJ.y rfl rfl (fun w' hw' => Yld.pure tab_ok rfl) ?_
  refine WJ.y rfl rfl (fun w' hw' => Yld.bload tab_ok (hw' rfl) rfl rfl rfl) ?_
  refine WJ.call rfl (wants_none) rfl rfl (W_strconv_Quote (hG.grown gr3) hS102 H) (fun v w' h w2 e => DD.keep (Bl.g0 k2 (gr_eqv h.1 e))) ?_
  rintro _ w4 ⟨hg4, t15, rfl, H⟩
  have gr4 := gr_trans gr3 hg4
  have k3 := k2.g0 hg4
  refine WJ.putw rfl (wants_none) rfl (Eff.lit tab_ok rfl rfl (all1c rfl (all1c rfl (all1c rfl all1n))) rfl (by omega)) (fun v w' ⟨_, _, h⟩ => DD.keep (Bl.g0 k3 (gr_eqv h (Eqv.refl _)))) ?_
  rintro _ w5 ⟨rfl, hB2, hg5⟩
  obtain ⟨g_l, hl2⟩ : ∃ g, g = w4.heap.size := ⟨_, rfl⟩
  rw [← hl2] at hB2
  rw [← hl2]
  have hO1 : Own vs w5 w.heap.size 9 (some ⟨g_l, 0, none⟩) 3 ([t8, t12, t15] : List (List UInt8)) := Own.ofBl hB2 (Nat.le_trans (size_le gr4) (Nat.le_of_eq hl2.symm)) (by simp [maxLen]) rfl
  have gr5 := gr_trans gr4 hg5
  have k4 := k3.g0 hg5
  refine WJ.y rfl rfl (fun w' hw' => Yld.pure tab_ok rfl) ?_
  refine WJ.nil (WX.then_normal ?_)
  refine WC.seq ?_
  refine WC.seq ?_
  refine WC.region ?_
  refine WL.y rfl (Yld.pure tab_ok rfl) ?_
  refine WL.y rfl (Yld.bload tab_ok k4 rfl rfl rfl) ?_
  refine WL.y rfl (Yld.pure tab_ok rfl) ?_
  refine WL.y rfl (Yld.bload tab_ok k4 rfl rfl rfl) ?_
  refine WL.lit (us := [.slice A_x_Args x_Args.length c_x_Args, .slice A_x_Inputs x_Inputs.length c_x_Inputs]) tab_ok rfl rfl rfl (all1c rfl (all1c rfl all1n)) rfl (by omega) (fun g2 w6 hB3 hg6 hl3 => ?_)
  have gr6 := gr_trans gr5 hg6
  have k5 := hO1.grown hg6
  refine WL.call rfl rfl (W_slices_Concat_string_string_2 (hx_Args.grown gr6) rfl (hx_Inputs.grown gr6) rfl hB3 H) ?_
  rintro _ w7 ⟨hg7, t22, A_t22, c_t22, rfl, ht22, H⟩
  have hb1 := ht22.ge'
  have k6 := ht22.base (fun g hg => Nat.le_trans (size_le gr6) (hb1 g hg))
  have gr7 := gr_trans gr6 hg7
  have k7 := k5.grown hg7
  refine WL.y rfl (Yld.pure tab_ok rfl) ?_
  refine WL.y rfl (Yld.pure tab_ok rfl) ?_
  refine WL.nil (WX.then_normal ?_)
  refine WC.block ?_
  obtain ⟨I1, mu1, h0_1, HR1⟩ := H
  refine WC.loopF (fun n' L' w' => ∃ (l : List (List UInt8)), ∃ (A_l : Option Addr), ∃ (c_l : Nat), ∃ (n_l : Nat), ∃ (t24 : Int), n' = mu1 l t24 ∧ L' = [(3, .slice A_l n_l c_l), (22, .slice A_t22 t22.length c_t22), (23, .int .i64 (t22.length : Int)), (24, .int .i64 t24)] ∧ I1 l t24 ∧ n_l = l.length ∧ w.grownBy w' none ∧ Own vs w' w.heap.size 9 A_t22 c_t22 t22 ∧ Own vs w' w.heap.size 9 A_l c_l l ∧ Dj (blk A_t22) (blk A_l)) _ _ ⟨([t8, t12, t15] : List (List UInt8)), (some ⟨g_l, 0, none⟩), 3, 3, (0 : Int), rfl, rfl, h0_1, rfl, gr7, k6, k7, (Dj.new k5.lt' hb1).symm⟩ (by repeat (first | exact Sub.nil | refine Sub.cons rfl ?_)) ?_
  clear h0_1
  rintro _ _ w8 ⟨l, A_l, c_l, n_l, t24, rfl, rfl, hI1, rfl, gr8, k8, k9, dj1⟩
  have H := HR1 l t24 hI1
  refine WC.seq ?_
  refine WC.region ?_
  refine WL.y rfl (Yld.pure tab_ok rfl) ?_
  refine WL.nil (WX.then_normal ?_)
  refine WC.seq ?_
  refine WC.cond rfl (fun b1 => ?_) (fun b1 => ?_)
  · replace H := H.1 (of_decide_eq_true b1)
    refine WC.skip (WX.then_normal ?_)
    refine WC.seq ?_
    refine WC.block ?_
    refine WC.seq ?_
    refine WC.region ?_
    obtain ⟨h1, H⟩ := H
    refine WL.y rfl (Yld.iaddrW tab_ok k8.rd rfl rfl rfl rfl h1.1 h1.2) ?_
    refine WL.y rfl (Yld.iload [] tab_ok k8.rd rfl rfl (iltN h1 rfl)) ?_
    refine WL.y rfl (Yld.pure tab_ok rfl) ?_
    refine WL.nil (WX.then_normal ?_)
    refine WC.region ?_
    refine WL.y rfl (Yld.pure tab_ok rfl) ?_
    refine WL.y rfl (Yld.pure tab_ok rfl) ?_
    refine WL.call rfl rfl (W_strconv_Quote (hG.grown gr8) hS102 H) ?_
    rintro _ w9 ⟨hg8, t30, rfl, H⟩
    have gr9 := gr_trans gr8 hg8
    have k10 := k8.grown hg8
    have k11 := k9.grown hg8
    refine WL.lit tab_ok rfl rfl rfl (all1c rfl all1n) rfl (by omega) (fun g3 w10 hB4 hg9 hl4 => ?_)
    have hO3 : Own vs w10 w.heap.size 9 (some ⟨g3, 0, none⟩) 1 ([t30] : List (List UInt8)) := Own.ofBl hB4 (Nat.le_trans (size_le gr9) hl4) (by simp [maxLen]) rfl
    have gr10 := gr_trans gr9 hg9
    have k12 := k10.grown hg9
    have k13 := k11.grown hg9
    obtain ⟨h2, H⟩ := H
    refine WL.append tab_ok rfl rfl One.s k13 rfl rfl hO3.rd rfl rfl h2 (applen h2) (size_le gr10) (fun A_l2 c_l2 w11 hO4 hg10 hk1 => ?_)
    have gr11 := gr_mod gr10 hg10 k13.ge'
    have k14 := k12.go hg10 dj1
    refine WL.y rfl (Yld.pure tab_ok rfl) ?_
    refine WL.nil (WX.block_normal (WX.then_normal ?_))
    refine WC.region ?_
    obtain ⟨h3, H⟩ := H
    refine WL.y rfl (Yld.add rfl rfl h3) ?_
    refine WL.y rfl (Yld.pure tab_ok rfl) ?_
    refine WL.nil ?_
    exact WX.roundF _ ⟨l ++ ([t30] : List (List UInt8)), A_l2, c_l2, (l ++ ([t30] : List (List UInt8))).length, t24 + (1 : Int), rfl, rfl, H.1, rfl, gr11, k14, hO4, (Dj.app dj1.symm k12.lt' hk1).symm⟩ (by repeat (first | exact Sub.nil | refine Sub.cons rfl ?_)) H.2
  · replace H := H.2 (of_decide_eq_false b1)
    refine WC.exit (WX.then_exit (WX.then_exit (WX.block_same (WX.then_normal ?_))))
    refine WC.seq ?_
    refine WC.region ?_
    refine WL.y rfl (Yld.pure tab_ok rfl) ?_
    refine WL.call rfl rfl (W_strings_Join k9.rd rfl H) ?_
    rintro _ w12 ⟨hg11, t2, rfl, H⟩
    have gr12 := gr_trans gr8 hg11
    refine WL.y rfl (Yld.pure tab_ok rfl) ?_
    refine WL.nil (WX.then_normal ?_)
    refine WC.ret ?_
    exact WX.ret1 rfl rfl ⟨gr12, t2, rfl, H⟩

set_option maxHeartbeats 8000000 in
theorem W_pgraph_Graph_Same_1 {S : List Nat} {w : World} {l : List (Int × List (List UInt8) × List (List UInt8) × List UInt8)} {A_l : Option Addr} {c_l : Nat} {hs_l : List (Int × Hdr × Hdr × List UInt8)} {n_l : Nat} {K : (List (List UInt8)) → Prop} (hG : GOK S w) (hS101 : 101 ∈ S) (hS102 : 102 ∈ S) (hl : RdK 4 encH94 w A_l c_l hs_l) (hn_l : n_l = l.length) (hr_l : RelD de94 w hs_l l) (H : M_pgraph_Graph_Same_1 l K) : Fn Tryz.prog 117 ⟨[.slice A_l n_l c_l]⟩ w (fun v w' => w.grownBy w' none ∧ ∃ (r : List (List UInt8)), ∃ (A_r : Option Addr), ∃ (c_r : Nat), v = .slice A_r r.length c_r ∧ Own vs w' w.heap.size 9 A_r c_r r ∧ K r) := by
  subst hn_l
  unfold M_pgraph_Graph_Same_1 at H
  refine Fn.enter (by kernel_rfl) Tryz.func117 rfl Tryz.ntmps117 rfl ?_
  replace H := H (by rw [← hr_l.1]; exact Nat.le_trans hl.cap hl.max)
  refine WC.seq ?_
  refine WC.region ?_
  refine WL.y rfl (Yld.pure tab_ok rfl) ?_
  refine WL.nil (WX.then_normal ?_)
  refine WC.seq ?_
  refine WC.region ?_
  refine WL.y rfl (Yld.pure tab_ok rfl) ?_
  refine WL.nil (WX.then_normal ?_)
  refine WC.seq ?_
  refine WC.seq ?_
  refine WC.region ?_
  refine WL.y rfl (Yld.pure tab_ok rfl) ?_
  refine WL.y rfl (Yld.pure tab_ok rfl) ?_
  refine WL.y rfl (Yld.pure tab_ok rfl) ?_
  refine WL.nil (WX.then_normal ?_)
  refine WC.block ?_
  obtain ⟨I1, mu1, h0_1, HR1⟩ := H
  refine WC.loopF (fun n' L' w' => ∃ (out : List (List UInt8)), ∃ (A_out : Option Addr), ∃ (c_out : Nat), ∃ (n_out : Nat), ∃ (t8 : Int), n' = mu1 out t8 ∧ L' = [(3, .slice A_out n_out c_out), (6, .slice A_l l.length c_l), (7, .int .i64 (l.length : Int)), (8, .int .i64 t8)] ∧ I1 out t8 ∧ n_out = out.length ∧ w.grownBy w' none ∧ Own vs w' w.heap.size 9 A_out c_out out) _ _ ⟨[], none, 0, 0, (0 : Int), rfl, rfl, h0_1, rfl, (gr_refl _ _), (Own.nil vs w w.heap.size 9)⟩ (by repeat (first | exact Sub.nil | refine Sub.cons rfl ?_)) ?_
  clear h0_1
  rintro _ _ w1 ⟨out, A_out, c_out, n_out, t8, rfl, rfl, hI1, rfl, gr1, k1⟩
  have H := HR1 out t8 hI1
  refine WC.seq ?_
  refine WC.region ?_
  refine WL.y rfl (Yld.pure tab_ok rfl) ?_
  refine WL.nil (WX.then_normal ?_)
  refine WC.seq ?_
  refine WC.cond rfl (fun b1 => ?_) (fun b1 => ?_)
  · replace H := H.1 (of_decide_eq_true b1)
    refine WC.skip (WX.then_normal ?_)
    refine WC.seq ?_
    refine WC.block ?_
    refine WC.seq ?_
    refine WC.region ?_
    obtain ⟨h1, H⟩ := H
    refine WL.y rfl (Yld.iaddrK tab_ok (hl.grown gr1) rfl rfl hr_l.1.symm rfl h1.1 h1.2) ?_
    obtain ⟨⟨f1, ⟨A_el, n1, c_el⟩, ⟨A_el2, n2, c_el2⟩, f2⟩, eh1, ⟨en1, ⟨en2, hR1⟩, ⟨en3, hR2⟩, en4⟩⟩ := RelD.at hr_l (0, hd0, hd0, []) (0, [], [], []) (j := t8.toNat) (Nat.lt_of_lt_of_eq (iltN h1 hr_l.1.symm) hr_l.1)
    have en1 : f1 = (l.getD t8.toNat (0, [], [], [])).1 := en1
    subst en1
    have en2 : n1 = ((l.getD t8.toNat (0, [], [], [])).2.1).length := en2
    subst en2
    have en3 : n2 = ((l.getD t8.toNat (0, [], [], [])).2.2.1).length := en3
    subst en3
    have en4 : f2 = (l.getD t8.toNat (0, [], [], [])).2.2.2 := en4
    subst en4
    refine WL.y rfl (Yld.to (v := .agg ⟨[.int .i64 ((l.getD t8.toNat (0, [], [], [])).1), .slice A_el (((l.getD t8.toNat (0, [], [], [])).2.1).length) c_el, .slice A_el2 (((l.getD t8.toNat (0, [], [], [])).2.2.1).length) c_el2, vs ((l.getD t8.toNat (0, [], [], [])).2.2.2)]⟩) (Yld.iloadK (0, hd0, hd0, []) tab_ok (hl.grown gr1) rfl rfl (iltN h1 hr_l.1.symm)) (by rw [eh1]; rfl)) ?_
    refine WL.alloc rfl zero94 (fun g1 w2 hB1 hg1 hl1 => ?_)
    have gr2 := gr_trans gr1 hg1
    have k2 := k1.grown hg1
    refine WL.storeW (vs := [.int .i64 ((l.getD t8.toNat (0, [], [], [])).1), .slice A_el (((l.getD t8.toNat (0, [], [], [])).2.1).length) c_el, .slice A_el2 (((l.getD t8.toNat (0, [], [], [])).2.2.1).length) c_el2, vs ((l.getD t8.toNat (0, [], [], [])).2.2.2)]) tab_ok rfl rfl rfl (all1c rfl (all1c rfl (all1c rfl (all1c rfl all1n)))) hB1 rfl rfl (fun w3 hB2 hg2 => ?_)
    have gr3 := gr_mod gr2 hg2 (Ge.le (Ge.box hl1) (size_le gr1))
    have k3 := k2.go hg2 (Dj.new k1.lt' (Ge.box hl1))
    refine WL.nil (WX.then_normal ?_)
    refine WC.region ?_
    refine WL.y rfl (Yld.pure tab_ok rfl) ?_
    refine WL.y rfl (Yld.bagg (vs := [.int .i64 ((l.getD t8.toNat (0, [], [], [])).1), .slice A_el (((l.getD t8.toNat (0, [], [], [])).2.1).length) c_el, .slice A_el2 (((l.getD t8.toNat (0, [], [], [])).2.2.1).length) c_el2, vs ((l.getD t8.toNat (0, [], [], [])).2.2.2)]) tab_ok hB2 rfl rfl rfl rfl) ?_
    refine WL.call rfl rfl (W_graph_text (hG.grown gr3) hS101 hS102 (hR1.grown gr3) rfl (hR2.grown gr3) rfl H) ?_
    rintro _ w4 ⟨hg3, t14, rfl, H⟩
    have gr4 := gr_trans gr3 hg3
    have k4 := k3.grown hg3
    refine WL.lit tab_ok rfl rfl rfl (all1c rfl all1n) rfl (by omega) (fun g2 w5 hB3 hg4 hl2 => ?_)
    have hO1 : Own vs w5 w.heap.size 9 (some ⟨g2, 0, none⟩) 1 ([t14] : List (List UInt8)) := Own.ofBl hB3 (Nat.le_trans (size_le gr4) hl2) (by simp [maxLen]) rfl
    have gr5 := gr_trans gr4 hg4
    have k5 := k4.grown hg4
    obtain ⟨h2, H⟩ := H
    refine WL.append tab_ok rfl rfl One.s k5 rfl rfl hO1.rd rfl rfl h2 (applen h2) (size_le gr5) (fun A_out2 c_out2 w6 hO2 hg5 hk1 => ?_)
    have gr6 := gr_mod gr5 hg5 k5.ge'
    refine WL.y rfl (Yld.pure tab_ok rfl) ?_
    refine WL.nil (WX.block_normal (WX.then_normal ?_))
    refine WC.region ?_
    obtain ⟨h3, H⟩ := H
    refine WL.y rfl (Yld.add rfl rfl h3) ?_
    refine WL.y rfl (Yld.pure tab_ok rfl) ?_
    refine WL.nil ?_
    exact WX.roundF _ ⟨out ++ ([t14] : List (List UInt8)), A_out2, c_out2, (out ++ ([t14] : List (List UInt8))).length, t8 + (1 : Int), rfl, rfl, H.1, rfl, gr6, hO2⟩ (by repeat (first | exact Sub.nil | refine Sub.cons rfl ?_)) H.2
  · replace H := H.2 (of_decide_eq_false b1)
    refine WC.exit (WX.then_exit (WX.then_exit (WX.block_same (WX.then_normal ?_))))
    refine WC.seq ?_
    refine WC.region ?_
    refine WL.y rfl (Yld.pure tab_ok rfl) ?_
    refine WL.call rfl rfl (W_slices_Sort_string_string k1 rfl H) ?_
    rintro _ w7 ⟨ys, rfl, hO3, hg6, hl3, H⟩
    have gr7 := gr_mod gr1 hg6 k1.ge'
    refine WL.nil (WX.then_normal ?_)
    refine WC.seq ?_
    refine WC.region ?_
    refine WL.y rfl (Yld.pure tab_ok rfl) ?_
    refine WL.y rfl (Yld.pure tab_ok rfl) ?_
    refine WL.nil (WX.then_normal ?_)
    refine WC.ret ?_
    exact WX.ret1 rfl rfl ⟨gr7, ys, A_out, c_out, (by rw [((rfl : out.length = out.length).trans hl3.symm)]), hO3, H⟩

set_option maxHeartbeats 8000000 in
theorem W_pgraph_Graph_Same {S : List Nat} {w : World} {g_g : Nat} {g_l : List (Int × List (List UInt8) × List (List UInt8) × List UInt8)} {A_g_l : Option Addr} {c_g_l : Nat} {hs_g_l : List (Int × Hdr × Hdr × List UInt8)} {g_g_makers : Nat} {g_makers : List (List UInt8 × Int)} {g_before : List (List Int)} {A_g_before : Option Addr} {c_g_before : Nat} {hs_g_before : List Hdr} {g_after : List (List Int)} {A_g_after : Option Addr} {c_g_after : Nat} {hs_g_after : List Hdr} {g_o : Nat} {o_l : List (Int × List (List UInt8) × List (List UInt8) × List UInt8)} {A_o_l : Option Addr} {c_o_l : Nat} {hs_o_l : List (Int × Hdr × Hdr × List UInt8)} {g_o_makers : Nat} {o_makers : List (List UInt8 × Int)} {o_before : List (List Int)} {A_o_before : Option Addr} {c_o_before : Nat} {hs_o_before : List Hdr} {o_after : List (List Int)} {A_o_after : Option Addr} {c_o_after : Nat} {hs_o_after : List Hdr} {n_g_l : Nat} {n_g_before : Nat} {n_g_after : Nat} {n_o_l : Nat} {n_o_before : Nat} {n_o_after : Nat} {K : Bool → Prop} (hG : GOK S w) (hS101 : 101 ∈ S) (hS102 : 102 ∈ S) (hg_l : RdK 4 encH94 w A_g_l c_g_l hs_g_l) (hn_g_l : n_g_l = g_l.length) (hr_g_l : RelD de94 w hs_g_l g_l) (hg_makers : MapB vs okS vi w g_g_makers g_makers) (hg_before : Rd vh w A_g_before c_g_before hs_g_before) (hn_g_before : n_g_before = g_before.length) (hr_g_before : RelD de98 w hs_g_before g_before) (hg_after : Rd vh w A_g_after c_g_after hs_g_after) (hn_g_after : n_g_after = g_after.length) (hr_g_after : RelD de98 w hs_g_after g_after) (hg : Bl w g_g 169 [.slice A_g_l n_g_l c_g_l, .map (some g_g_makers), .slice A_g_before n_g_before c_g_before, .slice A_g_after n_g_after c_g_after]) (ho_l : RdK 4 encH94 w A_o_l c_o_l hs_o_l) (hn_o_l : n_o_l = o_l.length) (hr_o_l : RelD de94 w hs_o_l o_l) (ho_makers : MapB vs okS vi w g_o_makers o_makers) (ho_before : Rd vh w A_o_before c_o_before hs_o_before) (hn_o_before : n_o_before = o_before.length) (hr_o_before : RelD de98 w hs_o_before o_before) (ho_after : Rd vh w A_o_after c_o_after hs_o_after) (hn_o_after : n_o_after = o_after.length) (hr_o_after : RelD de98 w hs_o_after o_after) (ho : Bl w g_o 169 [.slice A_o_l n_o_l c_o_l, .map (some g_o_makers), .slice A_o_before n_o_before c_o_before, .slice A_o_after n_o_after c_o_after]) (H : M_pgraph_Graph_Same g_l g_makers g_before g_after o_l o_makers o_before o_after K) : Fn Tryz.prog 65 ⟨[.pointer (some ⟨g_g, 0, none⟩), .pointer (some ⟨g_o, 0, none⟩)]⟩ w (fun v w' => w.grownBy w' none ∧ ∃ (r : Bool), v = .bool r ∧ K r) := by
  subst hn_g_l
  subst hn_g_before
  subst hn_g_after
  subst hn_o_l
  subst hn_o_before
  subst hn_o_after
  unfold M_pgraph_Graph_Same at H
  refine Fn.enter (by kernel_rfl) Tryz.func65 rfl Tryz.ntmps65 rfl ?_
  replace H := H (by rw [← hr_g_l.1]; exact Nat.le_trans hg_l.cap hg_l.max)
  replace H := H (by rw [← hr_g_before.1]; exact Nat.le_trans hg_before.cap hg_before.max)
  replace H := H (by rw [← hr_g_after.1]; exact Nat.le_trans hg_after.cap hg_after.max)
  replace H := H (by rw [← hr_o_l.1]; exact Nat.le_trans ho_l.cap ho_l.max)
  replace H := H (by rw [← hr_o_before.1]; exact Nat.le_trans ho_before.cap ho_before.max)
  replace H := H (by rw [← hr_o_after.1]; exact Nat.le_trans ho_after.cap ho_after.max)
  refine WC.seq ?_
  refine WC.region ?_
  refine WL.y rfl (Yld.pure tab_ok rfl) ?_
  refine WL.nil (WX.then_normal ?_)
  refine WC.seq ?_
  refine WC.region ?_
  refine WL.y rfl (Yld.pure tab_ok rfl) ?_
  refine WL.nil (WX.then_normal ?_)
  refine WC.seq ?_
  refine WC.chainF (fun k => !(Nat.beq k 5 || Nat.beq k 11 || Nat.beq k 12)) (LD [4, 10] (fun w' => Bl w' g_g 169 [.slice A_g_l g_l.length c_g_l, .map (some g_g_makers), .slice A_g_before g_before.length c_g_before, .slice A_g_after g_after.length c_g_after] ∧ Bl w' g_o 169 [.slice A_o_l o_l.length c_o_l, .map (some g_o_makers), .slice A_o_before o_before.length c_o_before, .slice A_o_after o_after.length c_o_after])) mixed (by kernel_rfl) (fun k w' h _ => ⟨(bl_eqv h hg), (bl_eqv h ho)⟩) ?_
  refine WJ.y rfl rfl (fun w' hw' => Yld.pure tab_ok rfl) ?_
  refine WJ.y rfl rfl (fun w' hw' => Yld.pure tab_ok rfl) ?_
  refine WJ.y rfl rfl (fun w' hw' => Yld.pure tab_ok rfl) ?_
  refine WJ.y rfl rfl (fun w' hw' => Yld.pure tab_ok rfl) ?_
  refine WJ.y rfl rfl (fun w' hw' => Yld.bload tab_ok (hw' rfl).1 rfl rfl rfl) ?_
  refine WJ.callv rfl rfl rfl rfl (W_pgraph_Graph_Same_1 hG hS101 hS102 hg_l rfl hr_g_l H) (fun v w' h w2 e => DD.keep (⟨(Bl.g0 hg (gr_eqv h.1 e)), (Bl.g0 ho (gr_eqv h.1 e))⟩)) ?_
  rintro _ w1 ⟨hg1, t11, A_t11, c_t11, rfl, ht11, H⟩
  have hb1 := ht11.ge'
  have k1 := ht11.base (fun g hg => Nat.le_trans (Nat.le_refl _) (hb1 g hg))
  have gr1 := hg1
  refine WJ.y rfl rfl (fun w' hw' => Yld.pure tab_ok rfl) ?_
  refine WJ.y rfl rfl (fun w' hw' => Yld.pure tab_ok rfl) ?_
  refine WJ.y rfl rfl (fun w' hw' => Yld.pure tab_ok rfl) ?_
  refine WJ.y rfl rfl (fun w' hw' => Yld.pure tab_ok rfl) ?_
  refine WJ.y rfl rfl (fun w' hw' => Yld.bload tab_ok (hw' rfl).2 rfl rfl rfl) ?_
  refine WJ.callv rfl rfl rfl rfl (W_pgraph_Graph_Same_1 (hG.grown gr1) hS101 hS102 (ho_l.grown gr1) rfl (hr_o_l.grown gr1) H) (fun v w' h w2 e => DD.keep (⟨(Bl.g0 (hg.g0 gr1) (gr_eqv h.1 e)), (Bl.g0 (ho.g0 gr1) (gr_eqv h.1 e))⟩)) ?_
  rintro _ w2 ⟨hg2, t17, A_t17, c_t17, rfl, ht17, H⟩
  have hb2 := ht17.ge'
  have k2 := ht17.base (fun g hg => Nat.le_trans (size_le gr1) (hb2 g hg))
  have gr2 := gr_trans gr1 hg2
  have k3 := k1.grown hg2
  refine WJ.call rfl (wants_none) rfl rfl (W_slices_Equal_string_string k3.rd rfl k2.rd rfl H) (fun v w' h w2 e => DD.keep (⟨(bl_eqv (eqvL h.1 e) (hg.g0 gr2)), (bl_eqv (eqvL h.1 e) (ho.g0 gr2))⟩)) ?_
  rintro _ _ ⟨rfl, t4, rfl, H⟩
  refine WJ.y rfl rfl (fun w' hw' => Yld.pure tab_ok rfl) ?_
  refine WJ.nil (WX.then_normal ?_)
  refine WC.ret ?_
  exact WX.ret1 rfl rfl ⟨gr2, t4, rfl, H⟩

end Go.Proofs.YtlonpmajnglmoaaGreatDoor

 