/- Texts of this claim, joined by a program: GGq, Lin, GoA. -/
import Derived.Test.YtlonpmajnglmoaaGreatDoorJ4
import Derived.Lib.SplitLaws
import Derived.Lib.Strings
import Derived.Lib.ItoaLen
/- Printed by a program (wip/vg): what the functions mean, plainly, and their walks. -/
namespace Go.Proofs.YtlonpmajnglmoaaGreatDoor
open Go Go.RowKit
attribute [local irreducible] WL WC WX WQ WK WJ Yld Eff Ef0 Fn
def M_smithylaw22_GraphOrder (l : List (Int × List (List UInt8) × List (List UInt8) × List UInt8)) (at_ : Int) (K : Bool → Prop) : Prop :=
 (l.length ≤ maxLen →
 M_smithylaw22_first (fun (ok : Bool) =>
 (((!ok) = true → K false) ∧
 ((!ok) = false → M_smithyworld_Actions l (fun (t29 : Bool) =>
 ((((!t29) || (!ok)) = true → K ok) ∧
 (((!t29) || (!ok)) = false → M_graph_New l (fun (t381 : Er) =>
 K true) (fun (t380_l : List (Int × List (List UInt8) × List (List UInt8) × List UInt8)) (t380_makers : List (List UInt8 × Int)) (t380_before : List (List Int)) (t380_after : List (List Int)) (t3812 : Er) =>
 ((¬ (t3812 = Er.ok) → K false) ∧
 (t3812 = Er.ok → M_pgraph_Graph_Order t380_l t380_makers t380_before t380_after (fun (o : List Int) =>
 (0 ≤ (l.length : Int) ∧ (l.length : Int) * 8 ≤ 140737488355328 ∧ (l.length : Int) ≤ 140737488355328) ∧
 Lp2 (fun (i : Int) (place : List Int) kont1 => (l.length : Int).toNat = place.length → ((i < (o.length : Int) → (0 ≤ i ∧ i < (o.length : Nat)) ∧
 ((decide ((o.getD i.toNat 0) < (0 : Int))) = false → (0 ≤ i ∧ i < (o.length : Nat))) ∧
 ((((decide ((o.getD i.toNat 0) < (0 : Int))) || (decide ((l.length : Int) ≤ (o.getD i.toNat 0)))) = true → K false) ∧
 (((decide ((o.getD i.toNat 0) < (0 : Int))) || (decide ((l.length : Int) ≤ (o.getD i.toNat 0)))) = false → (0 ≤ i ∧ i < (o.length : Nat)) ∧
 (In .i64 (i + (1 : Int))) ∧
 (0 ≤ o.getD i.toNat 0 ∧ o.getD i.toNat 0 < ((l.length : Int).toNat : Nat)) ∧
 (In .i64 (i + (1 : Int))) ∧
 kont1 (i + (1 : Int)) (place.set ((o.getD i.toNat 0).toNat) (i + (1 : Int)))))) ∧
 (¬ (i < (o.length : Int)) → Lp1 (fun (i2 : Int) kont2 => ((i2 < (l.length : Int) → M_pgraph_Graph_Before t380_l t380_makers t380_before t380_after i2 (fun (b : List Int) =>
 Lp1 (fun (k : Int) kont3 => ((k < (b.length : Int) → (0 ≤ k ∧ k < (b.length : Nat)) ∧
 (0 ≤ b.getD k.toNat 0 ∧ b.getD k.toNat 0 < ((l.length : Int).toNat : Nat)) ∧
 ((decide ((place.getD ((b.getD k.toNat 0).toNat) 0) = (0 : Int))) = false → (0 ≤ k ∧ k < (b.length : Nat))) ∧
 ((decide ((place.getD ((b.getD k.toNat 0).toNat) 0) = (0 : Int))) = false → (0 ≤ b.getD k.toNat 0 ∧ b.getD k.toNat 0 < ((l.length : Int).toNat : Nat))) ∧
 ((decide ((place.getD ((b.getD k.toNat 0).toNat) 0) = (0 : Int))) = false → (0 ≤ i2 ∧ i2 < ((l.length : Int).toNat : Nat))) ∧
 ∃ J1 : Bool → Prop, (((((decide ((place.getD ((b.getD k.toNat 0).toNat) 0) = (0 : Int))) || (decide ((place.getD i2.toNat 0) ≤ (place.getD ((b.getD k.toNat 0).toNat) 0)))) = true → J1 true) ∧
 (((decide ((place.getD ((b.getD k.toNat 0).toNat) 0) = (0 : Int))) || (decide ((place.getD i2.toNat 0) ≤ (place.getD ((b.getD k.toNat 0).toNat) 0)))) = false → (0 ≤ k ∧ k < (b.length : Nat)) ∧
 M_pgraph_Graph_After t380_l t380_makers t380_before t380_after (b.getD k.toNat 0) (fun (t125 : List Int) =>
 M_smithyref_Among t125 i2 (fun (t127 : Bool) =>
 J1 (!t127)))))) ∧
 (∀ q6 : Bool, J1 q6 → ((q6 = true → K false) ∧
 (q6 = false → (In .i64 (k + (1 : Int))) ∧
 kont3 (k + (1 : Int)))))) ∧
 (¬ (k < (b.length : Int)) → (In .i64 (i2 + (1 : Int))) ∧
 kont2 (i2 + (1 : Int))))) (0 : Int))) ∧
 (¬ (i2 < (l.length : Int)) → (In .i64 ((l.length : Int) - (1 : Int))) ∧
 Lp2 (fun (back : List (Int × List (List UInt8) × List (List UInt8) × List UInt8)) (i3 : Int) kont4 => (((0 : Int) ≤ i3 → (0 ≤ i3 ∧ i3 < (l.length : Nat)) ∧
 ((back.length + (([((l.getD i3.toNat (0, [], [], [])).1, (l.getD i3.toNat (0, [], [], [])).2.1, (l.getD i3.toNat (0, [], [], [])).2.2.1, (l.getD i3.toNat (0, [], [], [])).2.2.2)] : List (Int × List (List UInt8) × List (List UInt8) × List UInt8))).length) * 72 ≤ 140737488355328) ∧
 (In .i64 (i3 - (1 : Int))) ∧
 kont4 (back ++ ([((l.getD i3.toNat (0, [], [], [])).1, (l.getD i3.toNat (0, [], [], [])).2.1, (l.getD i3.toNat (0, [], [], [])).2.2.1, (l.getD i3.toNat (0, [], [], [])).2.2.2)] : List (Int × List (List UInt8) × List (List UInt8) × List UInt8))) (i3 - (1 : Int))) ∧
 (¬ ((0 : Int) ≤ i3) → M_graph_New back (fun (t1461 : Er) =>
 K false) (fun (t1460_l : List (Int × List (List UInt8) × List (List UInt8) × List UInt8)) (t1460_makers : List (List UInt8 × Int)) (t1460_before : List (List Int)) (t1460_after : List (List Int)) (t14612 : Er) =>
 ∃ J4 : Bool → Prop, ((((!decide (t14612 = Er.ok)) = true → J4 true) ∧
 ((!decide (t14612 = Er.ok)) = false → M_pgraph_Graph_Same t380_l t380_makers t380_before t380_after t1460_l t1460_makers t1460_before t1460_after (fun (t158 : Bool) =>
 J4 (!t158))))) ∧
 (∀ q12 : Bool, J4 q12 → ∃ J5 : Bool → Prop, (((q12 = true → J5 true) ∧
 (q12 = false → M_pgraph_Graph_Same t1460_l t1460_makers t1460_before t1460_after t380_l t380_makers t380_before t380_after (fun (t164 : Bool) =>
 J5 (!t164))))) ∧
 (∀ q13 : Bool, J5 q13 → (((q13 || (!decide ((o.length : Int) = (l.length : Int)))) = true → K false) ∧
 ((q13 || (!decide ((o.length : Int) = (l.length : Int)))) = false → (((l.length : Int) = (0 : Int) → K true) ∧
 (¬ ((l.length : Int) = (0 : Int)) → M_smithyworld_Number at_ (l.length : Int) (fun (k_2 : Int) =>
 (0 ≤ k_2 ∧ k_2 < (l.length : Nat)) ∧
 M_pgraph_Graph_Needs t380_l t380_makers t380_before t380_after ([(l.getD k_2.toNat (0, [], [], [])).2.2.2] : List (List UInt8)) (fun (n : List Int) =>
 (0 ≤ k_2 ∧ k_2 < (l.length : Nat)) ∧
 M_graph_Only l ([(l.getD k_2.toNat (0, [], [], [])).2.2.2] : List (List UInt8)) (fun (part : List (Int × List (List UInt8) × List (List UInt8) × List UInt8)) =>
 M_graph_New part (fun (t1991 : Er) =>
 K false) (fun (t1990_l : List (Int × List (List UInt8) × List (List UInt8) × List UInt8)) (t1990_makers : List (List UInt8 × Int)) (t1990_before : List (List Int)) (t1990_after : List (List Int)) (t19912 : Er) =>
 ∃ J7 : Bool → Prop, (((((!decide (t19912 = Er.ok)) || (!decide ((part.length : Int) = (n.length : Int)))) = true → J7 true) ∧
 (((!decide (t19912 = Er.ok)) || (!decide ((part.length : Int) = (n.length : Int)))) = false → M_smithyref_Among n k_2 (fun (t218 : Bool) =>
 J7 (!t218))))) ∧
 (∀ q20 : Bool, J7 q20 → ((q20 = true → K false) ∧
 (q20 = false → (In .i64 ((l.length : Int) - (1 : Int))) ∧
 (In .i64 (((l.length : Int) - (1 : Int)) - k_2)) ∧
 (In .i64 ((l.length : Int) - (1 : Int))) ∧
 (In .i64 (((l.length : Int) - (1 : Int)) - k_2)) ∧
 (0 ≤ ((l.length : Int) - (1 : Int)) - k_2 ∧ ((l.length : Int) - (1 : Int)) - k_2 < (back.length : Nat)) ∧
 M_smithyref_Texts ((back.getD ((((l.length : Int) - (1 : Int)) - k_2).toNat) (0, [], [], [])).2.1) (fun (t236 : List (List UInt8)) =>
 ((t236.length + (([([122, 122] : List UInt8)] : List (List UInt8))).length) * 16 ≤ 140737488355328) ∧
 (0 ≤ ((l.length : Int) - (1 : Int)) - k_2 ∧ ((l.length : Int) - (1 : Int)) - k_2 < (back.length : Nat)) ∧
 M_graph_New (back.set ((((l.length : Int) - (1 : Int)) - k_2).toNat) (((back.getD ((((l.length : Int) - (1 : Int)) - k_2).toNat) (0, [], [], [])).1, t236 ++ ([([122, 122] : List UInt8)] : List (List UInt8)), (back.getD ((((l.length : Int) - (1 : Int)) - k_2).toNat) (0, [], [], [])).2.2.1, (back.getD ((((l.length : Int) - (1 : Int)) - k_2).toNat) (0, [], [], [])).2.2.2) : Int × List (List UInt8) × List (List UInt8) × List UInt8)) (fun (t2431 : Er) =>
 (0 ≤ k_2 ∧ k_2 < (l.length : Nat)) ∧
 M_pgraph_Graph_Needs t1990_l t1990_makers t1990_before t1990_after ([(l.getD k_2.toNat (0, [], [], [])).2.2.2] : List (List UInt8)) (fun (t253 : List Int) =>
 K false)) (fun (t2430_l : List (Int × List (List UInt8) × List (List UInt8) × List UInt8)) (t2430_makers : List (List UInt8 × Int)) (t2430_before : List (List Int)) (t2430_after : List (List Int)) (t24312 : Er) =>
 (0 ≤ k_2 ∧ k_2 < (l.length : Nat)) ∧
 M_pgraph_Graph_Needs t1990_l t1990_makers t1990_before t1990_after ([(l.getD k_2.toNat (0, [], [], [])).2.2.2] : List (List UInt8)) (fun (t2532 : List Int) =>
 ∃ J9 : Bool → Prop, (((((decide ((t2532.length : Int) = (part.length : Int))) && (decide (t24312 = Er.ok))) = true → M_pgraph_Graph_Same t380_l t380_makers t380_before t380_after t2430_l t2430_makers t2430_before t2430_after (fun (t269 : Bool) =>
 J9 (!t269))) ∧
 (((decide ((t2532.length : Int) = (part.length : Int))) && (decide (t24312 = Er.ok))) = false → J9 false))) ∧
 (∀ q26 : Bool, J9 q26 → K q26))))))))))))))))))))) [] ((l.length : Int) - (1 : Int))))) (0 : Int)))) (0 : Int) (List.replicate (l.length : Int).toNat 0))))))))))))

set_option maxHeartbeats 8000000 in
theorem W_smithylaw22_GraphOrder {S : List Nat} {w : World} {l : List (Int × List (List UInt8) × List (List UInt8) × List UInt8)} {A_l : Option Addr} {c_l : Nat} {hs_l : List (Int × Hdr × Hdr × List UInt8)} {at_ : Int} {n_l : Nat} {K : Bool → Prop} (hG : GOK S w) (hS4 : 4 ∈ S) (hS6 : 6 ∈ S) (hS9 : 9 ∈ S) (hS10 : 10 ∈ S) (hS11 : 11 ∈ S) (hS100 : 100 ∈ S) (hS101 : 101 ∈ S) (hS102 : 102 ∈ S) (hl : RdK 4 encH94 w A_l c_l hs_l) (hn_l : n_l = l.length) (hr_l : RelD de94 w hs_l l) (H : M_smithylaw22_GraphOrder l at_ K) : Fn Tryz.prog 5 ⟨[.slice A_l n_l c_l, .int .i64 at_]⟩ w (fun v w' => w.grownBy w' none ∧ ∃ (r : Bool), v = .bool r ∧ K r) := by
  subst hn_l
  unfold M_smithylaw22_GraphOrder at H
  refine Fn.enter (by kernel_rfl) Tryz.func5 rfl Tryz.ntmps5 rfl ?_
  replace H := H (by rw [← hr_l.1]; exact Nat.le_trans hl.cap hl.max)
  refine WC.seq ?_
  refine WC.region ?_
  refine WL.y rfl (Yld.pure tab_ok rfl) ?_
  refine WL.nil (WX.then_normal ?_)
  refine WC.seq ?_
  refine WC.region ?_
  refine WL.call rfl rfl (W_smithylaw22_first hG hS4 hS6 hS9 hS10 hS11 hS100 H) ?_
  rintro _ w1 ⟨hg1, ok, rfl, H⟩
  have gr1 := hg1
  refine WL.y rfl (Yld.pure tab_ok rfl) ?_
  refine WL.nil (WX.then_normal ?_)
  refine WC.seq ?_
  refine WC.seq ?_
  refine WC.region ?_
  refine WL.y rfl (Yld.pure tab_ok rfl) ?_
  refine WL.y rfl (Yld.pure tab_ok rfl) ?_
  refine WL.nil (WX.then_normal ?_)
  refine WC.cond rfl (fun b1 => ?_) (fun b1 => ?_)
  · replace H := H.1 (b1)
    refine WC.seq ?_
    refine WC.region ?_
    refine WL.y rfl (Yld.pure tab_ok rfl) ?_
    refine WL.nil (WX.then_normal ?_)
    refine WC.ret (WX.then_ret ?_)
    exact WX.ret1 rfl rfl ⟨gr1, false, rfl, H⟩
  · replace H := H.2 (b1)
    refine WC.skip (WX.then_normal ?_)
    refine WC.seq ?_
    refine WC.seq ?_
    refine WC.region ?_
    refine WL.y rfl (Yld.pure tab_ok rfl) ?_
    refine WL.call rfl rfl (W_smithyworld_Actions (hl.grown gr1) rfl (hr_l.grown gr1) H) ?_
    rintro _ _ ⟨rfl, t29, rfl, H⟩
    refine WL.y rfl (Yld.pure tab_ok rfl) ?_
    refine WL.y rfl (Yld.pure tab_ok rfl) ?_
    refine WL.midF 3 (fun L' w' => ∃ q1 : Bool, L' = [(34, .bool q1), (0, .slice A_l l.length c_l), (1, .int .i64 at_), (5, .bool ok)] ∧ ((!t29) || (!ok)) = q1 ∧ w1 = w') ?_ (fun hQ => ?_)
    · rintro _ _ ⟨q1, rfl, rfl, rfl⟩
      refine WL.nil (WX.then_normal ?_)
      refine WC.cond rfl (fun b2 => ?_) (fun b2 => ?_)
      · replace H := H.1 (b2)
        refine WC.seq ?_
        refine WC.region ?_
        refine WL.y rfl (Yld.pure tab_ok rfl) ?_
        refine WL.y rfl (Yld.pure tab_ok rfl) ?_
        refine WL.nil (WX.then_normal ?_)
        refine WC.ret (WX.then_ret ?_)
        exact WX.ret1 rfl rfl ⟨gr1, ok, rfl, H⟩
      · replace H := H.2 (b2)
        refine WC.skip (WX.then_normal ?_)
        refine WC.seq ?_
        refine WC.region ?_
        refine WL.y rfl (Yld.pure tab_ok rfl) ?_
        refine WL.call rfl rfl (W_graph_New (hG.grown gr1) hS4 hS6 hS9 hS10 hS11 hS100 (hl.grown gr1) rfl (hr_l.grown gr1) H) ?_
        rintro v_ w2 ⟨hg_, hc_ | hc_⟩
        · obtain ⟨v_t381, t381, rfl, ht381, H⟩ := hc_
          have hg2 := hg_
          have gr2 := gr_trans gr1 hg2
          refine WL.y rfl (Yld.pure tab_ok rfl) ?_
          refine WL.y rfl (Yld.pure tab_ok rfl) ?_
          refine WL.y rfl (Yld.pure tab_ok rfl) ?_
          refine WL.y rfl (Yld.pure tab_ok rfl) ?_
          refine WL.y rfl (Yld.pure tab_ok rfl) ?_
          refine WL.nil (WX.then_normal ?_)
          refine WC.seq ?_
          refine WC.seq ?_
          refine WC.region ?_
          refine WL.y rfl (Yld.pure tab_ok rfl) ?_
          refine WL.y rfl (Yld.errneq Tryz.underlying26 ht381 rfl) ?_
          refine WL.y rfl (Yld.pure tab_ok rfl) ?_
          refine WL.midF 3 (fun L' w' => ∃ q2 : Bool, L' = [(46, .bool q2), (0, .slice A_l l.length c_l), (1, .int .i64 at_), (6, .pointer none)] ∧ true = q2 ∧ w2 = w') ?_ (fun hQ => ?_)
          · rintro _ _ ⟨q2, rfl, rfl, rfl⟩
            refine WL.nil (WX.then_normal ?_)
            refine WC.cond rfl (fun _ => ?_) (fun h => by cases h)
            refine WC.seq ?_
            refine WC.region ?_
            refine WL.y rfl (Yld.pure tab_ok rfl) ?_
            refine WL.y rfl (Yld.peqnil Tryz.underlying81 rfl rfl) ?_
            refine WL.y rfl (Yld.pure tab_ok rfl) ?_
            refine WL.nil (WX.then_normal ?_)
            refine WC.ret (WX.then_ret ?_)
            exact WX.ret1 rfl rfl ⟨gr2, true, rfl, H⟩
          · clear H
            rcases Bool.eq_false_or_eq_true (!decide (t381 = Er.ok)) with b3 | b3
            · refine WL.gno rfl rfl (okb b3) rfl ?_
              refine WL.gno rfl rfl (okb b3) rfl ?_
              refine WL.y rfl (Yld.pickT (okb b3) rfl) ?_
              exact WL.weaken (by repeat (first | exact Sub.nil | refine Sub.cons rfl ?_)) (hQ _ _ ⟨true, rfl, rfl, rfl⟩)
            · refine WL.gyes rfl rfl (okb b3) rfl (Yld.pure tab_ok rfl) ?_
              refine WL.gyes rfl rfl (okb b3) rfl (Yld.peqnil Tryz.underlying81 rfl rfl) ?_
              refine WL.y rfl (Yld.pickF (okb b3) rfl) ?_
              exact WL.weaken (by repeat (first | exact Sub.nil | refine Sub.cons rfl ?_)) (hQ _ _ ⟨true, rfl, rfl, rfl⟩)
        · obtain ⟨g_t380, t380_l, A_t380_l, c_t380_l, hs_t380_l, g_t380_makers, t380_makers, t380_before, A_t380_before, c_t380_before, hs_t380_before, t380_after, A_t380_after, c_t380_after, hs_t380_after, v_t3812, t3812, rfl, ht380_l, hr_t380_l, nd1, dj1, ht380_before, hr_t380_before, nd2, dj2, ht380_after, hr_t380_after, nd3, dj3, ht3812, ht380_makers, hge1, ht380, hge2, dj4, dj5, dj6, dj7, dj8, dj9, dj10, dj11, dj12, dj13, dj14, dj15, dj16, dj17, dj18, dj19, dj20, dj21, dj22, dj23, dj24, dj25, dj26, dj27, dj28, H⟩ := hc_
          have hg3 := hg_
          have hb1 := ht380_l.ge'
          have k1 := ht380_l.base (fun g hg => Nat.le_trans (size_le gr1) (hb1 g hg))
          have hb2 := ht380_before.ge'
          have k2 := ht380_before.base (fun g hg => Nat.le_trans (size_le gr1) (hb2 g hg))
          have hb3 := ht380_after.ge'
          have k3 := ht380_after.base (fun g hg => Nat.le_trans (size_le gr1) (hb3 g hg))
          have gr3 := gr_trans gr1 hg3
          refine WL.y rfl (Yld.pure tab_ok rfl) ?_
          refine WL.y rfl (Yld.pure tab_ok rfl) ?_
          refine WL.y rfl (Yld.pure tab_ok rfl) ?_
          refine WL.y rfl (Yld.pure tab_ok rfl) ?_
          refine WL.y rfl (Yld.pure tab_ok rfl) ?_
          refine WL.nil (WX.then_normal ?_)
          refine WC.seq ?_
          refine WC.seq ?_
          refine WC.region ?_
          refine WL.y rfl (Yld.pure tab_ok rfl) ?_
          refine WL.y rfl (Yld.errneq Tryz.underlying26 ht3812 rfl) ?_
          refine WL.y rfl (Yld.pure tab_ok rfl) ?_
          refine WL.midF 3 (fun L' w' => ∃ q3 : Bool, L' = [(46, .bool q3), (0, .slice A_l l.length c_l), (1, .int .i64 at_), (6, .pointer (some ⟨g_t380, 0, none⟩))] ∧ (!decide (t3812 = Er.ok)) = q3 ∧ w2 = w') ?_ (fun hQ => ?_)
          · rintro _ _ ⟨q3, rfl, rfl, rfl⟩
            refine WL.nil (WX.then_normal ?_)
            refine WC.cond rfl (fun b4 => ?_) (fun b4 => ?_)
            · replace H := H.1 (nd_true b4)
              refine WC.seq ?_
              refine WC.region ?_
              refine WL.y rfl (Yld.pure tab_ok rfl) ?_
              refine WL.y rfl (Yld.peqnil Tryz.underlying81 rfl rfl) ?_
              refine WL.y rfl (Yld.pure tab_ok rfl) ?_
              refine WL.nil (WX.then_normal ?_)
              refine WC.ret (WX.then_ret ?_)
              exact WX.ret1 rfl rfl ⟨gr3, false, rfl, H⟩
            · replace H := H.2 (nd_false b4)
              refine WC.skip (WX.then_normal ?_)
              refine WC.seq ?_
              refine WC.region ?_
              refine WL.y rfl (Yld.pure tab_ok rfl) ?_
              refine WL.call rfl rfl (W_pgraph_Graph_Order k1.rd rfl hr_t380_l ht380_makers k2.rd rfl hr_t380_before k3.rd rfl hr_t380_after ht380 H) ?_
              rintro _ w5 ⟨hg4, o, A_o, c_o, rfl, ho, H⟩
              have hb4 := ho.ge'
              have k4 := ho.base (fun g hg => Nat.le_trans (size_le gr3) (hb4 g hg))
              have gr4 := gr_trans gr3 hg4
              have k5 := k1.grown hg4
              have k6 := hr_t380_l.grown hg4
              have k7 := k2.grown hg4
              have k8 := hr_t380_before.grown hg4
              have k9 := k3.grown hg4
              have k10 := hr_t380_after.grown hg4
              have k11 := ht380_makers.g0 hg4
              have k12 := ht380.g0 hg4
              refine WL.y rfl (Yld.pure tab_ok rfl) ?_
              refine WL.nil (WX.then_normal ?_)
              refine WC.seq ?_
              refine WC.region ?_
              refine WL.y rfl (Yld.pure tab_ok rfl) ?_
              refine WL.y rfl (Yld.pure tab_ok rfl) ?_
              obtain ⟨h1, H⟩ := H
              refine WL.makeZI (f := vi) (z := 0) (B := w.heap.size) tab_ok rfl rfl zero3 rfl rfl h1.1 h1.2.1 h1.2.2 (size_le gr4) (fun g1 w6 hO1 hg5 hl1 => ?_)
              have gr5 := gr_trans gr4 hg5
              have k13 := k5.grown hg5
              have k14 := k6.grown hg5
              have k15 := k7.grown hg5
              have k16 := k8.grown hg5
              have k17 := k9.grown hg5
              have k18 := k10.grown hg5
              have k19 := k11.g0 hg5
              have k20 := k12.g0 hg5
              have k21 := k4.grown hg5
              refine WL.y rfl (Yld.pure tab_ok rfl) ?_
              refine WL.nil (WX.then_normal ?_)
              refine WC.seq ?_
              refine WC.seq ?_
              refine WC.region ?_
              refine WL.y rfl (Yld.pure tab_ok rfl) ?_
              refine WL.nil (WX.then_normal ?_)
              refine WC.block ?_
              obtain ⟨I1, mu1, h0_1, HR1⟩ := H
              refine WC.loopF (fun n' L' w' => ∃ (i : Int), ∃ (place : List Int), n' = mu1 i place ∧ L' = [(0, .slice A_l l.length c_l), (1, .int .i64 at_), (6, .pointer (some ⟨g_t380, 0, none⟩)), (8, .slice A_o o.length c_o), (9, .slice (some ⟨g1, 0, none⟩) ((l.length : Int).toNat) ((l.length : Int).toNat)), (10, .int .i64 i)] ∧ I1 i place ∧ (l.length : Int).toNat = place.length ∧ w.grownBy w' none ∧ OwnK 4 encH94 w' w.heap.size 94 A_t380_l c_t380_l hs_t380_l ∧ RelD de94 w' hs_t380_l t380_l ∧ Own vh w' w.heap.size 98 A_t380_before c_t380_before hs_t380_before ∧ RelD de98 w' hs_t380_before t380_before ∧ Own vh w' w.heap.size 98 A_t380_after c_t380_after hs_t380_after ∧ RelD de98 w' hs_t380_after t380_after ∧ MapB vs okS vi w' g_t380_makers t380_makers ∧ Bl w' g_t380 169 [.slice A_t380_l t380_l.length c_t380_l, .map (some g_t380_makers), .slice A_t380_before t380_before.length c_t380_before, .slice A_t380_after t380_after.length c_t380_after] ∧ Own vi w' w.heap.size 3 A_o c_o o ∧ Own vi w' w.heap.size 3 (some ⟨g1, 0, none⟩) ((l.length : Int).toNat) place ∧ Dj (blk A_t380_l) (blk A_t380_before) ∧ Dj (blk A_t380_l) (blk A_t380_after) ∧ Dj (blk A_t380_l) (some g_t380_makers) ∧ Dj (blk A_t380_l) (some g_t380) ∧ Dj (blk A_t380_l) (blk A_o) ∧ Dj (blk A_t380_l) (blk (some ⟨g1, 0, none⟩)) ∧ DnD de94 hs_t380_l t380_l (blk A_t380_l) ∧ DnD de94 hs_t380_l t380_l (blk A_t380_before) ∧ DnD de94 hs_t380_l t380_l (blk A_t380_after) ∧ DnD de94 hs_t380_l t380_l (some g_t380_makers) ∧ DnD de94 hs_t380_l t380_l (some g_t380) ∧ DnD de94 hs_t380_l t380_l (blk A_o) ∧ DnD de94 hs_t380_l t380_l (blk (some ⟨g1, 0, none⟩)) ∧ Dj (blk A_t380_before) (blk A_t380_after) ∧ Dj (blk A_t380_before) (some g_t380) ∧ Dj (blk A_t380_before) (blk A_o) ∧ Dj (blk A_t380_before) (blk (some ⟨g1, 0, none⟩)) ∧ DnD de98 hs_t380_before t380_before (blk A_t380_l) ∧ DnD de98 hs_t380_before t380_before (blk A_t380_before) ∧ DnD de98 hs_t380_before t380_before (blk A_t380_after) ∧ DnD de98 hs_t380_before t380_before (some g_t380_makers) ∧ DnD de98 hs_t380_before t380_before (some g_t380) ∧ DnD de98 hs_t380_before t380_before (blk A_o) ∧ DnD de98 hs_t380_before t380_before (blk (some ⟨g1, 0, none⟩)) ∧ Dj (blk A_t380_after) (some g_t380) ∧ Dj (blk A_t380_after) (blk A_o) ∧ Dj (blk A_t380_after) (blk (some ⟨g1, 0, none⟩)) ∧ DnD de98 hs_t380_after t380_after (blk A_t380_l) ∧ DnD de98 hs_t380_after t380_after (blk A_t380_before) ∧ DnD de98 hs_t380_after t380_after (blk A_t380_after) ∧ DnD de98 hs_t380_after t380_after (some g_t380_makers) ∧ DnD de98 hs_t380_after t380_after (some g_t380) ∧ DnD de98 hs_t380_after t380_after (blk A_o) ∧ DnD de98 hs_t380_after t380_after (blk (some ⟨g1, 0, none⟩)) ∧ Dj (some g_t380_makers) (blk A_t380_before) ∧ Dj (some g_t380_makers) (blk A_t380_after) ∧ Dj (some g_t380_makers) (some g_t380) ∧ Dj (some g_t380_makers) (blk A_o) ∧ Dj (some g_t380_makers) (blk (some ⟨g1, 0, none⟩)) ∧ Dj (some g_t380) (blk A_o) ∧ Dj (some g_t380) (blk (some ⟨g1, 0, none⟩)) ∧ Dj (blk A_o) (blk (some ⟨g1, 0, none⟩))) _ _ ⟨(0 : Int), (List.replicate (l.length : Int).toNat 0), rfl, rfl, h0_1, (List.length_replicate).symm, gr5, k13, k14, k15, k16, k17, k18, k19, k20, k21, hO1, dj19, dj20, dj21, dj22, (Dj.new k1.lt' hb4), (Dj.new k5.lt' (Ge.box hl1)), dj1, dj5, dj6, dj7, dj8, (hr_t380_l.new hb4), (k6.new (Ge.box hl1)), dj23, dj25, (Dj.new k2.lt' hb4), (Dj.new k7.lt' (Ge.box hl1)), dj9, dj2, dj11, dj12, dj13, (hr_t380_before.new hb4), (k8.new (Ge.box hl1)), dj27, (Dj.new k3.lt' hb4), (Dj.new k9.lt' (Ge.box hl1)), dj14, dj15, dj3, dj17, dj18, (hr_t380_after.new hb4), (k10.new (Ge.box hl1)), dj24.symm, dj26.symm, dj28, (Dj.new ht380_makers.lt' hb4), (Dj.new k11.lt' (Ge.box hl1)), (Dj.new ht380.lt' hb4), (Dj.new k12.lt' (Ge.box hl1)), (Dj.new k4.lt' (Ge.box hl1))⟩ (by repeat (first | exact Sub.nil | refine Sub.cons rfl ?_)) ?_
              clear h0_1
              rintro _ _ w7 ⟨i, place, rfl, rfl, hI1, hn_place, gr6, k22, k23, k24, k25, k26, k27, k28, k29, k30, k31, dj29, dj30, dj31, dj32, dj33, dj34, dj35, dj36, dj37, dj38, dj39, dj40, dj41, dj42, dj43, dj44, dj45, dj46, dj47, dj48, dj49, dj50, dj51, dj52, dj53, dj54, dj55, dj56, dj57, dj58, dj59, dj60, dj61, dj62, dj63, dj64, dj65, dj66, dj67, dj68, dj69, dj70⟩
              have H := HR1 i place hI1
              replace H := H hn_place
              refine WC.seq ?_
              refine WC.seq ?_
              refine WC.region ?_
              refine WL.y rfl (Yld.pure tab_ok rfl) ?_
              refine WL.y rfl (Yld.pure tab_ok rfl) ?_
              refine WL.y rfl (Yld.pure tab_ok rfl) ?_
              refine WL.y rfl (Yld.pure tab_ok rfl) ?_
              refine WL.nil (WX.then_normal ?_)
              refine WC.cond rfl (fun b5 => ?_) (fun b5 => ?_)
              · replace H := H.1 (of_decide_eq_true b5)
                refine WC.skip (WX.then_normal ?_)
                refine WC.seq ?_
                refine WC.block ?_
                refine WC.seq ?_
                refine WC.seq ?_
                refine WC.region ?_
                refine WL.y rfl (Yld.pure tab_ok rfl) ?_
                refine WL.y rfl (Yld.pure tab_ok rfl) ?_
                obtain ⟨h2, H⟩ := H
                refine WL.y rfl (Yld.iaddrW tab_ok k30.rd rfl rfl rfl rfl h2.1 h2.2) ?_
                refine WL.y rfl (Yld.iload 0 tab_ok k30.rd rfl rfl (iltN h2 rfl)) ?_
                refine WL.y rfl (Yld.pure tab_ok rfl) ?_
                refine WL.y rfl (Yld.pure tab_ok rfl) ?_
                obtain ⟨h3, H⟩ := H
                refine WL.midF 8 (fun L' w' => ∃ q4 : Bool, L' = [(73, .bool q4), (0, .slice A_l l.length c_l), (1, .int .i64 at_), (6, .pointer (some ⟨g_t380, 0, none⟩)), (8, .slice A_o o.length c_o), (9, .slice (some ⟨g1, 0, none⟩) ((l.length : Int).toNat) ((l.length : Int).toNat)), (10, .int .i64 i)] ∧ ((decide ((o.getD i.toNat 0) < (0 : Int))) || (decide ((l.length : Int) ≤ (o.getD i.toNat 0)))) = q4 ∧ w7 = w') ?_ (fun hQ => ?_)
                · rintro _ _ ⟨q4, rfl, rfl, rfl⟩
                  refine WL.nil (WX.then_normal ?_)
                  refine WC.cond rfl (fun b6 => ?_) (fun b6 => ?_)
                  · replace H := H.1 (b6)
                    refine WC.seq ?_
                    refine WC.region ?_
                    refine WL.y rfl (Yld.pure tab_ok rfl) ?_
                    refine WL.nil (WX.then_normal ?_)
                    refine WC.ret (WX.then_ret (WX.block_ret (WX.then_ret (WX.then_ret (WX.block_ret (WX.then_ret ?_))))))
                    exact WX.ret1 rfl rfl ⟨gr6, false, rfl, H⟩
                  · replace H := H.2 (b6)
                    refine WC.skip (WX.then_normal ?_)
                    refine WC.region ?_
                    refine WL.y rfl (Yld.pure tab_ok rfl) ?_
                    refine WL.y rfl (Yld.pure tab_ok rfl) ?_
                    refine WL.y rfl (Yld.pure tab_ok rfl) ?_
                    obtain ⟨h4, H⟩ := H
                    refine WL.y rfl (Yld.iaddrW tab_ok k30.rd rfl rfl rfl rfl h4.1 h4.2) ?_
                    refine WL.y rfl (Yld.iload 0 tab_ok k30.rd rfl rfl (iltN h4 rfl)) ?_
                    refine WL.y rfl (Yld.pure tab_ok rfl) ?_
                    obtain ⟨h5, H⟩ := H
                    refine WL.y rfl (Yld.add rfl rfl h5) ?_
                    obtain ⟨h6, H⟩ := H
                    refine WL.y rfl (Yld.iaddrW tab_ok k31.rd rfl rfl hn_place rfl h6.1 h6.2) ?_
                    refine WL.ostore (v := i + (1 : Int)) one3 One.i k31 rfl rfl (iltN h6 hn_place) (fun w8 hO2 hg6 => ?_)
                    have gr7 := gr_mod gr6 hg6 k31.ge'
                    have k32 := k22.go hg6 dj34
                    have k33 := k23.go hg6 dj41
                    have k34 := k24.go hg6 dj45
                    have k35 := k25.go hg6 dj52
                    have k36 := k26.go hg6 dj55
                    have k37 := k27.go hg6 dj62
                    have k38 := k28.go hg6 dj67
                    have k39 := k29.go hg6 dj69
                    have k40 := k30.go hg6 dj70
                    refine WL.nil (WX.block_normal (WX.then_normal ?_))
                    refine WC.region ?_
                    refine WL.y rfl (Yld.pure tab_ok rfl) ?_
                    obtain ⟨h7, H⟩ := H
                    refine WL.y rfl (Yld.add rfl rfl h7) ?_
                    refine WL.y rfl (Yld.pure tab_ok rfl) ?_
                    refine WL.nil ?_
                    exact WX.roundF _ ⟨i + (1 : Int), place.set ((o.getD i.toNat 0).toNat) (i + (1 : Int)), rfl, rfl, H.1, (hn_place.trans List.length_set.symm), gr7, k32, k33, k34, k35, k36, k37, k38, k39, k40, hO2, dj29, dj30, dj31, dj32, dj33, dj34, dj35, dj36, dj37, dj38, dj39, dj40, dj41, dj42, dj43, dj44, dj45, dj46, dj47, dj48, dj49, dj50, dj51, dj52, dj53, dj54, dj55, dj56, dj57, dj58, dj59, dj60, dj61, dj62, dj63, dj64, dj65, dj66, dj67, dj68, dj69, dj70⟩ (by repeat (first | exact Sub.nil | refine Sub.cons rfl ?_)) H.2
                · clear H
                  rcases Bool.eq_false_or_eq_true (decide ((o.getD i.toNat 0) < (0 : Int))) with b7 | b7
                  · refine WL.gno rfl rfl (okb b7) rfl ?_
                    refine WL.gno rfl rfl (okb b7) rfl ?_
                    refine WL.gno rfl rfl (okb b7) rfl ?_
                    refine WL.gno rfl rfl (okb b7) rfl ?_
                    refine WL.gno rfl rfl (okb b7) rfl ?_
                    refine WL.gno rfl rfl (okb b7) rfl ?_
                    refine WL.gno rfl rfl (okb b7) rfl ?_
                    refine WL.y rfl (Yld.pickT (okb b7) rfl) ?_
                    exact WL.weaken (by repeat (first | exact Sub.nil | refine Sub.cons rfl ?_)) (hQ _ _ ⟨true, rfl, by rw [b7] <;> rfl, rfl⟩)
                  · refine WL.gyes rfl rfl (okb b7) rfl (Yld.pure tab_ok rfl) ?_
                    refine WL.gyes rfl rfl (okb b7) rfl (Yld.pure tab_ok rfl) ?_
                    refine WL.gyes rfl rfl (okb b7) rfl (Yld.iaddrW tab_ok k30.rd rfl rfl rfl rfl (h3 b7).1 (h3 b7).2) ?_
                    refine WL.gyes rfl rfl (okb b7) rfl (Yld.iload 0 tab_ok k30.rd rfl rfl (iltN (h3 b7) rfl)) ?_
                    refine WL.gyes rfl rfl (okb b7) rfl (Yld.pure tab_ok rfl) ?_
                    refine WL.gyes rfl rfl (okb b7) rfl (Yld.pure tab_ok rfl) ?_
                    refine WL.gyes rfl rfl (okb b7) rfl (Yld.pure tab_ok rfl) ?_
                    refine WL.y rfl (Yld.pickF (okb b7) rfl) ?_
                    exact WL.weaken (by repeat (first | exact Sub.nil | refine Sub.cons rfl ?_)) (hQ _ _ ⟨decide ((l.length : Int) ≤ (o.getD i.toNat 0)), rfl, by rw [b7] <;> rfl, rfl⟩)
              · replace H := H.2 (of_decide_eq_false b5)
                refine WC.exit (WX.then_exit (WX.then_exit (WX.block_same (WX.then_normal ?_))))
                refine WC.seq ?_
                refine WC.seq ?_
                refine WC.region ?_
                refine WL.y rfl (Yld.pure tab_ok rfl) ?_
                refine WL.nil (WX.then_normal ?_)
                refine WC.block ?_
                obtain ⟨I2, mu2, h0_2, HR2⟩ := H
                refine WC.loopF (fun n' L' w' => ∃ (i2 : Int), n' = mu2 i2 ∧ L' = [(0, .slice A_l l.length c_l), (1, .int .i64 at_), (6, .pointer (some ⟨g_t380, 0, none⟩)), (8, .slice A_o o.length c_o), (9, .slice (some ⟨g1, 0, none⟩) ((l.length : Int).toNat) ((l.length : Int).toNat)), (11, .int .i64 i2)] ∧ I2 i2 ∧ w.grownBy w' none ∧ OwnK 4 encH94 w' w.heap.size 94 A_t380_l c_t380_l hs_t380_l ∧ RelD de94 w' hs_t380_l t380_l ∧ Own vh w' w.heap.size 98 A_t380_before c_t380_before hs_t380_before ∧ RelD de98 w' hs_t380_before t380_before ∧ Own vh w' w.heap.size 98 A_t380_after c_t380_after hs_t380_after ∧ RelD de98 w' hs_t380_after t380_after ∧ MapB vs okS vi w' g_t380_makers t380_makers ∧ Bl w' g_t380 169 [.slice A_t380_l t380_l.length c_t380_l, .map (some g_t380_makers), .slice A_t380_before t380_before.length c_t380_before, .slice A_t380_after t380_after.length c_t380_after] ∧ Own vi w' w.heap.size 3 A_o c_o o ∧ Own vi w' w.heap.size 3 (some ⟨g1, 0, none⟩) ((l.length : Int).toNat) place ∧ Dj (blk A_t380_l) (blk A_t380_before) ∧ Dj (blk A_t380_l) (blk A_t380_after) ∧ Dj (blk A_t380_l) (some g_t380_makers) ∧ Dj (blk A_t380_l) (some g_t380) ∧ Dj (blk A_t380_l) (blk A_o) ∧ Dj (blk A_t380_l) (blk (some ⟨g1, 0, none⟩)) ∧ DnD de94 hs_t380_l t380_l (blk A_t380_l) ∧ DnD de94 hs_t380_l t380_l (blk A_t380_before) ∧ DnD de94 hs_t380_l t380_l (blk A_t380_after) ∧ DnD de94 hs_t380_l t380_l (some g_t380_makers) ∧ DnD de94 hs_t380_l t380_l (some g_t380) ∧ DnD de94 hs_t380_l t380_l (blk A_o) ∧ DnD de94 hs_t380_l t380_l (blk (some ⟨g1, 0, none⟩)) ∧ Dj (blk A_t380_before) (blk A_t380_after) ∧ Dj (blk A_t380_before) (some g_t380) ∧ Dj (blk A_t380_before) (blk A_o) ∧ Dj (blk A_t380_before) (blk (some ⟨g1, 0, none⟩)) ∧ DnD de98 hs_t380_before t380_before (blk A_t380_l) ∧ DnD de98 hs_t380_before t380_before (blk A_t380_before) ∧ DnD de98 hs_t380_before t380_before (blk A_t380_after) ∧ DnD de98 hs_t380_before t380_before (some g_t380_makers) ∧ DnD de98 hs_t380_before t380_before (some g_t380) ∧ DnD de98 hs_t380_before t380_before (blk A_o) ∧ DnD de98 hs_t380_before t380_before (blk (some ⟨g1, 0, none⟩)) ∧ Dj (blk A_t380_after) (some g_t380) ∧ Dj (blk A_t380_after) (blk A_o) ∧ Dj (blk A_t380_after) (blk (some ⟨g1, 0, none⟩)) ∧ DnD de98 hs_t380_after t380_after (blk A_t380_l) ∧ DnD de98 hs_t380_after t380_after (blk A_t380_before) ∧ DnD de98 hs_t380_after t380_after (blk A_t380_after) ∧ DnD de98 hs_t380_after t380_after (some g_t380_makers) ∧ DnD de98 hs_t380_after t380_after (some g_t380) ∧ DnD de98 hs_t380_after t380_after (blk A_o) ∧ DnD de98 hs_t380_after t380_after (blk (some ⟨g1, 0, none⟩)) ∧ Dj (some g_t380_makers) (blk A_t380_before) ∧ Dj (some g_t380_makers) (blk A_t380_after) ∧ Dj (some g_t380_makers) (some g_t380) ∧ Dj (some g_t380_makers) (blk A_o) ∧ Dj (some g_t380_makers) (blk (some ⟨g1, 0, none⟩)) ∧ Dj (some g_t380) (blk A_o) ∧ Dj (some g_t380) (blk (some ⟨g1, 0, none⟩)) ∧ Dj (blk A_o) (blk (some ⟨g1, 0, none⟩))) _ _ ⟨(0 : Int), rfl, rfl, h0_2, gr6, k22, k23, k24, k25, k26, k27, k28, k29, k30, k31, dj29, dj30, dj31, dj32, dj33, dj34, dj35, dj36, dj37, dj38, dj39, dj40, dj41, dj42, dj43, dj44, dj45, dj46, dj47, dj48, dj49, dj50, dj51, dj52, dj53, dj54, dj55, dj56, dj57, dj58, dj59, dj60, dj61, dj62, dj63, dj64, dj65, dj66, dj67, dj68, dj69, dj70⟩ (by repeat (first | exact Sub.nil | refine Sub.cons rfl ?_)) ?_
                clear h0_2
                rintro _ _ w9 ⟨i2, rfl, rfl, hI2, gr8, k41, k42, k43, k44, k45, k46, k47, k48, k49, k50, dj71, dj72, dj73, dj74, dj75, dj76, dj77, dj78, dj79, dj80, dj81, dj82, dj83, dj84, dj85, dj86, dj87, dj88, dj89, dj90, dj91, dj92, dj93, dj94, dj95, dj96, dj97, dj98, dj99, dj100, dj101, dj102, dj103, dj104, dj105, dj106, dj107, dj108, dj109, dj110, dj111, dj112⟩
                have H := HR2 i2 hI2
                refine WC.seq ?_
                refine WC.seq ?_
                refine WC.region ?_
                refine WL.y rfl (Yld.pure tab_ok rfl) ?_
                refine WL.y rfl (Yld.pure tab_ok rfl) ?_
                refine WL.y rfl (Yld.pure tab_ok rfl) ?_
                refine WL.y rfl (Yld.pure tab_ok rfl) ?_
                refine WL.nil (WX.then_normal ?_)
                refine WC.cond rfl (fun b8 => ?_) (fun b8 => ?_)
                · replace H := H.1 (of_decide_eq_true b8)
                  refine WC.skip (WX.then_normal ?_)
                  refine WC.seq ?_
                  refine WC.block ?_
                  refine WC.seq ?_
                  refine WC.region ?_
                  refine WL.y rfl (Yld.pure tab_ok rfl) ?_
                  refine WL.y rfl (Yld.pure tab_ok rfl) ?_
                  refine WL.call rfl rfl (W_pgraph_Graph_Before k41.rd rfl k42 k47 k43.rd rfl k44 k45.rd rfl k46 k48 H) ?_
                  rintro _ w10 ⟨hg7, b, A_b, c_b, rfl, hb, H⟩
                  have hb5 := hb.ge'
                  have k51 := hb.base (fun g hg => Nat.le_trans (size_le gr8) (hb5 g hg))
                  have gr9 := gr_trans gr8 hg7
                  have k52 := k41.grown hg7
                  have k53 := k42.grown hg7
                  have k54 := k43.grown hg7
                  have k55 := k44.grown hg7
                  have k56 := k45.grown hg7
                  have k57 := k46.grown hg7
                  have k58 := k47.g0 hg7
                  have k59 := k48.g0 hg7
                  have k60 := k49.grown hg7
                  have k61 := k50.grown hg7
                  refine WL.y rfl (Yld.pure tab_ok rfl) ?_
                  refine WL.nil (WX.then_normal ?_)
                  refine WC.seq ?_
                  refine WC.region ?_
                  refine WL.y rfl (Yld.pure tab_ok rfl) ?_
                  refine WL.nil (WX.then_normal ?_)
                  refine WC.block ?_
                  obtain ⟨I3, mu3, h0_3, HR3⟩ := H
                  refine WC.loopF (fun n' L' w' => ∃ (k : Int), n' = mu3 k ∧ L' = [(0, .slice A_l l.length c_l), (1, .int .i64 at_), (6, .pointer (some ⟨g_t380, 0, none⟩)), (8, .slice A_o o.length c_o), (9, .slice (some ⟨g1, 0, none⟩) ((l.length : Int).toNat) ((l.length : Int).toNat)), (11, .int .i64 i2), (12, .slice A_b b.length c_b), (13, .int .i64 k)] ∧ I3 k ∧ w.grownBy w' none ∧ OwnK 4 encH94 w' w.heap.size 94 A_t380_l c_t380_l hs_t380_l ∧ RelD de94 w' hs_t380_l t380_l ∧ Own vh w' w.heap.size 98 A_t380_before c_t380_before hs_t380_before ∧ RelD de98 w' hs_t380_before t380_before ∧ Own vh w' w.heap.size 98 A_t380_after c_t380_after hs_t380_after ∧ RelD de98 w' hs_t380_after t380_after ∧ MapB vs okS vi w' g_t380_makers t380_makers ∧ Bl w' g_t380 169 [.slice A_t380_l t380_l.length c_t380_l, .map (some g_t380_makers), .slice A_t380_before t380_before.length c_t380_before, .slice A_t380_after t380_after.length c_t380_after] ∧ Own vi w' w.heap.size 3 A_o c_o o ∧ Own vi w' w.heap.size 3 (some ⟨g1, 0, none⟩) ((l.length : Int).toNat) place ∧ Own vi w' w.heap.size 3 A_b c_b b ∧ Dj (blk A_t380_l) (blk A_t380_before) ∧ Dj (blk A_t380_l) (blk A_t380_after) ∧ Dj (blk A_t380_l) (some g_t380_makers) ∧ Dj (blk A_t380_l) (some g_t380) ∧ Dj (blk A_t380_l) (blk A_o) ∧ Dj (blk A_t380_l) (blk (some ⟨g1, 0, none⟩)) ∧ Dj (blk A_t380_l) (blk A_b) ∧ DnD de94 hs_t380_l t380_l (blk A_t380_l) ∧ DnD de94 hs_t380_l t380_l (blk A_t380_before) ∧ DnD de94 hs_t380_l t380_l (blk A_t380_after) ∧ DnD de94 hs_t380_l t380_l (some g_t380_makers) ∧ DnD de94 hs_t380_l t380_l (some g_t380) ∧ DnD de94 hs_t380_l t380_l (blk A_o) ∧ DnD de94 hs_t380_l t380_l (blk (some ⟨g1, 0, none⟩)) ∧ DnD de94 hs_t380_l t380_l (blk A_b) ∧ Dj (blk A_t380_before) (blk A_t380_after) ∧ Dj (blk A_t380_before) (some g_t380) ∧ Dj (blk A_t380_before) (blk A_o) ∧ Dj (blk A_t380_before) (blk (some ⟨g1, 0, none⟩)) ∧ Dj (blk A_t380_before) (blk A_b) ∧ DnD de98 hs_t380_before t380_before (blk A_t380_l) ∧ DnD de98 hs_t380_before t380_before (blk A_t380_before) ∧ DnD de98 hs_t380_before t380_before (blk A_t380_after) ∧ DnD de98 hs_t380_before t380_before (some g_t380_makers) ∧ DnD de98 hs_t380_before t380_before (some g_t380) ∧ DnD de98 hs_t380_before t380_before (blk A_o) ∧ DnD de98 hs_t380_before t380_before (blk (some ⟨g1, 0, none⟩)) ∧ DnD de98 hs_t380_before t380_before (blk A_b) ∧ Dj (blk A_t380_after) (some g_t380) ∧ Dj (blk A_t380_after) (blk A_o) ∧ Dj (blk A_t380_after) (blk (some ⟨g1, 0, none⟩)) ∧ Dj (blk A_t380_after) (blk A_b) ∧ DnD de98 hs_t380_after t380_after (blk A_t380_l) ∧ DnD de98 hs_t380_after t380_after (blk A_t380_before) ∧ DnD de98 hs_t380_after t380_after (blk A_t380_after) ∧ DnD de98 hs_t380_after t380_after (some g_t380_makers) ∧ DnD de98 hs_t380_after t380_after (some g_t380) ∧ DnD de98 hs_t380_after t380_after (blk A_o) ∧ DnD de98 hs_t380_after t380_after (blk (some ⟨g1, 0, none⟩)) ∧ DnD de98 hs_t380_after t380_after (blk A_b) ∧ Dj (some g_t380_makers) (blk A_t380_before) ∧ Dj (some g_t380_makers) (blk A_t380_after) ∧ Dj (some g_t380_makers) (some g_t380) ∧ Dj (some g_t380_makers) (blk A_o) ∧ Dj (some g_t380_makers) (blk (some ⟨g1, 0, none⟩)) ∧ Dj (some g_t380_makers) (blk A_b) ∧ Dj (some g_t380) (blk A_o) ∧ Dj (some g_t380) (blk (some ⟨g1, 0, none⟩)) ∧ Dj (some g_t380) (blk A_b) ∧ Dj (blk A_o) (blk (some ⟨g1, 0, none⟩)) ∧ Dj (blk A_o) (blk A_b) ∧ Dj (blk (some ⟨g1, 0, none⟩)) (blk A_b)) _ _ ⟨(0 : Int), rfl, rfl, h0_3, gr9, k52, k53, k54, k55, k56, k57, k58, k59, k60, k61, k51, dj71, dj72, dj73, dj74, dj75, dj76, (Dj.new k41.lt' hb5), dj77, dj78, dj79, dj80, dj81, dj82, dj83, (k42.new hb5), dj84, dj85, dj86, dj87, (Dj.new k43.lt' hb5), dj88, dj89, dj90, dj91, dj92, dj93, dj94, (k44.new hb5), dj95, dj96, dj97, (Dj.new k45.lt' hb5), dj98, dj99, dj100, dj101, dj102, dj103, dj104, (k46.new hb5), dj105, dj106, dj107, dj108, dj109, (Dj.new k47.lt' hb5), dj110, dj111, (Dj.new k48.lt' hb5), dj112, (Dj.new k49.lt' hb5), (Dj.new k50.lt' hb5)⟩ (by repeat (first | exact Sub.nil | refine Sub.cons rfl ?_)) ?_
                  clear h0_3
                  rintro _ _ w11 ⟨k, rfl, rfl, hI3, gr10, k62, k63, k64, k65, k66, k67, k68, k69, k70, k71, k72, dj113, dj114, dj115, dj116, dj117, dj118, dj119, dj120, dj121, dj122, dj123, dj124, dj125, dj126, dj127, dj128, dj129, dj130, dj131, dj132, dj133, dj134, dj135, dj136, dj137, dj138, dj139, dj140, dj141, dj142, dj143, dj144, dj145, dj146, dj147, dj148, dj149, dj150, dj151, dj152, dj153, dj154, dj155, dj156, dj157, dj158, dj159, dj160, dj161, dj162, dj163, dj164⟩
                  have H := HR3 k hI3
                  refine WC.seq ?_
                  refine WC.seq ?_
                  refine WC.region ?_
                  refine WL.y rfl (Yld.pure tab_ok rfl) ?_
                  refine WL.y rfl (Yld.pure tab_ok rfl) ?_
                  refine WL.y rfl (Yld.pure tab_ok rfl) ?_
                  refine WL.y rfl (Yld.pure tab_ok rfl) ?_
                  refine WL.nil (WX.then_normal ?_)
                  refine WC.cond rfl (fun b9 => ?_) (fun b9 => ?_)
                  · replace H := H.1 (of_decide_eq_true b9)
                    refine WC.skip (WX.then_normal ?_)
                    refine WC.seq ?_
                    refine WC.block ?_
                    refine WC.seq ?_
                    refine WC.chainF (fun k => !(Nat.beq k 28 || Nat.beq k 30)) (LD [4, 6, 13, 15, 19, 27] (fun w' => Rd vi w' A_b c_b b ∧ Rd vi w' (some ⟨g1, 0, none⟩) ((l.length : Int).toNat) place)) mixed (by kernel_rfl) (fun k w' h _ => ⟨(rd_eqv h k72.rd), (rd_eqv h k71.rd)⟩) ?_
                    refine WJ.y rfl rfl (fun w' hw' => Yld.pure tab_ok rfl) ?_
                    refine WJ.y rfl rfl (fun w' hw' => Yld.pure tab_ok rfl) ?_
                    refine WJ.y rfl rfl (fun w' hw' => Yld.pure tab_ok rfl) ?_
                    obtain ⟨h8, H⟩ := H
                    refine WJ.y rfl rfl (fun w' hw' => Yld.iaddrW tab_ok k72.rd rfl rfl rfl rfl h8.1 h8.2) ?_
                    refine WJ.y rfl rfl (fun w' hw' => Yld.iload 0 tab_ok (hw' rfl).1 rfl rfl (iltN h8 rfl)) ?_
                    obtain ⟨h9, H⟩ := H
                    refine WJ.y rfl rfl (fun w' hw' => Yld.iaddrW tab_ok k71.rd rfl rfl hn_place rfl h9.1 h9.2) ?_
                    refine WJ.y rfl rfl (fun w' hw' => Yld.iload 0 tab_ok (hw' rfl).2 rfl rfl (iltN h9 hn_place)) ?_
                    refine WJ.y rfl rfl (fun w' hw' => Yld.pure tab_ok rfl) ?_
                    refine WJ.y rfl rfl (fun w' hw' => Yld.pure tab_ok rfl) ?_
                    obtain ⟨h10, H⟩ := H
                    obtain ⟨h11, H⟩ := H
                    obtain ⟨h12, H⟩ := H
                    refine WJ.midF 13 (fun L' w' => ∃ q5 : Bool, L' = [(118, .bool q5), (0, .slice A_l l.length c_l), (1, .int .i64 at_), (6, .pointer (some ⟨g_t380, 0, none⟩)), (8, .slice A_o o.length c_o), (9, .slice (some ⟨g1, 0, none⟩) ((l.length : Int).toNat) ((l.length : Int).toNat)), (11, .int .i64 i2), (12, .slice A_b b.length c_b), (13, .int .i64 k)] ∧ ((decide ((place.getD ((b.getD k.toNat 0).toNat) 0) = (0 : Int))) || (decide ((place.getD i2.toNat 0) ≤ (place.getD ((b.getD k.toNat 0).toNat) 0)))) = q5 ∧ w11 = w') ?_ (fun hQ => ?_)
                    · rintro _ _ ⟨q5, rfl, rfl, rfl⟩
                      refine WJ.y rfl rfl (fun w' hw' => Yld.pure tab_ok rfl) ?_
                      obtain ⟨J1, H, hJ1⟩ := H
                      refine WJ.midF 10 (fun L' w' => ∃ q6 : Bool, L' = [(129, .bool q6), (0, .slice A_l l.length c_l), (1, .int .i64 at_), (6, .pointer (some ⟨g_t380, 0, none⟩)), (8, .slice A_o o.length c_o), (9, .slice (some ⟨g1, 0, none⟩) ((l.length : Int).toNat) ((l.length : Int).toNat)), (11, .int .i64 i2), (12, .slice A_b b.length c_b), (13, .int .i64 k)] ∧ J1 q6 ∧ w.grownBy w' none ∧ OwnK 4 encH94 w' w.heap.size 94 A_t380_l c_t380_l hs_t380_l ∧ RelD de94 w' hs_t380_l t380_l ∧ Own vh w' w.heap.size 98 A_t380_before c_t380_before hs_t380_before ∧ RelD de98 w' hs_t380_before t380_before ∧ Own vh w' w.heap.size 98 A_t380_after c_t380_after hs_t380_after ∧ RelD de98 w' hs_t380_after t380_after ∧ MapB vs okS vi w' g_t380_makers t380_makers ∧ Bl w' g_t380 169 [.slice A_t380_l t380_l.length c_t380_l, .map (some g_t380_makers), .slice A_t380_before t380_before.length c_t380_before, .slice A_t380_after t380_after.length c_t380_after] ∧ Own vi w' w.heap.size 3 A_o c_o o ∧ Own vi w' w.heap.size 3 (some ⟨g1, 0, none⟩) ((l.length : Int).toNat) place ∧ Own vi w' w.heap.size 3 A_b c_b b) ?_ (fun hQ => ?_)
                      · clear H
                        rintro _ w12 ⟨q6, rfl, H, gr11, k73, k74, k75, k76, k77, k78, k79, k80, k81, k82, k83⟩
                        replace H := hJ1 q6 H
                        refine WJ.nil (WX.then_normal ?_)
                        refine WC.cond rfl (fun b10 => ?_) (fun b10 => ?_)
                        · replace H := H.1 (b10)
                          refine WC.seq ?_
                          refine WC.region ?_
                          refine WL.y rfl (Yld.pure tab_ok rfl) ?_
                          refine WL.nil (WX.then_normal ?_)
                          refine WC.ret (WX.block_ret (WX.then_ret (WX.then_ret (WX.block_ret (WX.block_ret (WX.then_ret (WX.then_ret (WX.block_ret (WX.then_ret ?_)))))))))
                          exact WX.ret1 rfl rfl ⟨gr11, false, rfl, H⟩
                        · replace H := H.2 (b10)
                          refine WC.skip (WX.block_normal (WX.then_normal ?_))
                          refine WC.region ?_
                          refine WL.y rfl (Yld.pure tab_ok rfl) ?_
                          obtain ⟨h13, H⟩ := H
                          refine WL.y rfl (Yld.add rfl rfl h13) ?_
                          refine WL.y rfl (Yld.pure tab_ok rfl) ?_
                          refine WL.nil ?_
                          exact WX.roundF _ ⟨k + (1 : Int), rfl, rfl, H.1, gr11, k73, k74, k75, k76, k77, k78, k79, k80, k81, k82, k83, dj113, dj114, dj115, dj116, dj117, dj118, dj119, dj120, dj121, dj122, dj123, dj124, dj125, dj126, dj127, dj128, dj129, dj130, dj131, dj132, dj133, dj134, dj135, dj136, dj137, dj138, dj139, dj140, dj141, dj142, dj143, dj144, dj145, dj146, dj147, dj148, dj149, dj150, dj151, dj152, dj153, dj154, dj155, dj156, dj157, dj158, dj159, dj160, dj161, dj162, dj163, dj164⟩ (by repeat (first | exact Sub.nil | refine Sub.cons rfl ?_)) H.2
                      · clear hJ1
                        rcases Bool.eq_false_or_eq_true ((decide ((place.getD ((b.getD k.toNat 0).toNat) 0) = (0 : Int))) || (decide ((place.getD i2.toNat 0) ≤ (place.getD ((b.getD k.toNat 0).toNat) 0)))) with b11 | b11
                        · replace H := H.1 b11
                          refine WJ.no rfl rfl (okb b11) rfl ?_
                          refine WJ.no rfl rfl (okb b11) rfl ?_
                          refine WJ.no rfl rfl (okb b11) rfl ?_
                          refine WJ.no rfl rfl (okb b11) rfl ?_
                          refine WJ.no rfl rfl (okb b11) rfl ?_
                          refine WJ.no rfl rfl (okb b11) rfl ?_
                          refine WJ.no rfl rfl (okb b11) rfl ?_
                          refine WJ.no rfl rfl (okb b11) rfl ?_
                          refine WJ.no rfl rfl (okb b11) rfl ?_
                          refine WJ.y rfl rfl (fun w' hw' => Yld.pickT (okb b11) rfl) ?_
                          exact WJ.weaken (by repeat (first | exact Sub.nil | refine Sub.cons rfl ?_)) (hQ _ _ ⟨true, rfl, H, gr10, k62, k63, k64, k65, k66, k67, k68, k69, k70, k71, k72⟩)
                        · replace H := H.2 b11
                          refine WJ.yw rfl (wants_some rfl rfl (okb b11)) rfl (fun w' hw' => Yld.pure tab_ok rfl) ?_
                          refine WJ.yw rfl (wants_some rfl rfl (okb b11)) rfl (fun w' hw' => Yld.pure tab_ok rfl) ?_
                          refine WJ.yw rfl (wants_some rfl rfl (okb b11)) rfl (fun w' hw' => Yld.pure tab_ok rfl) ?_
                          obtain ⟨h14, H⟩ := H
                          refine WJ.yw rfl (wants_some rfl rfl (okb b11)) rfl (fun w' hw' => Yld.iaddrW tab_ok k72.rd rfl rfl rfl rfl h14.1 h14.2) ?_
                          refine WJ.yw rfl (wants_some rfl rfl (okb b11)) rfl (fun w' hw' => Yld.iload 0 tab_ok (hw' rfl).1 rfl rfl (iltN h14 rfl)) ?_
                          refine WJ.call rfl (wants_some rfl rfl (okb b11)) rfl rfl (W_pgraph_Graph_After k62.rd rfl k63 k68 k64.rd rfl k65 k66.rd rfl k67 k69 H) (fun v w' h w2 e => DD.keep (⟨(Rd.grown k72.rd (gr_eqv h.1 e)), (Rd.grown k71.rd (gr_eqv h.1 e))⟩)) ?_
                          rintro _ w13 ⟨hg8, t125, A_t125, c_t125, rfl, ht125, H⟩
                          have hb6 := ht125.ge'
                          have k84 := ht125.base (fun g hg => Nat.le_trans (size_le gr10) (hb6 g hg))
                          have gr12 := gr_trans gr10 hg8
                          have k85 := k62.grown hg8
                          have k86 := k63.grown hg8
                          have k87 := k64.grown hg8
                          have k88 := k65.grown hg8
                          have k89 := k66.grown hg8
                          have k90 := k67.grown hg8
                          have k91 := k68.g0 hg8
                          have k92 := k69.g0 hg8
                          have k93 := k70.grown hg8
                          have k94 := k71.grown hg8
                          have k95 := k72.grown hg8
                          refine WJ.yw rfl (wants_some rfl rfl (okb b11)) rfl (fun w' hw' => Yld.pure tab_ok rfl) ?_
                          refine WJ.call rfl (wants_some rfl rfl (okb b11)) rfl rfl (W_smithyref_Among k84.rd rfl H) (fun v w' h w2 e => DD.keep (⟨(rd_eqv (eqvL h.1 e) k95.rd), (rd_eqv (eqvL h.1 e) k94.rd)⟩)) ?_
                          rintro _ _ ⟨rfl, t127, rfl, H⟩
                          refine WJ.yw rfl (wants_some rfl rfl (okb b11)) rfl (fun w' hw' => Yld.pure tab_ok rfl) ?_
                          refine WJ.y rfl rfl (fun w' hw' => Yld.pickF (okb b11) rfl) ?_
                          exact WJ.weaken (by repeat (first | exact Sub.nil | refine Sub.cons rfl ?_)) (hQ _ _ ⟨!t127, rfl, H, gr12, k85, k86, k87, k88, k89, k90, k91, k92, k93, k94, k95⟩)
                    · clear H
                      rcases Bool.eq_false_or_eq_true (decide ((place.getD ((b.getD k.toNat 0).toNat) 0) = (0 : Int))) with b12 | b12
                      · refine WJ.no rfl rfl (okb b12) rfl ?_
                        refine WJ.no rfl rfl (okb b12) rfl ?_
                        refine WJ.no rfl rfl (okb b12) rfl ?_
                        refine WJ.no rfl rfl (okb b12) rfl ?_
                        refine WJ.no rfl rfl (okb b12) rfl ?_
                        refine WJ.no rfl rfl (okb b12) rfl ?_
                        refine WJ.no rfl rfl (okb b12) rfl ?_
                        refine WJ.no rfl rfl (okb b12) rfl ?_
                        refine WJ.no rfl rfl (okb b12) rfl ?_
                        refine WJ.no rfl rfl (okb b12) rfl ?_
                        refine WJ.no rfl rfl (okb b12) rfl ?_
                        refine WJ.no rfl rfl (okb b12) rfl ?_
                        refine WJ.y rfl rfl (fun w' hw' => Yld.pickT (okb b12) rfl) ?_
                        exact WJ.weaken (by repeat (first | exact Sub.nil | refine Sub.cons rfl ?_)) (hQ _ _ ⟨true, rfl, by rw [b12] <;> rfl, rfl⟩)
                      · refine WJ.yw rfl (wants_some rfl rfl (okb b12)) rfl (fun w' hw' => Yld.pure tab_ok rfl) ?_
                        refine WJ.yw rfl (wants_some rfl rfl (okb b12)) rfl (fun w' hw' => Yld.pure tab_ok rfl) ?_
                        refine WJ.yw rfl (wants_some rfl rfl (okb b12)) rfl (fun w' hw' => Yld.pure tab_ok rfl) ?_
                        refine WJ.yw rfl (wants_some rfl rfl (okb b12)) rfl (fun w' hw' => Yld.iaddrW tab_ok k72.rd rfl rfl rfl rfl (h10 b12).1 (h10 b12).2) ?_
                        refine WJ.yw rfl (wants_some rfl rfl (okb b12)) rfl (fun w' hw' => Yld.iload 0 tab_ok (hw' rfl).1 rfl rfl (iltN (h10 b12) rfl)) ?_
                        refine WJ.yw rfl (wants_some rfl rfl (okb b12)) rfl (fun w' hw' => Yld.iaddrW tab_ok k71.rd rfl rfl hn_place rfl (h11 b12).1 (h11 b12).2) ?_
                        refine WJ.yw rfl (wants_some rfl rfl (okb b12)) rfl (fun w' hw' => Yld.iload 0 tab_ok (hw' rfl).2 rfl rfl (iltN (h11 b12) hn_place)) ?_
                        refine WJ.yw rfl (wants_some rfl rfl (okb b12)) rfl (fun w' hw' => Yld.pure tab_ok rfl) ?_
                        refine WJ.yw rfl (wants_some rfl rfl (okb b12)) rfl (fun w' hw' => Yld.pure tab_ok rfl) ?_
                        refine WJ.yw rfl (wants_some rfl rfl (okb b12)) rfl (fun w' hw' => Yld.iaddrW tab_ok k71.rd rfl rfl hn_place rfl (h12 b12).1 (h12 b12).2) ?_
                        refine WJ.yw rfl (wants_some rfl rfl (okb b12)) rfl (fun w' hw' => Yld.iload 0 tab_ok (hw' rfl).2 rfl rfl (iltN (h12 b12) hn_place)) ?_
                        refine WJ.yw rfl (wants_some rfl rfl (okb b12)) rfl (fun w' hw' => Yld.pure tab_ok rfl) ?_
                        refine WJ.y rfl rfl (fun w' hw' => Yld.pickF (okb b12) rfl) ?_
                        exact WJ.weaken (by repeat (first | exact Sub.nil | refine Sub.cons rfl ?_)) (hQ _ _ ⟨decide ((place.getD i2.toNat 0) ≤ (place.getD ((b.getD k.toNat 0).toNat) 0)), rfl, by rw [b12] <;> rfl, rfl⟩)
                  · replace H := H.2 (of_decide_eq_false b9)
                    refine WC.exit (WX.then_exit (WX.then_exit (WX.block_same (WX.block_normal (WX.then_normal ?_)))))
                    refine WC.region ?_
                    refine WL.y rfl (Yld.pure tab_ok rfl) ?_
                    obtain ⟨h15, H⟩ := H
                    refine WL.y rfl (Yld.add rfl rfl h15) ?_
                    refine WL.y rfl (Yld.pure tab_ok rfl) ?_
                    refine WL.nil ?_
                    exact WX.roundF _ ⟨i2 + (1 : Int), rfl, rfl, H.1, gr10, k62, k63, k64, k65, k66, k67, k68, k69, k70, k71, dj113, dj114, dj115, dj116, dj117, dj118, dj120, dj121, dj122, dj123, dj124, dj125, dj126, dj128, dj129, dj130, dj131, dj133, dj134, dj135, dj136, dj137, dj138, dj139, dj141, dj142, dj143, dj145, dj146, dj147, dj148, dj149, dj150, dj151, dj153, dj154, dj155, dj156, dj157, dj159, dj160, dj162⟩ (by repeat (first | exact Sub.nil | refine Sub.cons rfl ?_)) H.2
                · replace H := H.2 (of_decide_eq_false b8)
                  refine WC.exit (WX.then_exit (WX.then_exit (WX.block_same (WX.then_normal ?_))))
                  refine WC.seq ?_
                  refine WC.region ?_
                  refine WL.y rfl (Yld.pure tab_ok rfl) ?_
                  refine WL.nil (WX.then_normal ?_)
                  refine WC.seq ?_
                  refine WC.seq ?_
                  refine WC.region ?_
                  refine WL.y rfl (Yld.pure tab_ok rfl) ?_
                  refine WL.y rfl (Yld.pure tab_ok rfl) ?_
                  obtain ⟨h16, H⟩ := H
                  refine WL.y rfl (Yld.sub rfl rfl h16) ?_
                  refine WL.y rfl (Yld.pure tab_ok rfl) ?_
                  refine WL.nil (WX.then_normal ?_)
                  refine WC.block ?_
                  obtain ⟨I4, mu4, h0_4, HR4⟩ := H
                  refine WC.loopF (fun n' L' w' => ∃ (back : List (Int × List (List UInt8) × List (List UInt8) × List UInt8)), ∃ (A_back : Option Addr), ∃ (c_back : Nat), ∃ (n_back : Nat), ∃ (hs_back : List (Int × Hdr × Hdr × List UInt8)), ∃ (i3 : Int), n' = mu4 back i3 ∧ L' = [(0, .slice A_l l.length c_l), (1, .int .i64 at_), (6, .pointer (some ⟨g_t380, 0, none⟩)), (8, .slice A_o o.length c_o), (14, .slice A_back n_back c_back), (15, .int .i64 i3)] ∧ I4 back i3 ∧ n_back = back.length ∧ w.grownBy w' none ∧ OwnK 4 encH94 w' w.heap.size 94 A_t380_l c_t380_l hs_t380_l ∧ RelD de94 w' hs_t380_l t380_l ∧ Own vh w' w.heap.size 98 A_t380_before c_t380_before hs_t380_before ∧ RelD de98 w' hs_t380_before t380_before ∧ Own vh w' w.heap.size 98 A_t380_after c_t380_after hs_t380_after ∧ RelD de98 w' hs_t380_after t380_after ∧ MapB vs okS vi w' g_t380_makers t380_makers ∧ Bl w' g_t380 169 [.slice A_t380_l t380_l.length c_t380_l, .map (some g_t380_makers), .slice A_t380_before t380_before.length c_t380_before, .slice A_t380_after t380_after.length c_t380_after] ∧ Own vi w' w.heap.size 3 A_o c_o o ∧ OwnK 4 encH94 w' w.heap.size 94 A_back c_back hs_back ∧ RelD de94 w' hs_back back ∧ Dj (blk A_t380_l) (blk A_t380_before) ∧ Dj (blk A_t380_l) (blk A_t380_after) ∧ Dj (blk A_t380_l) (some g_t380_makers) ∧ Dj (blk A_t380_l) (some g_t380) ∧ Dj (blk A_t380_l) (blk A_o) ∧ Dj (blk A_t380_l) (blk A_back) ∧ DnD de94 hs_t380_l t380_l (blk A_t380_l) ∧ DnD de94 hs_t380_l t380_l (blk A_t380_before) ∧ DnD de94 hs_t380_l t380_l (blk A_t380_after) ∧ DnD de94 hs_t380_l t380_l (some g_t380_makers) ∧ DnD de94 hs_t380_l t380_l (some g_t380) ∧ DnD de94 hs_t380_l t380_l (blk A_o) ∧ DnD de94 hs_t380_l t380_l (blk A_back) ∧ Dj (blk A_t380_before) (blk A_t380_after) ∧ Dj (blk A_t380_before) (some g_t380) ∧ Dj (blk A_t380_before) (blk A_o) ∧ Dj (blk A_t380_before) (blk A_back) ∧ DnD de98 hs_t380_before t380_before (blk A_t380_l) ∧ DnD de98 hs_t380_before t380_before (blk A_t380_before) ∧ DnD de98 hs_t380_before t380_before (blk A_t380_after) ∧ DnD de98 hs_t380_before t380_before (some g_t380_makers) ∧ DnD de98 hs_t380_before t380_before (some g_t380) ∧ DnD de98 hs_t380_before t380_before (blk A_o) ∧ DnD de98 hs_t380_before t380_before (blk A_back) ∧ Dj (blk A_t380_after) (some g_t380) ∧ Dj (blk A_t380_after) (blk A_o) ∧ Dj (blk A_t380_after) (blk A_back) ∧ DnD de98 hs_t380_after t380_after (blk A_t380_l) ∧ DnD de98 hs_t380_after t380_after (blk A_t380_before) ∧ DnD de98 hs_t380_after t380_after (blk A_t380_after) ∧ DnD de98 hs_t380_after t380_after (some g_t380_makers) ∧ DnD de98 hs_t380_after t380_after (some g_t380) ∧ DnD de98 hs_t380_after t380_after (blk A_o) ∧ DnD de98 hs_t380_after t380_after (blk A_back) ∧ Dj (some g_t380_makers) (blk A_t380_before) ∧ Dj (some g_t380_makers) (blk A_t380_after) ∧ Dj (some g_t380_makers) (some g_t380) ∧ Dj (some g_t380_makers) (blk A_o) ∧ Dj (some g_t380_makers) (blk A_back) ∧ Dj (some g_t380) (blk A_o) ∧ Dj (some g_t380) (blk A_back) ∧ Dj (blk A_o) (blk A_back) ∧ DnD de94 hs_back back (blk A_t380_l) ∧ DnD de94 hs_back back (blk A_t380_before) ∧ DnD de94 hs_back back (blk A_t380_after) ∧ DnD de94 hs_back back (some g_t380_makers) ∧ DnD de94 hs_back back (some g_t380) ∧ DnD de94 hs_back back (blk A_o) ∧ DnD de94 hs_back back (blk A_back)) _ _ ⟨[], none, 0, 0, [], (l.length : Int) - (1 : Int), rfl, rfl, h0_4, rfl, gr8, k41, k42, k43, k44, k45, k46, k47, k48, k49, (OwnK.nil encH94_ok w9 w.heap.size 94), (RelD.nil (d := de94) (w := w9)), dj71, dj72, dj73, dj74, dj75, Dj.nr, dj77, dj78, dj79, dj80, dj81, dj82, (DnD.none k42), dj84, dj85, dj86, Dj.nr, dj88, dj89, dj90, dj91, dj92, dj93, (DnD.none k44), dj95, dj96, Dj.nr, dj98, dj99, dj100, dj101, dj102, dj103, (DnD.none k46), dj105, dj106, dj107, dj108, Dj.nr, dj110, Dj.nr, Dj.nr, DnD.nil, DnD.nil, DnD.nil, DnD.nil, DnD.nil, DnD.nil, DnD.nil⟩ (by repeat (first | exact Sub.nil | refine Sub.cons rfl ?_)) ?_
                  clear h0_4
                  rintro _ _ w14 ⟨back, A_back, c_back, n_back, hs_back, i3, rfl, rfl, hI4, rfl, gr13, k96, k97, k98, k99, k100, k101, k102, k103, k104, k105, k106, dj165, dj166, dj167, dj168, dj169, dj170, dj171, dj172, dj173, dj174, dj175, dj176, dj177, dj178, dj179, dj180, dj181, dj182, dj183, dj184, dj185, dj186, dj187, dj188, dj189, dj190, dj191, dj192, dj193, dj194, dj195, dj196, dj197, dj198, dj199, dj200, dj201, dj202, dj203, dj204, dj205, dj206, dj207, dj208, dj209, dj210, dj211, dj212, dj213⟩
                  have H := HR4 back i3 hI4
                  refine WC.seq ?_
                  refine WC.seq ?_
                  refine WC.region ?_
                  refine WL.y rfl (Yld.pure tab_ok rfl) ?_
                  refine WL.y rfl (Yld.pure tab_ok rfl) ?_
                  refine WL.nil (WX.then_normal ?_)
                  refine WC.cond rfl (fun b13 => ?_) (fun b13 => ?_)
                  · replace H := H.1 (of_decide_eq_true b13)
                    refine WC.skip (WX.then_normal ?_)
                    refine WC.seq ?_
                    refine WC.block ?_
                    refine WC.region ?_
                    refine WL.y rfl (Yld.pure tab_ok rfl) ?_
                    refine WL.y rfl (Yld.pure tab_ok rfl) ?_
                    refine WL.y rfl (Yld.pure tab_ok rfl) ?_
                    obtain ⟨h17, H⟩ := H
                    refine WL.y rfl (Yld.iaddrK tab_ok (hl.grown gr13) rfl rfl hr_l.1.symm rfl h17.1 h17.2) ?_
                    obtain ⟨⟨f1, ⟨A_el, n1, c_el⟩, ⟨A_el2, n2, c_el2⟩, f2⟩, eh1, ⟨en1, ⟨en2, hR1⟩, ⟨en3, hR2⟩, en4⟩⟩ := RelD.at hr_l (0, hd0, hd0, []) (0, [], [], []) (j := i3.toNat) (Nat.lt_of_lt_of_eq (iltN h17 hr_l.1.symm) hr_l.1)
                    have en1 : f1 = (l.getD i3.toNat (0, [], [], [])).1 := en1
                    subst en1
                    have en2 : n1 = ((l.getD i3.toNat (0, [], [], [])).2.1).length := en2
                    subst en2
                    have en3 : n2 = ((l.getD i3.toNat (0, [], [], [])).2.2.1).length := en3
                    subst en3
                    have en4 : f2 = (l.getD i3.toNat (0, [], [], [])).2.2.2 := en4
                    subst en4
                    refine WL.y rfl (Yld.to (v := .agg ⟨[.int .i64 ((l.getD i3.toNat (0, [], [], [])).1), .slice A_el (((l.getD i3.toNat (0, [], [], [])).2.1).length) c_el, .slice A_el2 (((l.getD i3.toNat (0, [], [], [])).2.2.1).length) c_el2, vs ((l.getD i3.toNat (0, [], [], [])).2.2.2)]⟩) (Yld.iloadK (0, hd0, hd0, []) tab_ok (hl.grown gr13) rfl rfl (iltN h17 hr_l.1.symm)) (by rw [eh1]; rfl)) ?_
                    refine WL.litK (f := encH94) ([((l.getD i3.toNat (0, [], [], [])).1, ⟨A_el, ((l.getD i3.toNat (0, [], [], [])).2.1).length, c_el⟩, ⟨A_el2, ((l.getD i3.toNat (0, [], [], [])).2.2.1).length, c_el2⟩, (l.getD i3.toNat (0, [], [], [])).2.2.2)] : List (Int × Hdr × Hdr × List UInt8)) encH94_ok rfl ow77 rfl rfl rfl (fun g3 w16 hB2 hg10 hl3 => ?_)
                    have hO4 : OwnK 4 encH94 w16 w.heap.size 94 (some ⟨g3, 0, none⟩) 1 ([((l.getD i3.toNat (0, [], [], [])).1, ⟨A_el, ((l.getD i3.toNat (0, [], [], [])).2.1).length, c_el⟩, ⟨A_el2, ((l.getD i3.toNat (0, [], [], [])).2.2.1).length, c_el2⟩, (l.getD i3.toNat (0, [], [], [])).2.2.2)] : List (Int × Hdr × Hdr × List UInt8)) := OwnK.ofBl encH94_ok hB2 (Nat.le_trans (size_le gr13) hl3) (by simp [maxLen]) rfl
                    have gr14 := gr_trans gr13 hg10
                    have k107 := k96.grown hg10
                    have k108 := k97.grown hg10
                    have k109 := k98.grown hg10
                    have k110 := k99.grown hg10
                    have k111 := k100.grown hg10
                    have k112 := k101.grown hg10
                    have k113 := k102.g0 hg10
                    have k114 := k103.g0 hg10
                    have k115 := k104.grown hg10
                    have k116 := k105.grown hg10
                    have k117 := k106.grown hg10
                    have hr1 : RelD de94 w16 ([((l.getD i3.toNat (0, [], [], [])).1, ⟨A_el, ((l.getD i3.toNat (0, [], [], [])).2.1).length, c_el⟩, ⟨A_el2, ((l.getD i3.toNat (0, [], [], [])).2.2.1).length, c_el2⟩, (l.getD i3.toNat (0, [], [], [])).2.2.2)] : List (Int × Hdr × Hdr × List UInt8)) ([((l.getD i3.toNat (0, [], [], [])).1, (l.getD i3.toNat (0, [], [], [])).2.1, (l.getD i3.toNat (0, [], [], [])).2.2.1, (l.getD i3.toNat (0, [], [], [])).2.2.2)] : List (Int × List (List UInt8) × List (List UInt8) × List UInt8)) := (RelD.cons ⟨rfl, ⟨rfl, (hR1.grown gr14)⟩, ⟨rfl, (hR2.grown gr14)⟩, rfl⟩ RelD.nil)
                    have dj214 : DnD de94 ([((l.getD i3.toNat (0, [], [], [])).1, ⟨A_el, ((l.getD i3.toNat (0, [], [], [])).2.1).length, c_el⟩, ⟨A_el2, ((l.getD i3.toNat (0, [], [], [])).2.2.1).length, c_el2⟩, (l.getD i3.toNat (0, [], [], [])).2.2.2)] : List (Int × Hdr × Hdr × List UInt8)) ([((l.getD i3.toNat (0, [], [], [])).1, (l.getD i3.toNat (0, [], [], [])).2.1, (l.getD i3.toNat (0, [], [], [])).2.2.1, (l.getD i3.toNat (0, [], [], [])).2.2.2)] : List (Int × List (List UInt8) × List (List UInt8) × List UInt8)) (blk A_t380_l) := (DnD.cons (d := de94) ⟨trivial, (Dn.new (fun hx => hR1.lt' hx) k107.ge'), (Dn.new (fun hx => hR2.lt' hx) k107.ge'), trivial⟩ DnD.nil)
                    have dj215 : DnD de94 ([((l.getD i3.toNat (0, [], [], [])).1, ⟨A_el, ((l.getD i3.toNat (0, [], [], [])).2.1).length, c_el⟩, ⟨A_el2, ((l.getD i3.toNat (0, [], [], [])).2.2.1).length, c_el2⟩, (l.getD i3.toNat (0, [], [], [])).2.2.2)] : List (Int × Hdr × Hdr × List UInt8)) ([((l.getD i3.toNat (0, [], [], [])).1, (l.getD i3.toNat (0, [], [], [])).2.1, (l.getD i3.toNat (0, [], [], [])).2.2.1, (l.getD i3.toNat (0, [], [], [])).2.2.2)] : List (Int × List (List UInt8) × List (List UInt8) × List UInt8)) (blk A_t380_before) := (DnD.cons (d := de94) ⟨trivial, (Dn.new (fun hx => hR1.lt' hx) k109.ge'), (Dn.new (fun hx => hR2.lt' hx) k109.ge'), trivial⟩ DnD.nil)
                    have dj216 : DnD de94 ([((l.getD i3.toNat (0, [], [], [])).1, ⟨A_el, ((l.getD i3.toNat (0, [], [], [])).2.1).length, c_el⟩, ⟨A_el2, ((l.getD i3.toNat (0, [], [], [])).2.2.1).length, c_el2⟩, (l.getD i3.toNat (0, [], [], [])).2.2.2)] : List (Int × Hdr × Hdr × List UInt8)) ([((l.getD i3.toNat (0, [], [], [])).1, (l.getD i3.toNat (0, [], [], [])).2.1, (l.getD i3.toNat (0, [], [], [])).2.2.1, (l.getD i3.toNat (0, [], [], [])).2.2.2)] : List (Int × List (List UInt8) × List (List UInt8) × List UInt8)) (blk A_t380_after) := (DnD.cons (d := de94) ⟨trivial, (Dn.new (fun hx => hR1.lt' hx) k111.ge'), (Dn.new (fun hx => hR2.lt' hx) k111.ge'), trivial⟩ DnD.nil)
                    have dj217 : DnD de94 ([((l.getD i3.toNat (0, [], [], [])).1, ⟨A_el, ((l.getD i3.toNat (0, [], [], [])).2.1).length, c_el⟩, ⟨A_el2, ((l.getD i3.toNat (0, [], [], [])).2.2.1).length, c_el2⟩, (l.getD i3.toNat (0, [], [], [])).2.2.2)] : List (Int × Hdr × Hdr × List UInt8)) ([((l.getD i3.toNat (0, [], [], [])).1, (l.getD i3.toNat (0, [], [], [])).2.1, (l.getD i3.toNat (0, [], [], [])).2.2.1, (l.getD i3.toNat (0, [], [], [])).2.2.2)] : List (Int × List (List UInt8) × List (List UInt8) × List UInt8)) (some g_t380_makers) := (DnD.cons (d := de94) ⟨trivial, (Dn.new (fun hx => hR1.lt' hx) (Ge.le hge1 (size_le gr1))), (Dn.new (fun hx => hR2.lt' hx) (Ge.le hge1 (size_le gr1))), trivial⟩ DnD.nil)
                    have dj218 : DnD de94 ([((l.getD i3.toNat (0, [], [], [])).1, ⟨A_el, ((l.getD i3.toNat (0, [], [], [])).2.1).length, c_el⟩, ⟨A_el2, ((l.getD i3.toNat (0, [], [], [])).2.2.1).length, c_el2⟩, (l.getD i3.toNat (0, [], [], [])).2.2.2)] : List (Int × Hdr × Hdr × List UInt8)) ([((l.getD i3.toNat (0, [], [], [])).1, (l.getD i3.toNat (0, [], [], [])).2.1, (l.getD i3.toNat (0, [], [], [])).2.2.1, (l.getD i3.toNat (0, [], [], [])).2.2.2)] : List (Int × List (List UInt8) × List (List UInt8) × List UInt8)) (some g_t380) := (DnD.cons (d := de94) ⟨trivial, (Dn.new (fun hx => hR1.lt' hx) (Ge.le hge2 (size_le gr1))), (Dn.new (fun hx => hR2.lt' hx) (Ge.le hge2 (size_le gr1))), trivial⟩ DnD.nil)
                    have dj219 : DnD de94 ([((l.getD i3.toNat (0, [], [], [])).1, ⟨A_el, ((l.getD i3.toNat (0, [], [], [])).2.1).length, c_el⟩, ⟨A_el2, ((l.getD i3.toNat (0, [], [], [])).2.2.1).length, c_el2⟩, (l.getD i3.toNat (0, [], [], [])).2.2.2)] : List (Int × Hdr × Hdr × List UInt8)) ([((l.getD i3.toNat (0, [], [], [])).1, (l.getD i3.toNat (0, [], [], [])).2.1, (l.getD i3.toNat (0, [], [], [])).2.2.1, (l.getD i3.toNat (0, [], [], [])).2.2.2)] : List (Int × List (List UInt8) × List (List UInt8) × List UInt8)) (blk A_o) := (DnD.cons (d := de94) ⟨trivial, (Dn.new (fun hx => hR1.lt' hx) k115.ge'), (Dn.new (fun hx => hR2.lt' hx) k115.ge'), trivial⟩ DnD.nil)
                    have dj220 : DnD de94 ([((l.getD i3.toNat (0, [], [], [])).1, ⟨A_el, ((l.getD i3.toNat (0, [], [], [])).2.1).length, c_el⟩, ⟨A_el2, ((l.getD i3.toNat (0, [], [], [])).2.2.1).length, c_el2⟩, (l.getD i3.toNat (0, [], [], [])).2.2.2)] : List (Int × Hdr × Hdr × List UInt8)) ([((l.getD i3.toNat (0, [], [], [])).1, (l.getD i3.toNat (0, [], [], [])).2.1, (l.getD i3.toNat (0, [], [], [])).2.2.1, (l.getD i3.toNat (0, [], [], [])).2.2.2)] : List (Int × List (List UInt8) × List (List UInt8) × List UInt8)) (blk A_back) := (DnD.cons (d := de94) ⟨trivial, (Dn.new (fun hx => hR1.lt' hx) k116.ge'), (Dn.new (fun hx => hR2.lt' hx) k116.ge'), trivial⟩ DnD.nil)
                    have dj221 : DnD de94 ([((l.getD i3.toNat (0, [], [], [])).1, ⟨A_el, ((l.getD i3.toNat (0, [], [], [])).2.1).length, c_el⟩, ⟨A_el2, ((l.getD i3.toNat (0, [], [], [])).2.2.1).length, c_el2⟩, (l.getD i3.toNat (0, [], [], [])).2.2.2)] : List (Int × Hdr × Hdr × List UInt8)) ([((l.getD i3.toNat (0, [], [], [])).1, (l.getD i3.toNat (0, [], [], [])).2.1, (l.getD i3.toNat (0, [], [], [])).2.2.1, (l.getD i3.toNat (0, [], [], [])).2.2.2)] : List (Int × List (List UInt8) × List (List UInt8) × List UInt8)) (blk (some ⟨g3, 0, none⟩)) := (DnD.cons (d := de94) ⟨trivial, (Dn.new (fun hx => hR1.lt' hx) hO4.ge'), (Dn.new (fun hx => hR2.lt' hx) hO4.ge'), trivial⟩ DnD.nil)
                    obtain ⟨h18, H⟩ := H
                    have h19 : ((hs_back : List (Int × Hdr × Hdr × List UInt8)).length + ([((l.getD i3.toNat (0, [], [], [])).1, ⟨A_el, ((l.getD i3.toNat (0, [], [], [])).2.1).length, c_el⟩, ⟨A_el2, ((l.getD i3.toNat (0, [], [], [])).2.2.1).length, c_el2⟩, (l.getD i3.toNat (0, [], [], [])).2.2.2)] : List (Int × Hdr × Hdr × List UInt8)).length) * 72 ≤ 140737488355328 := by rw [k117.1, hr1.1]; exact h18
                    refine WL.appendK rfl ow77 k116 rfl k106.1.symm hO4.rd rfl rfl h19 (applen h19) (size_le gr14) (fun A_back2 c_back2 w17 hO5 hg11 hk1 => ?_)
                    have el1 : (hs_back ++ ([((l.getD i3.toNat (0, [], [], [])).1, ⟨A_el, ((l.getD i3.toNat (0, [], [], [])).2.1).length, c_el⟩, ⟨A_el2, ((l.getD i3.toNat (0, [], [], [])).2.2.1).length, c_el2⟩, (l.getD i3.toNat (0, [], [], [])).2.2.2)] : List (Int × Hdr × Hdr × List UInt8))).length = (back ++ ([((l.getD i3.toNat (0, [], [], [])).1, (l.getD i3.toNat (0, [], [], [])).2.1, (l.getD i3.toNat (0, [], [], [])).2.2.1, (l.getD i3.toNat (0, [], [], [])).2.2.2)] : List (Int × List (List UInt8) × List (List UInt8) × List UInt8))).length := by rw [List.length_append, List.length_append, k117.1, hr1.1]
                    rw [el1]
                    have gr15 := gr_mod gr14 hg11 k116.ge'
                    have k118 := k107.go hg11 dj170
                    have k119 := k108.go hg11 dj177
                    have k120 := k109.go hg11 dj181
                    have k121 := k110.go hg11 dj188
                    have k122 := k111.go hg11 dj191
                    have k123 := k112.go hg11 dj198
                    have k124 := k113.go hg11 dj203
                    have k125 := k114.go hg11 dj205
                    have k126 := k115.go hg11 dj206
                    have k127 := k117.go hg11 dj213
                    have k128 := hr1.go hg11 dj220
                    have hr2 : RelD de94 w17 (hs_back ++ ([((l.getD i3.toNat (0, [], [], [])).1, ⟨A_el, ((l.getD i3.toNat (0, [], [], [])).2.1).length, c_el⟩, ⟨A_el2, ((l.getD i3.toNat (0, [], [], [])).2.2.1).length, c_el2⟩, (l.getD i3.toNat (0, [], [], [])).2.2.2)] : List (Int × Hdr × Hdr × List UInt8))) (back ++ ([((l.getD i3.toNat (0, [], [], [])).1, (l.getD i3.toNat (0, [], [], [])).2.1, (l.getD i3.toNat (0, [], [], [])).2.2.1, (l.getD i3.toNat (0, [], [], [])).2.2.2)] : List (Int × List (List UInt8) × List (List UInt8) × List UInt8))) := RelD.append k127 k128
                    have dj222 : DnD de94 (hs_back ++ ([((l.getD i3.toNat (0, [], [], [])).1, ⟨A_el, ((l.getD i3.toNat (0, [], [], [])).2.1).length, c_el⟩, ⟨A_el2, ((l.getD i3.toNat (0, [], [], [])).2.2.1).length, c_el2⟩, (l.getD i3.toNat (0, [], [], [])).2.2.2)] : List (Int × Hdr × Hdr × List UInt8))) (back ++ ([((l.getD i3.toNat (0, [], [], [])).1, (l.getD i3.toNat (0, [], [], [])).2.1, (l.getD i3.toNat (0, [], [], [])).2.2.1, (l.getD i3.toNat (0, [], [], [])).2.2.2)] : List (Int × List (List UInt8) × List (List UInt8) × List UInt8))) (blk A_t380_l) := (DnD.append k117.1 dj207 dj214)
                    have dj223 : DnD de94 (hs_back ++ ([((l.getD i3.toNat (0, [], [], [])).1, ⟨A_el, ((l.getD i3.toNat (0, [], [], [])).2.1).length, c_el⟩, ⟨A_el2, ((l.getD i3.toNat (0, [], [], [])).2.2.1).length, c_el2⟩, (l.getD i3.toNat (0, [], [], [])).2.2.2)] : List (Int × Hdr × Hdr × List UInt8))) (back ++ ([((l.getD i3.toNat (0, [], [], [])).1, (l.getD i3.toNat (0, [], [], [])).2.1, (l.getD i3.toNat (0, [], [], [])).2.2.1, (l.getD i3.toNat (0, [], [], [])).2.2.2)] : List (Int × List (List UInt8) × List (List UInt8) × List UInt8))) (blk A_t380_before) := (DnD.append k117.1 dj208 dj215)
                    have dj224 : DnD de94 (hs_back ++ ([((l.getD i3.toNat (0, [], [], [])).1, ⟨A_el, ((l.getD i3.toNat (0, [], [], [])).2.1).length, c_el⟩, ⟨A_el2, ((l.getD i3.toNat (0, [], [], [])).2.2.1).length, c_el2⟩, (l.getD i3.toNat (0, [], [], [])).2.2.2)] : List (Int × Hdr × Hdr × List UInt8))) (back ++ ([((l.getD i3.toNat (0, [], [], [])).1, (l.getD i3.toNat (0, [], [], [])).2.1, (l.getD i3.toNat (0, [], [], [])).2.2.1, (l.getD i3.toNat (0, [], [], [])).2.2.2)] : List (Int × List (List UInt8) × List (List UInt8) × List UInt8))) (blk A_t380_after) := (DnD.append k117.1 dj209 dj216)
                    have dj225 : DnD de94 (hs_back ++ ([((l.getD i3.toNat (0, [], [], [])).1, ⟨A_el, ((l.getD i3.toNat (0, [], [], [])).2.1).length, c_el⟩, ⟨A_el2, ((l.getD i3.toNat (0, [], [], [])).2.2.1).length, c_el2⟩, (l.getD i3.toNat (0, [], [], [])).2.2.2)] : List (Int × Hdr × Hdr × List UInt8))) (back ++ ([((l.getD i3.toNat (0, [], [], [])).1, (l.getD i3.toNat (0, [], [], [])).2.1, (l.getD i3.toNat (0, [], [], [])).2.2.1, (l.getD i3.toNat (0, [], [], [])).2.2.2)] : List (Int × List (List UInt8) × List (List UInt8) × List UInt8))) (some g_t380_makers) := (DnD.append k117.1 dj210 dj217)
                    have dj226 : DnD de94 (hs_back ++ ([((l.getD i3.toNat (0, [], [], [])).1, ⟨A_el, ((l.getD i3.toNat (0, [], [], [])).2.1).length, c_el⟩, ⟨A_el2, ((l.getD i3.toNat (0, [], [], [])).2.2.1).length, c_el2⟩, (l.getD i3.toNat (0, [], [], [])).2.2.2)] : List (Int × Hdr × Hdr × List UInt8))) (back ++ ([((l.getD i3.toNat (0, [], [], [])).1, (l.getD i3.toNat (0, [], [], [])).2.1, (l.getD i3.toNat (0, [], [], [])).2.2.1, (l.getD i3.toNat (0, [], [], [])).2.2.2)] : List (Int × List (List UInt8) × List (List UInt8) × List UInt8))) (some g_t380) := (DnD.append k117.1 dj211 dj218)
                    have dj227 : DnD de94 (hs_back ++ ([((l.getD i3.toNat (0, [], [], [])).1, ⟨A_el, ((l.getD i3.toNat (0, [], [], [])).2.1).length, c_el⟩, ⟨A_el2, ((l.getD i3.toNat (0, [], [], [])).2.2.1).length, c_el2⟩, (l.getD i3.toNat (0, [], [], [])).2.2.2)] : List (Int × Hdr × Hdr × List UInt8))) (back ++ ([((l.getD i3.toNat (0, [], [], [])).1, (l.getD i3.toNat (0, [], [], [])).2.1, (l.getD i3.toNat (0, [], [], [])).2.2.1, (l.getD i3.toNat (0, [], [], [])).2.2.2)] : List (Int × List (List UInt8) × List (List UInt8) × List UInt8))) (blk A_o) := (DnD.append k117.1 dj212 dj219)
                    have dj228 : DnD de94 (hs_back ++ ([((l.getD i3.toNat (0, [], [], [])).1, ⟨A_el, ((l.getD i3.toNat (0, [], [], [])).2.1).length, c_el⟩, ⟨A_el2, ((l.getD i3.toNat (0, [], [], [])).2.2.1).length, c_el2⟩, (l.getD i3.toNat (0, [], [], [])).2.2.2)] : List (Int × Hdr × Hdr × List UInt8))) (back ++ ([((l.getD i3.toNat (0, [], [], [])).1, (l.getD i3.toNat (0, [], [], [])).2.1, (l.getD i3.toNat (0, [], [], [])).2.2.1, (l.getD i3.toNat (0, [], [], [])).2.2.2)] : List (Int × List (List UInt8) × List (List UInt8) × List UInt8))) (blk (some ⟨g3, 0, none⟩)) := (DnD.append k117.1 (k106.new (Ge.box hl3)) dj221)
                    have dj229 : DnD de94 (hs_back ++ ([((l.getD i3.toNat (0, [], [], [])).1, ⟨A_el, ((l.getD i3.toNat (0, [], [], [])).2.1).length, c_el⟩, ⟨A_el2, ((l.getD i3.toNat (0, [], [], [])).2.2.1).length, c_el2⟩, (l.getD i3.toNat (0, [], [], [])).2.2.2)] : List (Int × Hdr × Hdr × List UInt8))) (back ++ ([((l.getD i3.toNat (0, [], [], [])).1, (l.getD i3.toNat (0, [], [], [])).2.1, (l.getD i3.toNat (0, [], [], [])).2.2.1, (l.getD i3.toNat (0, [], [], [])).2.2.2)] : List (Int × List (List UInt8) × List (List UInt8) × List UInt8))) (blk A_back2) := (DnD.append k117.1 (RelD.app k117 dj213 hk1) (RelD.app hr1 dj220 hk1))
                    refine WL.y rfl (Yld.pure tab_ok rfl) ?_
                    refine WL.nil (WX.block_normal (WX.then_normal ?_))
                    refine WC.region ?_
                    refine WL.y rfl (Yld.pure tab_ok rfl) ?_
                    obtain ⟨h20, H⟩ := H
                    refine WL.y rfl (Yld.sub rfl rfl h20) ?_
                    refine WL.y rfl (Yld.pure tab_ok rfl) ?_
                    refine WL.nil ?_
                    exact WX.roundF _ ⟨back ++ ([((l.getD i3.toNat (0, [], [], [])).1, (l.getD i3.toNat (0, [], [], [])).2.1, (l.getD i3.toNat (0, [], [], [])).2.2.1, (l.getD i3.toNat (0, [], [], [])).2.2.2)] : List (Int × List (List UInt8) × List (List UInt8) × List UInt8)), A_back2, c_back2, (back ++ ([((l.getD i3.toNat (0, [], [], [])).1, (l.getD i3.toNat (0, [], [], [])).2.1, (l.getD i3.toNat (0, [], [], [])).2.2.1, (l.getD i3.toNat (0, [], [], [])).2.2.2)] : List (Int × List (List UInt8) × List (List UInt8) × List UInt8))).length, hs_back ++ ([((l.getD i3.toNat (0, [], [], [])).1, ⟨A_el, ((l.getD i3.toNat (0, [], [], [])).2.1).length, c_el⟩, ⟨A_el2, ((l.getD i3.toNat (0, [], [], [])).2.2.1).length, c_el2⟩, (l.getD i3.toNat (0, [], [], [])).2.2.2)] : List (Int × Hdr × Hdr × List UInt8)), i3 - (1 : Int), rfl, rfl, H.1, rfl, gr15, k118, k119, k120, k121, k122, k123, k124, k125, k126, hO5, hr2, dj165, dj166, dj167, dj168, dj169, (Dj.app dj170.symm k107.lt' hk1).symm, dj171, dj172, dj173, dj174, dj175, dj176, (RelD.app k108 dj177 hk1), dj178, dj179, dj180, (Dj.app dj181.symm k109.lt' hk1).symm, dj182, dj183, dj184, dj185, dj186, dj187, (RelD.app k110 dj188 hk1), dj189, dj190, (Dj.app dj191.symm k111.lt' hk1).symm, dj192, dj193, dj194, dj195, dj196, dj197, (RelD.app k112 dj198 hk1), dj199, dj200, dj201, dj202, (Dj.app dj203.symm k113.lt' hk1).symm, dj204, (Dj.app dj205.symm k114.lt' hk1).symm, (Dj.app dj206.symm k115.lt' hk1).symm, dj222, dj223, dj224, dj225, dj226, dj227, dj229⟩ (by repeat (first | exact Sub.nil | refine Sub.cons rfl ?_)) H.2
                  · replace H := H.2 (of_decide_eq_false b13)
                    refine WC.exit (WX.then_exit (WX.then_exit (WX.block_same (WX.then_normal ?_))))
                    refine WC.seq ?_
                    refine WC.region ?_
                    refine WL.y rfl (Yld.pure tab_ok rfl) ?_
                    refine WL.call rfl rfl (W_graph_New (hG.grown gr13) hS4 hS6 hS9 hS10 hS11 hS100 k105.rd rfl k106 H) ?_
                    rintro v_ w18 ⟨hg_, hc_ | hc_⟩
                    · obtain ⟨v_t1461, t1461, rfl, ht1461, H⟩ := hc_
                      have hg12 := hg_
                      have gr16 := gr_trans gr13 hg12
                      have k129 := k96.grown hg12
                      have k130 := k97.grown hg12
                      have k131 := k98.grown hg12
                      have k132 := k99.grown hg12
                      have k133 := k100.grown hg12
                      have k134 := k101.grown hg12
                      have k135 := k102.g0 hg12
                      have k136 := k103.g0 hg12
                      have k137 := k104.grown hg12
                      have k138 := k105.grown hg12
                      have k139 := k106.grown hg12
                      refine WL.y rfl (Yld.pure tab_ok rfl) ?_
                      refine WL.y rfl (Yld.pure tab_ok rfl) ?_
                      refine WL.y rfl (Yld.pure tab_ok rfl) ?_
                      refine WL.y rfl (Yld.pure tab_ok rfl) ?_
                      refine WL.y rfl (Yld.pure tab_ok rfl) ?_
                      refine WL.nil (WX.then_normal ?_)
                      refine WC.seq ?_
                      refine WC.seq ?_
                      refine WC.region ?_
                      refine WL.y rfl (Yld.pure tab_ok rfl) ?_
                      refine WL.y rfl (Yld.peqnil Tryz.underlying81 rfl rfl) ?_
                      refine WL.y rfl (Yld.pure tab_ok rfl) ?_
                      refine WL.midF 3 (fun L' w' => ∃ q7 : Bool, L' = [(154, .bool q7), (0, .slice A_l l.length c_l), (1, .int .i64 at_), (6, .pointer (some ⟨g_t380, 0, none⟩)), (8, .slice A_o o.length c_o), (14, .slice A_back back.length c_back), (16, .pointer none)] ∧ true = q7 ∧ w18 = w') ?_ (fun hQ => ?_)
                      · rintro _ _ ⟨q7, rfl, rfl, rfl⟩
                        refine WL.y rfl (Yld.pure tab_ok rfl) ?_
                        refine WL.midF 5 (fun L' w' => L' = [(160, .bool true), (0, .slice A_l l.length c_l), (1, .int .i64 at_), (6, .pointer (some ⟨g_t380, 0, none⟩)), (8, .slice A_o o.length c_o), (14, .slice A_back back.length c_back), (16, .pointer none)] ∧ w.grownBy w' none ∧ OwnK 4 encH94 w' w.heap.size 94 A_t380_l c_t380_l hs_t380_l ∧ RelD de94 w' hs_t380_l t380_l ∧ Own vh w' w.heap.size 98 A_t380_before c_t380_before hs_t380_before ∧ RelD de98 w' hs_t380_before t380_before ∧ Own vh w' w.heap.size 98 A_t380_after c_t380_after hs_t380_after ∧ RelD de98 w' hs_t380_after t380_after ∧ MapB vs okS vi w' g_t380_makers t380_makers ∧ Bl w' g_t380 169 [.slice A_t380_l t380_l.length c_t380_l, .map (some g_t380_makers), .slice A_t380_before t380_before.length c_t380_before, .slice A_t380_after t380_after.length c_t380_after] ∧ Own vi w' w.heap.size 3 A_o c_o o ∧ OwnK 4 encH94 w' w.heap.size 94 A_back c_back hs_back ∧ RelD de94 w' hs_back back) ?_ (fun hQ => ?_)
                        · rintro _ w20 ⟨rfl, gr17, k140, k141, k142, k143, k144, k145, k146, k147, k148, k149, k150⟩
                          refine WL.y rfl (Yld.pure tab_ok rfl) ?_
                          refine WL.midF 5 (fun L' w' => L' = [(166, .bool true), (0, .slice A_l l.length c_l), (1, .int .i64 at_), (6, .pointer (some ⟨g_t380, 0, none⟩)), (8, .slice A_o o.length c_o), (14, .slice A_back back.length c_back)] ∧ w.grownBy w' none ∧ OwnK 4 encH94 w' w.heap.size 94 A_t380_l c_t380_l hs_t380_l ∧ RelD de94 w' hs_t380_l t380_l ∧ Own vh w' w.heap.size 98 A_t380_before c_t380_before hs_t380_before ∧ RelD de98 w' hs_t380_before t380_before ∧ Own vh w' w.heap.size 98 A_t380_after c_t380_after hs_t380_after ∧ RelD de98 w' hs_t380_after t380_after ∧ MapB vs okS vi w' g_t380_makers t380_makers ∧ Bl w' g_t380 169 [.slice A_t380_l t380_l.length c_t380_l, .map (some g_t380_makers), .slice A_t380_before t380_before.length c_t380_before, .slice A_t380_after t380_after.length c_t380_after] ∧ Own vi w' w.heap.size 3 A_o c_o o ∧ OwnK 4 encH94 w' w.heap.size 94 A_back c_back hs_back ∧ RelD de94 w' hs_back back) ?_ (fun hQ => ?_)
                          · rintro _ w21 ⟨rfl, gr18, k151, k152, k153, k154, k155, k156, k157, k158, k159, k160, k161⟩
                            refine WL.y rfl (Yld.pure tab_ok rfl) ?_
                            refine WL.midF 6 (fun L' w' => ∃ q10 : Bool, L' = [(173, .bool q10), (0, .slice A_l l.length c_l), (1, .int .i64 at_), (6, .pointer (some ⟨g_t380, 0, none⟩)), (14, .slice A_back back.length c_back)] ∧ true = q10 ∧ w21 = w') ?_ (fun hQ => ?_)
                            · rintro _ _ ⟨q10, rfl, rfl, rfl⟩
                              refine WL.nil (WX.then_normal ?_)
                              refine WC.cond rfl (fun _ => ?_) (fun h => by cases h)
                              refine WC.seq ?_
                              refine WC.region ?_
                              refine WL.y rfl (Yld.pure tab_ok rfl) ?_
                              refine WL.nil (WX.then_normal ?_)
                              refine WC.ret (WX.then_ret ?_)
                              exact WX.ret1 rfl rfl ⟨gr18, false, rfl, H⟩
                            · clear H
                              refine WL.gno rfl rfl (rfl) rfl ?_
                              refine WL.gno rfl rfl (rfl) rfl ?_
                              refine WL.gno rfl rfl (rfl) rfl ?_
                              refine WL.gno rfl rfl (rfl) rfl ?_
                              refine WL.gno rfl rfl (rfl) rfl ?_
                              refine WL.y rfl (Yld.pickT (rfl) rfl) ?_
                              exact WL.weaken (by repeat (first | exact Sub.nil | refine Sub.cons rfl ?_)) (hQ _ _ ⟨true, rfl, rfl, rfl⟩)
                          · clear H
                            refine WL.gno rfl rfl (rfl) rfl ?_
                            refine WL.gno rfl rfl (rfl) rfl ?_
                            refine WL.gno rfl rfl (rfl) rfl ?_
                            refine WL.gno rfl rfl (rfl) rfl ?_
                            refine WL.y rfl (Yld.pickT (rfl) rfl) ?_
                            exact WL.weaken (by repeat (first | exact Sub.nil | refine Sub.cons rfl ?_)) (hQ _ _ ⟨rfl, gr17, k140, k141, k142, k143, k144, k145, k146, k147, k148, k149, k150⟩)
                        · clear H
                          refine WL.gno rfl rfl (rfl) rfl ?_
                          refine WL.gno rfl rfl (rfl) rfl ?_
                          refine WL.gno rfl rfl (rfl) rfl ?_
                          refine WL.gno rfl rfl (rfl) rfl ?_
                          refine WL.y rfl (Yld.pickT (rfl) rfl) ?_
                          exact WL.weaken (by repeat (first | exact Sub.nil | refine Sub.cons rfl ?_)) (hQ _ _ ⟨rfl, gr16, k129, k130, k131, k132, k133, k134, k135, k136, k137, k138, k139⟩)
                      · clear H
                        refine WL.gno rfl rfl (rfl) rfl ?_
                        refine WL.gno rfl rfl (rfl) rfl ?_
                        refine WL.y rfl (Yld.pickT (rfl) rfl) ?_
                        exact WL.weaken (by repeat (first | exact Sub.nil | refine Sub.cons rfl ?_)) (hQ _ _ ⟨true, rfl, rfl, rfl⟩)
                    · obtain ⟨g_t1460, t1460_l, A_t1460_l, c_t1460_l, hs_t1460_l, g_t1460_makers, t1460_makers, t1460_before, A_t1460_before, c_t1460_before, hs_t1460_before, t1460_after, A_t1460_after, c_t1460_after, hs_t1460_after, v_t14612, t14612, rfl, ht1460_l, hr_t1460_l, nd4, dj230, ht1460_before, hr_t1460_before, nd5, dj231, ht1460_after, hr_t1460_after, nd6, dj232, ht14612, ht1460_makers, hge3, ht1460, hge4, dj233, dj234, dj235, dj236, dj237, dj238, dj239, dj240, dj241, dj242, dj243, dj244, dj245, dj246, dj247, dj248, dj249, dj250, dj251, dj252, dj253, dj254, dj255, dj256, dj257, H⟩ := hc_
                      have hg13 := hg_
                      have hb7 := ht1460_l.ge'
                      have k162 := ht1460_l.base (fun g hg => Nat.le_trans (size_le gr13) (hb7 g hg))
                      have hb8 := ht1460_before.ge'
                      have k163 := ht1460_before.base (fun g hg => Nat.le_trans (size_le gr13) (hb8 g hg))
                      have hb9 := ht1460_after.ge'
                      have k164 := ht1460_after.base (fun g hg => Nat.le_trans (size_le gr13) (hb9 g hg))
                      have gr19 := gr_trans gr13 hg13
                      have k165 := k96.grown hg13
                      have k166 := k97.grown hg13
                      have k167 := k98.grown hg13
                      have k168 := k99.grown hg13
                      have k169 := k100.grown hg13
                      have k170 := k101.grown hg13
                      have k171 := k102.g0 hg13
                      have k172 := k103.g0 hg13
                      have k173 := k104.grown hg13
                      have k174 := k105.grown hg13
                      have k175 := k106.grown hg13
                      refine WL.y rfl (Yld.pure tab_ok rfl) ?_
                      refine WL.y rfl (Yld.pure tab_ok rfl) ?_
                      refine WL.y rfl (Yld.pure tab_ok rfl) ?_
                      refine WL.y rfl (Yld.pure tab_ok rfl) ?_
                      refine WL.y rfl (Yld.pure tab_ok rfl) ?_
                      refine WL.nil (WX.then_normal ?_)
                      refine WC.seq ?_
                      refine WC.seq ?_
                      refine WC.region ?_
                      refine WL.y rfl (Yld.pure tab_ok rfl) ?_
                      refine WL.y rfl (Yld.peqnil Tryz.underlying81 rfl rfl) ?_
                      refine WL.y rfl (Yld.pure tab_ok rfl) ?_
                      refine WL.midF 3 (fun L' w' => ∃ q11 : Bool, L' = [(154, .bool q11), (0, .slice A_l l.length c_l), (1, .int .i64 at_), (6, .pointer (some ⟨g_t380, 0, none⟩)), (8, .slice A_o o.length c_o), (14, .slice A_back back.length c_back), (16, .pointer (some ⟨g_t1460, 0, none⟩))] ∧ (!decide (t14612 = Er.ok)) = q11 ∧ w18 = w') ?_ (fun hQ => ?_)
                      · rintro _ _ ⟨q11, rfl, rfl, rfl⟩
                        refine WL.y rfl (Yld.pure tab_ok rfl) ?_
                        obtain ⟨J4, H, hJ4⟩ := H
                        refine WL.midF 5 (fun L' w' => ∃ q12 : Bool, L' = [(160, .bool q12), (0, .slice A_l l.length c_l), (1, .int .i64 at_), (6, .pointer (some ⟨g_t380, 0, none⟩)), (8, .slice A_o o.length c_o), (14, .slice A_back back.length c_back), (16, .pointer (some ⟨g_t1460, 0, none⟩))] ∧ J4 q12 ∧ w.grownBy w' none ∧ OwnK 4 encH94 w' w.heap.size 94 A_t380_l c_t380_l hs_t380_l ∧ RelD de94 w' hs_t380_l t380_l ∧ Own vh w' w.heap.size 98 A_t380_before c_t380_before hs_t380_before ∧ RelD de98 w' hs_t380_before t380_before ∧ Own vh w' w.heap.size 98 A_t380_after c_t380_after hs_t380_after ∧ RelD de98 w' hs_t380_after t380_after ∧ MapB vs okS vi w' g_t380_makers t380_makers ∧ Bl w' g_t380 169 [.slice A_t380_l t380_l.length c_t380_l, .map (some g_t380_makers), .slice A_t380_before t380_before.length c_t380_before, .slice A_t380_after t380_after.length c_t380_after] ∧ Own vi w' w.heap.size 3 A_o c_o o ∧ OwnK 4 encH94 w' w.heap.size 94 A_back c_back hs_back ∧ RelD de94 w' hs_back back ∧ OwnK 4 encH94 w' w.heap.size 94 A_t1460_l c_t1460_l hs_t1460_l ∧ RelD de94 w' hs_t1460_l t1460_l ∧ Own vh w' w.heap.size 98 A_t1460_before c_t1460_before hs_t1460_before ∧ RelD de98 w' hs_t1460_before t1460_before ∧ Own vh w' w.heap.size 98 A_t1460_after c_t1460_after hs_t1460_after ∧ RelD de98 w' hs_t1460_after t1460_after ∧ MapB vs okS vi w' g_t1460_makers t1460_makers ∧ Bl w' g_t1460 169 [.slice A_t1460_l t1460_l.length c_t1460_l, .map (some g_t1460_makers), .slice A_t1460_before t1460_before.length c_t1460_before, .slice A_t1460_after t1460_after.length c_t1460_after]) ?_ (fun hQ => ?_)
                        · clear H
                          rintro _ w23 ⟨q12, rfl, H, gr20, k176, k177, k178, k179, k180, k181, k182, k183, k184, k185, k186, k187, k188, k189, k190, k191, k192, k193, k194⟩
                          replace H := hJ4 q12 H
                          refine WL.y rfl (Yld.pure tab_ok rfl) ?_
                          obtain ⟨J5, H, hJ5⟩ := H
                          refine WL.midF 5 (fun L' w' => ∃ q13 : Bool, L' = [(166, .bool q13), (0, .slice A_l l.length c_l), (1, .int .i64 at_), (6, .pointer (some ⟨g_t380, 0, none⟩)), (8, .slice A_o o.length c_o), (14, .slice A_back back.length c_back)] ∧ J5 q13 ∧ w.grownBy w' none ∧ OwnK 4 encH94 w' w.heap.size 94 A_t380_l c_t380_l hs_t380_l ∧ RelD de94 w' hs_t380_l t380_l ∧ Own vh w' w.heap.size 98 A_t380_before c_t380_before hs_t380_before ∧ RelD de98 w' hs_t380_before t380_before ∧ Own vh w' w.heap.size 98 A_t380_after c_t380_after hs_t380_after ∧ RelD de98 w' hs_t380_after t380_after ∧ MapB vs okS vi w' g_t380_makers t380_makers ∧ Bl w' g_t380 169 [.slice A_t380_l t380_l.length c_t380_l, .map (some g_t380_makers), .slice A_t380_before t380_before.length c_t380_before, .slice A_t380_after t380_after.length c_t380_after] ∧ Own vi w' w.heap.size 3 A_o c_o o ∧ OwnK 4 encH94 w' w.heap.size 94 A_back c_back hs_back ∧ RelD de94 w' hs_back back) ?_ (fun hQ => ?_)
                          · clear H
                            rintro _ w24 ⟨q13, rfl, H, gr21, k195, k196, k197, k198, k199, k200, k201, k202, k203, k204, k205⟩
                            replace H := hJ5 q13 H
                            refine WL.y rfl (Yld.pure tab_ok rfl) ?_
                            refine WL.midF 6 (fun L' w' => ∃ q14 : Bool, L' = [(173, .bool q14), (0, .slice A_l l.length c_l), (1, .int .i64 at_), (6, .pointer (some ⟨g_t380, 0, none⟩)), (14, .slice A_back back.length c_back)] ∧ (q13 || (!decide ((o.length : Int) = (l.length : Int)))) = q14 ∧ w24 = w') ?_ (fun hQ => ?_)
                            · rintro _ _ ⟨q14, rfl, rfl, rfl⟩
                              refine WL.nil (WX.then_normal ?_)
                              refine WC.cond rfl (fun b14 => ?_) (fun b14 => ?_)
                              · replace H := H.1 (b14)
                                refine WC.seq ?_
                                refine WC.region ?_
                                refine WL.y rfl (Yld.pure tab_ok rfl) ?_
                                refine WL.nil (WX.then_normal ?_)
                                refine WC.ret (WX.then_ret ?_)
                                exact WX.ret1 rfl rfl ⟨gr21, false, rfl, H⟩
                              · replace H := H.2 (b14)
                                refine WC.skip (WX.then_normal ?_)
                                refine WC.seq ?_
                                refine WC.seq ?_
                                refine WC.region ?_
                                refine WL.y rfl (Yld.pure tab_ok rfl) ?_
                                refine WL.y rfl (Yld.pure tab_ok rfl) ?_
                                refine WL.y rfl (Yld.pure tab_ok rfl) ?_
                                refine WL.nil (WX.then_normal ?_)
                                refine WC.cond rfl (fun b15 => ?_) (fun b15 => ?_)
                                · replace H := H.1 (of_decide_eq_true b15)
                                  refine WC.seq ?_
                                  refine WC.region ?_
                                  refine WL.y rfl (Yld.pure tab_ok rfl) ?_
                                  refine WL.nil (WX.then_normal ?_)
                                  refine WC.ret (WX.then_ret ?_)
                                  exact WX.ret1 rfl rfl ⟨gr21, true, rfl, H⟩
                                · replace H := H.2 (of_decide_eq_false b15)
                                  refine WC.skip (WX.then_normal ?_)
                                  refine WC.seq ?_
                                  refine WC.region ?_
                                  refine WL.y rfl (Yld.pure tab_ok rfl) ?_
                                  refine WL.y rfl (Yld.pure tab_ok rfl) ?_
                                  refine WL.y rfl (Yld.pure tab_ok rfl) ?_
                                  refine WL.call rfl rfl (W_smithyworld_Number H) ?_
                                  rintro _ _ ⟨rfl, k_2, rfl, H⟩
                                  refine WL.y rfl (Yld.pure tab_ok rfl) ?_
                                  refine WL.nil (WX.then_normal ?_)
                                  refine WC.seq ?_
                                  refine WC.region ?_
                                  refine WL.y rfl (Yld.pure tab_ok rfl) ?_
                                  refine WL.y rfl (Yld.pure tab_ok rfl) ?_
                                  refine WL.y rfl (Yld.pure tab_ok rfl) ?_
                                  obtain ⟨h21, H⟩ := H
                                  refine WL.y rfl (Yld.iaddrK tab_ok (hl.grown gr21) rfl rfl hr_l.1.symm rfl h21.1 h21.2) ?_
                                  refine WL.y rfl (Yld.faddrK tab_ok (hl.grown gr21) (iltN h21 hr_l.1.symm) rfl rfl rfl) ?_
                                  obtain ⟨⟨f3, ⟨A_el3, n3, c_el3⟩, ⟨A_el4, n4, c_el4⟩, f4⟩, eh2, ⟨en5, ⟨en6, hR3⟩, ⟨en7, hR4⟩, en8⟩⟩ := RelD.at hr_l (0, hd0, hd0, []) (0, [], [], []) (j := k_2.toNat) (Nat.lt_of_lt_of_eq (iltN h21 hr_l.1.symm) hr_l.1)
                                  have en5 : f3 = (l.getD k_2.toNat (0, [], [], [])).1 := en5
                                  subst en5
                                  have en6 : n3 = ((l.getD k_2.toNat (0, [], [], [])).2.1).length := en6
                                  subst en6
                                  have en7 : n4 = ((l.getD k_2.toNat (0, [], [], [])).2.2.1).length := en7
                                  subst en7
                                  have en8 : f4 = (l.getD k_2.toNat (0, [], [], [])).2.2.2 := en8
                                  subst en8
                                  refine WL.y rfl (Yld.iloadF (v := vs ((l.getD k_2.toNat (0, [], [], [])).2.2.2)) (0, hd0, hd0, []) tab_ok (hl.grown gr21) rfl rfl (iltN h21 hr_l.1.symm) (by rw [eh2]; rfl)) ?_
                                  refine WL.lit tab_ok rfl rfl rfl (all1c rfl all1n) rfl (by omega) (fun g4 w25 hB3 hg14 hl4 => ?_)
                                  have hO6 : Own vs w25 w.heap.size 9 (some ⟨g4, 0, none⟩) 1 ([(l.getD k_2.toNat (0, [], [], [])).2.2.2] : List (List UInt8)) := Own.ofBl hB3 (Nat.le_trans (size_le gr21) hl4) (by simp [maxLen]) rfl
                                  have gr22 := gr_trans gr21 hg14
                                  have k206 := k195.grown hg14
                                  have k207 := k196.grown hg14
                                  have k208 := k197.grown hg14
                                  have k209 := k198.grown hg14
                                  have k210 := k199.grown hg14
                                  have k211 := k200.grown hg14
                                  have k212 := k201.g0 hg14
                                  have k213 := k202.g0 hg14
                                  have k214 := k204.grown hg14
                                  have k215 := k205.grown hg14
                                  refine WL.call rfl rfl (W_pgraph_Graph_Needs k206.rd rfl k207 k212 k208.rd rfl k209 k210.rd rfl k211 k213 hO6.rd rfl H) ?_
                                  rintro _ w26 ⟨hg15, n, A_n, c_n, rfl, hn, H⟩
                                  have hb10 := hn.ge'
                                  have k216 := hn.base (fun g hg => Nat.le_trans (size_le gr22) (hb10 g hg))
                                  have gr23 := gr_trans gr22 hg15
                                  have k217 := k206.grown hg15
                                  have k218 := k207.grown hg15
                                  have k219 := k208.grown hg15
                                  have k220 := k209.grown hg15
                                  have k221 := k210.grown hg15
                                  have k222 := k211.grown hg15
                                  have k223 := k212.g0 hg15
                                  have k224 := k213.g0 hg15
                                  have k225 := k214.grown hg15
                                  have k226 := k215.grown hg15
                                  refine WL.y rfl (Yld.pure tab_ok rfl) ?_
                                  refine WL.nil (WX.then_normal ?_)
                                  refine WC.seq ?_
                                  refine WC.region ?_
                                  refine WL.y rfl (Yld.pure tab_ok rfl) ?_
                                  refine WL.y rfl (Yld.pure tab_ok rfl) ?_
                                  refine WL.y rfl (Yld.pure tab_ok rfl) ?_
                                  obtain ⟨h22, H⟩ := H
                                  refine WL.y rfl (Yld.iaddrK tab_ok (hl.grown gr23) rfl rfl hr_l.1.symm rfl h22.1 h22.2) ?_
                                  refine WL.y rfl (Yld.faddrK tab_ok (hl.grown gr23) (iltN h22 hr_l.1.symm) rfl rfl rfl) ?_
                                  refine WL.y rfl (Yld.iloadF (v := vs ((l.getD k_2.toNat (0, [], [], [])).2.2.2)) (0, hd0, hd0, []) tab_ok (hl.grown gr23) rfl rfl (iltN h22 hr_l.1.symm) (by rw [eh2]; rfl)) ?_
                                  refine WL.lit tab_ok rfl rfl rfl (all1c rfl all1n) rfl (by omega) (fun g5 w27 hB4 hg16 hl5 => ?_)
                                  have hO7 : Own vs w27 w.heap.size 9 (some ⟨g5, 0, none⟩) 1 ([(l.getD k_2.toNat (0, [], [], [])).2.2.2] : List (List UInt8)) := Own.ofBl hB4 (Nat.le_trans (size_le gr23) hl5) (by simp [maxLen]) rfl
                                  have gr24 := gr_trans gr23 hg16
                                  have k227 := k217.grown hg16
                                  have k228 := k218.grown hg16
                                  have k229 := k219.grown hg16
                                  have k230 := k220.grown hg16
                                  have k231 := k221.grown hg16
                                  have k232 := k222.grown hg16
                                  have k233 := k223.g0 hg16
                                  have k234 := k224.g0 hg16
                                  have k235 := k225.grown hg16
                                  have k236 := k226.grown hg16
                                  have k237 := k216.grown hg16
                                  refine WL.call rfl rfl (W_graph_Only (hG.grown gr24) hS4 hS6 hS9 hS10 hS11 hS100 (hl.grown gr24) rfl (hr_l.grown gr24) hO7.rd rfl H) ?_
                                  rintro _ w28 ⟨hg17, part, A_part, c_part, hs_part, rfl, hpart, hr_part, H⟩
                                  have hb11 := hpart.ge'
                                  have k238 := hpart.base (fun g hg => Nat.le_trans (size_le gr24) (hb11 g hg))
                                  have gr25 := gr_trans gr24 hg17
                                  have k239 := k227.grown hg17
                                  have k240 := k228.grown hg17
                                  have k241 := k229.grown hg17
                                  have k242 := k230.grown hg17
                                  have k243 := k231.grown hg17
                                  have k244 := k232.grown hg17
                                  have k245 := k233.g0 hg17
                                  have k246 := k234.g0 hg17
                                  have k247 := k235.grown hg17
                                  have k248 := k236.grown hg17
                                  have k249 := k237.grown hg17
                                  refine WL.y rfl (Yld.pure tab_ok rfl) ?_
                                  refine WL.nil (WX.then_normal ?_)
                                  refine WC.seq ?_
                                  refine WC.region ?_
                                  refine WL.y rfl (Yld.pure tab_ok rfl) ?_
                                  refine WL.call rfl rfl (W_graph_New (hG.grown gr25) hS4 hS6 hS9 hS10 hS11 hS100 k238.rd rfl hr_part H) ?_
                                  rintro v_ w29 ⟨hg_, hc_ | hc_⟩
                                  · obtain ⟨v_t1991, t1991, rfl, ht1991, H⟩ := hc_
                                    have hg18 := hg_
                                    have gr26 := gr_trans gr25 hg18
                                    have k250 := k239.grown hg18
                                    have k251 := k240.grown hg18
                                    have k252 := k241.grown hg18
                                    have k253 := k242.grown hg18
                                    have k254 := k243.grown hg18
                                    have k255 := k244.grown hg18
                                    have k256 := k245.g0 hg18
                                    have k257 := k246.g0 hg18
                                    have k258 := k247.grown hg18
                                    have k259 := k248.grown hg18
                                    have k260 := k249.grown hg18
                                    have k261 := k238.grown hg18
                                    have k262 := hr_part.grown hg18
                                    refine WL.y rfl (Yld.pure tab_ok rfl) ?_
                                    refine WL.y rfl (Yld.pure tab_ok rfl) ?_
                                    refine WL.y rfl (Yld.pure tab_ok rfl) ?_
                                    refine WL.y rfl (Yld.pure tab_ok rfl) ?_
                                    refine WL.y rfl (Yld.pure tab_ok rfl) ?_
                                    refine WL.nil (WX.then_normal ?_)
                                    refine WC.seq ?_
                                    refine WC.seq ?_
                                    refine WC.region ?_
                                    refine WL.y rfl (Yld.pure tab_ok rfl) ?_
                                    refine WL.y rfl (Yld.peqnil Tryz.underlying81 rfl rfl) ?_
                                    refine WL.y rfl (Yld.pure tab_ok rfl) ?_
                                    refine WL.midF 3 (fun L' w' => ∃ q15 : Bool, L' = [(207, .bool q15), (0, .slice A_l l.length c_l), (6, .pointer (some ⟨g_t380, 0, none⟩)), (14, .slice A_back back.length c_back), (18, .int .i64 k_2), (19, .slice A_n n.length c_n), (20, .slice A_part part.length c_part), (21, .pointer none)] ∧ true = q15 ∧ w29 = w') ?_ (fun hQ => ?_)
                                    · rintro _ _ ⟨q15, rfl, rfl, rfl⟩
                                      refine WL.y rfl (Yld.pure tab_ok rfl) ?_
                                      refine WL.midF 6 (fun L' w' => ∃ q16 : Bool, L' = [(214, .bool q16), (0, .slice A_l l.length c_l), (6, .pointer (some ⟨g_t380, 0, none⟩)), (14, .slice A_back back.length c_back), (18, .int .i64 k_2), (19, .slice A_n n.length c_n), (20, .slice A_part part.length c_part), (21, .pointer none)] ∧ true = q16 ∧ w29 = w') ?_ (fun hQ => ?_)
                                      · rintro _ _ ⟨q16, rfl, rfl, rfl⟩
                                        refine WL.y rfl (Yld.pure tab_ok rfl) ?_
                                        refine WL.midF 5 (fun L' w' => L' = [(220, .bool true), (0, .slice A_l l.length c_l), (6, .pointer (some ⟨g_t380, 0, none⟩)), (14, .slice A_back back.length c_back), (18, .int .i64 k_2), (20, .slice A_part part.length c_part), (21, .pointer none)] ∧ w29 = w') ?_ (fun hQ => ?_)
                                        · rintro _ _ ⟨rfl, rfl⟩
                                          refine WL.nil (WX.then_normal ?_)
                                          refine WC.cond rfl (fun _ => ?_) (fun h => by cases h)
                                          refine WC.seq ?_
                                          refine WC.region ?_
                                          refine WL.y rfl (Yld.pure tab_ok rfl) ?_
                                          refine WL.nil (WX.then_normal ?_)
                                          refine WC.ret (WX.then_ret ?_)
                                          exact WX.ret1 rfl rfl ⟨gr26, false, rfl, H⟩
                                        · clear H
                                          refine WL.gno rfl rfl (rfl) rfl ?_
                                          refine WL.gno rfl rfl (rfl) rfl ?_
                                          refine WL.gno rfl rfl (rfl) rfl ?_
                                          refine WL.gno rfl rfl (rfl) rfl ?_
                                          refine WL.y rfl (Yld.pickT (rfl) rfl) ?_
                                          exact WL.weaken (by repeat (first | exact Sub.nil | refine Sub.cons rfl ?_)) (hQ _ _ ⟨rfl, rfl⟩)
                                      · clear H
                                        refine WL.gno rfl rfl (rfl) rfl ?_
                                        refine WL.gno rfl rfl (rfl) rfl ?_
                                        refine WL.gno rfl rfl (rfl) rfl ?_
                                        refine WL.gno rfl rfl (rfl) rfl ?_
                                        refine WL.gno rfl rfl (rfl) rfl ?_
                                        refine WL.y rfl (Yld.pickT (rfl) rfl) ?_
                                        exact WL.weaken (by repeat (first | exact Sub.nil | refine Sub.cons rfl ?_)) (hQ _ _ ⟨true, rfl, rfl, rfl⟩)
                                    · clear H
                                      refine WL.gno rfl rfl (rfl) rfl ?_
                                      refine WL.gno rfl rfl (rfl) rfl ?_
                                      refine WL.y rfl (Yld.pickT (rfl) rfl) ?_
                                      exact WL.weaken (by repeat (first | exact Sub.nil | refine Sub.cons rfl ?_)) (hQ _ _ ⟨true, rfl, rfl, rfl⟩)
                                  · obtain ⟨g_t1990, t1990_l, A_t1990_l, c_t1990_l, hs_t1990_l, g_t1990_makers, t1990_makers, t1990_before, A_t1990_before, c_t1990_before, hs_t1990_before, t1990_after, A_t1990_after, c_t1990_after, hs_t1990_after, v_t19912, t19912, rfl, ht1990_l, hr_t1990_l, nd7, dj258, ht1990_before, hr_t1990_before, nd8, dj259, ht1990_after, hr_t1990_after, nd9, dj260, ht19912, ht1990_makers, hge5, ht1990, hge6, dj261, dj262, dj263, dj264, dj265, dj266, dj267, dj268, dj269, dj270, dj271, dj272, dj273, dj274, dj275, dj276, dj277, dj278, dj279, dj280, dj281, dj282, dj283, dj284, dj285, H⟩ := hc_
                                    have hg19 := hg_
                                    have hb12 := ht1990_l.ge'
                                    have k263 := ht1990_l.base (fun g hg => Nat.le_trans (size_le gr25) (hb12 g hg))
                                    have hb13 := ht1990_before.ge'
                                    have k264 := ht1990_before.base (fun g hg => Nat.le_trans (size_le gr25) (hb13 g hg))
                                    have hb14 := ht1990_after.ge'
                                    have k265 := ht1990_after.base (fun g hg => Nat.le_trans (size_le gr25) (hb14 g hg))
                                    have gr27 := gr_trans gr25 hg19
                                    have k266 := k239.grown hg19
                                    have k267 := k240.grown hg19
                                    have k268 := k241.grown hg19
                                    have k269 := k242.grown hg19
                                    have k270 := k243.grown hg19
                                    have k271 := k244.grown hg19
                                    have k272 := k245.g0 hg19
                                    have k273 := k246.g0 hg19
                                    have k274 := k247.grown hg19
                                    have k275 := k248.grown hg19
                                    have k276 := k249.grown hg19
                                    have k277 := k238.grown hg19
                                    have k278 := hr_part.grown hg19
                                    refine WL.y rfl (Yld.pure tab_ok rfl) ?_
                                    refine WL.y rfl (Yld.pure tab_ok rfl) ?_
                                    refine WL.y rfl (Yld.pure tab_ok rfl) ?_
                                    refine WL.y rfl (Yld.pure tab_ok rfl) ?_
                                    refine WL.y rfl (Yld.pure tab_ok rfl) ?_
                                    refine WL.nil (WX.then_normal ?_)
                                    refine WC.seq ?_
                                    refine WC.seq ?_
                                    refine WC.region ?_
                                    refine WL.y rfl (Yld.pure tab_ok rfl) ?_
                                    refine WL.y rfl (Yld.peqnil Tryz.underlying81 rfl rfl) ?_
                                    refine WL.y rfl (Yld.pure tab_ok rfl) ?_
                                    refine WL.midF 3 (fun L' w' => ∃ q18 : Bool, L' = [(207, .bool q18), (0, .slice A_l l.length c_l), (6, .pointer (some ⟨g_t380, 0, none⟩)), (14, .slice A_back back.length c_back), (18, .int .i64 k_2), (19, .slice A_n n.length c_n), (20, .slice A_part part.length c_part), (21, .pointer (some ⟨g_t1990, 0, none⟩))] ∧ (!decide (t19912 = Er.ok)) = q18 ∧ w29 = w') ?_ (fun hQ => ?_)
                                    · rintro _ _ ⟨q18, rfl, rfl, rfl⟩
                                      refine WL.y rfl (Yld.pure tab_ok rfl) ?_
                                      refine WL.midF 6 (fun L' w' => ∃ q19 : Bool, L' = [(214, .bool q19), (0, .slice A_l l.length c_l), (6, .pointer (some ⟨g_t380, 0, none⟩)), (14, .slice A_back back.length c_back), (18, .int .i64 k_2), (19, .slice A_n n.length c_n), (20, .slice A_part part.length c_part), (21, .pointer (some ⟨g_t1990, 0, none⟩))] ∧ ((!decide (t19912 = Er.ok)) || (!decide ((part.length : Int) = (n.length : Int)))) = q19 ∧ w29 = w') ?_ (fun hQ => ?_)
                                      · rintro _ _ ⟨q19, rfl, rfl, rfl⟩
                                        refine WL.y rfl (Yld.pure tab_ok rfl) ?_
                                        obtain ⟨J7, H, hJ7⟩ := H
                                        refine WL.midF 5 (fun L' w' => ∃ q20 : Bool, L' = [(220, .bool q20), (0, .slice A_l l.length c_l), (6, .pointer (some ⟨g_t380, 0, none⟩)), (14, .slice A_back back.length c_back), (18, .int .i64 k_2), (20, .slice A_part part.length c_part), (21, .pointer (some ⟨g_t1990, 0, none⟩))] ∧ J7 q20 ∧ w29 = w') ?_ (fun hQ => ?_)
                                        · clear H
                                          rintro _ _ ⟨q20, rfl, H, rfl⟩
                                          replace H := hJ7 q20 H
                                          refine WL.nil (WX.then_normal ?_)
                                          refine WC.cond rfl (fun b16 => ?_) (fun b16 => ?_)
                                          · replace H := H.1 (b16)
                                            refine WC.seq ?_
                                            refine WC.region ?_
                                            refine WL.y rfl (Yld.pure tab_ok rfl) ?_
                                            refine WL.nil (WX.then_normal ?_)
                                            refine WC.ret (WX.then_ret ?_)
                                            exact WX.ret1 rfl rfl ⟨gr27, false, rfl, H⟩
                                          · replace H := H.2 (b16)
                                            refine WC.skip (WX.then_normal ?_)
                                            refine WC.seq ?_
                                            refine WC.region ?_
                                            refine WL.y rfl (Yld.pure tab_ok rfl) ?_
                                            refine WL.y rfl (Yld.pure tab_ok rfl) ?_
                                            refine WL.y rfl (Yld.pure tab_ok rfl) ?_
                                            obtain ⟨h23, H⟩ := H
                                            refine WL.y rfl (Yld.sub rfl rfl h23) ?_
                                            refine WL.y rfl (Yld.pure tab_ok rfl) ?_
                                            obtain ⟨h24, H⟩ := H
                                            refine WL.y rfl (Yld.sub rfl rfl h24) ?_
                                            refine WL.y rfl (Yld.pure tab_ok rfl) ?_
                                            refine WL.y rfl (Yld.pure tab_ok rfl) ?_
                                            refine WL.y rfl (Yld.pure tab_ok rfl) ?_
                                            obtain ⟨h25, H⟩ := H
                                            refine WL.y rfl (Yld.sub rfl rfl h25) ?_
                                            refine WL.y rfl (Yld.pure tab_ok rfl) ?_
                                            obtain ⟨h26, H⟩ := H
                                            refine WL.y rfl (Yld.sub rfl rfl h26) ?_
                                            obtain ⟨h27, H⟩ := H
                                            refine WL.y rfl (Yld.iaddrK tab_ok k274.rd rfl rfl k106.1.symm rfl h27.1 h27.2) ?_
                                            refine WL.y rfl (Yld.faddrK tab_ok k274.rd (iltN h27 k106.1.symm) rfl rfl rfl) ?_
                                            obtain ⟨⟨f5, ⟨A_el5, n5, c_el5⟩, ⟨A_el6, n6, c_el6⟩, f6⟩, eh3, ⟨en9, ⟨en10, hR5⟩, ⟨en11, hR6⟩, en12⟩⟩ := RelD.at k275 (0, hd0, hd0, []) (0, [], [], []) (j := (((l.length : Int) - (1 : Int)) - k_2).toNat) (Nat.lt_of_lt_of_eq (iltN h27 k106.1.symm) k275.1)
                                            have en9 : f5 = (back.getD ((((l.length : Int) - (1 : Int)) - k_2).toNat) (0, [], [], [])).1 := en9
                                            subst en9
                                            have en10 : n5 = ((back.getD ((((l.length : Int) - (1 : Int)) - k_2).toNat) (0, [], [], [])).2.1).length := en10
                                            subst en10
                                            have en11 : n6 = ((back.getD ((((l.length : Int) - (1 : Int)) - k_2).toNat) (0, [], [], [])).2.2.1).length := en11
                                            subst en11
                                            have en12 : f6 = (back.getD ((((l.length : Int) - (1 : Int)) - k_2).toNat) (0, [], [], [])).2.2.2 := en12
                                            subst en12
                                            refine WL.y rfl (Yld.iloadF (v := .slice A_el5 (((back.getD ((((l.length : Int) - (1 : Int)) - k_2).toNat) (0, [], [], [])).2.1).length) c_el5) (0, hd0, hd0, []) tab_ok k274.rd rfl rfl (iltN h27 k106.1.symm) (by rw [eh3]; rfl)) ?_
                                            refine WL.call rfl rfl (W_smithyref_Texts hR5 rfl H) ?_
                                            rintro _ w32 ⟨hg20, t236, A_t236, c_t236, rfl, ht236, H⟩
                                            have hb15 := ht236.ge'
                                            have k279 := ht236.base (fun g hg => Nat.le_trans (size_le gr27) (hb15 g hg))
                                            have gr28 := gr_trans gr27 hg20
                                            have k280 := k266.grown hg20
                                            have k281 := k267.grown hg20
                                            have k282 := k268.grown hg20
                                            have k283 := k269.grown hg20
                                            have k284 := k270.grown hg20
                                            have k285 := k271.grown hg20
                                            have k286 := k272.g0 hg20
                                            have k287 := k273.g0 hg20
                                            have k288 := k274.grown hg20
                                            have k289 := k275.grown hg20
                                            have k290 := k277.grown hg20
                                            have k291 := k278.grown hg20
                                            have k292 := k263.grown hg20
                                            have k293 := hr_t1990_l.grown hg20
                                            have k294 := k264.grown hg20
                                            have k295 := hr_t1990_before.grown hg20
                                            have k296 := k265.grown hg20
                                            have k297 := hr_t1990_after.grown hg20
                                            have k298 := ht1990_makers.g0 hg20
                                            have k299 := ht1990.g0 hg20
                                            refine WL.lit tab_ok rfl rfl rfl (all1c rfl all1n) rfl (by omega) (fun g6 w33 hB5 hg21 hl6 => ?_)
                                            have hO8 : Own vs w33 w.heap.size 9 (some ⟨g6, 0, none⟩) 1 ([([122, 122] : List UInt8)] : List (List UInt8)) := Own.ofBl hB5 (Nat.le_trans (size_le gr28) hl6) (by simp [maxLen]) rfl
                                            have gr29 := gr_trans gr28 hg21
                                            have k300 := k280.grown hg21
                                            have k301 := k281.grown hg21
                                            have k302 := k282.grown hg21
                                            have k303 := k283.grown hg21
                                            have k304 := k284.grown hg21
                                            have k305 := k285.grown hg21
                                            have k306 := k286.g0 hg21
                                            have k307 := k287.g0 hg21
                                            have k308 := k288.grown hg21
                                            have k309 := k289.grown hg21
                                            have k310 := k290.grown hg21
                                            have k311 := k291.grown hg21
                                            have k312 := k292.grown hg21
                                            have k313 := k293.grown hg21
                                            have k314 := k294.grown hg21
                                            have k315 := k295.grown hg21
                                            have k316 := k296.grown hg21
                                            have k317 := k297.grown hg21
                                            have k318 := k298.g0 hg21
                                            have k319 := k299.g0 hg21
                                            have k320 := k279.grown hg21
                                            obtain ⟨h28, H⟩ := H
                                            refine WL.append tab_ok rfl rfl One.s k320 rfl rfl hO8.rd rfl rfl h28 (applen h28) (size_le gr29) (fun A_t238 c_t238 w34 hO9 hg22 hk2 => ?_)
                                            have gr30 := gr_mod gr29 hg22 k320.ge'
                                            have k321 := k300.go hg22 (Dj.new k266.lt' hb15)
                                            have k322 := k301.go hg22 (k267.new hb15)
                                            have k323 := k302.go hg22 (Dj.new k268.lt' hb15)
                                            have k324 := k303.go hg22 (k269.new hb15)
                                            have k325 := k304.go hg22 (Dj.new k270.lt' hb15)
                                            have k326 := k305.go hg22 (k271.new hb15)
                                            have k327 := k306.go hg22 (Dj.new k272.lt' hb15)
                                            have k328 := k307.go hg22 (Dj.new k273.lt' hb15)
                                            have k329 := k308.go hg22 (Dj.new k274.lt' hb15)
                                            have k330 := k309.go hg22 (k275.new hb15)
                                            have k331 := k310.go hg22 (Dj.new k277.lt' hb15)
                                            have k332 := k311.go hg22 (k278.new hb15)
                                            have k333 := k312.go hg22 (Dj.new k263.lt' hb15)
                                            have k334 := k313.go hg22 (hr_t1990_l.new hb15)
                                            have k335 := k314.go hg22 (Dj.new k264.lt' hb15)
                                            have k336 := k315.go hg22 (hr_t1990_before.new hb15)
                                            have k337 := k316.go hg22 (Dj.new k265.lt' hb15)
                                            have k338 := k317.go hg22 (hr_t1990_after.new hb15)
                                            have k339 := k318.go hg22 (Dj.new ht1990_makers.lt' hb15)
                                            have k340 := k319.go hg22 (Dj.new ht1990.lt' hb15)
                                            obtain ⟨h29, H⟩ := H
                                            refine WL.y rfl (Yld.iaddrK tab_ok k329.rd rfl rfl k106.1.symm rfl h29.1 h29.2) ?_
                                            refine WL.y rfl (Yld.faddrK tab_ok k329.rd (iltN h29 k106.1.symm) rfl rfl rfl) ?_
                                            refine WL.ostoreF (v := (((hs_back.getD ((((l.length : Int) - (1 : Int)) - k_2).toNat) (0, hd0, hd0, [])).1, ⟨A_t238, (t236 ++ ([([122, 122] : List UInt8)] : List (List UInt8))).length, c_t238⟩, (hs_back.getD ((((l.length : Int) - (1 : Int)) - k_2).toNat) (0, hd0, hd0, [])).2.2.1, (hs_back.getD ((((l.length : Int) - (1 : Int)) - k_2).toNat) (0, hd0, hd0, [])).2.2.2) : Int × Hdr × Hdr × List UInt8)) (0, hd0, hd0, []) one78 rfl k329 rfl rfl (iltN h29 k106.1.symm) rfl rfl (fun w35 hO10 hg23 => ?_)
                                            have gr31 := gr_mod gr30 hg23 k329.ge'
                                            have k341 := k321.go hg23 dj170
                                            have k342 := k322.go hg23 dj177
                                            have k343 := k323.go hg23 dj181
                                            have k344 := k324.go hg23 dj188
                                            have k345 := k325.go hg23 dj191
                                            have k346 := k326.go hg23 dj198
                                            have k347 := k327.go hg23 dj203
                                            have k348 := k328.go hg23 dj205
                                            have k349 := k330.go hg23 dj213
                                            have k350 := k331.go hg23 ((Dj.new k235.lt' hb11).symm)
                                            have k352 := k333.go hg23 ((Dj.new k247.lt' hb12).symm)
                                            have k353 := k334.go hg23 (nd7 _ k247.lt')
                                            have k354 := k335.go hg23 ((Dj.new k247.lt' hb13).symm)
                                            have k355 := k336.go hg23 (nd8 _ k247.lt')
                                            have k356 := k337.go hg23 ((Dj.new k247.lt' hb14).symm)
                                            have k357 := k338.go hg23 (nd9 _ k247.lt')
                                            have k358 := k339.go hg23 ((Dj.new k247.lt' hge5).symm)
                                            have k359 := k340.go hg23 ((Dj.new k247.lt' hge6).symm)
                                            have k360 := hO9.go hg23 (Dj.app (Dj.new k274.lt' hb15).symm k308.lt' hk2)
                                            obtain ⟨_, rfl, r1⟩ := RelD.at k349 (0, hd0, hd0, []) (0, [], [], []) (j := (((l.length : Int) - (1 : Int)) - k_2).toNat) (Nat.lt_of_lt_of_eq (iltN h29 k106.1.symm) k330.1)
                                            have hr3 : RelD de94 w35 (hs_back.set ((((l.length : Int) - (1 : Int)) - k_2).toNat) (((hs_back.getD ((((l.length : Int) - (1 : Int)) - k_2).toNat) (0, hd0, hd0, [])).1, ⟨A_t238, (t236 ++ ([([122, 122] : List UInt8)] : List (List UInt8))).length, c_t238⟩, (hs_back.getD ((((l.length : Int) - (1 : Int)) - k_2).toNat) (0, hd0, hd0, [])).2.2.1, (hs_back.getD ((((l.length : Int) - (1 : Int)) - k_2).toNat) (0, hd0, hd0, [])).2.2.2) : Int × Hdr × Hdr × List UInt8)) (back.set ((((l.length : Int) - (1 : Int)) - k_2).toNat) (((back.getD ((((l.length : Int) - (1 : Int)) - k_2).toNat) (0, [], [], [])).1, t236 ++ ([([122, 122] : List UInt8)] : List (List UInt8)), (back.getD ((((l.length : Int) - (1 : Int)) - k_2).toNat) (0, [], [], [])).2.2.1, (back.getD ((((l.length : Int) - (1 : Int)) - k_2).toNat) (0, [], [], [])).2.2.2) : Int × List (List UInt8) × List (List UInt8) × List UInt8)) := RelD.set (h := (((hs_back.getD ((((l.length : Int) - (1 : Int)) - k_2).toNat) (0, hd0, hd0, [])).1, ⟨A_t238, (t236 ++ ([([122, 122] : List UInt8)] : List (List UInt8))).length, c_t238⟩, (hs_back.getD ((((l.length : Int) - (1 : Int)) - k_2).toNat) (0, hd0, hd0, [])).2.2.1, (hs_back.getD ((((l.length : Int) - (1 : Int)) - k_2).toNat) (0, hd0, hd0, [])).2.2.2) : Int × Hdr × Hdr × List UInt8)) (x := (((back.getD ((((l.length : Int) - (1 : Int)) - k_2).toNat) (0, [], [], [])).1, t236 ++ ([([122, 122] : List UInt8)] : List (List UInt8)), (back.getD ((((l.length : Int) - (1 : Int)) - k_2).toNat) (0, [], [], [])).2.2.1, (back.getD ((((l.length : Int) - (1 : Int)) - k_2).toNat) (0, [], [], [])).2.2.2) : Int × List (List UInt8) × List (List UInt8) × List UInt8)) k349 ⟨r1.1, ⟨rfl, k360.rd⟩, r1.2.2.1, r1.2.2.2⟩ ((((l.length : Int) - (1 : Int)) - k_2).toNat)
                                            have dj286 : DnD de94 (hs_back.set ((((l.length : Int) - (1 : Int)) - k_2).toNat) (((hs_back.getD ((((l.length : Int) - (1 : Int)) - k_2).toNat) (0, hd0, hd0, [])).1, ⟨A_t238, (t236 ++ ([([122, 122] : List UInt8)] : List (List UInt8))).length, c_t238⟩, (hs_back.getD ((((l.length : Int) - (1 : Int)) - k_2).toNat) (0, hd0, hd0, [])).2.2.1, (hs_back.getD ((((l.length : Int) - (1 : Int)) - k_2).toNat) (0, hd0, hd0, [])).2.2.2) : Int × Hdr × Hdr × List UInt8)) (back.set ((((l.length : Int) - (1 : Int)) - k_2).toNat) (((back.getD ((((l.length : Int) - (1 : Int)) - k_2).toNat) (0, [], [], [])).1, t236 ++ ([([122, 122] : List UInt8)] : List (List UInt8)), (back.getD ((((l.length : Int) - (1 : Int)) - k_2).toNat) (0, [], [], [])).2.2.1, (back.getD ((((l.length : Int) - (1 : Int)) - k_2).toNat) (0, [], [], [])).2.2.2) : Int × List (List UInt8) × List (List UInt8) × List UInt8)) (blk A_t380_l) := (DnD.set (h := (((hs_back.getD ((((l.length : Int) - (1 : Int)) - k_2).toNat) (0, hd0, hd0, [])).1, ⟨A_t238, (t236 ++ ([([122, 122] : List UInt8)] : List (List UInt8))).length, c_t238⟩, (hs_back.getD ((((l.length : Int) - (1 : Int)) - k_2).toNat) (0, hd0, hd0, [])).2.2.1, (hs_back.getD ((((l.length : Int) - (1 : Int)) - k_2).toNat) (0, hd0, hd0, [])).2.2.2) : Int × Hdr × Hdr × List UInt8)) (x := (((back.getD ((((l.length : Int) - (1 : Int)) - k_2).toNat) (0, [], [], [])).1, t236 ++ ([([122, 122] : List UInt8)] : List (List UInt8)), (back.getD ((((l.length : Int) - (1 : Int)) - k_2).toNat) (0, [], [], [])).2.2.1, (back.getD ((((l.length : Int) - (1 : Int)) - k_2).toNat) (0, [], [], [])).2.2.2) : Int × List (List UInt8) × List (List UInt8) × List UInt8)) dj207 ⟨(DnD.at dj207 k330.1 (Nat.lt_of_lt_of_eq (iltN h29 k106.1.symm) k330.1) rfl).1, (Dn.of (Dj.app (Dj.new k266.lt' hb15).symm k300.lt' hk2)), (DnD.at dj207 k330.1 (Nat.lt_of_lt_of_eq (iltN h29 k106.1.symm) k330.1) rfl).2.2.1, (DnD.at dj207 k330.1 (Nat.lt_of_lt_of_eq (iltN h29 k106.1.symm) k330.1) rfl).2.2.2⟩ ((((l.length : Int) - (1 : Int)) - k_2).toNat))
                                            have dj287 : DnD de94 (hs_back.set ((((l.length : Int) - (1 : Int)) - k_2).toNat) (((hs_back.getD ((((l.length : Int) - (1 : Int)) - k_2).toNat) (0, hd0, hd0, [])).1, ⟨A_t238, (t236 ++ ([([122, 122] : List UInt8)] : List (List UInt8))).length, c_t238⟩, (hs_back.getD ((((l.length : Int) - (1 : Int)) - k_2).toNat) (0, hd0, hd0, [])).2.2.1, (hs_back.getD ((((l.length : Int) - (1 : Int)) - k_2).toNat) (0, hd0, hd0, [])).2.2.2) : Int × Hdr × Hdr × List UInt8)) (back.set ((((l.length : Int) - (1 : Int)) - k_2).toNat) (((back.getD ((((l.length : Int) - (1 : Int)) - k_2).toNat) (0, [], [], [])).1, t236 ++ ([([122, 122] : List UInt8)] : List (List UInt8)), (back.getD ((((l.length : Int) - (1 : Int)) - k_2).toNat) (0, [], [], [])).2.2.1, (back.getD ((((l.length : Int) - (1 : Int)) - k_2).toNat) (0, [], [], [])).2.2.2) : Int × List (List UInt8) × List (List UInt8) × List UInt8)) (blk A_t380_before) := (DnD.set (h := (((hs_back.getD ((((l.length : Int) - (1 : Int)) - k_2).toNat) (0, hd0, hd0, [])).1, ⟨A_t238, (t236 ++ ([([122, 122] : List UInt8)] : List (List UInt8))).length, c_t238⟩, (hs_back.getD ((((l.length : Int) - (1 : Int)) - k_2).toNat) (0, hd0, hd0, [])).2.2.1, (hs_back.getD ((((l.length : Int) - (1 : Int)) - k_2).toNat) (0, hd0, hd0, [])).2.2.2) : Int × Hdr × Hdr × List UInt8)) (x := (((back.getD ((((l.length : Int) - (1 : Int)) - k_2).toNat) (0, [], [], [])).1, t236 ++ ([([122, 122] : List UInt8)] : List (List UInt8)), (back.getD ((((l.length : Int) - (1 : Int)) - k_2).toNat) (0, [], [], [])).2.2.1, (back.getD ((((l.length : Int) - (1 : Int)) - k_2).toNat) (0, [], [], [])).2.2.2) : Int × List (List UInt8) × List (List UInt8) × List UInt8)) dj208 ⟨(DnD.at dj208 k330.1 (Nat.lt_of_lt_of_eq (iltN h29 k106.1.symm) k330.1) rfl).1, (Dn.of (Dj.app (Dj.new k268.lt' hb15).symm k302.lt' hk2)), (DnD.at dj208 k330.1 (Nat.lt_of_lt_of_eq (iltN h29 k106.1.symm) k330.1) rfl).2.2.1, (DnD.at dj208 k330.1 (Nat.lt_of_lt_of_eq (iltN h29 k106.1.symm) k330.1) rfl).2.2.2⟩ ((((l.length : Int) - (1 : Int)) - k_2).toNat))
                                            have dj288 : DnD de94 (hs_back.set ((((l.length : Int) - (1 : Int)) - k_2).toNat) (((hs_back.getD ((((l.length : Int) - (1 : Int)) - k_2).toNat) (0, hd0, hd0, [])).1, ⟨A_t238, (t236 ++ ([([122, 122] : List UInt8)] : List (List UInt8))).length, c_t238⟩, (hs_back.getD ((((l.length : Int) - (1 : Int)) - k_2).toNat) (0, hd0, hd0, [])).2.2.1, (hs_back.getD ((((l.length : Int) - (1 : Int)) - k_2).toNat) (0, hd0, hd0, [])).2.2.2) : Int × Hdr × Hdr × List UInt8)) (back.set ((((l.length : Int) - (1 : Int)) - k_2).toNat) (((back.getD ((((l.length : Int) - (1 : Int)) - k_2).toNat) (0, [], [], [])).1, t236 ++ ([([122, 122] : List UInt8)] : List (List UInt8)), (back.getD ((((l.length : Int) - (1 : Int)) - k_2).toNat) (0, [], [], [])).2.2.1, (back.getD ((((l.length : Int) - (1 : Int)) - k_2).toNat) (0, [], [], [])).2.2.2) : Int × List (List UInt8) × List (List UInt8) × List UInt8)) (blk A_t380_after) := (DnD.set (h := (((hs_back.getD ((((l.length : Int) - (1 : Int)) - k_2).toNat) (0, hd0, hd0, [])).1, ⟨A_t238, (t236 ++ ([([122, 122] : List UInt8)] : List (List UInt8))).length, c_t238⟩, (hs_back.getD ((((l.length : Int) - (1 : Int)) - k_2).toNat) (0, hd0, hd0, [])).2.2.1, (hs_back.getD ((((l.length : Int) - (1 : Int)) - k_2).toNat) (0, hd0, hd0, [])).2.2.2) : Int × Hdr × Hdr × List UInt8)) (x := (((back.getD ((((l.length : Int) - (1 : Int)) - k_2).toNat) (0, [], [], [])).1, t236 ++ ([([122, 122] : List UInt8)] : List (List UInt8)), (back.getD ((((l.length : Int) - (1 : Int)) - k_2).toNat) (0, [], [], [])).2.2.1, (back.getD ((((l.length : Int) - (1 : Int)) - k_2).toNat) (0, [], [], [])).2.2.2) : Int × List (List UInt8) × List (List UInt8) × List UInt8)) dj209 ⟨(DnD.at dj209 k330.1 (Nat.lt_of_lt_of_eq (iltN h29 k106.1.symm) k330.1) rfl).1, (Dn.of (Dj.app (Dj.new k270.lt' hb15).symm k304.lt' hk2)), (DnD.at dj209 k330.1 (Nat.lt_of_lt_of_eq (iltN h29 k106.1.symm) k330.1) rfl).2.2.1, (DnD.at dj209 k330.1 (Nat.lt_of_lt_of_eq (iltN h29 k106.1.symm) k330.1) rfl).2.2.2⟩ ((((l.length : Int) - (1 : Int)) - k_2).toNat))
                                            have dj289 : DnD de94 (hs_back.set ((((l.length : Int) - (1 : Int)) - k_2).toNat) (((hs_back.getD ((((l.length : Int) - (1 : Int)) - k_2).toNat) (0, hd0, hd0, [])).1, ⟨A_t238, (t236 ++ ([([122, 122] : List UInt8)] : List (List UInt8))).length, c_t238⟩, (hs_back.getD ((((l.length : Int) - (1 : Int)) - k_2).toNat) (0, hd0, hd0, [])).2.2.1, (hs_back.getD ((((l.length : Int) - (1 : Int)) - k_2).toNat) (0, hd0, hd0, [])).2.2.2) : Int × Hdr × Hdr × List UInt8)) (back.set ((((l.length : Int) - (1 : Int)) - k_2).toNat) (((back.getD ((((l.length : Int) - (1 : Int)) - k_2).toNat) (0, [], [], [])).1, t236 ++ ([([122, 122] : List UInt8)] : List (List UInt8)), (back.getD ((((l.length : Int) - (1 : Int)) - k_2).toNat) (0, [], [], [])).2.2.1, (back.getD ((((l.length : Int) - (1 : Int)) - k_2).toNat) (0, [], [], [])).2.2.2) : Int × List (List UInt8) × List (List UInt8) × List UInt8)) (some g_t380_makers) := (DnD.set (h := (((hs_back.getD ((((l.length : Int) - (1 : Int)) - k_2).toNat) (0, hd0, hd0, [])).1, ⟨A_t238, (t236 ++ ([([122, 122] : List UInt8)] : List (List UInt8))).length, c_t238⟩, (hs_back.getD ((((l.length : Int) - (1 : Int)) - k_2).toNat) (0, hd0, hd0, [])).2.2.1, (hs_back.getD ((((l.length : Int) - (1 : Int)) - k_2).toNat) (0, hd0, hd0, [])).2.2.2) : Int × Hdr × Hdr × List UInt8)) (x := (((back.getD ((((l.length : Int) - (1 : Int)) - k_2).toNat) (0, [], [], [])).1, t236 ++ ([([122, 122] : List UInt8)] : List (List UInt8)), (back.getD ((((l.length : Int) - (1 : Int)) - k_2).toNat) (0, [], [], [])).2.2.1, (back.getD ((((l.length : Int) - (1 : Int)) - k_2).toNat) (0, [], [], [])).2.2.2) : Int × List (List UInt8) × List (List UInt8) × List UInt8)) dj210 ⟨(DnD.at dj210 k330.1 (Nat.lt_of_lt_of_eq (iltN h29 k106.1.symm) k330.1) rfl).1, (Dn.of (Dj.app (Dj.new k272.lt' hb15).symm k306.lt' hk2)), (DnD.at dj210 k330.1 (Nat.lt_of_lt_of_eq (iltN h29 k106.1.symm) k330.1) rfl).2.2.1, (DnD.at dj210 k330.1 (Nat.lt_of_lt_of_eq (iltN h29 k106.1.symm) k330.1) rfl).2.2.2⟩ ((((l.length : Int) - (1 : Int)) - k_2).toNat))
                                            have dj290 : DnD de94 (hs_back.set ((((l.length : Int) - (1 : Int)) - k_2).toNat) (((hs_back.getD ((((l.length : Int) - (1 : Int)) - k_2).toNat) (0, hd0, hd0, [])).1, ⟨A_t238, (t236 ++ ([([122, 122] : List UInt8)] : List (List UInt8))).length, c_t238⟩, (hs_back.getD ((((l.length : Int) - (1 : Int)) - k_2).toNat) (0, hd0, hd0, [])).2.2.1, (hs_back.getD ((((l.length : Int) - (1 : Int)) - k_2).toNat) (0, hd0, hd0, [])).2.2.2) : Int × Hdr × Hdr × List UInt8)) (back.set ((((l.length : Int) - (1 : Int)) - k_2).toNat) (((back.getD ((((l.length : Int) - (1 : Int)) - k_2).toNat) (0, [], [], [])).1, t236 ++ ([([122, 122] : List UInt8)] : List (List UInt8)), (back.getD ((((l.length : Int) - (1 : Int)) - k_2).toNat) (0, [], [], [])).2.2.1, (back.getD ((((l.length : Int) - (1 : Int)) - k_2).toNat) (0, [], [], [])).2.2.2) : Int × List (List UInt8) × List (List UInt8) × List UInt8)) (some g_t380) := (DnD.set (h := (((hs_back.getD ((((l.length : Int) - (1 : Int)) - k_2).toNat) (0, hd0, hd0, [])).1, ⟨A_t238, (t236 ++ ([([122, 122] : List UInt8)] : List (List UInt8))).length, c_t238⟩, (hs_back.getD ((((l.length : Int) - (1 : Int)) - k_2).toNat) (0, hd0, hd0, [])).2.2.1, (hs_back.getD ((((l.length : Int) - (1 : Int)) - k_2).toNat) (0, hd0, hd0, [])).2.2.2) : Int × Hdr × Hdr × List UInt8)) (x := (((back.getD ((((l.length : Int) - (1 : Int)) - k_2).toNat) (0, [], [], [])).1, t236 ++ ([([122, 122] : List UInt8)] : List (List UInt8)), (back.getD ((((l.length : Int) - (1 : Int)) - k_2).toNat) (0, [], [], [])).2.2.1, (back.getD ((((l.length : Int) - (1 : Int)) - k_2).toNat) (0, [], [], [])).2.2.2) : Int × List (List UInt8) × List (List UInt8) × List UInt8)) dj211 ⟨(DnD.at dj211 k330.1 (Nat.lt_of_lt_of_eq (iltN h29 k106.1.symm) k330.1) rfl).1, (Dn.of (Dj.app (Dj.new k273.lt' hb15).symm k307.lt' hk2)), (DnD.at dj211 k330.1 (Nat.lt_of_lt_of_eq (iltN h29 k106.1.symm) k330.1) rfl).2.2.1, (DnD.at dj211 k330.1 (Nat.lt_of_lt_of_eq (iltN h29 k106.1.symm) k330.1) rfl).2.2.2⟩ ((((l.length : Int) - (1 : Int)) - k_2).toNat))
                                            have dj291 : DnD de94 (hs_back.set ((((l.length : Int) - (1 : Int)) - k_2).toNat) (((hs_back.getD ((((l.length : Int) - (1 : Int)) - k_2).toNat) (0, hd0, hd0, [])).1, ⟨A_t238, (t236 ++ ([([122, 122] : List UInt8)] : List (List UInt8))).length, c_t238⟩, (hs_back.getD ((((l.length : Int) - (1 : Int)) - k_2).toNat) (0, hd0, hd0, [])).2.2.1, (hs_back.getD ((((l.length : Int) - (1 : Int)) - k_2).toNat) (0, hd0, hd0, [])).2.2.2) : Int × Hdr × Hdr × List UInt8)) (back.set ((((l.length : Int) - (1 : Int)) - k_2).toNat) (((back.getD ((((l.length : Int) - (1 : Int)) - k_2).toNat) (0, [], [], [])).1, t236 ++ ([([122, 122] : List UInt8)] : List (List UInt8)), (back.getD ((((l.length : Int) - (1 : Int)) - k_2).toNat) (0, [], [], [])).2.2.1, (back.getD ((((l.length : Int) - (1 : Int)) - k_2).toNat) (0, [], [], [])).2.2.2) : Int × List (List UInt8) × List (List UInt8) × List UInt8)) (blk A_back) := (DnD.set (h := (((hs_back.getD ((((l.length : Int) - (1 : Int)) - k_2).toNat) (0, hd0, hd0, [])).1, ⟨A_t238, (t236 ++ ([([122, 122] : List UInt8)] : List (List UInt8))).length, c_t238⟩, (hs_back.getD ((((l.length : Int) - (1 : Int)) - k_2).toNat) (0, hd0, hd0, [])).2.2.1, (hs_back.getD ((((l.length : Int) - (1 : Int)) - k_2).toNat) (0, hd0, hd0, [])).2.2.2) : Int × Hdr × Hdr × List UInt8)) (x := (((back.getD ((((l.length : Int) - (1 : Int)) - k_2).toNat) (0, [], [], [])).1, t236 ++ ([([122, 122] : List UInt8)] : List (List UInt8)), (back.getD ((((l.length : Int) - (1 : Int)) - k_2).toNat) (0, [], [], [])).2.2.1, (back.getD ((((l.length : Int) - (1 : Int)) - k_2).toNat) (0, [], [], [])).2.2.2) : Int × List (List UInt8) × List (List UInt8) × List UInt8)) dj213 ⟨(DnD.at dj213 k330.1 (Nat.lt_of_lt_of_eq (iltN h29 k106.1.symm) k330.1) rfl).1, (Dn.of (Dj.app (Dj.new k274.lt' hb15).symm k308.lt' hk2)), (DnD.at dj213 k330.1 (Nat.lt_of_lt_of_eq (iltN h29 k106.1.symm) k330.1) rfl).2.2.1, (DnD.at dj213 k330.1 (Nat.lt_of_lt_of_eq (iltN h29 k106.1.symm) k330.1) rfl).2.2.2⟩ ((((l.length : Int) - (1 : Int)) - k_2).toNat))
                                            have dj292 : DnD de94 (hs_back.set ((((l.length : Int) - (1 : Int)) - k_2).toNat) (((hs_back.getD ((((l.length : Int) - (1 : Int)) - k_2).toNat) (0, hd0, hd0, [])).1, ⟨A_t238, (t236 ++ ([([122, 122] : List UInt8)] : List (List UInt8))).length, c_t238⟩, (hs_back.getD ((((l.length : Int) - (1 : Int)) - k_2).toNat) (0, hd0, hd0, [])).2.2.1, (hs_back.getD ((((l.length : Int) - (1 : Int)) - k_2).toNat) (0, hd0, hd0, [])).2.2.2) : Int × Hdr × Hdr × List UInt8)) (back.set ((((l.length : Int) - (1 : Int)) - k_2).toNat) (((back.getD ((((l.length : Int) - (1 : Int)) - k_2).toNat) (0, [], [], [])).1, t236 ++ ([([122, 122] : List UInt8)] : List (List UInt8)), (back.getD ((((l.length : Int) - (1 : Int)) - k_2).toNat) (0, [], [], [])).2.2.1, (back.getD ((((l.length : Int) - (1 : Int)) - k_2).toNat) (0, [], [], [])).2.2.2) : Int × List (List UInt8) × List (List UInt8) × List UInt8)) (blk A_part) := (DnD.set (h := (((hs_back.getD ((((l.length : Int) - (1 : Int)) - k_2).toNat) (0, hd0, hd0, [])).1, ⟨A_t238, (t236 ++ ([([122, 122] : List UInt8)] : List (List UInt8))).length, c_t238⟩, (hs_back.getD ((((l.length : Int) - (1 : Int)) - k_2).toNat) (0, hd0, hd0, [])).2.2.1, (hs_back.getD ((((l.length : Int) - (1 : Int)) - k_2).toNat) (0, hd0, hd0, [])).2.2.2) : Int × Hdr × Hdr × List UInt8)) (x := (((back.getD ((((l.length : Int) - (1 : Int)) - k_2).toNat) (0, [], [], [])).1, t236 ++ ([([122, 122] : List UInt8)] : List (List UInt8)), (back.getD ((((l.length : Int) - (1 : Int)) - k_2).toNat) (0, [], [], [])).2.2.1, (back.getD ((((l.length : Int) - (1 : Int)) - k_2).toNat) (0, [], [], [])).2.2.2) : Int × List (List UInt8) × List (List UInt8) × List UInt8)) (k236.new hb11) ⟨(DnD.at (k236.new hb11) k330.1 (Nat.lt_of_lt_of_eq (iltN h29 k106.1.symm) k330.1) rfl).1, (Dn.of (Dj.app (Dj.new k277.lt' hb15).symm k310.lt' hk2)), (DnD.at (k236.new hb11) k330.1 (Nat.lt_of_lt_of_eq (iltN h29 k106.1.symm) k330.1) rfl).2.2.1, (DnD.at (k236.new hb11) k330.1 (Nat.lt_of_lt_of_eq (iltN h29 k106.1.symm) k330.1) rfl).2.2.2⟩ ((((l.length : Int) - (1 : Int)) - k_2).toNat))
                                            have dj293 : DnD de94 (hs_back.set ((((l.length : Int) - (1 : Int)) - k_2).toNat) (((hs_back.getD ((((l.length : Int) - (1 : Int)) - k_2).toNat) (0, hd0, hd0, [])).1, ⟨A_t238, (t236 ++ ([([122, 122] : List UInt8)] : List (List UInt8))).length, c_t238⟩, (hs_back.getD ((((l.length : Int) - (1 : Int)) - k_2).toNat) (0, hd0, hd0, [])).2.2.1, (hs_back.getD ((((l.length : Int) - (1 : Int)) - k_2).toNat) (0, hd0, hd0, [])).2.2.2) : Int × Hdr × Hdr × List UInt8)) (back.set ((((l.length : Int) - (1 : Int)) - k_2).toNat) (((back.getD ((((l.length : Int) - (1 : Int)) - k_2).toNat) (0, [], [], [])).1, t236 ++ ([([122, 122] : List UInt8)] : List (List UInt8)), (back.getD ((((l.length : Int) - (1 : Int)) - k_2).toNat) (0, [], [], [])).2.2.1, (back.getD ((((l.length : Int) - (1 : Int)) - k_2).toNat) (0, [], [], [])).2.2.2) : Int × List (List UInt8) × List (List UInt8) × List UInt8)) (blk A_t1990_l) := (DnD.set (h := (((hs_back.getD ((((l.length : Int) - (1 : Int)) - k_2).toNat) (0, hd0, hd0, [])).1, ⟨A_t238, (t236 ++ ([([122, 122] : List UInt8)] : List (List UInt8))).length, c_t238⟩, (hs_back.getD ((((l.length : Int) - (1 : Int)) - k_2).toNat) (0, hd0, hd0, [])).2.2.1, (hs_back.getD ((((l.length : Int) - (1 : Int)) - k_2).toNat) (0, hd0, hd0, [])).2.2.2) : Int × Hdr × Hdr × List UInt8)) (x := (((back.getD ((((l.length : Int) - (1 : Int)) - k_2).toNat) (0, [], [], [])).1, t236 ++ ([([122, 122] : List UInt8)] : List (List UInt8)), (back.getD ((((l.length : Int) - (1 : Int)) - k_2).toNat) (0, [], [], [])).2.2.1, (back.getD ((((l.length : Int) - (1 : Int)) - k_2).toNat) (0, [], [], [])).2.2.2) : Int × List (List UInt8) × List (List UInt8) × List UInt8)) (k248.new hb12) ⟨(DnD.at (k248.new hb12) k330.1 (Nat.lt_of_lt_of_eq (iltN h29 k106.1.symm) k330.1) rfl).1, (Dn.of (Dj.app (Dj.new k263.lt' hb15).symm k312.lt' hk2)), (DnD.at (k248.new hb12) k330.1 (Nat.lt_of_lt_of_eq (iltN h29 k106.1.symm) k330.1) rfl).2.2.1, (DnD.at (k248.new hb12) k330.1 (Nat.lt_of_lt_of_eq (iltN h29 k106.1.symm) k330.1) rfl).2.2.2⟩ ((((l.length : Int) - (1 : Int)) - k_2).toNat))
                                            have dj294 : DnD de94 (hs_back.set ((((l.length : Int) - (1 : Int)) - k_2).toNat) (((hs_back.getD ((((l.length : Int) - (1 : Int)) - k_2).toNat) (0, hd0, hd0, [])).1, ⟨A_t238, (t236 ++ ([([122, 122] : List UInt8)] : List (List UInt8))).length, c_t238⟩, (hs_back.getD ((((l.length : Int) - (1 : Int)) - k_2).toNat) (0, hd0, hd0, [])).2.2.1, (hs_back.getD ((((l.length : Int) - (1 : Int)) - k_2).toNat) (0, hd0, hd0, [])).2.2.2) : Int × Hdr × Hdr × List UInt8)) (back.set ((((l.length : Int) - (1 : Int)) - k_2).toNat) (((back.getD ((((l.length : Int) - (1 : Int)) - k_2).toNat) (0, [], [], [])).1, t236 ++ ([([122, 122] : List UInt8)] : List (List UInt8)), (back.getD ((((l.length : Int) - (1 : Int)) - k_2).toNat) (0, [], [], [])).2.2.1, (back.getD ((((l.length : Int) - (1 : Int)) - k_2).toNat) (0, [], [], [])).2.2.2) : Int × List (List UInt8) × List (List UInt8) × List UInt8)) (blk A_t1990_before) := (DnD.set (h := (((hs_back.getD ((((l.length : Int) - (1 : Int)) - k_2).toNat) (0, hd0, hd0, [])).1, ⟨A_t238, (t236 ++ ([([122, 122] : List UInt8)] : List (List UInt8))).length, c_t238⟩, (hs_back.getD ((((l.length : Int) - (1 : Int)) - k_2).toNat) (0, hd0, hd0, [])).2.2.1, (hs_back.getD ((((l.length : Int) - (1 : Int)) - k_2).toNat) (0, hd0, hd0, [])).2.2.2) : Int × Hdr × Hdr × List UInt8)) (x := (((back.getD ((((l.length : Int) - (1 : Int)) - k_2).toNat) (0, [], [], [])).1, t236 ++ ([([122, 122] : List UInt8)] : List (List UInt8)), (back.getD ((((l.length : Int) - (1 : Int)) - k_2).toNat) (0, [], [], [])).2.2.1, (back.getD ((((l.length : Int) - (1 : Int)) - k_2).toNat) (0, [], [], [])).2.2.2) : Int × List (List UInt8) × List (List UInt8) × List UInt8)) (k248.new hb13) ⟨(DnD.at (k248.new hb13) k330.1 (Nat.lt_of_lt_of_eq (iltN h29 k106.1.symm) k330.1) rfl).1, (Dn.of (Dj.app (Dj.new k264.lt' hb15).symm k314.lt' hk2)), (DnD.at (k248.new hb13) k330.1 (Nat.lt_of_lt_of_eq (iltN h29 k106.1.symm) k330.1) rfl).2.2.1, (DnD.at (k248.new hb13) k330.1 (Nat.lt_of_lt_of_eq (iltN h29 k106.1.symm) k330.1) rfl).2.2.2⟩ ((((l.length : Int) - (1 : Int)) - k_2).toNat))
                                            have dj295 : DnD de94 (hs_back.set ((((l.length : Int) - (1 : Int)) - k_2).toNat) (((hs_back.getD ((((l.length : Int) - (1 : Int)) - k_2).toNat) (0, hd0, hd0, [])).1, ⟨A_t238, (t236 ++ ([([122, 122] : List UInt8)] : List (List UInt8))).length, c_t238⟩, (hs_back.getD ((((l.length : Int) - (1 : Int)) - k_2).toNat) (0, hd0, hd0, [])).2.2.1, (hs_back.getD ((((l.length : Int) - (1 : Int)) - k_2).toNat) (0, hd0, hd0, [])).2.2.2) : Int × Hdr × Hdr × List UInt8)) (back.set ((((l.length : Int) - (1 : Int)) - k_2).toNat) (((back.getD ((((l.length : Int) - (1 : Int)) - k_2).toNat) (0, [], [], [])).1, t236 ++ ([([122, 122] : List UInt8)] : List (List UInt8)), (back.getD ((((l.length : Int) - (1 : Int)) - k_2).toNat) (0, [], [], [])).2.2.1, (back.getD ((((l.length : Int) - (1 : Int)) - k_2).toNat) (0, [], [], [])).2.2.2) : Int × List (List UInt8) × List (List UInt8) × List UInt8)) (blk A_t1990_after) := (DnD.set (h := (((hs_back.getD ((((l.length : Int) - (1 : Int)) - k_2).toNat) (0, hd0, hd0, [])).1, ⟨A_t238, (t236 ++ ([([122, 122] : List UInt8)] : List (List UInt8))).length, c_t238⟩, (hs_back.getD ((((l.length : Int) - (1 : Int)) - k_2).toNat) (0, hd0, hd0, [])).2.2.1, (hs_back.getD ((((l.length : Int) - (1 : Int)) - k_2).toNat) (0, hd0, hd0, [])).2.2.2) : Int × Hdr × Hdr × List UInt8)) (x := (((back.getD ((((l.length : Int) - (1 : Int)) - k_2).toNat) (0, [], [], [])).1, t236 ++ ([([122, 122] : List UInt8)] : List (List UInt8)), (back.getD ((((l.length : Int) - (1 : Int)) - k_2).toNat) (0, [], [], [])).2.2.1, (back.getD ((((l.length : Int) - (1 : Int)) - k_2).toNat) (0, [], [], [])).2.2.2) : Int × List (List UInt8) × List (List UInt8) × List UInt8)) (k248.new hb14) ⟨(DnD.at (k248.new hb14) k330.1 (Nat.lt_of_lt_of_eq (iltN h29 k106.1.symm) k330.1) rfl).1, (Dn.of (Dj.app (Dj.new k265.lt' hb15).symm k316.lt' hk2)), (DnD.at (k248.new hb14) k330.1 (Nat.lt_of_lt_of_eq (iltN h29 k106.1.symm) k330.1) rfl).2.2.1, (DnD.at (k248.new hb14) k330.1 (Nat.lt_of_lt_of_eq (iltN h29 k106.1.symm) k330.1) rfl).2.2.2⟩ ((((l.length : Int) - (1 : Int)) - k_2).toNat))
                                            have dj296 : DnD de94 (hs_back.set ((((l.length : Int) - (1 : Int)) - k_2).toNat) (((hs_back.getD ((((l.length : Int) - (1 : Int)) - k_2).toNat) (0, hd0, hd0, [])).1, ⟨A_t238, (t236 ++ ([([122, 122] : List UInt8)] : List (List UInt8))).length, c_t238⟩, (hs_back.getD ((((l.length : Int) - (1 : Int)) - k_2).toNat) (0, hd0, hd0, [])).2.2.1, (hs_back.getD ((((l.length : Int) - (1 : Int)) - k_2).toNat) (0, hd0, hd0, [])).2.2.2) : Int × Hdr × Hdr × List UInt8)) (back.set ((((l.length : Int) - (1 : Int)) - k_2).toNat) (((back.getD ((((l.length : Int) - (1 : Int)) - k_2).toNat) (0, [], [], [])).1, t236 ++ ([([122, 122] : List UInt8)] : List (List UInt8)), (back.getD ((((l.length : Int) - (1 : Int)) - k_2).toNat) (0, [], [], [])).2.2.1, (back.getD ((((l.length : Int) - (1 : Int)) - k_2).toNat) (0, [], [], [])).2.2.2) : Int × List (List UInt8) × List (List UInt8) × List UInt8)) (some g_t1990_makers) := (DnD.set (h := (((hs_back.getD ((((l.length : Int) - (1 : Int)) - k_2).toNat) (0, hd0, hd0, [])).1, ⟨A_t238, (t236 ++ ([([122, 122] : List UInt8)] : List (List UInt8))).length, c_t238⟩, (hs_back.getD ((((l.length : Int) - (1 : Int)) - k_2).toNat) (0, hd0, hd0, [])).2.2.1, (hs_back.getD ((((l.length : Int) - (1 : Int)) - k_2).toNat) (0, hd0, hd0, [])).2.2.2) : Int × Hdr × Hdr × List UInt8)) (x := (((back.getD ((((l.length : Int) - (1 : Int)) - k_2).toNat) (0, [], [], [])).1, t236 ++ ([([122, 122] : List UInt8)] : List (List UInt8)), (back.getD ((((l.length : Int) - (1 : Int)) - k_2).toNat) (0, [], [], [])).2.2.1, (back.getD ((((l.length : Int) - (1 : Int)) - k_2).toNat) (0, [], [], [])).2.2.2) : Int × List (List UInt8) × List (List UInt8) × List UInt8)) (k248.new hge5) ⟨(DnD.at (k248.new hge5) k330.1 (Nat.lt_of_lt_of_eq (iltN h29 k106.1.symm) k330.1) rfl).1, (Dn.of (Dj.app (Dj.new ht1990_makers.lt' hb15).symm k318.lt' hk2)), (DnD.at (k248.new hge5) k330.1 (Nat.lt_of_lt_of_eq (iltN h29 k106.1.symm) k330.1) rfl).2.2.1, (DnD.at (k248.new hge5) k330.1 (Nat.lt_of_lt_of_eq (iltN h29 k106.1.symm) k330.1) rfl).2.2.2⟩ ((((l.length : Int) - (1 : Int)) - k_2).toNat))
                                            have dj297 : DnD de94 (hs_back.set ((((l.length : Int) - (1 : Int)) - k_2).toNat) (((hs_back.getD ((((l.length : Int) - (1 : Int)) - k_2).toNat) (0, hd0, hd0, [])).1, ⟨A_t238, (t236 ++ ([([122, 122] : List UInt8)] : List (List UInt8))).length, c_t238⟩, (hs_back.getD ((((l.length : Int) - (1 : Int)) - k_2).toNat) (0, hd0, hd0, [])).2.2.1, (hs_back.getD ((((l.length : Int) - (1 : Int)) - k_2).toNat) (0, hd0, hd0, [])).2.2.2) : Int × Hdr × Hdr × List UInt8)) (back.set ((((l.length : Int) - (1 : Int)) - k_2).toNat) (((back.getD ((((l.length : Int) - (1 : Int)) - k_2).toNat) (0, [], [], [])).1, t236 ++ ([([122, 122] : List UInt8)] : List (List UInt8)), (back.getD ((((l.length : Int) - (1 : Int)) - k_2).toNat) (0, [], [], [])).2.2.1, (back.getD ((((l.length : Int) - (1 : Int)) - k_2).toNat) (0, [], [], [])).2.2.2) : Int × List (List UInt8) × List (List UInt8) × List UInt8)) (some g_t1990) := (DnD.set (h := (((hs_back.getD ((((l.length : Int) - (1 : Int)) - k_2).toNat) (0, hd0, hd0, [])).1, ⟨A_t238, (t236 ++ ([([122, 122] : List UInt8)] : List (List UInt8))).length, c_t238⟩, (hs_back.getD ((((l.length : Int) - (1 : Int)) - k_2).toNat) (0, hd0, hd0, [])).2.2.1, (hs_back.getD ((((l.length : Int) - (1 : Int)) - k_2).toNat) (0, hd0, hd0, [])).2.2.2) : Int × Hdr × Hdr × List UInt8)) (x := (((back.getD ((((l.length : Int) - (1 : Int)) - k_2).toNat) (0, [], [], [])).1, t236 ++ ([([122, 122] : List UInt8)] : List (List UInt8)), (back.getD ((((l.length : Int) - (1 : Int)) - k_2).toNat) (0, [], [], [])).2.2.1, (back.getD ((((l.length : Int) - (1 : Int)) - k_2).toNat) (0, [], [], [])).2.2.2) : Int × List (List UInt8) × List (List UInt8) × List UInt8)) (k248.new hge6) ⟨(DnD.at (k248.new hge6) k330.1 (Nat.lt_of_lt_of_eq (iltN h29 k106.1.symm) k330.1) rfl).1, (Dn.of (Dj.app (Dj.new ht1990.lt' hb15).symm k319.lt' hk2)), (DnD.at (k248.new hge6) k330.1 (Nat.lt_of_lt_of_eq (iltN h29 k106.1.symm) k330.1) rfl).2.2.1, (DnD.at (k248.new hge6) k330.1 (Nat.lt_of_lt_of_eq (iltN h29 k106.1.symm) k330.1) rfl).2.2.2⟩ ((((l.length : Int) - (1 : Int)) - k_2).toNat))
                                            refine WL.nil (WX.then_normal ?_)
                                            refine WC.seq ?_
                                            refine WC.region ?_
                                            refine WL.y rfl (Yld.pure tab_ok rfl) ?_
                                            refine WL.call rfl rfl (W_graph_New (hG.grown gr31) hS4 hS6 hS9 hS10 hS11 hS100 hO10.rd ((k106.1.symm.trans List.length_set.symm).trans hr3.1) hr3 H) ?_
                                            rintro v_ w36 ⟨hg_, hc_ | hc_⟩
                                            · obtain ⟨v_t2431, t2431, rfl, ht2431, H⟩ := hc_
                                              have hg24 := hg_
                                              have gr32 := gr_trans gr31 hg24
                                              have k361 := k341.grown hg24
                                              have k362 := k342.grown hg24
                                              have k363 := k343.grown hg24
                                              have k364 := k344.grown hg24
                                              have k365 := k345.grown hg24
                                              have k366 := k346.grown hg24
                                              have k367 := k347.g0 hg24
                                              have k368 := k348.g0 hg24
                                              have k369 := k350.grown hg24
                                              have k370 := k352.grown hg24
                                              have k371 := k353.grown hg24
                                              have k372 := k354.grown hg24
                                              have k373 := k355.grown hg24
                                              have k374 := k356.grown hg24
                                              have k375 := k357.grown hg24
                                              have k376 := k358.g0 hg24
                                              have k377 := k359.g0 hg24
                                              refine WL.y rfl (Yld.pure tab_ok rfl) ?_
                                              refine WL.y rfl (Yld.pure tab_ok rfl) ?_
                                              refine WL.y rfl (Yld.pure tab_ok rfl) ?_
                                              refine WL.y rfl (Yld.pure tab_ok rfl) ?_
                                              refine WL.y rfl (Yld.pure tab_ok rfl) ?_
                                              refine WL.nil (WX.then_normal ?_)
                                              refine WC.seq ?_
                                              refine WC.region ?_
                                              refine WL.y rfl (Yld.pure tab_ok rfl) ?_
                                              refine WL.y rfl (Yld.pure tab_ok rfl) ?_
                                              refine WL.y rfl (Yld.pure tab_ok rfl) ?_
                                              obtain ⟨h30, H⟩ := H
                                              refine WL.y rfl (Yld.iaddrK tab_ok (hl.grown gr32) rfl rfl hr_l.1.symm rfl h30.1 h30.2) ?_
                                              refine WL.y rfl (Yld.faddrK tab_ok (hl.grown gr32) (iltN h30 hr_l.1.symm) rfl rfl rfl) ?_
                                              refine WL.y rfl (Yld.iloadF (v := vs ((l.getD k_2.toNat (0, [], [], [])).2.2.2)) (0, hd0, hd0, []) tab_ok (hl.grown gr32) rfl rfl (iltN h30 hr_l.1.symm) (by rw [eh2]; rfl)) ?_
                                              refine WL.lit tab_ok rfl rfl rfl (all1c rfl all1n) rfl (by omega) (fun g7 w38 hB6 hg25 hl7 => ?_)
                                              have hO11 : Own vs w38 w.heap.size 9 (some ⟨g7, 0, none⟩) 1 ([(l.getD k_2.toNat (0, [], [], [])).2.2.2] : List (List UInt8)) := Own.ofBl hB6 (Nat.le_trans (size_le gr32) hl7) (by simp [maxLen]) rfl
                                              have gr33 := gr_trans gr32 hg25
                                              have k378 := k361.grown hg25
                                              have k379 := k362.grown hg25
                                              have k380 := k363.grown hg25
                                              have k381 := k364.grown hg25
                                              have k382 := k365.grown hg25
                                              have k383 := k366.grown hg25
                                              have k384 := k367.g0 hg25
                                              have k385 := k368.g0 hg25
                                              have k386 := k369.grown hg25
                                              have k387 := k370.grown hg25
                                              have k388 := k371.grown hg25
                                              have k389 := k372.grown hg25
                                              have k390 := k373.grown hg25
                                              have k391 := k374.grown hg25
                                              have k392 := k375.grown hg25
                                              have k393 := k376.g0 hg25
                                              have k394 := k377.g0 hg25
                                              have k395 := ht2431.grown hg25
                                              refine WL.call rfl rfl (W_pgraph_Graph_Needs k387.rd rfl k388 k393 k389.rd rfl k390 k391.rd rfl k392 k394 hO11.rd rfl H) ?_
                                              rintro _ w39 ⟨hg26, t253, A_t253, c_t253, rfl, ht253, H⟩
                                              have hb16 := ht253.ge'
                                              have k396 := ht253.base (fun g hg => Nat.le_trans (size_le gr33) (hb16 g hg))
                                              have gr34 := gr_trans gr33 hg26
                                              have k397 := k378.grown hg26
                                              have k398 := k379.grown hg26
                                              have k399 := k380.grown hg26
                                              have k400 := k381.grown hg26
                                              have k401 := k382.grown hg26
                                              have k402 := k383.grown hg26
                                              have k403 := k384.g0 hg26
                                              have k404 := k385.g0 hg26
                                              have k405 := k386.grown hg26
                                              have k406 := k395.grown hg26
                                              refine WL.y rfl (Yld.pure tab_ok rfl) ?_
                                              refine WL.y rfl (Yld.pure tab_ok rfl) ?_
                                              refine WL.y rfl (Yld.pure tab_ok rfl) ?_
                                              refine WL.y rfl (Yld.pure tab_ok rfl) ?_
                                              refine WL.y rfl (Yld.pure tab_ok rfl) ?_
                                              refine WL.midF 3 (fun L' w' => ∃ q21 : Bool, L' = [(261, .bool q21), (6, .pointer (some ⟨g_t380, 0, none⟩)), (23, .pointer none), (24, v_t2431)] ∧ false = q21 ∧ w39 = w') ?_ (fun hQ => ?_)
                                              · rintro _ _ ⟨q21, rfl, rfl, rfl⟩
                                                refine WL.y rfl (Yld.pure tab_ok rfl) ?_
                                                refine WL.midF 3 (fun L' w' => ∃ q22 : Bool, L' = [(265, .bool q22), (6, .pointer (some ⟨g_t380, 0, none⟩)), (23, .pointer none)] ∧ false = q22 ∧ w39 = w') ?_ (fun hQ => ?_)
                                                · rintro _ _ ⟨q22, rfl, rfl, rfl⟩
                                                  refine WL.y rfl (Yld.pure tab_ok rfl) ?_
                                                  refine WL.midF 5 (fun L' w' => L' = [(271, .bool false)] ∧ w.grownBy w' none) ?_ (fun hQ => ?_)
                                                  · rintro _ w40 ⟨rfl, gr35⟩
                                                    refine WL.y rfl (Yld.pure tab_ok rfl) ?_
                                                    refine WL.nil (WX.then_normal ?_)
                                                    refine WC.ret ?_
                                                    exact WX.ret1 rfl rfl ⟨gr35, false, rfl, H⟩
                                                  · clear H
                                                    refine WL.gno rfl rfl (rfl) rfl ?_
                                                    refine WL.gno rfl rfl (rfl) rfl ?_
                                                    refine WL.gno rfl rfl (rfl) rfl ?_
                                                    refine WL.gno rfl rfl (rfl) rfl ?_
                                                    refine WL.y rfl (Yld.pickF (rfl) rfl) ?_
                                                    exact WL.weaken (by repeat (first | exact Sub.nil | refine Sub.cons rfl ?_)) (hQ _ _ ⟨rfl, gr34⟩)
                                                · clear H
                                                  refine WL.gno rfl rfl (rfl) rfl ?_
                                                  refine WL.gno rfl rfl (rfl) rfl ?_
                                                  refine WL.y rfl (Yld.pickF (rfl) rfl) ?_
                                                  exact WL.weaken (by repeat (first | exact Sub.nil | refine Sub.cons rfl ?_)) (hQ _ _ ⟨false, rfl, rfl, rfl⟩)
                                              · clear H
                                                rcases Bool.eq_false_or_eq_true (decide ((t253.length : Int) = (part.length : Int))) with b17 | b17
                                                · refine WL.gyes rfl rfl (okb b17) rfl (Yld.pure tab_ok rfl) ?_
                                                  refine WL.gyes rfl rfl (okb b17) rfl (Yld.pnenil Tryz.underlying81 rfl rfl) ?_
                                                  refine WL.y rfl (Yld.pickT (okb b17) rfl) ?_
                                                  exact WL.weaken (by repeat (first | exact Sub.nil | refine Sub.cons rfl ?_)) (hQ _ _ ⟨false, rfl, rfl, rfl⟩)
                                                · refine WL.gno rfl rfl (okb b17) rfl ?_
                                                  refine WL.gno rfl rfl (okb b17) rfl ?_
                                                  refine WL.y rfl (Yld.pickF (okb b17) rfl) ?_
                                                  exact WL.weaken (by repeat (first | exact Sub.nil | refine Sub.cons rfl ?_)) (hQ _ _ ⟨false, rfl, rfl, rfl⟩)
                                            · obtain ⟨g_t2430, t2430_l, A_t2430_l, c_t2430_l, hs_t2430_l, g_t2430_makers, t2430_makers, t2430_before, A_t2430_before, c_t2430_before, hs_t2430_before, t2430_after, A_t2430_after, c_t2430_after, hs_t2430_after, v_t24312, t24312, rfl, ht2430_l, hr_t2430_l, nd10, dj298, ht2430_before, hr_t2430_before, nd11, dj299, ht2430_after, hr_t2430_after, nd12, dj300, ht24312, ht2430_makers, hge7, ht2430, hge8, dj301, dj302, dj303, dj304, dj305, dj306, dj307, dj308, dj309, dj310, dj311, dj312, dj313, dj314, dj315, dj316, dj317, dj318, dj319, dj320, dj321, dj322, dj323, dj324, dj325, H⟩ := hc_
                                              have hg27 := hg_
                                              have hb17 := ht2430_l.ge'
                                              have k407 := ht2430_l.base (fun g hg => Nat.le_trans (size_le gr31) (hb17 g hg))
                                              have hb18 := ht2430_before.ge'
                                              have k408 := ht2430_before.base (fun g hg => Nat.le_trans (size_le gr31) (hb18 g hg))
                                              have hb19 := ht2430_after.ge'
                                              have k409 := ht2430_after.base (fun g hg => Nat.le_trans (size_le gr31) (hb19 g hg))
                                              have gr36 := gr_trans gr31 hg27
                                              have k410 := k341.grown hg27
                                              have k411 := k342.grown hg27
                                              have k412 := k343.grown hg27
                                              have k413 := k344.grown hg27
                                              have k414 := k345.grown hg27
                                              have k415 := k346.grown hg27
                                              have k416 := k347.g0 hg27
                                              have k417 := k348.g0 hg27
                                              have k418 := k350.grown hg27
                                              have k419 := k352.grown hg27
                                              have k420 := k353.grown hg27
                                              have k421 := k354.grown hg27
                                              have k422 := k355.grown hg27
                                              have k423 := k356.grown hg27
                                              have k424 := k357.grown hg27
                                              have k425 := k358.g0 hg27
                                              have k426 := k359.g0 hg27
                                              refine WL.y rfl (Yld.pure tab_ok rfl) ?_
                                              refine WL.y rfl (Yld.pure tab_ok rfl) ?_
                                              refine WL.y rfl (Yld.pure tab_ok rfl) ?_
                                              refine WL.y rfl (Yld.pure tab_ok rfl) ?_
                                              refine WL.y rfl (Yld.pure tab_ok rfl) ?_
                                              refine WL.nil (WX.then_normal ?_)
                                              refine WC.seq ?_
                                              refine WC.region ?_
                                              refine WL.y rfl (Yld.pure tab_ok rfl) ?_
                                              refine WL.y rfl (Yld.pure tab_ok rfl) ?_
                                              refine WL.y rfl (Yld.pure tab_ok rfl) ?_
                                              obtain ⟨h31, H⟩ := H
                                              refine WL.y rfl (Yld.iaddrK tab_ok (hl.grown gr36) rfl rfl hr_l.1.symm rfl h31.1 h31.2) ?_
                                              refine WL.y rfl (Yld.faddrK tab_ok (hl.grown gr36) (iltN h31 hr_l.1.symm) rfl rfl rfl) ?_
                                              refine WL.y rfl (Yld.iloadF (v := vs ((l.getD k_2.toNat (0, [], [], [])).2.2.2)) (0, hd0, hd0, []) tab_ok (hl.grown gr36) rfl rfl (iltN h31 hr_l.1.symm) (by rw [eh2]; rfl)) ?_
                                              refine WL.lit tab_ok rfl rfl rfl (all1c rfl all1n) rfl (by omega) (fun g8 w42 hB7 hg28 hl8 => ?_)
                                              have hO12 : Own vs w42 w.heap.size 9 (some ⟨g8, 0, none⟩) 1 ([(l.getD k_2.toNat (0, [], [], [])).2.2.2] : List (List UInt8)) := Own.ofBl hB7 (Nat.le_trans (size_le gr36) hl8) (by simp [maxLen]) rfl
                                              have gr37 := gr_trans gr36 hg28
                                              have k427 := k410.grown hg28
                                              have k428 := k411.grown hg28
                                              have k429 := k412.grown hg28
                                              have k430 := k413.grown hg28
                                              have k431 := k414.grown hg28
                                              have k432 := k415.grown hg28
                                              have k433 := k416.g0 hg28
                                              have k434 := k417.g0 hg28
                                              have k435 := k418.grown hg28
                                              have k436 := k419.grown hg28
                                              have k437 := k420.grown hg28
                                              have k438 := k421.grown hg28
                                              have k439 := k422.grown hg28
                                              have k440 := k423.grown hg28
                                              have k441 := k424.grown hg28
                                              have k442 := k425.g0 hg28
                                              have k443 := k426.g0 hg28
                                              have k444 := k407.grown hg28
                                              have k445 := hr_t2430_l.grown hg28
                                              have k446 := k408.grown hg28
                                              have k447 := hr_t2430_before.grown hg28
                                              have k448 := k409.grown hg28
                                              have k449 := hr_t2430_after.grown hg28
                                              have k450 := ht24312.grown hg28
                                              have k451 := ht2430_makers.g0 hg28
                                              have k452 := ht2430.g0 hg28
                                              refine WL.call rfl rfl (W_pgraph_Graph_Needs k436.rd rfl k437 k442 k438.rd rfl k439 k440.rd rfl k441 k443 hO12.rd rfl H) ?_
                                              rintro _ w43 ⟨hg29, t2532, A_t2532, c_t2532, rfl, ht2532, H⟩
                                              have hb20 := ht2532.ge'
                                              have k453 := ht2532.base (fun g hg => Nat.le_trans (size_le gr37) (hb20 g hg))
                                              have gr38 := gr_trans gr37 hg29
                                              have k454 := k427.grown hg29
                                              have k455 := k428.grown hg29
                                              have k456 := k429.grown hg29
                                              have k457 := k430.grown hg29
                                              have k458 := k431.grown hg29
                                              have k459 := k432.grown hg29
                                              have k460 := k433.g0 hg29
                                              have k461 := k434.g0 hg29
                                              have k462 := k435.grown hg29
                                              have k463 := k444.grown hg29
                                              have k464 := k445.grown hg29
                                              have k465 := k446.grown hg29
                                              have k466 := k447.grown hg29
                                              have k467 := k448.grown hg29
                                              have k468 := k449.grown hg29
                                              have k469 := k450.grown hg29
                                              have k470 := k451.g0 hg29
                                              have k471 := k452.g0 hg29
                                              refine WL.y rfl (Yld.pure tab_ok rfl) ?_
                                              refine WL.y rfl (Yld.pure tab_ok rfl) ?_
                                              refine WL.y rfl (Yld.pure tab_ok rfl) ?_
                                              refine WL.y rfl (Yld.pure tab_ok rfl) ?_
                                              refine WL.y rfl (Yld.pure tab_ok rfl) ?_
                                              refine WL.midF 3 (fun L' w' => ∃ q24 : Bool, L' = [(261, .bool q24), (6, .pointer (some ⟨g_t380, 0, none⟩)), (23, .pointer (some ⟨g_t2430, 0, none⟩)), (24, v_t24312)] ∧ (decide ((t2532.length : Int) = (part.length : Int))) = q24 ∧ w43 = w') ?_ (fun hQ => ?_)
                                              · rintro _ _ ⟨q24, rfl, rfl, rfl⟩
                                                refine WL.y rfl (Yld.pure tab_ok rfl) ?_
                                                refine WL.midF 3 (fun L' w' => ∃ q25 : Bool, L' = [(265, .bool q25), (6, .pointer (some ⟨g_t380, 0, none⟩)), (23, .pointer (some ⟨g_t2430, 0, none⟩))] ∧ ((decide ((t2532.length : Int) = (part.length : Int))) && (decide (t24312 = Er.ok))) = q25 ∧ w43 = w') ?_ (fun hQ => ?_)
                                                · rintro _ _ ⟨q25, rfl, rfl, rfl⟩
                                                  refine WL.y rfl (Yld.pure tab_ok rfl) ?_
                                                  obtain ⟨J9, H, hJ9⟩ := H
                                                  refine WL.midF 5 (fun L' w' => ∃ q26 : Bool, L' = [(271, .bool q26)] ∧ J9 q26 ∧ w.grownBy w' none) ?_ (fun hQ => ?_)
                                                  · clear H
                                                    rintro _ w44 ⟨q26, rfl, H, gr39⟩
                                                    replace H := hJ9 q26 H
                                                    refine WL.y rfl (Yld.pure tab_ok rfl) ?_
                                                    refine WL.nil (WX.then_normal ?_)
                                                    refine WC.ret ?_
                                                    exact WX.ret1 rfl rfl ⟨gr39, q26, rfl, H⟩
                                                  · clear hJ9
                                                    rcases Bool.eq_false_or_eq_true ((decide ((t2532.length : Int) = (part.length : Int))) && (decide (t24312 = Er.ok))) with b18 | b18
                                                    · replace H := H.1 b18
                                                      refine WL.gyes rfl rfl (okb b18) rfl (Yld.pure tab_ok rfl) ?_
                                                      refine WL.gyes rfl rfl (okb b18) rfl (Yld.pure tab_ok rfl) ?_
                                                      refine WL.callw (wants_some rfl rfl (okb b18)) rfl rfl (W_pgraph_Graph_Same (hG.grown gr38) hS101 hS102 k454.rd rfl k455 k460 k456.rd rfl k457 k458.rd rfl k459 k461 k463.rd rfl k464 k470 k465.rd rfl k466 k467.rd rfl k468 k471 H) ?_
                                                      rintro _ w45 ⟨hg30, t269, rfl, H⟩
                                                      have gr40 := gr_trans gr38 hg30
                                                      have k472 := k454.grown hg30
                                                      have k473 := k455.grown hg30
                                                      have k474 := k456.grown hg30
                                                      have k475 := k457.grown hg30
                                                      have k476 := k458.grown hg30
                                                      have k477 := k459.grown hg30
                                                      have k478 := k460.g0 hg30
                                                      have k479 := k461.g0 hg30
                                                      have k480 := k463.grown hg30
                                                      have k481 := k464.grown hg30
                                                      have k482 := k465.grown hg30
                                                      have k483 := k466.grown hg30
                                                      have k484 := k467.grown hg30
                                                      have k485 := k468.grown hg30
                                                      have k486 := k470.g0 hg30
                                                      have k487 := k471.g0 hg30
                                                      refine WL.gyes rfl rfl (okb b18) rfl (Yld.pure tab_ok rfl) ?_
                                                      refine WL.y rfl (Yld.pickT (okb b18) rfl) ?_
                                                      exact WL.weaken (by repeat (first | exact Sub.nil | refine Sub.cons rfl ?_)) (hQ _ _ ⟨!t269, rfl, H, gr40⟩)
                                                    · replace H := H.2 b18
                                                      refine WL.gno rfl rfl (okb b18) rfl ?_
                                                      refine WL.gno rfl rfl (okb b18) rfl ?_
                                                      refine WL.gno rfl rfl (okb b18) rfl ?_
                                                      refine WL.gno rfl rfl (okb b18) rfl ?_
                                                      refine WL.y rfl (Yld.pickF (okb b18) rfl) ?_
                                                      exact WL.weaken (by repeat (first | exact Sub.nil | refine Sub.cons rfl ?_)) (hQ _ _ ⟨false, rfl, H, gr38⟩)
                                                · clear H
                                                  rcases Bool.eq_false_or_eq_true (decide ((t2532.length : Int) = (part.length : Int))) with b19 | b19
                                                  · refine WL.gyes rfl rfl (okb b19) rfl (Yld.pure tab_ok rfl) ?_
                                                    refine WL.gyes rfl rfl (okb b19) rfl (Yld.erreql Tryz.underlying26 k469 rfl) ?_
                                                    refine WL.y rfl (Yld.pickT (okb b19) rfl) ?_
                                                    exact WL.weaken (by repeat (first | exact Sub.nil | refine Sub.cons rfl ?_)) (hQ _ _ ⟨decide (t24312 = Er.ok), rfl, by rw [b19] <;> rfl, rfl⟩)
                                                  · refine WL.gno rfl rfl (okb b19) rfl ?_
                                                    refine WL.gno rfl rfl (okb b19) rfl ?_
                                                    refine WL.y rfl (Yld.pickF (okb b19) rfl) ?_
                                                    exact WL.weaken (by repeat (first | exact Sub.nil | refine Sub.cons rfl ?_)) (hQ _ _ ⟨false, rfl, by rw [b19] <;> rfl, rfl⟩)
                                              · clear H
                                                rcases Bool.eq_false_or_eq_true (decide ((t2532.length : Int) = (part.length : Int))) with b20 | b20
                                                · refine WL.gyes rfl rfl (okb b20) rfl (Yld.pure tab_ok rfl) ?_
                                                  refine WL.gyes rfl rfl (okb b20) rfl (Yld.pnenil Tryz.underlying81 rfl rfl) ?_
                                                  refine WL.y rfl (Yld.pickT (okb b20) rfl) ?_
                                                  exact WL.weaken (by repeat (first | exact Sub.nil | refine Sub.cons rfl ?_)) (hQ _ _ ⟨true, rfl, by first | (rw [b20] <;> rfl) | simp [b20], rfl⟩)
                                                · refine WL.gno rfl rfl (okb b20) rfl ?_
                                                  refine WL.gno rfl rfl (okb b20) rfl ?_
                                                  refine WL.y rfl (Yld.pickF (okb b20) rfl) ?_
                                                  exact WL.weaken (by repeat (first | exact Sub.nil | refine Sub.cons rfl ?_)) (hQ _ _ ⟨false, rfl, by first | (rw [b20] <;> rfl) | simp [b20], rfl⟩)
                                        · clear hJ7
                                          rcases Bool.eq_false_or_eq_true ((!decide (t19912 = Er.ok)) || (!decide ((part.length : Int) = (n.length : Int)))) with b21 | b21
                                          · replace H := H.1 b21
                                            refine WL.gno rfl rfl (okb b21) rfl ?_
                                            refine WL.gno rfl rfl (okb b21) rfl ?_
                                            refine WL.gno rfl rfl (okb b21) rfl ?_
                                            refine WL.gno rfl rfl (okb b21) rfl ?_
                                            refine WL.y rfl (Yld.pickT (okb b21) rfl) ?_
                                            exact WL.weaken (by repeat (first | exact Sub.nil | refine Sub.cons rfl ?_)) (hQ _ _ ⟨true, rfl, H, rfl⟩)
                                          · replace H := H.2 b21
                                            refine WL.gyes rfl rfl (okb b21) rfl (Yld.pure tab_ok rfl) ?_
                                            refine WL.gyes rfl rfl (okb b21) rfl (Yld.pure tab_ok rfl) ?_
                                            refine WL.callw (wants_some rfl rfl (okb b21)) rfl rfl (W_smithyref_Among k276.rd rfl H) ?_
                                            rintro _ _ ⟨rfl, t218, rfl, H⟩
                                            refine WL.gyes rfl rfl (okb b21) rfl (Yld.pure tab_ok rfl) ?_
                                            refine WL.y rfl (Yld.pickF (okb b21) rfl) ?_
                                            exact WL.weaken (by repeat (first | exact Sub.nil | refine Sub.cons rfl ?_)) (hQ _ _ ⟨!t218, rfl, H, rfl⟩)
                                      · clear H
                                        rcases Bool.eq_false_or_eq_true (!decide (t19912 = Er.ok)) with b22 | b22
                                        · refine WL.gno rfl rfl (okb b22) rfl ?_
                                          refine WL.gno rfl rfl (okb b22) rfl ?_
                                          refine WL.gno rfl rfl (okb b22) rfl ?_
                                          refine WL.gno rfl rfl (okb b22) rfl ?_
                                          refine WL.gno rfl rfl (okb b22) rfl ?_
                                          refine WL.y rfl (Yld.pickT (okb b22) rfl) ?_
                                          exact WL.weaken (by repeat (first | exact Sub.nil | refine Sub.cons rfl ?_)) (hQ _ _ ⟨true, rfl, by rw [b22] <;> rfl, rfl⟩)
                                        · refine WL.gyes rfl rfl (okb b22) rfl (Yld.pure tab_ok rfl) ?_
                                          refine WL.gyes rfl rfl (okb b22) rfl (Yld.pure tab_ok rfl) ?_
                                          refine WL.gyes rfl rfl (okb b22) rfl (Yld.pure tab_ok rfl) ?_
                                          refine WL.gyes rfl rfl (okb b22) rfl (Yld.pure tab_ok rfl) ?_
                                          refine WL.gyes rfl rfl (okb b22) rfl (Yld.pure tab_ok rfl) ?_
                                          refine WL.y rfl (Yld.pickF (okb b22) rfl) ?_
                                          exact WL.weaken (by repeat (first | exact Sub.nil | refine Sub.cons rfl ?_)) (hQ _ _ ⟨!decide ((part.length : Int) = (n.length : Int)), rfl, by rw [b22] <;> rfl, rfl⟩)
                                    · clear H
                                      refine WL.gyes rfl rfl (rfl) rfl (Yld.pure tab_ok rfl) ?_
                                      refine WL.gyes rfl rfl (rfl) rfl (Yld.errneq Tryz.underlying26 ht19912 rfl) ?_
                                      refine WL.y rfl (Yld.pickF (rfl) rfl) ?_
                                      exact WL.weaken (by repeat (first | exact Sub.nil | refine Sub.cons rfl ?_)) (hQ _ _ ⟨!decide (t19912 = Er.ok), rfl, rfl, rfl⟩)
                            · clear H
                              rcases Bool.eq_false_or_eq_true (q13) with b23 | b23
                              · refine WL.gno rfl rfl (okb b23) rfl ?_
                                refine WL.gno rfl rfl (okb b23) rfl ?_
                                refine WL.gno rfl rfl (okb b23) rfl ?_
                                refine WL.gno rfl rfl (okb b23) rfl ?_
                                refine WL.gno rfl rfl (okb b23) rfl ?_
                                refine WL.y rfl (Yld.pickT (okb b23) rfl) ?_
                                exact WL.weaken (by repeat (first | exact Sub.nil | refine Sub.cons rfl ?_)) (hQ _ _ ⟨true, rfl, by rw [b23] <;> rfl, rfl⟩)
                              · refine WL.gyes rfl rfl (okb b23) rfl (Yld.pure tab_ok rfl) ?_
                                refine WL.gyes rfl rfl (okb b23) rfl (Yld.pure tab_ok rfl) ?_
                                refine WL.gyes rfl rfl (okb b23) rfl (Yld.pure tab_ok rfl) ?_
                                refine WL.gyes rfl rfl (okb b23) rfl (Yld.pure tab_ok rfl) ?_
                                refine WL.gyes rfl rfl (okb b23) rfl (Yld.pure tab_ok rfl) ?_
                                refine WL.y rfl (Yld.pickF (okb b23) rfl) ?_
                                exact WL.weaken (by repeat (first | exact Sub.nil | refine Sub.cons rfl ?_)) (hQ _ _ ⟨!decide ((o.length : Int) = (l.length : Int)), rfl, by rw [b23] <;> rfl, rfl⟩)
                          · clear hJ5
                            rcases Bool.eq_false_or_eq_true (q12) with b24 | b24
                            · replace H := H.1 b24
                              refine WL.gno rfl rfl (okb b24) rfl ?_
                              refine WL.gno rfl rfl (okb b24) rfl ?_
                              refine WL.gno rfl rfl (okb b24) rfl ?_
                              refine WL.gno rfl rfl (okb b24) rfl ?_
                              refine WL.y rfl (Yld.pickT (okb b24) rfl) ?_
                              exact WL.weaken (by repeat (first | exact Sub.nil | refine Sub.cons rfl ?_)) (hQ _ _ ⟨true, rfl, H, gr20, k176, k177, k178, k179, k180, k181, k182, k183, k184, k185, k186⟩)
                            · replace H := H.2 b24
                              refine WL.gyes rfl rfl (okb b24) rfl (Yld.pure tab_ok rfl) ?_
                              refine WL.gyes rfl rfl (okb b24) rfl (Yld.pure tab_ok rfl) ?_
                              refine WL.callw (wants_some rfl rfl (okb b24)) rfl rfl (W_pgraph_Graph_Same (hG.grown gr20) hS101 hS102 k187.rd rfl k188 k193 k189.rd rfl k190 k191.rd rfl k192 k194 k176.rd rfl k177 k182 k178.rd rfl k179 k180.rd rfl k181 k183 H) ?_
                              rintro _ w46 ⟨hg31, t164, rfl, H⟩
                              have gr41 := gr_trans gr20 hg31
                              have k488 := k176.grown hg31
                              have k489 := k177.grown hg31
                              have k490 := k178.grown hg31
                              have k491 := k179.grown hg31
                              have k492 := k180.grown hg31
                              have k493 := k181.grown hg31
                              have k494 := k182.g0 hg31
                              have k495 := k183.g0 hg31
                              have k496 := k184.grown hg31
                              have k497 := k185.grown hg31
                              have k498 := k186.grown hg31
                              have k499 := k187.grown hg31
                              have k500 := k188.grown hg31
                              have k501 := k189.grown hg31
                              have k502 := k190.grown hg31
                              have k503 := k191.grown hg31
                              have k504 := k192.grown hg31
                              have k505 := k193.g0 hg31
                              have k506 := k194.g0 hg31
                              refine WL.gyes rfl rfl (okb b24) rfl (Yld.pure tab_ok rfl) ?_
                              refine WL.y rfl (Yld.pickF (okb b24) rfl) ?_
                              exact WL.weaken (by repeat (first | exact Sub.nil | refine Sub.cons rfl ?_)) (hQ _ _ ⟨!t164, rfl, H, gr41, k488, k489, k490, k491, k492, k493, k494, k495, k496, k497, k498⟩)
                        · clear hJ4
                          rcases Bool.eq_false_or_eq_true (!decide (t14612 = Er.ok)) with b25 | b25
                          · replace H := H.1 b25
                            refine WL.gno rfl rfl (okb b25) rfl ?_
                            refine WL.gno rfl rfl (okb b25) rfl ?_
                            refine WL.gno rfl rfl (okb b25) rfl ?_
                            refine WL.gno rfl rfl (okb b25) rfl ?_
                            refine WL.y rfl (Yld.pickT (okb b25) rfl) ?_
                            exact WL.weaken (by repeat (first | exact Sub.nil | refine Sub.cons rfl ?_)) (hQ _ _ ⟨true, rfl, H, gr19, k165, k166, k167, k168, k169, k170, k171, k172, k173, k174, k175, k162, hr_t1460_l, k163, hr_t1460_before, k164, hr_t1460_after, ht1460_makers, ht1460⟩)
                          · replace H := H.2 b25
                            refine WL.gyes rfl rfl (okb b25) rfl (Yld.pure tab_ok rfl) ?_
                            refine WL.gyes rfl rfl (okb b25) rfl (Yld.pure tab_ok rfl) ?_
                            refine WL.callw (wants_some rfl rfl (okb b25)) rfl rfl (W_pgraph_Graph_Same (hG.grown gr19) hS101 hS102 k165.rd rfl k166 k171 k167.rd rfl k168 k169.rd rfl k170 k172 k162.rd rfl hr_t1460_l ht1460_makers k163.rd rfl hr_t1460_before k164.rd rfl hr_t1460_after ht1460 H) ?_
                            rintro _ w47 ⟨hg32, t158, rfl, H⟩
                            have gr42 := gr_trans gr19 hg32
                            have k507 := k165.grown hg32
                            have k508 := k166.grown hg32
                            have k509 := k167.grown hg32
                            have k510 := k168.grown hg32
                            have k511 := k169.grown hg32
                            have k512 := k170.grown hg32
                            have k513 := k171.g0 hg32
                            have k514 := k172.g0 hg32
                            have k515 := k173.grown hg32
                            have k516 := k174.grown hg32
                            have k517 := k175.grown hg32
                            have k518 := k162.grown hg32
                            have k519 := hr_t1460_l.grown hg32
                            have k520 := k163.grown hg32
                            have k521 := hr_t1460_before.grown hg32
                            have k522 := k164.grown hg32
                            have k523 := hr_t1460_after.grown hg32
                            have k524 := ht1460_makers.g0 hg32
                            have k525 := ht1460.g0 hg32
                            refine WL.gyes rfl rfl (okb b25) rfl (Yld.pure tab_ok rfl) ?_
                            refine WL.y rfl (Yld.pickF (okb b25) rfl) ?_
                            exact WL.weaken (by repeat (first | exact Sub.nil | refine Sub.cons rfl ?_)) (hQ _ _ ⟨!t158, rfl, H, gr42, k507, k508, k509, k510, k511, k512, k513, k514, k515, k516, k517, k518, k519, k520, k521, k522, k523, k524, k525⟩)
                      · clear H
                        refine WL.gyes rfl rfl (rfl) rfl (Yld.pure tab_ok rfl) ?_
                        refine WL.gyes rfl rfl (rfl) rfl (Yld.errneq Tryz.underlying26 ht14612 rfl) ?_
                        refine WL.y rfl (Yld.pickF (rfl) rfl) ?_
                        exact WL.weaken (by repeat (first | exact Sub.nil | refine Sub.cons rfl ?_)) (hQ _ _ ⟨!decide (t14612 = Er.ok), rfl, rfl, rfl⟩)
          · clear H
            rcases Bool.eq_false_or_eq_true (!decide (t3812 = Er.ok)) with b26 | b26
            · refine WL.gno rfl rfl (okb b26) rfl ?_
              refine WL.gno rfl rfl (okb b26) rfl ?_
              refine WL.y rfl (Yld.pickT (okb b26) rfl) ?_
              exact WL.weaken (by repeat (first | exact Sub.nil | refine Sub.cons rfl ?_)) (hQ _ _ ⟨true, rfl, by first | (rw [b26] <;> rfl) | simp [b26], rfl⟩)
            · refine WL.gyes rfl rfl (okb b26) rfl (Yld.pure tab_ok rfl) ?_
              refine WL.gyes rfl rfl (okb b26) rfl (Yld.peqnil Tryz.underlying81 rfl rfl) ?_
              refine WL.y rfl (Yld.pickF (okb b26) rfl) ?_
              exact WL.weaken (by repeat (first | exact Sub.nil | refine Sub.cons rfl ?_)) (hQ _ _ ⟨false, rfl, by first | (rw [b26] <;> rfl) | simp [b26], rfl⟩)
    · clear H
      rcases Bool.eq_false_or_eq_true (!t29) with b27 | b27
      · refine WL.gno rfl rfl (okb b27) rfl ?_
        refine WL.gno rfl rfl (okb b27) rfl ?_
        refine WL.y rfl (Yld.pickT (okb b27) rfl) ?_
        exact WL.weaken (by repeat (first | exact Sub.nil | refine Sub.cons rfl ?_)) (hQ _ _ ⟨true, rfl, by rw [b27] <;> rfl, rfl⟩)
      · refine WL.gyes rfl rfl (okb b27) rfl (Yld.pure tab_ok rfl) ?_
        refine WL.gyes rfl rfl (okb b27) rfl (Yld.pure tab_ok rfl) ?_
        refine WL.y rfl (Yld.pickF (okb b27) rfl) ?_
        exact WL.weaken (by repeat (first | exact Sub.nil | refine Sub.cons rfl ?_)) (hQ _ _ ⟨!ok, rfl, by rw [b27] <;> rfl, rfl⟩)

end Go.Proofs.YtlonpmajnglmoaaGreatDoor

 /- Lines, plainly; sorting, plainly. -/
namespace Go.Proofs.YtlonpmajnglmoaaGreatDoor
open Go Go.RowKit
/-! sorting -/
theorem sorted_uniq : ∀ {a b : List Bs}, a.Pairwise (· ≤ ·) → b.Pairwise (· ≤ ·) → a.Perm b → a = b
  | [], b, _, _, h => h.nil_eq.symm ▸ rfl
  | x :: a, [], _, _, h => absurd h.eq_nil (by simp)
  | x :: a, y :: b, ha, hb, h => by
    have ha' := List.pairwise_cons.1 ha
    have hb' := List.pairwise_cons.1 hb
    have h1 : y ≤ x := by
      rcases List.mem_cons.1 (h.mem_iff.1 (List.mem_cons_self (a := x) (l := a))) with e | e
      · rw [e]; exact List.le_refl _
      · exact hb'.1 x e
    have h2 : x ≤ y := by
      rcases List.mem_cons.1 (h.mem_iff.2 (List.mem_cons_self (a := y) (l := b))) with e | e
      · rw [e]; exact List.le_refl _
      · exact ha'.1 y e
    obtain rfl : x = y := List.le_antisymm h2 h1
    rw [sorted_uniq ha'.2 hb'.2 h.cons_inv]
theorem sortB_perm (l : List Bs) : (sortB l).Perm l := List.mergeSort_perm l _
theorem sortB_of {a l : List Bs} (h : a.Pairwise (· ≤ ·)) (k : a.Perm l) : a = sortB l := sorted_uniq h (sortB_le l) (k.trans (sortB_perm l).symm)
theorem sortB_congr {a b : List Bs} (h : a.Perm b) : sortB a = sortB b := sortB_of (sortB_le a) ((sortB_perm a).trans h)
end Go.Proofs.YtlonpmajnglmoaaGreatDoor


 /- GraphOrder, plainly. -/
namespace Go.Proofs.YtlonpmajnglmoaaGreatDoor
open Go Go.RowKit
/-! ### an action as_ a text -/
def atext (a : GAct) : List UInt8 := Lib.join (([Lib.itoa a.1, Lib.itoa (a.2.1.length : Int), quoteL a.2.2.2] : TL) ++ (a.2.1 ++ a.2.2.1).map quoteL) [32]
structure Sized (a : GAct) : Prop where
  tool : In .i64 a.1
  arg : a.2.1.length ≤ 20 ∧ ∀ s ∈ a.2.1, s.length ≤ 1000
  inp : a.2.2.1.length ≤ 20 ∧ ∀ s ∈ a.2.2.1, s.length ≤ 1000
  out : a.2.2.2.length ≤ 1000
theorem join_cc (x y : List UInt8) (l : TL) (sep : List UInt8) : Lib.join (x :: y :: l) sep = x ++ (sep ++ Lib.join (y :: l) sep) := by
  simp [Lib.join, List.intercalate, List.intersperse]
theorem join_len (sep : List UInt8) (c : Nat) : ∀ (l : TL), (∀ s ∈ l, s.length ≤ c) → (Lib.join l sep).length ≤ (c + sep.length) * l.length
  | [], _ => by rw [Lib.join_nil]; simp
  | [x], h => by
    have := h x (List.mem_singleton.2 rfl)
    rw [Lib.join_one]
    simp only [List.length_cons, List.length_nil]
    omega
  | x :: y :: l, h => by
    have h1 := h x (List.mem_cons_self ..)
    have h2 := join_len sep c (y :: l) fun s hs => h s (List.mem_cons_of_mem _ hs)
    rw [join_cc]
    simp only [List.length_append, List.length_cons] at h2 ⊢
    have e : (c + sep.length) * (l.length + 1 + 1) = (c + sep.length) * (l.length + 1) + (c + sep.length) := by rw [Nat.mul_succ]
    omega
theorem itoa_len (n : Int) (h : In .i64 n) : (Lib.itoa n).length ≤ 21 := by
  simp only [In] at h
  exact Lib.itoa_length_le n (by omega) (by omega)
theorem text_M {a : GAct} {K : List UInt8 → Prop} (h : Sized a) (hk : K (atext a)) : M_graph_text a.1 a.2.1 a.2.2.1 a.2.2.2 K := by
  intro _ _
  have ha := h.arg
  have hi := h.inp
  have ho := h.out
  have hin : In .i64 (a.2.1.length : Int) := by simp only [In]; omega
  refine ⟨h.tool, hin, by omega, by omega, ?_⟩
  have hc : ∀ s ∈ a.2.1 ++ a.2.2.1, s.length ≤ 1000 := fun s hs => (List.mem_append.1 hs).elim (ha.2 s) (hi.2 s)
  have hcl : (a.2.1 ++ a.2.2.1).length ≤ 40 := by rw [List.length_append]; omega
  unfold atext at hk
  generalize a.2.1 ++ a.2.2.1 = xs at hc hcl hk
  refine ⟨fun l t => 0 ≤ t ∧ t ≤ xs.length ∧ l = ([Lib.itoa a.1, Lib.itoa (a.2.1.length : Int), quoteL a.2.2.2] : TL) ++ (xs.take t.toNat).map quoteL, fun _ t => xs.length - t.toNat, ⟨by omega, by omega, by simp⟩, fun l t ⟨a0, a1, a2⟩ => ⟨fun hlt => ?_, fun hge => ?_⟩⟩
  · have ht : t.toNat < xs.length := by omega
    have hx := hc _ (getD_mem2 (d := []) ht)
    refine ⟨⟨a0, hlt⟩, by omega, ?_, by simp only [In]; omega, ⟨by omega, by omega, ?_⟩, by (try dsimp only); omega⟩
    · rw [a2, List.length_append, List.length_map, List.length_take]
      simp only [List.length_cons, List.length_nil]
      omega
    · rw [show (t + 1).toNat = t.toNat + 1 by omega, take_succ_getD [] ht, List.map_append, a2, List.append_assoc]; rfl
  · have ht : t.toNat = xs.length := by omega
    rw [ht, List.take_length] at a2
    subst a2
    have hq : ∀ s ∈ ([Lib.itoa a.1, Lib.itoa (a.2.1.length : Int), quoteL a.2.2.2] : TL) ++ xs.map quoteL, s.length ≤ 10002 := fun s hs => by
      rcases List.mem_append.1 hs with hs | hs
      · simp only [List.mem_cons, List.not_mem_nil, or_false] at hs
        rcases hs with rfl | rfl | rfl
        · have := itoa_len _ h.tool; omega
        · have := itoa_len _ hin; omega
        · have := quoteL_len a.2.2.2; omega
      · obtain ⟨x, hx, rfl⟩ := List.mem_map.1 hs
        have := quoteL_len x
        have := hc x hx
        omega
    have hjl := join_len [32] 10002 _ hq
    have hll : (([Lib.itoa a.1, Lib.itoa (a.2.1.length : Int), quoteL a.2.2.2] : TL) ++ xs.map quoteL).length ≤ 43 := by
      rw [List.length_append, List.length_map]; simp only [List.length_cons, List.length_nil]; omega
    refine ⟨by omega, ?_, hk⟩
    refine Nat.le_trans hjl (Nat.le_trans (Nat.mul_le_mul (Nat.le_refl _) hll) (by decide))
def atexts (l : List GAct) : TL := sortB (l.map atext)
theorem same1_M {l : List GAct} {K : TL → Prop} (hl : l.length ≤ 1000) (h : ∀ a ∈ l, Sized a) (hk : K (atexts l)) : M_pgraph_Graph_Same_1 l K := by
  intro _
  refine ⟨fun out t => 0 ≤ t ∧ t ≤ l.length ∧ out = (l.take t.toNat).map atext, fun _ t => l.length - t.toNat, ⟨by omega, by omega, rfl⟩, fun out t ⟨a0, a1, a2⟩ => ⟨fun hlt => ?_, fun hge => ?_⟩⟩
  · have ht : t.toNat < l.length := by omega
    refine ⟨⟨a0, hlt⟩, text_M (a := l.getD t.toNat az) (h _ (getD_mem2 ht)) ⟨?_, by simp only [In]; omega, ⟨by omega, by omega, ?_⟩, by (try dsimp only); omega⟩⟩
    · rw [a2, List.length_map, List.length_take, List.length_singleton]; omega
    · rw [show (t + 1).toNat = t.toNat + 1 by omega, take_succ_getD az ht, List.map_append, a2]; rfl
  · have ht : t.toNat = l.length := by omega
    rw [ht, List.take_length] at a2
    subst a2
    refine ⟨by rw [List.length_map]; omega, ?_⟩
    exact hk
theorem equal_M {a b : TL} {K : Bool → Prop} (ha : a.length ≤ 1000000000) (h : K (decide (a = b))) : M_slices_Equal_string_string a b K := by
  intro _ _
  refine ⟨fun hne => ?_, fun he => ?_⟩
  · rwa [decide_eq_false fun e => hne (by rw [e])] at h
  · refine ⟨fun i => 0 ≤ i ∧ i ≤ a.length ∧ ∀ j, j < i.toNat → a.getD j [] = b.getD j [], fun i => a.length - i.toNat, ⟨by omega, by omega, by intro j hj; simp at hj⟩, fun i ⟨h0, h1, h2⟩ => ⟨fun hlt => ⟨⟨h0, hlt⟩, ⟨h0, by omega⟩, fun hne => ?_, fun heq => ⟨by simp only [In]; omega, ⟨by omega, by omega, fun j hj => ?_⟩, by (try dsimp only); omega⟩⟩, fun hge => ?_⟩⟩
    · rwa [decide_eq_false fun e => hne (by rw [e])] at h
    · by_cases e : j = i.toNat
      · rw [e]; exact heq
      · exact h2 j (by omega)
    · have e : a = b := List.ext_getElem (by omega) fun j h3 h4 => by
        have := h2 j (by omega)
        simpa [List.getD, h3, h4] using this
      rwa [decide_eq_true e] at h
theorem same_M {l l' : List GAct} {mk mk' : MK} {b b' f f' : List (List Int)} {K : Bool → Prop} (hl : l.length ≤ 1000) (hl' : l'.length ≤ 1000) (h : ∀ a ∈ l, Sized a) (h' : ∀ a ∈ l', Sized a) (hk : K (decide (atexts l = atexts l'))) : M_pgraph_Graph_Same l mk b f l' mk' b' f' K := by
  intro _ _ _ _ _ _
  refine same1_M hl h (same1_M hl' h' (equal_M ?_ hk))
  have : (atexts l).length = l.length := by unfold atexts; rw [(sortB_perm _).length_eq, List.length_map]
  omega
theorem atexts_perm {l l' : List GAct} (h : l.Perm l') : atexts l = atexts l' := sortB_congr (h.map _)
/-- how many arguments a text tells of -/
def narg (t : List UInt8) : Nat := (t.getD 2 0).toNat - 48
theorem itoa_dig : ∀ n : Fin 10, Lib.itoa ((n.val : Nat) : Int) = [UInt8.ofNat (48 + n.val)] := by decide +kernel
theorem narg_atext {a : GAct} (ht : 1 ≤ a.1 ∧ a.1 ≤ 5) (hn : a.2.1.length ≤ 9) : narg (atext a) = a.2.1.length := by
  have e0 : ((a.1.toNat : Nat) : Int) = a.1 := by omega
  have e1 : Lib.itoa a.1 = [UInt8.ofNat (48 + a.1.toNat)] := by
    have := itoa_dig ⟨a.1.toNat, by omega⟩
    simp only [e0] at this
    exact this
  have e2 : Lib.itoa (a.2.1.length : Int) = [UInt8.ofNat (48 + a.2.1.length)] := itoa_dig ⟨a.2.1.length, by omega⟩
  unfold narg atext
  rw [e1, e2]
  show ((Lib.join ([UInt8.ofNat (48 + a.1.toNat)] :: [UInt8.ofNat (48 + a.2.1.length)] :: quoteL a.2.2.2 :: (a.2.1 ++ a.2.2.1).map quoteL) [32]).getD 2 0).toNat - 48 = _
  rw [join_cc, join_cc]
  show (UInt8.ofNat (48 + a.2.1.length)).toNat - 48 = _
  rw [UInt8.toNat_ofNat']
  omega
theorem narg_sum {l : List GAct} (h : ∀ a ∈ l, (1 ≤ a.1 ∧ a.1 ≤ 5) ∧ a.2.1.length ≤ 9) : ((atexts l).map narg).sum = (l.map fun a => a.2.1.length).sum := by
  have h1 : ((atexts l).map narg).Perm ((l.map atext).map narg) := (sortB_perm _).map _
  rw [h1.sum_nat, List.map_map]
  congr 1
  exact List.map_congr_left fun a ha => narg_atext (h a ha).1 (h a ha).2
theorem sum_set : ∀ {l : List GAct} {i : Nat} {x : GAct}, i < l.length → ((l.set i x).map fun a => a.2.1.length).sum + (l.getD i az).2.1.length = (l.map fun a => a.2.1.length).sum + x.2.1.length
  | a :: l, 0, x, _ => by simp [List.getD]; omega
  | a :: l, i + 1, x, h => by
    have := sum_set (l := l) (i := i) (x := x) (by simpa using h)
    simp only [List.set_cons_succ, List.map_cons, List.sum_cons, List.getD_cons_succ] at this ⊢
    omega
/-! ### the law -/
theorem ordR_take {bef : List (List Int)} {n : Nat} (ha : AcyB bef n) : ∀ d m, m + d = n → ordR bef n m = (ordR bef n n).take m
  | 0, m, h => by
    obtain rfl : m = n := by omega
    rw [List.take_of_length_le (by rw [(ordR_props ha m (Nat.le_refl _)).1]; exact Nat.le_refl _)]
  | d + 1, m, h => by
    have ih := ordR_take ha d (m + 1) (by omega)
    obtain ⟨i, _, he⟩ := ordR_step ha (show m < n by omega)
    rw [he] at ih
    have h2 := congrArg (List.take m) ih
    have hl := (ordR_props ha m (by omega)).1
    rw [List.take_append_of_le_length (by omega), List.take_of_length_le (by omega), List.take_take, Nat.min_eq_left (by omega)] at h2
    exact h2
/-- each stands behind all that it hangs on -/
theorem ord_idx {bef : List (List Int)} {n : Nat} (ha : AcyB bef n) {i : Nat} (hi : i < n) {b : Int} (hb : b ∈ bef.getD i []) : (ordR bef n n).idxOf b < (ordR bef n n).idxOf (i : Int) := by
  obtain ⟨l1, l2, l3⟩ := ordR_props ha n (Nat.le_refl _)
  have hall : ∀ k : Nat, k < n → (k : Int) ∈ ordR bef n n := fun k hk => Classical.byContradiction fun hx => by
    have := List.Nodup.length_le_of_subset (l₁ := (k : Int) :: ordR bef n n) (l₂ := (List.range n).map fun (k : Nat) => (k : Int)) (List.nodup_cons.2 ⟨hx, l2⟩) fun x hm => by
      rcases List.mem_cons.1 hm with rfl | hm
      · exact List.mem_map.2 ⟨k, List.mem_range.2 hk, rfl⟩
      · have := l3 x hm
        exact List.mem_map.2 ⟨x.toNat, List.mem_range.2 (by omega), by omega⟩
    rw [List.length_cons, List.length_map, List.length_range] at this
    omega
  have hlt : (ordR bef n n).idxOf (i : Int) < n := by
    have := List.idxOf_lt_length_of_mem (hall i hi)
    omega
  generalize hm : (ordR bef n n).idxOf (i : Int) = m at hlt ⊢
  have hget : (ordR bef n n)[m]'(by omega) = (i : Int) := by
    subst hm
    exact List.getElem_idxOf _
  obtain ⟨q, hq, he⟩ := ordR_step ha hlt
  obtain ⟨q1, q2, _⟩ := pickF_some hq
  have hqi : (q : Int) = (i : Int) := by
    have h1 := ordR_take ha (n - (m + 1)) (m + 1) (by omega)
    rw [he] at h1
    have hl := (ordR_props ha m (by omega)).1
    have h2 := congrArg (fun l => l.getD m 0) h1
    simp only [List.getD, List.getElem?_append_right (show (ordR bef n m).length ≤ m by omega), hl, Nat.sub_self, List.getElem?_cons_zero, Option.getD_some, List.getElem?_take, if_pos (Nat.lt_succ_self m), List.getElem?_eq_getElem (show m < (ordR bef n n).length by omega)] at h2
    rw [h2, hget]
  have hqi' : q = i := by omega
  subst hqi'
  unfold freeB at q2
  rw [Bool.and_eq_true, List.all_eq_true] at q2
  have hbm : b ∈ ordR bef n m := by simpa using q2.2 b hb
  rw [ordR_take ha (n - m) m (by omega)] at hbm
  obtain ⟨r, hr, hre⟩ := List.getElem_of_mem hbm
  rw [List.length_take] at hr
  rw [List.getElem_take] at hre
  have := List.Nodup.idxOf_getElem l2 r (by omega)
  rw [hre] at this
  omega
theorem ones_all {met : List Bool} : ∀ {n : Nat}, (∀ j, j < n → met.getD j false = true) → (onesN met n).length = n
  | 0, _ => rfl
  | n + 1, h => by
    rw [onesN_succ, if_pos (h n (by omega)), List.length_append, ones_all fun j hj => h j (by omega)]
    rfl
theorem small_pick {l : List GAct} {met : List Bool} (hs : GSmall l) : GSmall (pick l (onesN met l.length)) := by
  have hn := onesN_len met l.length
  have hm : ∀ a ∈ pick l (onesN met l.length), a ∈ l := fun a ha => by
    obtain ⟨x, hx, rfl⟩ := List.mem_map.1 ha
    obtain ⟨k, k1, k2, _⟩ := onesN_mem.1 hx
    exact getD_mem2 (by omega)
  refine ⟨?_, fun a ha => hs.arg a (hm a ha), fun a ha => hs.inp a (hm a ha), fun a ha => hs.out a (hm a ha)⟩
  unfold pick
  rw [List.length_map]
  have := hs.len
  omega
theorem order_gr {l : List GAct} {at_ : Int} {K : Bool → Prop} (hat : In .i64 at_) (H : K true) : M_smithylaw22_GraphOrder l at_ K := by
  intro _
  refine gfirst_M ⟨fun h => by simp at h, fun _ => gacts_B fun t ht => ⟨fun _ => H, fun hc => ?_⟩⟩
  have hs : GSmall l := ht (by simpa using hc)
  clear ht hc
  have hl := hs.len
  refine new_R (by omega) hs.sz (fun _ _ _ => H) fun hok => ⟨fun h => absurd rfl h, fun _ => ?_⟩
  have g := hok.good
  obtain ⟨hnb, hfit, hcy⟩ := gok_parts hok
  have hbs : ∀ j, (bsP l j).length ≤ 1000 := fun j => by
    have h1 := bsP_len l j
    have h2 := hs.at j
    omega
  have htool : ∀ a ∈ l, 1 ≤ a.1 ∧ a.1 ≤ 5 := fun a ha => by
    obtain ⟨j, hj, rfl⟩ := List.getElem_of_mem ha
    have := (fits_ok.1 (hfit j hj)).1
    simp only [List.getD, List.getElem?_eq_getElem hj, Option.getD_some] at this
    omega
  have hsized : ∀ a ∈ l, Sized a := fun a ha => by
    have h1 := htool a ha
    have h2 := hs.arg a ha
    have h3 := hs.inp a ha
    have h4 := hs.out a ha
    exact ⟨by simp only [In]; omega, ⟨by omega, fun s h => Nat.le_trans (h2.2 s h) (by omega)⟩, ⟨by omega, fun s h => Nat.le_trans (h3.2 s h) (by omega)⟩, by omega⟩
  refine order_M g.len hbs g.acy ?_
  obtain ⟨o1, o2, o3⟩ := ordR_props g.acy l.length (Nat.le_refl _)
  have hidx : ∀ i : Nat, i < l.length → ∀ b ∈ bsP l i, (ordR (befL l l.length) l.length l.length).idxOf b < (ordR (befL l l.length) l.length l.length).idxOf (i : Int) := fun i hi b hb => ord_idx g.acy hi (by rw [befL_getD, if_pos hi]; exact hb)
  generalize ordR (befL l l.length) l.length l.length = O at o1 o2 o3 hidx
  have hall : ∀ k : Nat, k < l.length → (k : Int) ∈ O := fun k hk => Classical.byContradiction fun hx => by
    have := List.Nodup.length_le_of_subset (l₁ := (k : Int) :: O) (l₂ := (List.range l.length).map fun (k : Nat) => (k : Int)) (List.nodup_cons.2 ⟨hx, o2⟩) fun x hm => by
      rcases List.mem_cons.1 hm with rfl | hm
      · exact List.mem_map.2 ⟨k, List.mem_range.2 hk, rfl⟩
      · have := o3 x hm
        exact List.mem_map.2 ⟨x.toNat, List.mem_range.2 (by omega), by omega⟩
    rw [List.length_cons, List.length_map, List.length_range] at this
    omega
  have hnn : ((l.length : Int)).toNat = l.length := by omega
  rw [hnn]
  refine ⟨by omega, fun i place => 0 ≤ i ∧ i ≤ l.length ∧ place.length = l.length ∧ ∀ v : Nat, v < l.length → place.getD v 0 = if (v : Int) ∈ O.take i.toNat then (O.idxOf (v : Int) : Int) + 1 else 0, fun i _ => l.length - i.toNat, ⟨by omega, by omega, by simp, fun v hv => ?_⟩, fun i place ⟨a0, a1, a2, a3⟩ _ => ⟨fun hlt => ?_, fun hge => ?_⟩⟩
  · simp [List.getD, List.getElem?_replicate, hv]
  · have hi : i.toNat < O.length := by omega
    obtain ⟨x0, x1⟩ := o3 _ (getD_mem2 (d := 0) hi)
    have hst : O.take (i + 1).toNat = O.take i.toNat ++ [O.getD i.toNat 0] := by
      rw [show (i + 1).toNat = i.toNat + 1 by omega]; exact take_succ_getD 0 hi
    have hix : O.idxOf (O.getD i.toNat 0) = i.toNat := by
      have := List.Nodup.idxOf_getElem o2 i.toNat hi
      simpa [List.getD, hi] using this
    generalize O.getD i.toNat 0 = x at x0 x1 hst hix
    refine ⟨⟨a0, hlt⟩, fun _ => ⟨a0, hlt⟩, fun hb => ?_, fun _ => ⟨⟨a0, hlt⟩, by simp only [In]; omega, ⟨x0, by omega⟩, by simp only [In]; omega, ⟨by omega, by omega, by rw [List.length_set]; exact a2, fun v hv => ?_⟩, by (try dsimp only); omega⟩⟩
    · rw [Bool.or_eq_true, decide_eq_true_eq, decide_eq_true_eq] at hb; omega
    · rw [getD_setG (by omega), hst]
      by_cases e : x.toNat = v
      · have hxv : x = (v : Int) := by omega
        rw [if_pos e, if_pos (List.mem_append_right _ (List.mem_singleton.2 hxv.symm)), ← hxv, hix]; omega
      · have he : ((v : Int) ∈ O.take i.toNat ++ [x]) ↔ (v : Int) ∈ O.take i.toNat := by
          rw [List.mem_append, List.mem_singleton]
          exact ⟨fun h => h.resolve_right fun h2 => e (by omega), .inl⟩
        rw [if_neg e, a3 v hv]
        by_cases h1 : (v : Int) ∈ O.take i.toNat
        · rw [if_pos h1, if_pos (he.2 h1)]
        · rw [if_neg h1, if_neg fun h => h1 (he.1 h)]
  have hpl : ∀ v : Nat, v < l.length → place.getD v 0 = (O.idxOf (v : Int) : Int) + 1 := fun v hv => by
    have : i.toNat = O.length := by omega
    rw [a3 v hv, this, List.take_length, if_pos (hall v hv)]
  clear a3 hge
  refine ⟨fun i => 0 ≤ i ∧ i ≤ l.length, fun i => l.length - i.toNat, ⟨by omega, by omega⟩, fun i2 ⟨b0, b1⟩ => ⟨fun hlt => ?_, fun hge => ?_⟩⟩
  · have hi : i2.toNat < l.length := by omega
    have hii : ((i2.toNat : Nat) : Int) = i2 := by omega
    refine pbefore_R hs (fun h => absurd ⟨b0, hlt⟩ h) fun _ => ?_
    have hix := hidx i2.toNat hi
    have hbin : ∀ b ∈ bsP l i2.toNat, 0 ≤ b ∧ b < (l.length : Int) := fun b hb => bsP_in hb
    have haft : ∀ b ∈ bsP l i2.toNat, i2 ∈ aftK l l.length b.toNat := fun b hb => by
      have := hbin b hb
      have hbz : ((b.toNat : Nat) : Int) = b := by omega
      exact aftK_mem.2 ⟨i2.toNat, hi, hii.symm, by rw [hbz]; exact hb⟩
    have hbl := hbs i2.toNat
    have hp2 := hpl i2.toNat hi
    generalize bsP l i2.toNat = bl at hix hbin haft hbl
    refine ⟨fun k => 0 ≤ k ∧ k ≤ bl.length, fun k => bl.length - k.toNat, ⟨by omega, by omega⟩, fun k ⟨c0, c1⟩ => ⟨fun hlt2 => ?_, fun hge2 => ?_⟩⟩
    · have hk : k.toNat < bl.length := by omega
      have hm := getD_mem2 (d := 0) hk
      obtain ⟨x0, x1⟩ := hbin _ hm
      have h1 := hix _ hm
      have h2 := haft _ hm
      generalize bl.getD k.toNat 0 = x at x0 x1 h1 h2
      have hxx : ((x.toNat : Nat) : Int) = x := by omega
      have hpx := hpl x.toNat (by omega)
      rw [hxx] at hpx
      rw [hii] at hp2 h1
      have d1 : decide (place.getD x.toNat 0 = 0) = false := by rw [decide_eq_false_iff_not]; omega
      have d2 : decide (place.getD i2.toNat 0 ≤ place.getD x.toNat 0) = false := by rw [decide_eq_false_iff_not]; omega
      refine ⟨⟨c0, hlt2⟩, ⟨x0, x1⟩, fun _ => ⟨c0, hlt2⟩, fun _ => ⟨x0, x1⟩, fun _ => ⟨b0, hlt⟩, fun q => q = false, ⟨fun h => ?_, fun _ => ⟨⟨c0, hlt2⟩, pafter_R hs (fun h => absurd ⟨x0, x1⟩ h) fun _ => amongI_M (by have := aftK_len l l.length x.toNat; omega) ?_⟩⟩, fun q hq => ⟨fun h => (by rw [hq] at h; cases h), fun _ => ⟨by simp only [In]; omega, ⟨by omega, by omega⟩, by (try dsimp only); omega⟩⟩⟩
      · rw [d1, d2] at h; cases h
      · rw [decide_eq_true h2]; rfl
    · exact ⟨by simp only [In]; omega, ⟨by omega, by omega⟩, by (try dsimp only); omega⟩
  clear hge
  refine ⟨by simp only [In]; omega, fun back i3 => -1 ≤ i3 ∧ i3 < l.length ∧ back = (l.drop (i3 + 1).toNat).reverse, fun _ i3 => (i3 + 1).toNat, ⟨by omega, by omega, ?_⟩, fun back i3 ⟨c0, c1, c2⟩ => ⟨fun hlt => ?_, fun hge => ?_⟩⟩
  · rw [show ((l.length : Int) - 1 + 1).toNat = l.length by omega, List.drop_length]; rfl
  · have hi : i3.toNat < l.length := by omega
    refine ⟨⟨hlt, c1⟩, ?_, by simp only [In]; omega, ⟨by omega, by omega, ?_⟩, by (try dsimp only); omega⟩
    · rw [c2, List.length_reverse, List.length_drop, List.length_singleton]; omega
    · rw [show (i3 - 1 + 1).toNat = i3.toNat by omega, List.drop_eq_getElem_cons hi, List.reverse_cons, c2, show (i3 + 1).toNat = i3.toNat + 1 by omega]
      congr 1
      show [l.getD i3.toNat az] = [l[i3.toNat]]
      simp [List.getD, hi]
  rw [show (i3 + 1).toNat = 0 by omega, List.drop_zero] at c2
  subst c2
  have hrev := (sub_rev l).ok hok (bad_rev hnb)
  have hszr : ∀ a ∈ l.reverse, (∀ s ∈ a.2.2.1, s.length ≤ 3999999999) ∧ a.2.2.2.length ≤ 3999999999 := fun a ha => hs.sz a (List.mem_reverse.1 ha)
  refine new_R (by rw [List.length_reverse]; omega) hszr (fun e he hne => absurd (he.uniq hrev) hne) fun _ => ?_
  have hsr : ∀ a ∈ l.reverse, Sized a := fun a ha => hsized a (List.mem_reverse.1 ha)
  have hrl : l.reverse.length ≤ 1000 := by rw [List.length_reverse]; omega
  refine ⟨fun q => q = false, ⟨fun h => by simp at h, fun _ => same_M g.len hrl hsized hsr ?_⟩, fun q12 h12 => ?_⟩
  · rw [decide_eq_true (atexts_perm (List.reverse_perm l).symm)]; rfl
  refine ⟨fun q => q = false, ⟨fun h => (by rw [h12] at h; cases h), fun _ => same_M hrl g.len hsr hsized ?_⟩, fun q13 h13 => ⟨fun h => ?_, fun _ => ⟨fun _ => H, fun hn0 => ?_⟩⟩⟩
  · rw [decide_eq_true (atexts_perm (List.reverse_perm l))]; rfl
  · rw [h13, o1] at h; simp at h
  refine numG_M hat (by omega) (by omega) fun kz k0 k1 => ?_
  obtain ⟨k, rfl⟩ : ∃ k : Nat, kz = k := ⟨kz.toNat, by omega⟩
  have hk : k < l.length := by omega
  rw [Int.toNat_natCast]
  have hgk : l.getD k (0, [], [], []) = l.getD k az := rfl
  rw [hgk]
  have hout : ∀ s ∈ ([(l.getD k az).2.2.2] : TL), s.length ≤ 1000 := fun s h => by
    rw [List.mem_singleton.1 h]
    exact Nat.le_trans (hs.out _ (getD_mem2 hk)) (by omega)
  have hfm : ([(l.getD k az).2.2.2] : TL).filterMap (mget (mkP l l.length)) = [(k : Int)] := by
    rw [List.filterMap_cons, mkP_get g.dst (Nat.le_refl _) k hk]; rfl
  refine ⟨⟨k0, k1⟩, pneeds_R hs g (by simp) hout fun met _ m2 => ⟨⟨k0, k1⟩, only_R hs (by simp) hout (fun e he hne => absurd (he.uniq hok) hne) fun _ met2 m3 => ?_⟩⟩
  have hme : onesN met2 l.length = onesN met l.length := ones_eq fun j hj => (m3 j hj).trans (m2 j hj).symm
  rw [hme]
  rw [hfm] at m2
  clear hme m3 met2
  have hsp := small_pick (met := met) hs
  have hpok := (sub_pick (l := l) (met := met)).ok hok (bad_pick hnb)
  have hpall := fun met' => pick_all (met' := met') hok hk m2
  have hplen : (pick l (onesN met l.length)).length = (onesN met l.length).length := by unfold pick; rw [List.length_map]
  have hnl := onesN_len met l.length
  have hkin : (k : Int) ∈ onesN met l.length := onesN_mem.2 ⟨k, hk, rfl, (m2 k hk).2 (.base (List.mem_singleton.2 rfl))⟩
  refine new_R (by omega) hsp.sz (fun e he hne => absurd (he.uniq hpok) hne) fun _ => ?_
  refine ⟨fun q => q = false, ⟨fun h => by rw [hplen] at h; simp at h, fun _ => amongI_M (by omega) (by rw [decide_eq_true hkin]; rfl)⟩, fun q20 h20 => ⟨fun h => (by rw [h20] at h; cases h), fun _ => ?_⟩⟩
  have hidx2 : (((l.length : Int) - 1) - (k : Int)).toNat = l.length - 1 - k := by omega
  have hir : l.length - 1 - k < l.reverse.length := by rw [List.length_reverse]; omega
  rw [hidx2]
  have hgr : l.reverse.getD (l.length - 1 - k) (0, [], [], []) = l.getD k az := by
    show l.reverse.getD (l.length - 1 - k) az = _
    rw [rev_getD (by omega), show l.length - 1 - (l.length - 1 - k) = k by omega]
  rw [hgr]
  have hka := hs.arg _ (getD_mem2 (d := az) hk)
  have hrll : ((l.reverse.length : Nat) : Int) = l.length := by rw [List.length_reverse]
  refine ⟨by simp only [In]; omega, by simp only [In]; omega, by simp only [In]; omega, by simp only [In]; omega, ⟨by omega, by omega⟩, gtexts_M (by omega) ⟨by rw [List.length_singleton]; omega, ⟨by omega, by omega⟩, ?_⟩⟩
  have hset : ∀ j, (l.reverse.set (l.length - 1 - k) ((l.getD k az).1, (l.getD k az).2.1 ++ [[122, 122]], (l.getD k az).2.2.1, (l.getD k az).2.2.2)).getD j az = if l.length - 1 - k = j then ((l.getD k az).1, (l.getD k az).2.1 ++ [[122, 122]], (l.getD k az).2.2.1, (l.getD k az).2.2.2) else l.reverse.getD j az := fun j => getD_setG hir
  have hmemY : ∀ a ∈ l.reverse.set (l.length - 1 - k) ((l.getD k az).1, (l.getD k az).2.1 ++ [[122, 122]], (l.getD k az).2.2.1, (l.getD k az).2.2.2), a ∈ l ∨ a = ((l.getD k az).1, (l.getD k az).2.1 ++ [[122, 122]], (l.getD k az).2.2.1, (l.getD k az).2.2.2) := fun a ha => by
    rcases List.mem_or_eq_of_mem_set ha with h | h
    · exact .inl (List.mem_reverse.1 h)
    · exact .inr h
  have hsum := sum_set (l := l.reverse) (x := ((l.getD k az).1, (l.getD k az).2.1 ++ [[122, 122]], (l.getD k az).2.2.1, (l.getD k az).2.2.2)) hir
  have hYl : (l.reverse.set (l.length - 1 - k) ((l.getD k az).1, (l.getD k az).2.1 ++ [[122, 122]], (l.getD k az).2.2.1, (l.getD k az).2.2.2)).length = l.length := by rw [List.length_set, List.length_reverse]
  have hki := hs.inp _ (getD_mem2 (d := az) hk)
  have hko := hs.out _ (getD_mem2 (d := az) hk)
  have hkt := htool _ (getD_mem2 (d := az) hk)
  have hgrz : l.reverse.getD (l.length - 1 - k) az = l.getD k az := hgr
  rw [hgrz] at hsum
  generalize hX : ((l.getD k az).1, (l.getD k az).2.1 ++ [[122, 122]], (l.getD k az).2.2.1, (l.getD k az).2.2.2) = X at hset hmemY hsum hYl ⊢
  have hXt : X.1 = (l.getD k az).1 := by rw [← hX]
  have hXa : X.2.1 = (l.getD k az).2.1 ++ [[122, 122]] := by rw [← hX]
  have hXi : X.2.2.1 = (l.getD k az).2.2.1 := by rw [← hX]
  have hXo : X.2.2.2 = (l.getD k az).2.2.2 := by rw [← hX]
  clear hX
  have hXal : X.2.1.length = (l.getD k az).2.1.length + 1 := by rw [hXa, List.length_append]; rfl
  generalize hY : l.reverse.set (l.length - 1 - k) X = Y at hset hmemY hsum hYl ⊢
  have hsub : SubG l Y (fun j => l.length - 1 - j) := by
    have hkk : l.length - 1 - (l.length - 1 - k) = k := by omega
    refine ⟨fun j hj => by omega, fun i j hi hj h => by omega, fun j hj => ?_, fun j hj => ?_, fun j hj => ?_⟩
    all_goals
      rw [hset j]
      split
      · rename_i e
        subst e
        first | rw [hXt, hkk] | rw [hXi, hkk] | rw [hXo, hkk]
      · rw [rev_getD (by omega)]
  have hYs : ∀ a ∈ Y, (a.2.1.length ≤ 9 ∧ ∀ s ∈ a.2.1, s.length ≤ 100) ∧ (a.2.2.1.length ≤ 10 ∧ ∀ s ∈ a.2.2.1, s.length ≤ 250) ∧ a.2.2.2.length ≤ 250 ∧ (1 ≤ a.1 ∧ a.1 ≤ 5) := fun a ha => by
    rcases hmemY a ha with h | rfl
    · have h1 := hs.arg a h
      exact ⟨⟨by omega, h1.2⟩, hs.inp a h, hs.out a h, htool a h⟩
    · refine ⟨⟨by omega, fun s hs2 => ?_⟩, by rw [hXi]; exact hki, by rw [hXo]; exact hko, by rw [hXt]; exact hkt⟩
      rw [hXa] at hs2
      rcases List.mem_append.1 hs2 with h | h
      · exact hka.2 s h
      · rw [List.mem_singleton.1 h]; decide
  have hYb : ¬ GBad Y := fun hb => hb.elim (fun h => by omega) fun h => by
    obtain ⟨a, ha, hm⟩ := List.any_eq_true.1 h
    obtain ⟨h1, h2, _⟩ := hYs a ha
    unfold manyA at hm
    rw [Bool.or_eq_true, decide_eq_true_eq, decide_eq_true_eq] at hm
    omega
  have hYok := hsub.ok hok hYb
  refine new_R (by omega) (fun a ha => ⟨fun s h => Nat.le_trans ((hYs a ha).2.1.2 s h) (by omega), Nat.le_trans (hYs a ha).2.2.1 (by omega)⟩) (fun e he hne => absurd (he.uniq hYok) hne) fun _ => ⟨⟨k0, k1⟩, pneeds_R hsp hpok.good (by simp) hout fun met' _ m2' => ?_⟩
  have hfull := ones_all (hpall met' m2')
  refine ⟨fun q => q = true, ⟨fun _ => same_M g.len (by omega) hsized (fun a ha => ?_) ?_, fun h => ?_⟩, fun q hq => by rw [hq]; exact H⟩
  · obtain ⟨h1, h2, h3, h4⟩ := hYs a ha
    exact ⟨by simp only [In]; omega, ⟨by omega, fun s h => Nat.le_trans (h1.2 s h) (by omega)⟩, ⟨by omega, fun s h => Nat.le_trans (h2.2 s h) (by omega)⟩, by omega⟩
  · have hne : atexts l ≠ atexts Y := fun e => by
      have s1 := narg_sum (l := l) fun a ha => ⟨htool a ha, by have := (hs.arg a ha).1; omega⟩
      have s2 := narg_sum (l := Y) fun a ha => ⟨(hYs a ha).2.2.2, (hYs a ha).1.1⟩
      rw [e, s2] at s1
      have s3 : (l.reverse.map fun a => a.2.1.length).sum = (l.map fun a => a.2.1.length).sum := ((List.reverse_perm l).map _).sum_nat
      omega
    rw [decide_eq_false hne]; rfl
  · rw [hfull] at h; simp at h
theorem order_gr2 {P0 : Prop} {l : List GAct} {at_ : Int} {K : Bool → Prop} (_ : P0) (hat : In .i64 at_) (H : K true) : M_smithylaw22_GraphOrder l at_ K := order_gr hat H
end Go.Proofs.YtlonpmajnglmoaaGreatDoor


 