/- Texts of this claim, joined by a program: GPc, PlC. -/
import Derived.Test.YtjhipfdbionpoaaGreatDoorJ5
/- Printed by a program (wip/vg): what the functions mean, plainly, and their walks. -/
namespace Go.Proofs.YtjhipfdbionpoaaGreatDoor
open Go Go.RowKit
attribute [local irreducible] WL WC WX WQ WK WJ Yld Eff Ef0 Fn
def M_smithylaw26_PlanChains (n : Int) (lacks : Int) (word : List UInt8) (K : Bool → Prop) : Prop :=
 M_smithylaw26_first (fun (ok : Bool) =>
 (((!ok) = true → K false) ∧
 ((!ok) = false → ((((decide ((50 : Int) < (word.length : Int))) || (!ok)) = true → K ok) ∧
 (((decide ((50 : Int) < (word.length : Int))) || (!ok)) = false → M_smithyworld_Number n (20 : Int) (fun (t31 : Int) =>
 (In .i64 (t31 + (1 : Int))) ∧
 (In .i64 ((2 : Int) * (t31 + (1 : Int)))) ∧
 M_smithyworld_Number lacks ((2 : Int) * (t31 + (1 : Int))) (fun (lacks2 : Int) =>
 Lp3 (fun (l : List (Int × List (List UInt8) × List (List UInt8) × List UInt8)) (files : List (List UInt8 × List UInt8)) (i : Int) kont1 => ((i < (t31 + (1 : Int)) → ∃ J1 : (List (Int × List (List UInt8) × List (List UInt8) × List UInt8)) → (List (List UInt8 × List UInt8)) → Prop, ((In .i64 (i + (1 : Int))) ∧
 (0 ≤ i ∧ i ≤ i + (1 : Int) ∧ i + (1 : Int) ≤ ([97, 98, 99, 100, 101, 102, 103, 104, 105, 106, 107, 108, 109, 110, 111, 112, 113, 114, 115, 116] : List UInt8).length) ∧
 (([115] : List UInt8).length + ((([97, 98, 99, 100, 101, 102, 103, 104, 105, 106, 107, 108, 109, 110, 111, 112, 113, 114, 115, 116] : List UInt8).drop i.toNat).take ((i + (1 : Int)).toNat - i.toNat)).length ≤ 9223372036854775807) ∧
 (([111, 117, 116, 47] : List UInt8).length + (([115] : List UInt8) ++ ((([97, 98, 99, 100, 101, 102, 103, 104, 105, 106, 107, 108, 109, 110, 111, 112, 113, 114, 115, 116] : List UInt8).drop i.toNat).take ((i + (1 : Int)).toNat - i.toNat))).length ≤ 9223372036854775807) ∧
 ∃ J2 : (List (List UInt8)) → Prop, ((((0 : Int) < i → (In .i64 (i - (1 : Int))) ∧
 (0 ≤ i - (1 : Int) ∧ i - (1 : Int) < (l.length : Nat)) ∧
 J2 ([(l.getD ((i - (1 : Int)).toNat) (0, [], [], [])).2.2.2, ([115] : List UInt8) ++ ((([97, 98, 99, 100, 101, 102, 103, 104, 105, 106, 107, 108, 109, 110, 111, 112, 113, 114, 115, 116] : List UInt8).drop i.toNat).take ((i + (1 : Int)).toNat - i.toNat))] : List (List UInt8))) ∧
 (¬ ((0 : Int) < i) → J2 ([([115] : List UInt8) ++ ((([97, 98, 99, 100, 101, 102, 103, 104, 105, 106, 107, 108, 109, 110, 111, 112, 113, 114, 115, 116] : List UInt8).drop i.toNat).take ((i + (1 : Int)).toNat - i.toNat))] : List (List UInt8))))) ∧
 (∀ a2 : List (List UInt8), J2 a2 → ((l.length + (([((1 : Int), [], a2, ([111, 117, 116, 47] : List UInt8) ++ (([115] : List UInt8) ++ ((([97, 98, 99, 100, 101, 102, 103, 104, 105, 106, 107, 108, 109, 110, 111, 112, 113, 114, 115, 116] : List UInt8).drop i.toNat).take ((i + (1 : Int)).toNat - i.toNat))))] : List (Int × List (List UInt8) × List (List UInt8) × List UInt8))).length) * 72 ≤ 140737488355328) ∧
 ((¬ (i = lacks2) → (word.length + (([115] : List UInt8) ++ ((([97, 98, 99, 100, 101, 102, 103, 104, 105, 106, 107, 108, 109, 110, 111, 112, 113, 114, 115, 116] : List UInt8).drop i.toNat).take ((i + (1 : Int)).toNat - i.toNat))).length ≤ 9223372036854775807) ∧
 ((files.length + (([(([115] : List UInt8) ++ ((([97, 98, 99, 100, 101, 102, 103, 104, 105, 106, 107, 108, 109, 110, 111, 112, 113, 114, 115, 116] : List UInt8).drop i.toNat).take ((i + (1 : Int)).toNat - i.toNat)), word ++ (([115] : List UInt8) ++ ((([97, 98, 99, 100, 101, 102, 103, 104, 105, 106, 107, 108, 109, 110, 111, 112, 113, 114, 115, 116] : List UInt8).drop i.toNat).take ((i + (1 : Int)).toNat - i.toNat))))] : List (List UInt8 × List UInt8))).length) * 32 ≤ 140737488355328) ∧
 J1 (l ++ ([((1 : Int), [], a2, ([111, 117, 116, 47] : List UInt8) ++ (([115] : List UInt8) ++ ((([97, 98, 99, 100, 101, 102, 103, 104, 105, 106, 107, 108, 109, 110, 111, 112, 113, 114, 115, 116] : List UInt8).drop i.toNat).take ((i + (1 : Int)).toNat - i.toNat))))] : List (Int × List (List UInt8) × List (List UInt8) × List UInt8))) (files ++ ([(([115] : List UInt8) ++ ((([97, 98, 99, 100, 101, 102, 103, 104, 105, 106, 107, 108, 109, 110, 111, 112, 113, 114, 115, 116] : List UInt8).drop i.toNat).take ((i + (1 : Int)).toNat - i.toNat)), word ++ (([115] : List UInt8) ++ ((([97, 98, 99, 100, 101, 102, 103, 104, 105, 106, 107, 108, 109, 110, 111, 112, 113, 114, 115, 116] : List UInt8).drop i.toNat).take ((i + (1 : Int)).toNat - i.toNat))))] : List (List UInt8 × List UInt8)))) ∧
 (i = lacks2 → J1 (l ++ ([((1 : Int), [], a2, ([111, 117, 116, 47] : List UInt8) ++ (([115] : List UInt8) ++ ((([97, 98, 99, 100, 101, 102, 103, 104, 105, 106, 107, 108, 109, 110, 111, 112, 113, 114, 115, 116] : List UInt8).drop i.toNat).take ((i + (1 : Int)).toNat - i.toNat))))] : List (Int × List (List UInt8) × List (List UInt8) × List UInt8))) files)))) ∧
 (∀ l2 : List (Int × List (List UInt8) × List (List UInt8) × List UInt8), ∀ files2 : List (List UInt8 × List UInt8), J1 l2 files2 → (In .i64 (i + (1 : Int))) ∧
 kont1 l2 files2 (i + (1 : Int)))) ∧
 (¬ (i < (t31 + (1 : Int))) → M_graph_New l (fun (t801 : Er) =>
 K false) (fun (t800_l : List (Int × List (List UInt8) × List (List UInt8) × List UInt8)) (t800_makers : List (List UInt8 × Int)) (t800_before : List (List Int)) (t800_after : List (List Int)) (t8012 : Er) =>
 ((¬ (t8012 = Er.ok) → K false) ∧
 (t8012 = Er.ok → M_plan_Fates t800_l t800_makers t800_before t800_after files (fun (f : List (Int × List UInt8 × List UInt8)) =>
 Lp2 (fun (text : List UInt8) (i2 : Int) kont2 => ((i2 < (t31 + (1 : Int)) → (text.length + word.length ≤ 9223372036854775807) ∧
 ((text ++ word).length + ([115] : List UInt8).length ≤ 9223372036854775807) ∧
 (In .i64 (i2 + (1 : Int))) ∧
 (0 ≤ i2 ∧ i2 ≤ i2 + (1 : Int) ∧ i2 + (1 : Int) ≤ ([97, 98, 99, 100, 101, 102, 103, 104, 105, 106, 107, 108, 109, 110, 111, 112, 113, 114, 115, 116] : List UInt8).length) ∧
 (((text ++ word) ++ ([115] : List UInt8)).length + ((([97, 98, 99, 100, 101, 102, 103, 104, 105, 106, 107, 108, 109, 110, 111, 112, 113, 114, 115, 116] : List UInt8).drop i2.toNat).take ((i2 + (1 : Int)).toNat - i2.toNat)).length ≤ 9223372036854775807) ∧
 ∃ J3 : Int → Prop, (((i2 = lacks2 → J3 (2 : Int)) ∧
 (¬ (i2 = lacks2) → J3 (1 : Int)))) ∧
 (∀ want : Int, J3 want → ∃ J4 : Int → Prop, (((lacks2 < i2 → J4 (3 : Int)) ∧
 (¬ (lacks2 < i2) → J4 want))) ∧
 (∀ want2 : Int, J4 want2 → (0 ≤ i2 ∧ i2 < (f.length : Nat)) ∧
 ((!decide (((f.getD i2.toNat (0, [], [])).1) = want2)) = false → (decide (want2 = (1 : Int))) = true → (0 ≤ i2 ∧ i2 < (f.length : Nat))) ∧
 ((((!decide (((f.getD i2.toNat (0, [], [])).1) = want2)) || ((decide (want2 = (1 : Int))) && (!decide (((f.getD i2.toNat (0, [], [])).2.1) = (((text ++ word) ++ ([115] : List UInt8)) ++ ((([97, 98, 99, 100, 101, 102, 103, 104, 105, 106, 107, 108, 109, 110, 111, 112, 113, 114, 115, 116] : List UInt8).drop i2.toNat).take ((i2 + (1 : Int)).toNat - i2.toNat))))))) = true → K false) ∧
 (((!decide (((f.getD i2.toNat (0, [], [])).1) = want2)) || ((decide (want2 = (1 : Int))) && (!decide (((f.getD i2.toNat (0, [], [])).2.1) = (((text ++ word) ++ ([115] : List UInt8)) ++ ((([97, 98, 99, 100, 101, 102, 103, 104, 105, 106, 107, 108, 109, 110, 111, 112, 113, 114, 115, 116] : List UInt8).drop i2.toNat).take ((i2 + (1 : Int)).toNat - i2.toNat))))))) = false → (In .i64 (i2 + (1 : Int))) ∧
 kont2 (((text ++ word) ++ ([115] : List UInt8)) ++ ((([97, 98, 99, 100, 101, 102, 103, 104, 105, 106, 107, 108, 109, 110, 111, 112, 113, 114, 115, 116] : List UInt8).drop i2.toNat).take ((i2 + (1 : Int)).toNat - i2.toNat))) (i2 + (1 : Int))))))) ∧
 (¬ (i2 < (t31 + (1 : Int))) → M_plan_Outputs t800_l t800_makers t800_before t800_after files (fun (t134 : List (List UInt8 × List UInt8)) =>
 K (decide ((t134.length : Int) = (if lacks2 < (t31 + (1 : Int)) then lacks2 else t31 + (1 : Int)))))))) ([] : List UInt8) (0 : Int)))))))) [] [] (0 : Int))))))))

set_option maxHeartbeats 8000000 in
theorem W_smithylaw26_PlanChains {S : List Nat} {w : World} {n : Int} {lacks : Int} {word : List UInt8} {K : Bool → Prop} (hG : GOK S w) (hS4 : 4 ∈ S) (hS6 : 6 ∈ S) (hS9 : 9 ∈ S) (hS10 : 10 ∈ S) (hS11 : 11 ∈ S) (hS16 : 16 ∈ S) (hS100 : 100 ∈ S) (hS101 : 101 ∈ S) (H : M_smithylaw26_PlanChains n lacks word K) : Fn Tryz.prog 4 ⟨[.int .i64 n, .int .i64 lacks, vs word]⟩ w (fun v w' => w.grownBy w' none ∧ ∃ (r : Bool), v = .bool r ∧ K r) := by
  unfold M_smithylaw26_PlanChains at H
  refine Fn.enter (by kernel_rfl) Tryz.func4 rfl Tryz.ntmps4 rfl ?_
  refine WC.seq ?_
  refine WC.region ?_
  refine WL.y rfl (Yld.pure tab_ok rfl) ?_
  refine WL.nil (WX.then_normal ?_)
  refine WC.seq ?_
  refine WC.region ?_
  refine WL.call rfl rfl (W_smithylaw26_first hG hS4 hS6 hS9 hS10 hS11 hS16 hS100 hS101 H) ?_
  rintro _ w1 ⟨hg1, ok, rfl, H⟩
  have gr1 := hg1
  refine WL.y rfl (Yld.pure tab_ok rfl) ?_
  refine WL.nil (WX.then_normal ?_)
  refine WC.seq ?_
  refine WC.seq ?_
  refine WC.region ?_
  refine WL.y rfl (Yld.pure tab_ok rfl) ?_
  refine WL.y rfl (Yld.pure tab_ok rfl) ?_
  refine WL.nil (WX.then_normal ?_)
  refine WC.cond rfl (fun b1 => ?_) (fun b1 => ?_)
  · replace H := H.1 (b1)
    refine WC.seq ?_
    refine WC.region ?_
    refine WL.y rfl (Yld.pure tab_ok rfl) ?_
    refine WL.nil (WX.then_normal ?_)
    refine WC.ret (WX.then_ret ?_)
    exact WX.ret1 rfl rfl ⟨gr1, false, rfl, H⟩
  · replace H := H.2 (b1)
    refine WC.skip (WX.then_normal ?_)
    refine WC.seq ?_
    refine WC.seq ?_
    refine WC.region ?_
    refine WL.y rfl (Yld.pure tab_ok rfl) ?_
    refine WL.y rfl (Yld.pure tab_ok rfl) ?_
    refine WL.y rfl (Yld.pure tab_ok rfl) ?_
    refine WL.y rfl (Yld.pure tab_ok rfl) ?_
    refine WL.midF 3 (fun L' w' => ∃ q1 : Bool, L' = [(28, .bool q1), (0, .int .i64 n), (1, .int .i64 lacks), (2, vs word), (7, .bool ok)] ∧ ((decide ((50 : Int) < (word.length : Int))) || (!ok)) = q1 ∧ w1 = w') ?_ (fun hQ => ?_)
    · rintro _ _ ⟨q1, rfl, rfl, rfl⟩
      refine WL.nil (WX.then_normal ?_)
      refine WC.cond rfl (fun b2 => ?_) (fun b2 => ?_)
      · replace H := H.1 (b2)
        refine WC.seq ?_
        refine WC.region ?_
        refine WL.y rfl (Yld.pure tab_ok rfl) ?_
        refine WL.y rfl (Yld.pure tab_ok rfl) ?_
        refine WL.nil (WX.then_normal ?_)
        refine WC.ret (WX.then_ret ?_)
        exact WX.ret1 rfl rfl ⟨gr1, ok, rfl, H⟩
      · replace H := H.2 (b2)
        refine WC.skip (WX.then_normal ?_)
        refine WC.seq ?_
        refine WC.region ?_
        refine WL.y rfl (Yld.pure tab_ok rfl) ?_
        refine WL.call rfl rfl (W_smithyworld_Number H) ?_
        rintro _ _ ⟨rfl, t31, rfl, H⟩
        obtain ⟨h1, H⟩ := H
        refine WL.y rfl (Yld.add rfl rfl h1) ?_
        refine WL.y rfl (Yld.pure tab_ok rfl) ?_
        refine WL.nil (WX.then_normal ?_)
        refine WC.seq ?_
        refine WC.region ?_
        refine WL.y rfl (Yld.pure tab_ok rfl) ?_
        refine WL.y rfl (Yld.pure tab_ok rfl) ?_
        obtain ⟨h2, H⟩ := H
        refine WL.y rfl (Yld.mul rfl rfl h2) ?_
        refine WL.call rfl rfl (W_smithyworld_Number H) ?_
        rintro _ _ ⟨rfl, lacks2, rfl, H⟩
        refine WL.y rfl (Yld.pure tab_ok rfl) ?_
        refine WL.nil (WX.then_normal ?_)
        refine WC.seq ?_
        refine WC.region ?_
        refine WL.y rfl (Yld.pure tab_ok rfl) ?_
        refine WL.nil (WX.then_normal ?_)
        refine WC.seq ?_
        refine WC.region ?_
        refine WL.y rfl (Yld.pure tab_ok rfl) ?_
        refine WL.nil (WX.then_normal ?_)
        refine WC.seq ?_
        refine WC.seq ?_
        refine WC.region ?_
        refine WL.y rfl (Yld.pure tab_ok rfl) ?_
        refine WL.nil (WX.then_normal ?_)
        refine WC.block ?_
        obtain ⟨I1, mu1, h0_1, HR1⟩ := H
        refine WC.loopF (fun n' L' w' => ∃ (l : List (Int × List (List UInt8) × List (List UInt8) × List UInt8)), ∃ (A_l : Option Addr), ∃ (c_l : Nat), ∃ (n_l : Nat), ∃ (hs_l : List (Int × Hdr × Hdr × List UInt8)), ∃ (files : List (List UInt8 × List UInt8)), ∃ (A_files : Option Addr), ∃ (c_files : Nat), ∃ (n_files : Nat), ∃ (i : Int), n' = mu1 l files i ∧ L' = [(0, .int .i64 (t31 + (1 : Int))), (1, .int .i64 lacks2), (2, vs word), (8, .slice A_l n_l c_l), (9, .slice A_files n_files c_files), (10, .int .i64 i)] ∧ I1 l files i ∧ n_l = l.length ∧ n_files = files.length ∧ w.grownBy w' none ∧ OwnK 4 encH43 w' w.heap.size 43 A_l c_l hs_l ∧ RelD de43 w' hs_l l ∧ OwnK 2 enc35 w' w.heap.size 35 A_files c_files files ∧ Dj (blk A_l) (blk A_files) ∧ DnD de43 hs_l l (blk A_l) ∧ DnD de43 hs_l l (blk A_files) ∧ NewD de43 hs_l l w.heap.size) _ _ ⟨[], none, 0, 0, [], [], none, 0, 0, (0 : Int), rfl, rfl, h0_1, rfl, rfl, gr1, (OwnK.nil encH43_ok w1 w.heap.size 43), (RelD.nil (d := de43) (w := w1)), (OwnK.nil enc35_ok w1 w.heap.size 35), Dj.nl, DnD.nil, DnD.nil, (NewD.nil (d := de43))⟩ (by repeat (first | exact Sub.nil | refine Sub.cons rfl ?_)) ?_
        clear h0_1
        rintro _ _ w2 ⟨l, A_l, c_l, n_l, hs_l, files, A_files, c_files, n_files, i, rfl, rfl, hI1, rfl, rfl, gr2, k1, k2, k3, dj1, dj2, dj3, or1⟩
        have H := HR1 l files i hI1
        refine WC.seq ?_
        refine WC.seq ?_
        refine WC.region ?_
        refine WL.y rfl (Yld.pure tab_ok rfl) ?_
        refine WL.y rfl (Yld.pure tab_ok rfl) ?_
        refine WL.y rfl (Yld.pure tab_ok rfl) ?_
        refine WL.nil (WX.then_normal ?_)
        refine WC.cond rfl (fun b3 => ?_) (fun b3 => ?_)
        · replace H := H.1 (of_decide_eq_true b3)
          refine WC.skip (WX.then_normal ?_)
          refine WC.seq ?_
          obtain ⟨J1, H, hJ1⟩ := H
          refine WC.midF (fun L' w' => ∃ (l2 : List (Int × List (List UInt8) × List (List UInt8) × List UInt8)), ∃ (A_l2 : Option Addr), ∃ (c_l2 : Nat), ∃ (n_l2 : Nat), ∃ (hs_l2 : List (Int × Hdr × Hdr × List UInt8)), ∃ (files2 : List (List UInt8 × List UInt8)), ∃ (A_files2 : Option Addr), ∃ (c_files2 : Nat), ∃ (n_files2 : Nat), L' = [(0, .int .i64 (t31 + (1 : Int))), (1, .int .i64 lacks2), (2, vs word), (8, .slice A_l2 n_l2 c_l2), (9, .slice A_files2 n_files2 c_files2), (10, .int .i64 i)] ∧ J1 l2 files2 ∧ n_l2 = l2.length ∧ n_files2 = files2.length ∧ w.grownBy w' none ∧ OwnK 4 encH43 w' w.heap.size 43 A_l2 c_l2 hs_l2 ∧ RelD de43 w' hs_l2 l2 ∧ OwnK 2 enc35 w' w.heap.size 35 A_files2 c_files2 files2 ∧ Dj (blk A_l2) (blk A_files2) ∧ DnD de43 hs_l2 l2 (blk A_l2) ∧ DnD de43 hs_l2 l2 (blk A_files2) ∧ NewD de43 hs_l2 l2 w.heap.size) ?_ (fun hQ => ?_)
          · clear H
            rintro _ w3 ⟨l2, A_l2, c_l2, n_l2, hs_l2, files2, A_files2, c_files2, n_files2, rfl, H, rfl, rfl, gr3, k4, k5, k6, dj4, dj5, dj6, or2⟩
            replace H := hJ1 l2 files2 H
            refine WX.then_normal ?_
            refine WC.region ?_
            refine WL.y rfl (Yld.pure tab_ok rfl) ?_
            obtain ⟨h3, H⟩ := H
            refine WL.y rfl (Yld.add rfl rfl h3) ?_
            refine WL.y rfl (Yld.pure tab_ok rfl) ?_
            refine WL.nil ?_
            exact WX.roundF _ ⟨l2, A_l2, c_l2, l2.length, hs_l2, files2, A_files2, c_files2, files2.length, i + (1 : Int), rfl, rfl, H.1, rfl, rfl, gr3, k4, k5, k6, dj4, dj5, dj6, or2⟩ (by repeat (first | exact Sub.nil | refine Sub.cons rfl ?_)) H.2
          · clear hJ1
            refine WC.block ?_
            refine WC.seq ?_
            refine WC.region ?_
            refine WL.y rfl (Yld.pure tab_ok rfl) ?_
            refine WL.y rfl (Yld.pure tab_ok rfl) ?_
            obtain ⟨h4, H⟩ := H
            refine WL.y rfl (Yld.add rfl rfl h4) ?_
            obtain ⟨h5, H⟩ := H
            refine WL.y rfl (Yld.scut tab_ok rfl rfl rfl rfl h5.1 h5.2.1 h5.2.2) ?_
            obtain ⟨h6, H⟩ := H
            refine WL.y rfl (Yld.sadd rfl rfl h6) ?_
            refine WL.y rfl (Yld.pure tab_ok rfl) ?_
            refine WL.nil (WX.then_normal ?_)
            refine WC.seq ?_
            refine WC.region ?_
            refine WL.y rfl (Yld.pure tab_ok rfl) ?_
            obtain ⟨h7, H⟩ := H
            refine WL.y rfl (Yld.sadd rfl rfl h7) ?_
            refine WL.y rfl (Yld.pure tab_ok rfl) ?_
            refine WL.lit tab_ok rfl rfl rfl (all1c rfl all1n) rfl (by omega) (fun g1 w4 hB1 hg2 hl1 => ?_)
            have hO1 : Own vs w4 w.heap.size 9 (some ⟨g1, 0, none⟩) 1 ([([115] : List UInt8) ++ ((([97, 98, 99, 100, 101, 102, 103, 104, 105, 106, 107, 108, 109, 110, 111, 112, 113, 114, 115, 116] : List UInt8).drop i.toNat).take ((i + (1 : Int)).toNat - i.toNat))] : List (List UInt8)) := Own.ofBl hB1 (Nat.le_trans (size_le gr2) hl1) (by simp [maxLen]) rfl
            have gr4 := gr_trans gr2 hg2
            have k7 := k1.grown hg2
            have k8 := k2.grown hg2
            have k9 := k3.grown hg2
            refine WL.y rfl (Yld.struct (us := [.int .i64 (1 : Int), .slice none 0 0, .slice (some ⟨g1, 0, none⟩) 1 1, vs (([111, 117, 116, 47] : List UInt8) ++ (([115] : List UInt8) ++ ((([97, 98, 99, 100, 101, 102, 103, 104, 105, 106, 107, 108, 109, 110, 111, 112, 113, 114, 115, 116] : List UInt8).drop i.toNat).take ((i + (1 : Int)).toNat - i.toNat))))]) zero43 places43 rfl rfl) ?_
            refine WL.alloc rfl zero43 (fun g2 w5 hB2 hg3 hl2 => ?_)
            have gr5 := gr_trans gr4 hg3
            have k10 := k7.grown hg3
            have k11 := k8.grown hg3
            have k12 := k9.grown hg3
            have k13 := hO1.grown hg3
            refine WL.storeW (vs := [.int .i64 (1 : Int), .slice none 0 0, .slice (some ⟨g1, 0, none⟩) 1 1, vs (([111, 117, 116, 47] : List UInt8) ++ (([115] : List UInt8) ++ ((([97, 98, 99, 100, 101, 102, 103, 104, 105, 106, 107, 108, 109, 110, 111, 112, 113, 114, 115, 116] : List UInt8).drop i.toNat).take ((i + (1 : Int)).toNat - i.toNat))))]) tab_ok rfl rfl rfl (all1c rfl (all1c rfl (all1c rfl (all1c rfl all1n)))) hB2 rfl rfl (fun w6 hB3 hg4 => ?_)
            have gr6 := gr_mod gr5 hg4 (Ge.le (Ge.box hl2) (size_le gr4))
            have k14 := k10.go hg4 (Dj.new k7.lt' (Ge.box hl2))
            have k15 := k11.go hg4 (k8.new (Ge.box hl2))
            have k16 := k12.go hg4 (Dj.new k9.lt' (Ge.box hl2))
            have k17 := k13.go hg4 (Dj.new hO1.lt' (Ge.box hl2))
            refine WL.nil (WX.then_normal ?_)
            refine WC.seq ?_
            obtain ⟨J2, H, hJ2⟩ := H
            refine WC.midF (fun L' w' => ∃ (a2 : List (List UInt8)), ∃ (A_a2 : Option Addr), ∃ (c_a2 : Nat), ∃ (n_a2 : Nat), L' = [(0, .int .i64 (t31 + (1 : Int))), (1, .int .i64 lacks2), (2, vs word), (8, .slice A_l l.length c_l), (9, .slice A_files files.length c_files), (10, .int .i64 i), (11, vs (([115] : List UInt8) ++ ((([97, 98, 99, 100, 101, 102, 103, 104, 105, 106, 107, 108, 109, 110, 111, 112, 113, 114, 115, 116] : List UInt8).drop i.toNat).take ((i + (1 : Int)).toNat - i.toNat)))), (12, .pointer (some ⟨g2, 0, none⟩))] ∧ J2 a2 ∧ n_a2 = a2.length ∧ w.grownBy w' none ∧ OwnK 4 encH43 w' w.heap.size 43 A_l c_l hs_l ∧ RelD de43 w' hs_l l ∧ OwnK 2 enc35 w' w.heap.size 35 A_files c_files files ∧ Bl w' g2 43 [.int .i64 (1 : Int), .slice none 0 0, .slice A_a2 n_a2 c_a2, vs (([111, 117, 116, 47] : List UInt8) ++ (([115] : List UInt8) ++ ((([97, 98, 99, 100, 101, 102, 103, 104, 105, 106, 107, 108, 109, 110, 111, 112, 113, 114, 115, 116] : List UInt8).drop i.toNat).take ((i + (1 : Int)).toNat - i.toNat))))] ∧ Own vs w' w.heap.size 9 A_a2 c_a2 a2 ∧ Dj (blk A_l) (blk A_files) ∧ Dj (blk A_l) (some g2) ∧ Dj (blk A_l) (blk A_a2) ∧ DnD de43 hs_l l (blk A_l) ∧ DnD de43 hs_l l (blk A_files) ∧ DnD de43 hs_l l (some g2) ∧ DnD de43 hs_l l (blk A_a2) ∧ Dj (blk A_files) (some g2) ∧ Dj (blk A_files) (blk A_a2) ∧ Dj (some g2) (blk A_a2) ∧ NewD de43 hs_l l w.heap.size) ?_ (fun hQ1 => ?_)
            · clear H
              rintro _ w7 ⟨a2, A_a2, c_a2, n_a2, rfl, H, rfl, gr7, k18, k19, k20, k21, k22, dj7, dj8, dj9, dj10, dj11, dj12, dj13, dj14, dj15, dj16, or3⟩
              replace H := hJ2 a2 H
              refine WX.then_normal ?_
              refine WC.seq ?_
              refine WC.region ?_
              refine WL.y rfl (Yld.pure tab_ok rfl) ?_
              refine WL.y rfl (Yld.bagg (vs := [.int .i64 (1 : Int), .slice none 0 0, .slice A_a2 a2.length c_a2, vs (([111, 117, 116, 47] : List UInt8) ++ (([115] : List UInt8) ++ ((([97, 98, 99, 100, 101, 102, 103, 104, 105, 106, 107, 108, 109, 110, 111, 112, 113, 114, 115, 116] : List UInt8).drop i.toNat).take ((i + (1 : Int)).toNat - i.toNat))))]) tab_ok k21 rfl rfl rfl rfl) ?_
              refine WL.litK (f := encH43) ([((1 : Int), ⟨none, 0, 0⟩, ⟨A_a2, a2.length, c_a2⟩, ([111, 117, 116, 47] : List UInt8) ++ (([115] : List UInt8) ++ ((([97, 98, 99, 100, 101, 102, 103, 104, 105, 106, 107, 108, 109, 110, 111, 112, 113, 114, 115, 116] : List UInt8).drop i.toNat).take ((i + (1 : Int)).toNat - i.toNat))))] : List (Int × Hdr × Hdr × List UInt8)) encH43_ok rfl ow22 rfl rfl rfl (fun g4 w9 hB5 hg6 hl4 => ?_)
              have hO3 : OwnK 4 encH43 w9 w.heap.size 43 (some ⟨g4, 0, none⟩) 1 ([((1 : Int), ⟨none, 0, 0⟩, ⟨A_a2, a2.length, c_a2⟩, ([111, 117, 116, 47] : List UInt8) ++ (([115] : List UInt8) ++ ((([97, 98, 99, 100, 101, 102, 103, 104, 105, 106, 107, 108, 109, 110, 111, 112, 113, 114, 115, 116] : List UInt8).drop i.toNat).take ((i + (1 : Int)).toNat - i.toNat))))] : List (Int × Hdr × Hdr × List UInt8)) := OwnK.ofBl encH43_ok hB5 (Nat.le_trans (size_le gr7) hl4) (by simp [maxLen]) rfl
              have gr8 := gr_trans gr7 hg6
              have k23 := k18.grown hg6
              have k24 := k19.grown hg6
              have k25 := k20.grown hg6
              have k26 := k22.grown hg6
              have hr1 : RelD de43 w9 ([((1 : Int), ⟨none, 0, 0⟩, ⟨A_a2, a2.length, c_a2⟩, ([111, 117, 116, 47] : List UInt8) ++ (([115] : List UInt8) ++ ((([97, 98, 99, 100, 101, 102, 103, 104, 105, 106, 107, 108, 109, 110, 111, 112, 113, 114, 115, 116] : List UInt8).drop i.toNat).take ((i + (1 : Int)).toNat - i.toNat))))] : List (Int × Hdr × Hdr × List UInt8)) ([((1 : Int), [], a2, ([111, 117, 116, 47] : List UInt8) ++ (([115] : List UInt8) ++ ((([97, 98, 99, 100, 101, 102, 103, 104, 105, 106, 107, 108, 109, 110, 111, 112, 113, 114, 115, 116] : List UInt8).drop i.toNat).take ((i + (1 : Int)).toNat - i.toNat))))] : List (Int × List (List UInt8) × List (List UInt8) × List UInt8)) := (RelD.cons ⟨rfl, ⟨rfl, (Own.nil vs w9 w.heap.size 9).rd⟩, ⟨rfl, k26.rd⟩, rfl⟩ RelD.nil)
              have nd1 : NewD de43 ([((1 : Int), ⟨none, 0, 0⟩, ⟨A_a2, a2.length, c_a2⟩, ([111, 117, 116, 47] : List UInt8) ++ (([115] : List UInt8) ++ ((([97, 98, 99, 100, 101, 102, 103, 104, 105, 106, 107, 108, 109, 110, 111, 112, 113, 114, 115, 116] : List UInt8).drop i.toNat).take ((i + (1 : Int)).toNat - i.toNat))))] : List (Int × Hdr × Hdr × List UInt8)) ([((1 : Int), [], a2, ([111, 117, 116, 47] : List UInt8) ++ (([115] : List UInt8) ++ ((([97, 98, 99, 100, 101, 102, 103, 104, 105, 106, 107, 108, 109, 110, 111, 112, 113, 114, 115, 116] : List UInt8).drop i.toNat).take ((i + (1 : Int)).toNat - i.toNat))))] : List (Int × List (List UInt8) × List (List UInt8) × List UInt8)) w.heap.size := (NewD.cons (d := de43) (fun p_ hp_ => ⟨trivial, (fun h => absurd rfl h), (Dn.of (Dj.new hp_ k26.ge').symm), trivial⟩) NewD.nil)
              have dj17 : DnD de43 ([((1 : Int), ⟨none, 0, 0⟩, ⟨A_a2, a2.length, c_a2⟩, ([111, 117, 116, 47] : List UInt8) ++ (([115] : List UInt8) ++ ((([97, 98, 99, 100, 101, 102, 103, 104, 105, 106, 107, 108, 109, 110, 111, 112, 113, 114, 115, 116] : List UInt8).drop i.toNat).take ((i + (1 : Int)).toNat - i.toNat))))] : List (Int × Hdr × Hdr × List UInt8)) ([((1 : Int), [], a2, ([111, 117, 116, 47] : List UInt8) ++ (([115] : List UInt8) ++ ((([97, 98, 99, 100, 101, 102, 103, 104, 105, 106, 107, 108, 109, 110, 111, 112, 113, 114, 115, 116] : List UInt8).drop i.toNat).take ((i + (1 : Int)).toNat - i.toNat))))] : List (Int × List (List UInt8) × List (List UInt8) × List UInt8)) (blk A_l) := (DnD.cons (d := de43) ⟨trivial, (Dn.of Dj.nl), (Dn.of dj9.symm), trivial⟩ DnD.nil)
              have dj18 : DnD de43 ([((1 : Int), ⟨none, 0, 0⟩, ⟨A_a2, a2.length, c_a2⟩, ([111, 117, 116, 47] : List UInt8) ++ (([115] : List UInt8) ++ ((([97, 98, 99, 100, 101, 102, 103, 104, 105, 106, 107, 108, 109, 110, 111, 112, 113, 114, 115, 116] : List UInt8).drop i.toNat).take ((i + (1 : Int)).toNat - i.toNat))))] : List (Int × Hdr × Hdr × List UInt8)) ([((1 : Int), [], a2, ([111, 117, 116, 47] : List UInt8) ++ (([115] : List UInt8) ++ ((([97, 98, 99, 100, 101, 102, 103, 104, 105, 106, 107, 108, 109, 110, 111, 112, 113, 114, 115, 116] : List UInt8).drop i.toNat).take ((i + (1 : Int)).toNat - i.toNat))))] : List (Int × List (List UInt8) × List (List UInt8) × List UInt8)) (blk A_files) := (DnD.cons (d := de43) ⟨trivial, (Dn.of Dj.nl), (Dn.of dj15.symm), trivial⟩ DnD.nil)
              have dj19 : DnD de43 ([((1 : Int), ⟨none, 0, 0⟩, ⟨A_a2, a2.length, c_a2⟩, ([111, 117, 116, 47] : List UInt8) ++ (([115] : List UInt8) ++ ((([97, 98, 99, 100, 101, 102, 103, 104, 105, 106, 107, 108, 109, 110, 111, 112, 113, 114, 115, 116] : List UInt8).drop i.toNat).take ((i + (1 : Int)).toNat - i.toNat))))] : List (Int × Hdr × Hdr × List UInt8)) ([((1 : Int), [], a2, ([111, 117, 116, 47] : List UInt8) ++ (([115] : List UInt8) ++ ((([97, 98, 99, 100, 101, 102, 103, 104, 105, 106, 107, 108, 109, 110, 111, 112, 113, 114, 115, 116] : List UInt8).drop i.toNat).take ((i + (1 : Int)).toNat - i.toNat))))] : List (Int × List (List UInt8) × List (List UInt8) × List UInt8)) (blk (some ⟨g4, 0, none⟩)) := (DnD.cons (d := de43) ⟨trivial, (Dn.of Dj.nl), (Dn.of (Dj.new k22.lt' (Ge.box hl4))), trivial⟩ DnD.nil)
              obtain ⟨h8, H⟩ := H
              have h9 : ((hs_l : List (Int × Hdr × Hdr × List UInt8)).length + ([((1 : Int), ⟨none, 0, 0⟩, ⟨A_a2, a2.length, c_a2⟩, ([111, 117, 116, 47] : List UInt8) ++ (([115] : List UInt8) ++ ((([97, 98, 99, 100, 101, 102, 103, 104, 105, 106, 107, 108, 109, 110, 111, 112, 113, 114, 115, 116] : List UInt8).drop i.toNat).take ((i + (1 : Int)).toNat - i.toNat))))] : List (Int × Hdr × Hdr × List UInt8)).length) * 72 ≤ 140737488355328 := by rw [k24.1, hr1.1]; exact h8
              refine WL.appendK rfl ow22 k23 rfl k2.1.symm hO3.rd rfl rfl h9 (applen h9) (size_le gr8) (fun A_l3 c_l3 w10 hO4 hg7 hk1 => ?_)
              have el1 : (hs_l ++ ([((1 : Int), ⟨none, 0, 0⟩, ⟨A_a2, a2.length, c_a2⟩, ([111, 117, 116, 47] : List UInt8) ++ (([115] : List UInt8) ++ ((([97, 98, 99, 100, 101, 102, 103, 104, 105, 106, 107, 108, 109, 110, 111, 112, 113, 114, 115, 116] : List UInt8).drop i.toNat).take ((i + (1 : Int)).toNat - i.toNat))))] : List (Int × Hdr × Hdr × List UInt8))).length = (l ++ ([((1 : Int), [], a2, ([111, 117, 116, 47] : List UInt8) ++ (([115] : List UInt8) ++ ((([97, 98, 99, 100, 101, 102, 103, 104, 105, 106, 107, 108, 109, 110, 111, 112, 113, 114, 115, 116] : List UInt8).drop i.toNat).take ((i + (1 : Int)).toNat - i.toNat))))] : List (Int × List (List UInt8) × List (List UInt8) × List UInt8))).length := by rw [List.length_append, List.length_append, k24.1, hr1.1]
              rw [el1]
              have gr9 := gr_mod gr8 hg7 k23.ge'
              have k27 := k24.go hg7 dj10
              have k28 := k25.go hg7 dj7.symm
              have k29 := hr1.go hg7 dj17
              have hr2 : RelD de43 w10 (hs_l ++ ([((1 : Int), ⟨none, 0, 0⟩, ⟨A_a2, a2.length, c_a2⟩, ([111, 117, 116, 47] : List UInt8) ++ (([115] : List UInt8) ++ ((([97, 98, 99, 100, 101, 102, 103, 104, 105, 106, 107, 108, 109, 110, 111, 112, 113, 114, 115, 116] : List UInt8).drop i.toNat).take ((i + (1 : Int)).toNat - i.toNat))))] : List (Int × Hdr × Hdr × List UInt8))) (l ++ ([((1 : Int), [], a2, ([111, 117, 116, 47] : List UInt8) ++ (([115] : List UInt8) ++ ((([97, 98, 99, 100, 101, 102, 103, 104, 105, 106, 107, 108, 109, 110, 111, 112, 113, 114, 115, 116] : List UInt8).drop i.toNat).take ((i + (1 : Int)).toNat - i.toNat))))] : List (Int × List (List UInt8) × List (List UInt8) × List UInt8))) := RelD.append k27 k29
              have nd2 : NewD de43 (hs_l ++ ([((1 : Int), ⟨none, 0, 0⟩, ⟨A_a2, a2.length, c_a2⟩, ([111, 117, 116, 47] : List UInt8) ++ (([115] : List UInt8) ++ ((([97, 98, 99, 100, 101, 102, 103, 104, 105, 106, 107, 108, 109, 110, 111, 112, 113, 114, 115, 116] : List UInt8).drop i.toNat).take ((i + (1 : Int)).toNat - i.toNat))))] : List (Int × Hdr × Hdr × List UInt8))) (l ++ ([((1 : Int), [], a2, ([111, 117, 116, 47] : List UInt8) ++ (([115] : List UInt8) ++ ((([97, 98, 99, 100, 101, 102, 103, 104, 105, 106, 107, 108, 109, 110, 111, 112, 113, 114, 115, 116] : List UInt8).drop i.toNat).take ((i + (1 : Int)).toNat - i.toNat))))] : List (Int × List (List UInt8) × List (List UInt8) × List UInt8))) w.heap.size := NewD.append k24.1 or3 nd1
              have dj20 : DnD de43 (hs_l ++ ([((1 : Int), ⟨none, 0, 0⟩, ⟨A_a2, a2.length, c_a2⟩, ([111, 117, 116, 47] : List UInt8) ++ (([115] : List UInt8) ++ ((([97, 98, 99, 100, 101, 102, 103, 104, 105, 106, 107, 108, 109, 110, 111, 112, 113, 114, 115, 116] : List UInt8).drop i.toNat).take ((i + (1 : Int)).toNat - i.toNat))))] : List (Int × Hdr × Hdr × List UInt8))) (l ++ ([((1 : Int), [], a2, ([111, 117, 116, 47] : List UInt8) ++ (([115] : List UInt8) ++ ((([97, 98, 99, 100, 101, 102, 103, 104, 105, 106, 107, 108, 109, 110, 111, 112, 113, 114, 115, 116] : List UInt8).drop i.toNat).take ((i + (1 : Int)).toNat - i.toNat))))] : List (Int × List (List UInt8) × List (List UInt8) × List UInt8))) (blk A_files) := (DnD.append k24.1 dj11 dj18)
              have dj21 : DnD de43 (hs_l ++ ([((1 : Int), ⟨none, 0, 0⟩, ⟨A_a2, a2.length, c_a2⟩, ([111, 117, 116, 47] : List UInt8) ++ (([115] : List UInt8) ++ ((([97, 98, 99, 100, 101, 102, 103, 104, 105, 106, 107, 108, 109, 110, 111, 112, 113, 114, 115, 116] : List UInt8).drop i.toNat).take ((i + (1 : Int)).toNat - i.toNat))))] : List (Int × Hdr × Hdr × List UInt8))) (l ++ ([((1 : Int), [], a2, ([111, 117, 116, 47] : List UInt8) ++ (([115] : List UInt8) ++ ((([97, 98, 99, 100, 101, 102, 103, 104, 105, 106, 107, 108, 109, 110, 111, 112, 113, 114, 115, 116] : List UInt8).drop i.toNat).take ((i + (1 : Int)).toNat - i.toNat))))] : List (Int × List (List UInt8) × List (List UInt8) × List UInt8))) (blk (some ⟨g4, 0, none⟩)) := (DnD.append k24.1 (k19.new (Ge.box hl4)) dj19)
              have dj22 : DnD de43 (hs_l ++ ([((1 : Int), ⟨none, 0, 0⟩, ⟨A_a2, a2.length, c_a2⟩, ([111, 117, 116, 47] : List UInt8) ++ (([115] : List UInt8) ++ ((([97, 98, 99, 100, 101, 102, 103, 104, 105, 106, 107, 108, 109, 110, 111, 112, 113, 114, 115, 116] : List UInt8).drop i.toNat).take ((i + (1 : Int)).toNat - i.toNat))))] : List (Int × Hdr × Hdr × List UInt8))) (l ++ ([((1 : Int), [], a2, ([111, 117, 116, 47] : List UInt8) ++ (([115] : List UInt8) ++ ((([97, 98, 99, 100, 101, 102, 103, 104, 105, 106, 107, 108, 109, 110, 111, 112, 113, 114, 115, 116] : List UInt8).drop i.toNat).take ((i + (1 : Int)).toNat - i.toNat))))] : List (Int × List (List UInt8) × List (List UInt8) × List UInt8))) (blk A_l3) := (DnD.append k24.1 (RelD.app k24 dj10 hk1) (RelD.app hr1 dj17 hk1))
              refine WL.y rfl (Yld.pure tab_ok rfl) ?_
              refine WL.nil (WX.then_normal ?_)
              refine WC.seq ?_
              refine WC.region ?_
              refine WL.y rfl (Yld.pure tab_ok rfl) ?_
              refine WL.y rfl (Yld.pure tab_ok rfl) ?_
              refine WL.y rfl (Yld.pure tab_ok rfl) ?_
              refine WL.nil (WX.then_normal ?_)
              refine WC.cond rfl (fun b4 => ?_) (fun b4 => ?_)
              · replace H := H.1 (nd_true b4)
                refine WC.region ?_
                refine WL.y rfl (Yld.pure tab_ok rfl) ?_
                refine WL.y rfl (Yld.pure tab_ok rfl) ?_
                refine WL.y rfl (Yld.pure tab_ok rfl) ?_
                refine WL.y rfl (Yld.pure tab_ok rfl) ?_
                obtain ⟨h10, H⟩ := H
                refine WL.y rfl (Yld.sadd rfl rfl h10) ?_
                refine WL.y rfl (Yld.struct (us := [vs (([115] : List UInt8) ++ ((([97, 98, 99, 100, 101, 102, 103, 104, 105, 106, 107, 108, 109, 110, 111, 112, 113, 114, 115, 116] : List UInt8).drop i.toNat).take ((i + (1 : Int)).toNat - i.toNat))), vs (word ++ (([115] : List UInt8) ++ ((([97, 98, 99, 100, 101, 102, 103, 104, 105, 106, 107, 108, 109, 110, 111, 112, 113, 114, 115, 116] : List UInt8).drop i.toNat).take ((i + (1 : Int)).toNat - i.toNat))))]) zero35 places35 rfl rfl) ?_
                refine WL.litK (f := enc35) ([(([115] : List UInt8) ++ ((([97, 98, 99, 100, 101, 102, 103, 104, 105, 106, 107, 108, 109, 110, 111, 112, 113, 114, 115, 116] : List UInt8).drop i.toNat).take ((i + (1 : Int)).toNat - i.toNat)), word ++ (([115] : List UInt8) ++ ((([97, 98, 99, 100, 101, 102, 103, 104, 105, 106, 107, 108, 109, 110, 111, 112, 113, 114, 115, 116] : List UInt8).drop i.toNat).take ((i + (1 : Int)).toNat - i.toNat))))] : List (List UInt8 × List UInt8)) enc35_ok rfl ow23 rfl rfl rfl (fun g5 w11 hB6 hg8 hl5 => ?_)
                have hO5 : OwnK 2 enc35 w11 w.heap.size 35 (some ⟨g5, 0, none⟩) 1 ([(([115] : List UInt8) ++ ((([97, 98, 99, 100, 101, 102, 103, 104, 105, 106, 107, 108, 109, 110, 111, 112, 113, 114, 115, 116] : List UInt8).drop i.toNat).take ((i + (1 : Int)).toNat - i.toNat)), word ++ (([115] : List UInt8) ++ ((([97, 98, 99, 100, 101, 102, 103, 104, 105, 106, 107, 108, 109, 110, 111, 112, 113, 114, 115, 116] : List UInt8).drop i.toNat).take ((i + (1 : Int)).toNat - i.toNat))))] : List (List UInt8 × List UInt8)) := OwnK.ofBl enc35_ok hB6 (Nat.le_trans (size_le gr9) hl5) (by simp [maxLen]) rfl
                have gr10 := gr_trans gr9 hg8
                have k30 := k28.grown hg8
                have k31 := hO4.grown hg8
                have k32 := hr2.grown hg8
                obtain ⟨h11, H⟩ := H
                refine WL.appendK rfl ow23 k30 rfl rfl hO5.rd rfl rfl h11 (applen h11) (size_le gr10) (fun A_files3 c_files3 w12 hO6 hg9 hk2 => ?_)
                have gr11 := gr_mod gr10 hg9 k30.ge'
                have k33 := k31.go hg9 (Dj.app dj7 k25.lt' hk1)
                have k34 := k32.go hg9 dj20
                refine WL.y rfl (Yld.pure tab_ok rfl) ?_
                refine WL.nil (WX.block_normal ?_)
                exact WX.weaken (by repeat (first | exact Sub.nil | refine Sub.cons rfl ?_)) (hQ _ _ ⟨l ++ ([((1 : Int), [], a2, ([111, 117, 116, 47] : List UInt8) ++ (([115] : List UInt8) ++ ((([97, 98, 99, 100, 101, 102, 103, 104, 105, 106, 107, 108, 109, 110, 111, 112, 113, 114, 115, 116] : List UInt8).drop i.toNat).take ((i + (1 : Int)).toNat - i.toNat))))] : List (Int × List (List UInt8) × List (List UInt8) × List UInt8)), A_l3, c_l3, (l ++ ([((1 : Int), [], a2, ([111, 117, 116, 47] : List UInt8) ++ (([115] : List UInt8) ++ ((([97, 98, 99, 100, 101, 102, 103, 104, 105, 106, 107, 108, 109, 110, 111, 112, 113, 114, 115, 116] : List UInt8).drop i.toNat).take ((i + (1 : Int)).toNat - i.toNat))))] : List (Int × List (List UInt8) × List (List UInt8) × List UInt8))).length, hs_l ++ ([((1 : Int), ⟨none, 0, 0⟩, ⟨A_a2, a2.length, c_a2⟩, ([111, 117, 116, 47] : List UInt8) ++ (([115] : List UInt8) ++ ((([97, 98, 99, 100, 101, 102, 103, 104, 105, 106, 107, 108, 109, 110, 111, 112, 113, 114, 115, 116] : List UInt8).drop i.toNat).take ((i + (1 : Int)).toNat - i.toNat))))] : List (Int × Hdr × Hdr × List UInt8)), files ++ ([(([115] : List UInt8) ++ ((([97, 98, 99, 100, 101, 102, 103, 104, 105, 106, 107, 108, 109, 110, 111, 112, 113, 114, 115, 116] : List UInt8).drop i.toNat).take ((i + (1 : Int)).toNat - i.toNat)), word ++ (([115] : List UInt8) ++ ((([97, 98, 99, 100, 101, 102, 103, 104, 105, 106, 107, 108, 109, 110, 111, 112, 113, 114, 115, 116] : List UInt8).drop i.toNat).take ((i + (1 : Int)).toNat - i.toNat))))] : List (List UInt8 × List UInt8)), A_files3, c_files3, (files ++ ([(([115] : List UInt8) ++ ((([97, 98, 99, 100, 101, 102, 103, 104, 105, 106, 107, 108, 109, 110, 111, 112, 113, 114, 115, 116] : List UInt8).drop i.toNat).take ((i + (1 : Int)).toNat - i.toNat)), word ++ (([115] : List UInt8) ++ ((([97, 98, 99, 100, 101, 102, 103, 104, 105, 106, 107, 108, 109, 110, 111, 112, 113, 114, 115, 116] : List UInt8).drop i.toNat).take ((i + (1 : Int)).toNat - i.toNat))))] : List (List UInt8 × List UInt8))).length, rfl, H, rfl, rfl, gr11, k33, k34, hO6, (Dj.app (Dj.app dj7 k25.lt' hk1).symm k31.lt' hk2).symm, dj22, (RelD.app k32 dj20 hk2), nd2⟩)
              · replace H := H.2 (nd_false b4)
                refine WC.skip (WX.block_normal ?_)
                exact WX.weaken (by repeat (first | exact Sub.nil | refine Sub.cons rfl ?_)) (hQ _ _ ⟨l ++ ([((1 : Int), [], a2, ([111, 117, 116, 47] : List UInt8) ++ (([115] : List UInt8) ++ ((([97, 98, 99, 100, 101, 102, 103, 104, 105, 106, 107, 108, 109, 110, 111, 112, 113, 114, 115, 116] : List UInt8).drop i.toNat).take ((i + (1 : Int)).toNat - i.toNat))))] : List (Int × List (List UInt8) × List (List UInt8) × List UInt8)), A_l3, c_l3, (l ++ ([((1 : Int), [], a2, ([111, 117, 116, 47] : List UInt8) ++ (([115] : List UInt8) ++ ((([97, 98, 99, 100, 101, 102, 103, 104, 105, 106, 107, 108, 109, 110, 111, 112, 113, 114, 115, 116] : List UInt8).drop i.toNat).take ((i + (1 : Int)).toNat - i.toNat))))] : List (Int × List (List UInt8) × List (List UInt8) × List UInt8))).length, hs_l ++ ([((1 : Int), ⟨none, 0, 0⟩, ⟨A_a2, a2.length, c_a2⟩, ([111, 117, 116, 47] : List UInt8) ++ (([115] : List UInt8) ++ ((([97, 98, 99, 100, 101, 102, 103, 104, 105, 106, 107, 108, 109, 110, 111, 112, 113, 114, 115, 116] : List UInt8).drop i.toNat).take ((i + (1 : Int)).toNat - i.toNat))))] : List (Int × Hdr × Hdr × List UInt8)), files, A_files, c_files, files.length, rfl, H, rfl, rfl, gr9, hO4, hr2, k28, (Dj.app dj7 k25.lt' hk1), dj22, dj20, nd2⟩)
            · clear hJ2
              refine WC.seq ?_
              refine WC.region ?_
              refine WL.y rfl (Yld.pure tab_ok rfl) ?_
              refine WL.y rfl (Yld.pure tab_ok rfl) ?_
              refine WL.nil (WX.then_normal ?_)
              refine WC.cond rfl (fun b5 => ?_) (fun b5 => ?_)
              · replace H := H.1 (of_decide_eq_true b5)
                refine WC.region ?_
                refine WL.y rfl (Yld.pure tab_ok rfl) ?_
                refine WL.y rfl (Yld.pure tab_ok rfl) ?_
                obtain ⟨h12, H⟩ := H
                refine WL.y rfl (Yld.sub rfl rfl h12) ?_
                obtain ⟨h13, H⟩ := H
                refine WL.y rfl (Yld.iaddrK tab_ok k14.rd rfl rfl k2.1.symm rfl h13.1 h13.2) ?_
                refine WL.y rfl (Yld.faddrK tab_ok k14.rd (iltN h13 k2.1.symm) rfl rfl rfl) ?_
                obtain ⟨⟨f1, ⟨A_el, n1, c_el⟩, ⟨A_el2, n2, c_el2⟩, f2⟩, eh1, ⟨en1, ⟨en2, hR1⟩, ⟨en3, hR2⟩, en4⟩⟩ := RelD.at k15 (0, hd0, hd0, []) (0, [], [], []) (j := (i - (1 : Int)).toNat) (Nat.lt_of_lt_of_eq (iltN h13 k2.1.symm) k15.1)
                have en1 : f1 = (l.getD ((i - (1 : Int)).toNat) (0, [], [], [])).1 := en1
                subst en1
                have en2 : n1 = ((l.getD ((i - (1 : Int)).toNat) (0, [], [], [])).2.1).length := en2
                subst en2
                have en3 : n2 = ((l.getD ((i - (1 : Int)).toNat) (0, [], [], [])).2.2.1).length := en3
                subst en3
                have en4 : f2 = (l.getD ((i - (1 : Int)).toNat) (0, [], [], [])).2.2.2 := en4
                subst en4
                refine WL.y rfl (Yld.iloadF (v := vs ((l.getD ((i - (1 : Int)).toNat) (0, [], [], [])).2.2.2)) (0, hd0, hd0, []) tab_ok k14.rd rfl rfl (iltN h13 k2.1.symm) (by rw [eh1]; rfl)) ?_
                refine WL.y rfl (Yld.pure tab_ok rfl) ?_
                refine WL.lit tab_ok rfl rfl rfl (all1c rfl (all1c rfl all1n)) rfl (by omega) (fun g6 w13 hB7 hg10 hl6 => ?_)
                have hO7 : Own vs w13 w.heap.size 9 (some ⟨g6, 0, none⟩) 2 ([(l.getD ((i - (1 : Int)).toNat) (0, [], [], [])).2.2.2, ([115] : List UInt8) ++ ((([97, 98, 99, 100, 101, 102, 103, 104, 105, 106, 107, 108, 109, 110, 111, 112, 113, 114, 115, 116] : List UInt8).drop i.toNat).take ((i + (1 : Int)).toNat - i.toNat))] : List (List UInt8)) := Own.ofBl hB7 (Nat.le_trans (size_le gr6) hl6) (by simp [maxLen]) rfl
                have gr12 := gr_trans gr6 hg10
                have k35 := k14.grown hg10
                have k36 := k15.grown hg10
                have k37 := k16.grown hg10
                have k38 := k17.grown hg10
                have k39 := hB3.g0 hg10
                refine WL.y rfl (Yld.pure tab_ok rfl) ?_
                refine WL.store1 one41 rfl rfl rfl k39 (by simp) (fun w14 hB9 hg11 => ?_)
                have hB8 : Bl w14 g2 43 [.int .i64 (1 : Int), .slice none 0 0, .slice (some ⟨g6, 0, none⟩) 2 2, vs (([111, 117, 116, 47] : List UInt8) ++ (([115] : List UInt8) ++ ((([97, 98, 99, 100, 101, 102, 103, 104, 105, 106, 107, 108, 109, 110, 111, 112, 113, 114, 115, 116] : List UInt8).drop i.toNat).take ((i + (1 : Int)).toNat - i.toNat))))] := hB9
                have gr13 := gr_mod gr12 hg11 (Ge.le (Ge.box hl2) (size_le gr4))
                have k40 := k35.go hg11 (Dj.new k7.lt' (Ge.box hl2))
                have k41 := k36.go hg11 (k8.new (Ge.box hl2))
                have k42 := k37.go hg11 (Dj.new k9.lt' (Ge.box hl2))
                have k43 := hO7.go hg11 ((Dj.new hB3.lt' (Ge.box hl6)).symm)
                refine WL.nil ?_
                exact WX.weaken (by repeat (first | exact Sub.nil | refine Sub.cons rfl ?_)) (hQ1 _ _ ⟨([(l.getD ((i - (1 : Int)).toNat) (0, [], [], [])).2.2.2, ([115] : List UInt8) ++ ((([97, 98, 99, 100, 101, 102, 103, 104, 105, 106, 107, 108, 109, 110, 111, 112, 113, 114, 115, 116] : List UInt8).drop i.toNat).take ((i + (1 : Int)).toNat - i.toNat))] : List (List UInt8)), (some ⟨g6, 0, none⟩), 2, 2, rfl, H, rfl, gr13, k40, k41, k42, hB8, k43, dj1, (Dj.new k7.lt' (Ge.box hl2)), (Dj.new k14.lt' (Ge.box hl6)), dj2, dj3, (k8.new (Ge.box hl2)), (k15.new (Ge.box hl6)), (Dj.new k9.lt' (Ge.box hl2)), (Dj.new k16.lt' (Ge.box hl6)), (Dj.new hB3.lt' (Ge.box hl6)), or1⟩)
              · replace H := H.2 (of_decide_eq_false b5)
                refine WC.skip ?_
                exact WX.weaken (by repeat (first | exact Sub.nil | refine Sub.cons rfl ?_)) (hQ1 _ _ ⟨([([115] : List UInt8) ++ ((([97, 98, 99, 100, 101, 102, 103, 104, 105, 106, 107, 108, 109, 110, 111, 112, 113, 114, 115, 116] : List UInt8).drop i.toNat).take ((i + (1 : Int)).toNat - i.toNat))] : List (List UInt8)), (some ⟨g1, 0, none⟩), 1, 1, rfl, H, rfl, gr6, k14, k15, k16, hB3, k17, dj1, (Dj.new k7.lt' (Ge.box hl2)), (Dj.new k1.lt' (Ge.box hl1)), dj2, dj3, (k8.new (Ge.box hl2)), (k2.new (Ge.box hl1)), (Dj.new k9.lt' (Ge.box hl2)), (Dj.new k3.lt' (Ge.box hl1)), (Dj.new hO1.lt' (Ge.box hl2)).symm, or1⟩)
        · replace H := H.2 (of_decide_eq_false b3)
          refine WC.exit (WX.then_exit (WX.then_exit (WX.block_same (WX.then_normal ?_))))
          refine WC.seq ?_
          refine WC.region ?_
          refine WL.y rfl (Yld.pure tab_ok rfl) ?_
          refine WL.call rfl rfl (W_graph_New (hG.grown gr2) hS4 hS6 hS9 hS10 hS11 hS100 k1.rd rfl k2 H) ?_
          rintro v_ w15 ⟨hg_, hc_ | hc_⟩
          · obtain ⟨v_t801, t801, rfl, ht801, H⟩ := hc_
            have hg12 := hg_
            have gr14 := gr_trans gr2 hg12
            have k44 := k3.grown hg12
            refine WL.y rfl (Yld.pure tab_ok rfl) ?_
            refine WL.y rfl (Yld.pure tab_ok rfl) ?_
            refine WL.y rfl (Yld.pure tab_ok rfl) ?_
            refine WL.y rfl (Yld.pure tab_ok rfl) ?_
            refine WL.y rfl (Yld.pure tab_ok rfl) ?_
            refine WL.nil (WX.then_normal ?_)
            refine WC.seq ?_
            refine WC.seq ?_
            refine WC.region ?_
            refine WL.y rfl (Yld.pure tab_ok rfl) ?_
            refine WL.y rfl (Yld.peqnil Tryz.underlying27 rfl rfl) ?_
            refine WL.y rfl (Yld.pure tab_ok rfl) ?_
            refine WL.midF 3 (fun L' w' => ∃ q2 : Bool, L' = [(88, .bool q2), (0, .int .i64 (t31 + (1 : Int))), (1, .int .i64 lacks2), (2, vs word), (9, .slice A_files files.length c_files), (13, .pointer none)] ∧ true = q2 ∧ w15 = w') ?_ (fun hQ => ?_)
            · rintro _ _ ⟨q2, rfl, rfl, rfl⟩
              refine WL.nil (WX.then_normal ?_)
              refine WC.cond rfl (fun _ => ?_) (fun h => by cases h)
              refine WC.seq ?_
              refine WC.region ?_
              refine WL.y rfl (Yld.pure tab_ok rfl) ?_
              refine WL.nil (WX.then_normal ?_)
              refine WC.ret (WX.then_ret ?_)
              exact WX.ret1 rfl rfl ⟨gr14, false, rfl, H⟩
            · clear H
              refine WL.gno rfl rfl (rfl) rfl ?_
              refine WL.gno rfl rfl (rfl) rfl ?_
              refine WL.y rfl (Yld.pickT (rfl) rfl) ?_
              exact WL.weaken (by repeat (first | exact Sub.nil | refine Sub.cons rfl ?_)) (hQ _ _ ⟨true, rfl, rfl, rfl⟩)
          · obtain ⟨g_t800, t800_l, A_t800_l, c_t800_l, hs_t800_l, g_t800_makers, t800_makers, t800_before, A_t800_before, c_t800_before, hs_t800_before, t800_after, A_t800_after, c_t800_after, hs_t800_after, v_t8012, t8012, rfl, ht800_l, hr_t800_l, nd3, dj23, ht800_before, hr_t800_before, nd4, dj24, ht800_after, hr_t800_after, nd5, dj25, ht8012, ht800_makers, hge1, ht800, hge2, dj26, dj27, dj28, dj29, dj30, dj31, dj32, dj33, dj34, dj35, dj36, dj37, dj38, dj39, dj40, dj41, dj42, dj43, dj44, dj45, dj46, dj47, dj48, dj49, dj50, H⟩ := hc_
            have hg13 := hg_
            have hb1 := ht800_l.ge'
            have k45 := ht800_l.base (fun g hg => Nat.le_trans (size_le gr2) (hb1 g hg))
            have hb2 := ht800_before.ge'
            have k46 := ht800_before.base (fun g hg => Nat.le_trans (size_le gr2) (hb2 g hg))
            have hb3 := ht800_after.ge'
            have k47 := ht800_after.base (fun g hg => Nat.le_trans (size_le gr2) (hb3 g hg))
            have gr15 := gr_trans gr2 hg13
            have k48 := k3.grown hg13
            refine WL.y rfl (Yld.pure tab_ok rfl) ?_
            refine WL.y rfl (Yld.pure tab_ok rfl) ?_
            refine WL.y rfl (Yld.pure tab_ok rfl) ?_
            refine WL.y rfl (Yld.pure tab_ok rfl) ?_
            refine WL.y rfl (Yld.pure tab_ok rfl) ?_
            refine WL.nil (WX.then_normal ?_)
            refine WC.seq ?_
            refine WC.seq ?_
            refine WC.region ?_
            refine WL.y rfl (Yld.pure tab_ok rfl) ?_
            refine WL.y rfl (Yld.peqnil Tryz.underlying27 rfl rfl) ?_
            refine WL.y rfl (Yld.pure tab_ok rfl) ?_
            refine WL.midF 3 (fun L' w' => ∃ q3 : Bool, L' = [(88, .bool q3), (0, .int .i64 (t31 + (1 : Int))), (1, .int .i64 lacks2), (2, vs word), (9, .slice A_files files.length c_files), (13, .pointer (some ⟨g_t800, 0, none⟩))] ∧ (!decide (t8012 = Er.ok)) = q3 ∧ w15 = w') ?_ (fun hQ => ?_)
            · rintro _ _ ⟨q3, rfl, rfl, rfl⟩
              refine WL.nil (WX.then_normal ?_)
              refine WC.cond rfl (fun b6 => ?_) (fun b6 => ?_)
              · replace H := H.1 (nd_true b6)
                refine WC.seq ?_
                refine WC.region ?_
                refine WL.y rfl (Yld.pure tab_ok rfl) ?_
                refine WL.nil (WX.then_normal ?_)
                refine WC.ret (WX.then_ret ?_)
                exact WX.ret1 rfl rfl ⟨gr15, false, rfl, H⟩
              · replace H := H.2 (nd_false b6)
                refine WC.skip (WX.then_normal ?_)
                refine WC.seq ?_
                refine WC.region ?_
                refine WL.y rfl (Yld.pure tab_ok rfl) ?_
                refine WL.y rfl (Yld.pure tab_ok rfl) ?_
                refine WL.call rfl rfl (W_plan_Fates (hG.grown gr15) hS10 hS16 hS100 hS101 k45.rd rfl hr_t800_l ht800_makers k46.rd rfl hr_t800_before k47.rd rfl hr_t800_after ht800 k48.rd rfl H) ?_
                rintro _ w18 ⟨hg14, f, A_f, c_f, rfl, hf, H⟩
                have hb4 := hf.ge'
                have k49 := hf.base (fun g hg => Nat.le_trans (size_le gr15) (hb4 g hg))
                have gr16 := gr_trans gr15 hg14
                have k50 := k48.grown hg14
                have k51 := k45.grown hg14
                have k52 := hr_t800_l.grown hg14
                have k53 := k46.grown hg14
                have k54 := hr_t800_before.grown hg14
                have k55 := k47.grown hg14
                have k56 := hr_t800_after.grown hg14
                have k57 := ht800_makers.g0 hg14
                have k58 := ht800.g0 hg14
                refine WL.y rfl (Yld.pure tab_ok rfl) ?_
                refine WL.nil (WX.then_normal ?_)
                refine WC.seq ?_
                refine WC.region ?_
                refine WL.y rfl (Yld.pure tab_ok rfl) ?_
                refine WL.nil (WX.then_normal ?_)
                refine WC.seq ?_
                refine WC.seq ?_
                refine WC.region ?_
                refine WL.y rfl (Yld.pure tab_ok rfl) ?_
                refine WL.nil (WX.then_normal ?_)
                refine WC.block ?_
                obtain ⟨I2, mu2, h0_2, HR2⟩ := H
                refine WC.loopF (fun n' L' w' => ∃ (text : List UInt8), ∃ (i2 : Int), n' = mu2 text i2 ∧ L' = [(0, .int .i64 (t31 + (1 : Int))), (1, .int .i64 lacks2), (2, vs word), (9, .slice A_files files.length c_files), (13, .pointer (some ⟨g_t800, 0, none⟩)), (15, .slice A_f f.length c_f), (16, vs text), (17, .int .i64 i2)] ∧ I2 text i2 ∧ w18 = w') _ _ ⟨([] : List UInt8), (0 : Int), rfl, rfl, h0_2, rfl⟩ (by repeat (first | exact Sub.nil | refine Sub.cons rfl ?_)) ?_
                clear h0_2
                rintro _ _ _ ⟨text, i2, rfl, rfl, hI2, rfl⟩
                have H := HR2 text i2 hI2
                refine WC.seq ?_
                refine WC.seq ?_
                refine WC.region ?_
                refine WL.y rfl (Yld.pure tab_ok rfl) ?_
                refine WL.y rfl (Yld.pure tab_ok rfl) ?_
                refine WL.y rfl (Yld.pure tab_ok rfl) ?_
                refine WL.nil (WX.then_normal ?_)
                refine WC.cond rfl (fun b7 => ?_) (fun b7 => ?_)
                · replace H := H.1 (of_decide_eq_true b7)
                  refine WC.skip (WX.then_normal ?_)
                  refine WC.seq ?_
                  refine WC.block ?_
                  refine WC.seq ?_
                  refine WC.region ?_
                  refine WL.y rfl (Yld.pure tab_ok rfl) ?_
                  refine WL.y rfl (Yld.pure tab_ok rfl) ?_
                  obtain ⟨h14, H⟩ := H
                  refine WL.y rfl (Yld.sadd rfl rfl h14) ?_
                  obtain ⟨h15, H⟩ := H
                  refine WL.y rfl (Yld.sadd rfl rfl h15) ?_
                  refine WL.y rfl (Yld.pure tab_ok rfl) ?_
                  refine WL.y rfl (Yld.pure tab_ok rfl) ?_
                  obtain ⟨h16, H⟩ := H
                  refine WL.y rfl (Yld.add rfl rfl h16) ?_
                  obtain ⟨h17, H⟩ := H
                  refine WL.y rfl (Yld.scut tab_ok rfl rfl rfl rfl h17.1 h17.2.1 h17.2.2) ?_
                  obtain ⟨h18, H⟩ := H
                  refine WL.y rfl (Yld.sadd rfl rfl h18) ?_
                  refine WL.y rfl (Yld.pure tab_ok rfl) ?_
                  refine WL.nil (WX.then_normal ?_)
                  refine WC.seq ?_
                  refine WC.region ?_
                  refine WL.y rfl (Yld.pure tab_ok rfl) ?_
                  refine WL.nil (WX.then_normal ?_)
                  refine WC.seq ?_
                  obtain ⟨J3, H, hJ3⟩ := H
                  refine WC.midF (fun L' w' => ∃ (want : Int), L' = [(0, .int .i64 (t31 + (1 : Int))), (1, .int .i64 lacks2), (2, vs word), (9, .slice A_files files.length c_files), (13, .pointer (some ⟨g_t800, 0, none⟩)), (15, .slice A_f f.length c_f), (16, vs (((text ++ word) ++ ([115] : List UInt8)) ++ ((([97, 98, 99, 100, 101, 102, 103, 104, 105, 106, 107, 108, 109, 110, 111, 112, 113, 114, 115, 116] : List UInt8).drop i2.toNat).take ((i2 + (1 : Int)).toNat - i2.toNat)))), (17, .int .i64 i2), (18, .int .i64 want)] ∧ J3 want ∧ w18 = w') ?_ (fun hQ => ?_)
                  · clear H
                    rintro _ _ ⟨want, rfl, H, rfl⟩
                    replace H := hJ3 want H
                    refine WX.then_normal ?_
                    refine WC.seq ?_
                    obtain ⟨J4, H, hJ4⟩ := H
                    refine WC.midF (fun L' w' => ∃ (want2 : Int), L' = [(0, .int .i64 (t31 + (1 : Int))), (1, .int .i64 lacks2), (2, vs word), (9, .slice A_files files.length c_files), (13, .pointer (some ⟨g_t800, 0, none⟩)), (15, .slice A_f f.length c_f), (16, vs (((text ++ word) ++ ([115] : List UInt8)) ++ ((([97, 98, 99, 100, 101, 102, 103, 104, 105, 106, 107, 108, 109, 110, 111, 112, 113, 114, 115, 116] : List UInt8).drop i2.toNat).take ((i2 + (1 : Int)).toNat - i2.toNat)))), (17, .int .i64 i2), (18, .int .i64 want2)] ∧ J4 want2 ∧ w18 = w') ?_ (fun hQ => ?_)
                    · clear H
                      rintro _ _ ⟨want2, rfl, H, rfl⟩
                      replace H := hJ4 want2 H
                      refine WX.then_normal ?_
                      refine WC.seq ?_
                      refine WC.region ?_
                      refine WL.y rfl (Yld.pure tab_ok rfl) ?_
                      refine WL.y rfl (Yld.pure tab_ok rfl) ?_
                      obtain ⟨h19, H⟩ := H
                      refine WL.y rfl (Yld.iaddrK tab_ok k49.rd rfl rfl rfl rfl h19.1 h19.2) ?_
                      refine WL.y rfl (Yld.faddrK tab_ok k49.rd (iltN h19 rfl) rfl rfl rfl) ?_
                      refine WL.y rfl (Yld.iloadF (0, [], []) tab_ok k49.rd rfl rfl (iltN h19 rfl) rfl) ?_
                      refine WL.y rfl (Yld.pure tab_ok rfl) ?_
                      refine WL.y rfl (Yld.pure tab_ok rfl) ?_
                      refine WL.y rfl (Yld.pure tab_ok rfl) ?_
                      obtain ⟨h20, H⟩ := H
                      refine WL.midF 12 (fun L' w' => ∃ q4 : Bool, L' = [(131, .bool q4), (0, .int .i64 (t31 + (1 : Int))), (1, .int .i64 lacks2), (2, vs word), (9, .slice A_files files.length c_files), (13, .pointer (some ⟨g_t800, 0, none⟩)), (15, .slice A_f f.length c_f), (16, vs (((text ++ word) ++ ([115] : List UInt8)) ++ ((([97, 98, 99, 100, 101, 102, 103, 104, 105, 106, 107, 108, 109, 110, 111, 112, 113, 114, 115, 116] : List UInt8).drop i2.toNat).take ((i2 + (1 : Int)).toNat - i2.toNat)))), (17, .int .i64 i2)] ∧ ((!decide (((f.getD i2.toNat (0, [], [])).1) = want2)) || ((decide (want2 = (1 : Int))) && (!decide (((f.getD i2.toNat (0, [], [])).2.1) = (((text ++ word) ++ ([115] : List UInt8)) ++ ((([97, 98, 99, 100, 101, 102, 103, 104, 105, 106, 107, 108, 109, 110, 111, 112, 113, 114, 115, 116] : List UInt8).drop i2.toNat).take ((i2 + (1 : Int)).toNat - i2.toNat))))))) = q4 ∧ w18 = w') ?_ (fun hQ => ?_)
                      · rintro _ _ ⟨q4, rfl, rfl, rfl⟩
                        refine WL.nil (WX.then_normal ?_)
                        refine WC.cond rfl (fun b8 => ?_) (fun b8 => ?_)
                        · replace H := H.1 (b8)
                          refine WC.seq ?_
                          refine WC.region ?_
                          refine WL.y rfl (Yld.pure tab_ok rfl) ?_
                          refine WL.nil (WX.then_normal ?_)
                          refine WC.ret (WX.block_ret (WX.then_ret (WX.then_ret (WX.block_ret (WX.then_ret ?_)))))
                          exact WX.ret1 rfl rfl ⟨gr16, false, rfl, H⟩
                        · replace H := H.2 (b8)
                          refine WC.skip (WX.block_normal (WX.then_normal ?_))
                          refine WC.region ?_
                          refine WL.y rfl (Yld.pure tab_ok rfl) ?_
                          obtain ⟨h21, H⟩ := H
                          refine WL.y rfl (Yld.add rfl rfl h21) ?_
                          refine WL.y rfl (Yld.pure tab_ok rfl) ?_
                          refine WL.nil ?_
                          exact WX.roundF _ ⟨((text ++ word) ++ ([115] : List UInt8)) ++ ((([97, 98, 99, 100, 101, 102, 103, 104, 105, 106, 107, 108, 109, 110, 111, 112, 113, 114, 115, 116] : List UInt8).drop i2.toNat).take ((i2 + (1 : Int)).toNat - i2.toNat)), i2 + (1 : Int), rfl, rfl, H.1, rfl⟩ (by repeat (first | exact Sub.nil | refine Sub.cons rfl ?_)) H.2
                      · clear H
                        rcases Bool.eq_false_or_eq_true (!decide (((f.getD i2.toNat (0, [], [])).1) = want2)) with b9 | b9
                        · refine WL.gno rfl rfl (okb b9) rfl ?_
                          refine WL.gno rfl rfl (okb b9) rfl ?_
                          refine WL.gno rfl rfl (okb b9) rfl ?_
                          refine WL.gun rfl rfl rfl rfl ?_
                          refine WL.gun rfl rfl rfl rfl ?_
                          refine WL.gun rfl rfl rfl rfl ?_
                          refine WL.gun rfl rfl rfl rfl ?_
                          refine WL.gun rfl rfl rfl rfl ?_
                          refine WL.gun rfl rfl rfl rfl ?_
                          refine WL.gun rfl rfl rfl rfl ?_
                          refine WL.gno rfl rfl (okb b9) rfl ?_
                          refine WL.y rfl (Yld.pickT (okb b9) rfl) ?_
                          exact WL.weaken (by repeat (first | exact Sub.nil | refine Sub.cons rfl ?_)) (hQ _ _ ⟨true, rfl, by rw [b9] <;> rfl, rfl⟩)
                        · refine WL.gyes rfl rfl (okb b9) rfl (Yld.pure tab_ok rfl) ?_
                          refine WL.gyes rfl rfl (okb b9) rfl (Yld.pure tab_ok rfl) ?_
                          refine WL.gyes rfl rfl (okb b9) rfl (Yld.pure tab_ok rfl) ?_
                          rcases Bool.eq_false_or_eq_true (decide (want2 = (1 : Int))) with b10 | b10
                          · refine WL.gyes rfl rfl (okb b10) rfl (Yld.pure tab_ok rfl) ?_
                            refine WL.gyes rfl rfl (okb b10) rfl (Yld.pure tab_ok rfl) ?_
                            refine WL.gyes rfl rfl (okb b10) rfl (Yld.iaddrK tab_ok k49.rd rfl rfl rfl rfl (h20 b9 b10).1 (h20 b9 b10).2) ?_
                            refine WL.gyes rfl rfl (okb b10) rfl (Yld.faddrK tab_ok k49.rd (iltN (h20 b9 b10) rfl) rfl rfl rfl) ?_
                            refine WL.gyes rfl rfl (okb b10) rfl (Yld.iloadF (0, [], []) tab_ok k49.rd rfl rfl (iltN (h20 b9 b10) rfl) rfl) ?_
                            refine WL.gyes rfl rfl (okb b10) rfl (Yld.pure tab_ok rfl) ?_
                            refine WL.gyes rfl rfl (okb b10) rfl (Yld.pure tab_ok rfl) ?_
                            refine WL.gyes rfl rfl (okb b9) rfl (Yld.pickT (okb b10) rfl) ?_
                            refine WL.y rfl (Yld.pickF (okb b9) rfl) ?_
                            exact WL.weaken (by repeat (first | exact Sub.nil | refine Sub.cons rfl ?_)) (hQ _ _ ⟨!decide (((f.getD i2.toNat (0, [], [])).2.1) = (((text ++ word) ++ ([115] : List UInt8)) ++ ((([97, 98, 99, 100, 101, 102, 103, 104, 105, 106, 107, 108, 109, 110, 111, 112, 113, 114, 115, 116] : List UInt8).drop i2.toNat).take ((i2 + (1 : Int)).toNat - i2.toNat)))), rfl, by rw [b9, b10] <;> rfl, rfl⟩)
                          · refine WL.gno rfl rfl (okb b10) rfl ?_
                            refine WL.gno rfl rfl (okb b10) rfl ?_
                            refine WL.gno rfl rfl (okb b10) rfl ?_
                            refine WL.gno rfl rfl (okb b10) rfl ?_
                            refine WL.gno rfl rfl (okb b10) rfl ?_
                            refine WL.gno rfl rfl (okb b10) rfl ?_
                            refine WL.gno rfl rfl (okb b10) rfl ?_
                            refine WL.gyes rfl rfl (okb b9) rfl (Yld.pickF (okb b10) rfl) ?_
                            refine WL.y rfl (Yld.pickF (okb b9) rfl) ?_
                            exact WL.weaken (by repeat (first | exact Sub.nil | refine Sub.cons rfl ?_)) (hQ _ _ ⟨false, rfl, by rw [b9, b10] <;> rfl, rfl⟩)
                    · clear hJ4
                      refine WC.seq ?_
                      refine WC.region ?_
                      refine WL.y rfl (Yld.pure tab_ok rfl) ?_
                      refine WL.y rfl (Yld.pure tab_ok rfl) ?_
                      refine WL.y rfl (Yld.pure tab_ok rfl) ?_
                      refine WL.nil (WX.then_normal ?_)
                      refine WC.cond rfl (fun b11 => ?_) (fun b11 => ?_)
                      · replace H := H.1 (of_decide_eq_true b11)
                        refine WC.region ?_
                        refine WL.y rfl (Yld.pure tab_ok rfl) ?_
                        refine WL.nil ?_
                        exact WX.weaken (by repeat (first | exact Sub.nil | refine Sub.cons rfl ?_)) (hQ _ _ ⟨(3 : Int), rfl, H, rfl⟩)
                      · replace H := H.2 (of_decide_eq_false b11)
                        refine WC.skip ?_
                        exact WX.weaken (by repeat (first | exact Sub.nil | refine Sub.cons rfl ?_)) (hQ _ _ ⟨want, rfl, H, rfl⟩)
                  · clear hJ3
                    refine WC.seq ?_
                    refine WC.region ?_
                    refine WL.y rfl (Yld.pure tab_ok rfl) ?_
                    refine WL.y rfl (Yld.pure tab_ok rfl) ?_
                    refine WL.y rfl (Yld.pure tab_ok rfl) ?_
                    refine WL.nil (WX.then_normal ?_)
                    refine WC.cond rfl (fun b12 => ?_) (fun b12 => ?_)
                    · replace H := H.1 (of_decide_eq_true b12)
                      refine WC.region ?_
                      refine WL.y rfl (Yld.pure tab_ok rfl) ?_
                      refine WL.nil ?_
                      exact WX.weaken (by repeat (first | exact Sub.nil | refine Sub.cons rfl ?_)) (hQ _ _ ⟨(2 : Int), rfl, H, rfl⟩)
                    · replace H := H.2 (of_decide_eq_false b12)
                      refine WC.skip ?_
                      exact WX.weaken (by repeat (first | exact Sub.nil | refine Sub.cons rfl ?_)) (hQ _ _ ⟨(1 : Int), rfl, H, rfl⟩)
                · replace H := H.2 (of_decide_eq_false b7)
                  refine WC.exit (WX.then_exit (WX.then_exit (WX.block_same (WX.then_normal ?_))))
                  refine WC.seq ?_
                  refine WC.region ?_
                  refine WL.y rfl (Yld.pure tab_ok rfl) ?_
                  refine WL.y rfl (Yld.pure tab_ok rfl) ?_
                  refine WL.call rfl rfl (W_plan_Outputs (hG.grown gr16) hS10 hS16 hS100 hS101 k51.rd rfl k52 k57 k53.rd rfl k54 k55.rd rfl k56 k58 k50.rd rfl H) ?_
                  rintro _ w19 ⟨hg15, t134, A_t134, c_t134, rfl, ht134, H⟩
                  have hb5 := ht134.ge'
                  have k59 := ht134.base (fun g hg => Nat.le_trans (size_le gr16) (hb5 g hg))
                  have gr17 := gr_trans gr16 hg15
                  refine WL.y rfl (Yld.pure tab_ok rfl) ?_
                  refine WL.y rfl (Yld.pure tab_ok rfl) ?_
                  refine WL.y rfl (Yld.pure tab_ok rfl) ?_
                  refine WL.y rfl (Yld.min2 rfl rfl) ?_
                  refine WL.y rfl (Yld.pure tab_ok rfl) ?_
                  refine WL.y rfl (Yld.pure tab_ok rfl) ?_
                  refine WL.nil (WX.then_normal ?_)
                  refine WC.ret ?_
                  exact WX.ret1 rfl rfl ⟨gr17, decide ((t134.length : Int) = (if lacks2 < (t31 + (1 : Int)) then lacks2 else t31 + (1 : Int))), rfl, H⟩
            · clear H
              refine WL.gyes rfl rfl (rfl) rfl (Yld.pure tab_ok rfl) ?_
              refine WL.gyes rfl rfl (rfl) rfl (Yld.errneq Tryz.underlying29 ht8012 rfl) ?_
              refine WL.y rfl (Yld.pickF (rfl) rfl) ?_
              exact WL.weaken (by repeat (first | exact Sub.nil | refine Sub.cons rfl ?_)) (hQ _ _ ⟨!decide (t8012 = Er.ok), rfl, rfl, rfl⟩)
    · clear H
      rcases Bool.eq_false_or_eq_true (decide ((50 : Int) < (word.length : Int))) with b13 | b13
      · refine WL.gno rfl rfl (okb b13) rfl ?_
        refine WL.gno rfl rfl (okb b13) rfl ?_
        refine WL.y rfl (Yld.pickT (okb b13) rfl) ?_
        exact WL.weaken (by repeat (first | exact Sub.nil | refine Sub.cons rfl ?_)) (hQ _ _ ⟨true, rfl, by rw [b13] <;> rfl, rfl⟩)
      · refine WL.gyes rfl rfl (okb b13) rfl (Yld.pure tab_ok rfl) ?_
        refine WL.gyes rfl rfl (okb b13) rfl (Yld.pure tab_ok rfl) ?_
        refine WL.y rfl (Yld.pickF (okb b13) rfl) ?_
        exact WL.weaken (by repeat (first | exact Sub.nil | refine Sub.cons rfl ?_)) (hQ _ _ ⟨!ok, rfl, by rw [b13] <;> rfl, rfl⟩)

end Go.Proofs.YtjhipfdbionpoaaGreatDoor

 /- PlanChains, plainly. -/
namespace Go.Proofs.YtjhipfdbionpoaaGreatDoor
open Go Go.RowKit
def ch (i : Nat) : List UInt8 := [115, UInt8.ofNat (97 + i)]
def co (i : Nat) : List UInt8 := [111, 117, 116, 47] ++ ch i
def ca (i : Nat) : GAct := (1, [], if i = 0 then [ch 0] else [co (i - 1), ch i], co i)
def cg (n : Nat) : List GAct := (List.range n).map ca
theorem cg_len (n : Nat) : (cg n).length = n := by unfold cg; rw [List.length_map, List.length_range]
theorem cg_at {n i : Nat} (h : i < n) : (cg n).getD i az = ca i := rng_getD h
theorem co_inj : ∀ i, i < 20 → ∀ j, j < 20 → co i = co j → i = j := by decide
theorem c_val : ∀ i, i < 20 → validB (ch i) = true ∧ validB (co i) = true := by decide
theorem co_ch (i j : Nat) : co i ≠ ch j := fun h => by
  have := congrArg List.length h
  simp [co, ch] at this
theorem ch_at : ∀ i, i < 20 → ([115] : List UInt8) ++ ((([97, 98, 99, 100, 101, 102, 103, 104, 105, 106, 107, 108, 109, 110, 111, 112, 113, 114, 115, 116] : List UInt8).drop i).take (i + 1 - i)) = ch i := by decide
section
variable {n : Nat}
theorem cg_dst (hn : n ≤ 20) : Dst (cg n) := fun i j hi hj h => by
  rw [cg_len] at hi hj
  rw [cg_at hi, cg_at hj] at h
  exact co_inj i (by omega) j (by omega) h
theorem cg_mk (hn : n ≤ 20) {j : Nat} (hj : j < n) : mget (mkP (cg n) n) (co j) = some (j : Int) := by
  have := mkP_get (cg_dst hn) (i := n) (by rw [cg_len]; exact Nat.le_refl _) j hj
  rwa [cg_at hj] at this
theorem cg_no {i m : Nat} (hm : m ≤ n) : mget (mkP (cg n) m) (ch i) = none := by
  cases h : mget (mkP (cg n) m) (ch i) with
  | none => rfl
  | some v =>
    obtain ⟨j, h1, _, h3⟩ := mkP_val h
    rw [cg_at (by omega)] at h3
    exact absurd h3 (co_ch _ _)
theorem cg_bs (hn : n ≤ 20) {i : Nat} (hi : i < n) {k : Int} : k ∈ bsP (cg n) i ↔ 0 < i ∧ k = (i : Int) - 1 := by
  rw [bsP_mem, cg_len, cg_at hi]
  unfold ca
  dsimp only
  constructor
  · rintro ⟨s, hs, hk⟩
    split at hs
    · rw [List.mem_singleton.1 hs, cg_no (Nat.le_refl _)] at hk; cases hk
    · rcases List.mem_cons.1 hs with rfl | hs
      · rw [cg_mk hn (by omega)] at hk
        have := Option.some.inj hk
        omega
      · rw [List.mem_singleton.1 hs, cg_no (Nat.le_refl _)] at hk; cases hk
  · rintro ⟨h1, rfl⟩
    refine ⟨co (i - 1), by rw [if_neg (by omega)]; exact List.mem_cons_self .., ?_⟩
    rw [cg_mk hn (by omega)]
    exact congrArg some (by omega)
theorem cg_fits (hn : n ≤ 20) {i : Nat} (hi : i < n) : fitsAt (cg n) i = .ok := by
  unfold fitsAt fitsP
  have h0 : ¬ ((ca i).1 < 1 ∨ 5 < (ca i).1) := show ¬ ((1 : Int) < 1 ∨ (5 : Int) < 1) by decide
  rw [cg_at hi, if_neg h0, if_neg ?_, if_neg ?_]
  · intro h
    obtain ⟨v, hv⟩ := Option.isSome_iff_exists.1 h
    obtain ⟨j, h1, _, h3⟩ := mkP_val hv
    rw [cg_at (by omega)] at h3
    have := co_inj j (by omega) i (by omega) h3
    omega
  · rintro (h | h)
    · have : validB (co i) = false := h
      rw [(c_val i (by omega)).2] at this; cases this
    · unfold inval at h
      rw [List.any_eq_true] at h
      obtain ⟨x, hx, hv⟩ := h
      unfold ca at hx
      dsimp only at hx
      have : validB x = true := by
        split at hx
        · rw [List.mem_singleton.1 hx]; exact (c_val 0 (by omega)).1
        · rcases List.mem_cons.1 hx with rfl | hx
          · exact (c_val (i - 1) (by omega)).2
          · rw [List.mem_singleton.1 hx]; exact (c_val i (by omega)).1
      rw [this] at hv; cases hv
theorem cg_rch (hn : n ≤ 20) {i : Nat} (hi : i < n) {k : Int} (h : Rch (befL (cg n) (cg n).length) (bsP (cg n) i) k) : 0 ≤ k ∧ k < (i : Int) := by
  induction h with
  | base h => have := (cg_bs hn hi).1 h; omega
  | step _ h ih =>
    rw [befL_getD, cg_len, if_pos (by omega)] at h
    have := (cg_bs hn (by omega)).1 h
    omega
theorem cg_small (hn : n ≤ 20) : GSmall (cg n) := by
  have key : ∀ a ∈ cg n, ∃ i, i < n ∧ a = ca i := fun a ha => by
    unfold cg at ha
    obtain ⟨i, hi, rfl⟩ := List.mem_map.1 ha
    exact ⟨i, List.mem_range.1 hi, rfl⟩
  refine ⟨by rw [cg_len]; omega, fun a ha => ?_, fun a ha => ?_, fun a ha => ?_⟩ <;> obtain ⟨i, hi, rfl⟩ := key a ha
  · exact ⟨by simp [ca], fun s hs => by simp [ca] at hs⟩
  · unfold ca
    dsimp only
    split
    · exact ⟨by decide, fun s hs => by rw [List.mem_singleton.1 hs]; decide⟩
    · exact ⟨by simp, fun s hs => by
        rcases List.mem_cons.1 hs with rfl | hs
        · show (co (i - 1)).length ≤ 250; simp [co, ch]
        · rw [List.mem_singleton.1 hs]; show (ch i).length ≤ 250; simp [ch]⟩
  · show (co i).length ≤ 250; simp [co, ch]
theorem cg_res (hn : n ≤ 20) : GRes (cg n) .ok := by
  refine .inr (.inr (.inr ⟨fun h => h.elim (fun h => by rw [cg_len] at h; omega) fun h => ?_, fun j hj => cg_fits hn (by rwa [cg_len] at hj), fun j hj hc => ?_, rfl⟩))
  · obtain ⟨a, ha, hm⟩ := List.any_eq_true.1 h
    have h1 := ((cg_small hn).inp a ha).1
    have h2 := ((cg_small hn).arg a ha).1
    unfold manyA at hm
    rw [Bool.or_eq_true, decide_eq_true_eq, decide_eq_true_eq] at hm
    omega
  · rw [cg_len] at hj
    have := cg_rch hn hj hc
    omega
end
section
variable {word : List UInt8} {n lk : Nat}
/-- all texts up to here -/
def chT (word : List UInt8) : Nat → List UInt8
  | 0 => []
  | j + 1 => chT word j ++ (word ++ ch j)
theorem chT_len (h : word.length ≤ 50) : ∀ j, (chT word j).length ≤ 52 * j
  | 0 => Nat.le_refl _
  | j + 1 => by
    have := chT_len h j
    simp only [chT, ch, List.length_append, List.length_cons, List.length_nil]
    omega
def cf (word : List UInt8) (lk : Nat) : Nat → TX
  | 0 => []
  | j + 1 => cf word lk j ++ if j = lk then [] else [(ch j, word ++ ch j)]
theorem cf_len : ∀ j, (cf word lk j).length ≤ j
  | 0 => Nat.le_refl _
  | j + 1 => by
    have := cf_len j
    unfold cf
    rw [List.length_append]
    split <;> simp <;> omega
theorem cf_in (h : word.length ≤ 50) : ∀ j, ∀ f ∈ cf word lk j, f.1.length ≤ 1000 ∧ f.2.length ≤ 100000
  | 0, f, hf => by cases hf
  | j + 1, f, hf => by
    unfold cf at hf
    rcases List.mem_append.1 hf with hf | hf
    · exact cf_in h j f hf
    · split at hf
      · cases hf
      · rw [List.mem_singleton.1 hf]
        simp only [ch, List.length_append, List.length_cons, List.length_nil]
        omega
theorem ch_inj : ∀ i, i < 20 → ∀ j, j < 20 → ch i = ch j → i = j := by decide
theorem cf_get (hn : n ≤ 20) : ∀ m, m ≤ n → ∀ j, j < n → mget (text0 (cg n) (cf word lk m)) (ch j) = if j < m ∧ j ≠ lk then some (word ++ ch j) else none
  | 0, _, j, _ => by rw [if_neg (by omega)]; rfl
  | m + 1, hm, j, hj => by
    have ih := cf_get hn m (by omega) j hj
    unfold cf
    split
    · rename_i e
      rw [List.append_nil, ih]
      by_cases h : j < m ∧ j ≠ lk
      · rw [if_pos h, if_pos (by omega)]
      · rw [if_neg h, if_neg (by omega)]
    · rename_i e
      have hmk : mkI (cg n) (ch m) < 0 := by unfold mkI; rw [cg_len, cg_no (Nat.le_refl _)]; decide
      rw [text0_snoc, if_pos hmk, mget_mput]
      by_cases e2 : ch m = ch j
      · have := ch_inj m (by omega) j (by omega) e2
        subst this
        rw [if_pos rfl, if_pos (by omega)]
      · have : m ≠ j := fun h => e2 (by rw [h])
        rw [if_neg e2, ih]
        by_cases h : j < m ∧ j ≠ lk
        · rw [if_pos h, if_pos (by omega)]
        · rw [if_neg h, if_neg (by omega)]
def stN (lk j : Nat) : Int := if lk < j then 3 else if j = lk then 2 else 1
theorem chain_run (hn : n ≤ 20) (hw : word.length ≤ 50) : ∀ m, m ≤ n →
    (∀ x : Int, x ∈ (ordR (befL (cg n) (cg n).length) (cg n).length (cg n).length).take m ↔ 0 ≤ x ∧ x < (m : Int)) ∧
    (∀ j, j < m → ((runP FQ1 (cg n) (cf word lk n) m).1.getD j fz).1 = stN lk j) ∧
    (∀ j, j < m → j < lk → ((runP FQ1 (cg n) (cf word lk n) m).1.getD j fz).2.1 = chT word (j + 1)) ∧
    (∀ j, j < n → mget (runP FQ1 (cg n) (cf word lk n) m).2 (ch j) = if j ≠ lk then some (word ++ ch j) else none) ∧
    (∀ j, j < m → j < lk → mget (runP FQ1 (cg n) (cf word lk n) m).2 (co j) = some (chT word (j + 1)))
  | 0, _ => by
    refine ⟨fun x => by simp, fun j hj => by omega, fun j hj => by omega, fun j hj => ?_, fun j hj => by omega⟩
    rw [runP_zero]
    show mget (text0 (cg n) (cf word lk n)) (ch j) = _
    rw [cf_get hn n (Nat.le_refl _) j hj]
    by_cases h : j ≠ lk
    · rw [if_pos h, if_pos ⟨hj, h⟩]
    · rw [if_neg h, if_neg (by omega)]
  | m + 1, hm => by
    obtain ⟨a1, a2, a3, a4, a5⟩ := chain_run hn hw m (by omega)
    have g := (cg_res hn).good
    have ho := (ordR_props g.acy (cg n).length (Nat.le_refl _)).1
    have hcl := cg_len n
    obtain ⟨i, i1, i2, i3, i4, e1⟩ := runP_succ (F := FQ1) (cf word lk n) g (show m < (cg n).length by omega)
    obtain rfl : i = m := by
      have h1 : ¬ ((i : Int) < (m : Int)) := fun h => i3 ((a1 _).2 ⟨by omega, h⟩)
      by_cases h0 : i = 0
      · omega
      · have := (a1 _).1 (i4 ((i : Int) - 1) ((cg_bs hn (by omega)).2 ⟨by omega, rfl⟩))
        omega
    have hll := runP_len (F := FQ1) (cf word lk n) g i (by omega)
    rw [take_succ_getD 0 (by omega), i2, e1]
    generalize runP FQ1 (cg n) (cf word lk n) i = A at *
    have hin : i < n := by omega
    have hf : (fate1 FQ1 (cg n) i A.1 A.2).1 = stN lk i ∧ (i < lk → (fate1 FQ1 (cg n) i A.1 A.2).2.1 = chT word (i + 1)) := by
      have hany : ((bsP (cg n) i).any fun k => !decide ((A.1.getD k.toNat fz).1 = 1)) = decide (lk < i) := by
        rw [Bool.eq_iff_iff, List.any_eq_true, decide_eq_true_iff]
        constructor
        · rintro ⟨k, hk, hb⟩
          obtain ⟨k1, rfl⟩ := (cg_bs hn hin).1 hk
          rw [show ((i : Int) - 1).toNat = i - 1 by omega, a2 (i - 1) (by omega)] at hb
          unfold stN at hb
          split at hb
          · omega
          · split at hb
            · omega
            · simp at hb
        · intro h
          refine ⟨(i : Int) - 1, (cg_bs hn hin).2 ⟨by omega, rfl⟩, ?_⟩
          rw [show ((i : Int) - 1).toNat = i - 1 by omega, a2 (i - 1) (by omega)]
          unfold stN
          split
          · rfl
          · rw [if_pos (by omega)]; rfl
      unfold fate1
      rw [hany]
      by_cases h1 : lk < i
      · rw [if_pos (decide_eq_true h1)]
        exact ⟨by unfold stN; rw [if_pos h1]; rfl, fun h => by omega⟩
      rw [if_neg (by simpa using h1), cg_at hin]
      by_cases h2 : i = lk
      · have hnone : allT A.2 (ca i).2.2.1 = none := allT_none (s := ch i) (by rw [a4 i hin, if_neg (by omega)]) (by
          unfold ca
          dsimp only
          split
          · rename_i h; rw [h]; exact List.mem_cons_self ..
          · simp)
        rw [hnone]
        exact ⟨by unfold stN; rw [if_neg h1, if_pos h2]; rfl, fun h => by omega⟩
      · have hgi := a4 i hin
        rw [if_pos h2] at hgi
        obtain ⟨ts, t1, t2⟩ : ∃ ts, allT A.2 (ca i).2.2.1 = some ts ∧ joinE ts [] [] = chT word (i + 1) := by
          unfold ca
          dsimp only
          by_cases h0 : i = 0
          · subst h0
            refine ⟨[word ++ ch 0], ?_, by simp [joinE, jnE, chT]⟩
            rw [if_pos rfl]
            exact allT_snoc (xs := []) hgi rfl
          · have hp := a5 (i - 1) (by omega) (by omega)
            rw [show i - 1 + 1 = i by omega] at hp
            refine ⟨[chT word i, word ++ ch i], ?_, by simp [joinE, jnE, chT]⟩
            rw [if_neg h0]
            exact allT_snoc (xs := [co (i - 1)]) hgi (allT_snoc (xs := []) hp rfl)
        rw [t1]
        have hlen := chT_len hw (i + 1)
        have hd : doP (ca i).1 (ca i).2.1 ts = (chT word (i + 1), .ok) := by
          show doP 1 [] ts = _
          unfold doP
          rw [if_neg (by decide), if_pos rfl, if_neg (by decide), if_neg (by decide), t2]
          unfold fitP
          rw [if_pos (by omega)]
        dsimp only [FQ1]
        rw [hd]
        exact ⟨by unfold stN; rw [if_neg h1, if_neg h2]; rfl, fun _ => rfl⟩
    unfold step1
    rw [Int.toNat_natCast, cg_at hin]
    dsimp only
    generalize fate1 FQ1 (cg n) i A.1 A.2 = fv at hf ⊢
    have hput : ∀ s, s ≠ co i → mget (if fv.1 = 1 then mput A.2 (ca i).2.2.2 fv.2.1 else A.2) s = mget A.2 s := fun s hs => by
      split
      · rw [mget_mput, if_neg fun h => hs h.symm]
      · rfl
    refine ⟨fun x => ?_, fun j hj => ?_, fun j hj hjl => ?_, fun j hj => ?_, fun j hj hjl => ?_⟩
    · rw [List.mem_append, a1, List.mem_singleton]; omega
    · rw [getD_setG (by omega)]
      by_cases e : i = j
      · subst e; rw [if_pos rfl]; exact hf.1
      · rw [if_neg e]; exact a2 j (by omega)
    · rw [getD_setG (by omega)]
      by_cases e : i = j
      · subst e; rw [if_pos rfl]; exact hf.2 hjl
      · rw [if_neg e]; exact a3 j (by omega) hjl
    · rw [hput _ fun h => co_ch _ _ h.symm]; exact a4 j hj
    · by_cases e : i = j
      · subst e
        have h1 : fv.1 = 1 := by rw [hf.1]; unfold stN; rw [if_neg (by omega), if_neg (by omega)]
        rw [if_pos h1]
        show mget (mput A.2 (co i) fv.2.1) (co i) = _
        rw [mget_mput, if_pos rfl, hf.2 hjl]
      · rw [hput _ fun h => e (co_inj j (by omega) i (by omega) h).symm]
        exact a5 j (by omega) hjl
theorem chain_out {fs : List FT} {l : List GAct} (h : ∀ j, j < n → (fs.getD j fz).1 = stN lk j) : ∀ m, m ≤ n → (outF l fs m).length = min m lk
  | 0, _ => by simp [outF]
  | m + 1, hm => by
    have ih := chain_out (l := l) h m (by omega)
    have hs := h m (by omega)
    unfold outF
    rw [List.length_append, ih, hs]
    unfold stN
    by_cases h1 : lk < m
    · rw [if_pos h1, if_neg (by decide)]; simp; omega
    · rw [if_neg h1]
      by_cases h2 : m = lk
      · rw [if_pos h2, if_neg (by decide)]; simp; omega
      · rw [if_neg h2, if_pos rfl]; simp; omega
end
theorem cg_succ (n : Nat) : cg (n + 1) = cg n ++ [ca n] := by unfold cg; rw [List.range_succ, List.map_append]; rfl
theorem chains_pl {nn lk : Int} {word : List UInt8} {K : Bool → Prop} (hn : In .i64 nn) (hl : In .i64 lk) (H : K true) : M_smithylaw26_PlanChains nn lk word K := by
  refine pfirst_M ⟨fun h => by simp at h, fun _ => ⟨fun _ => H, fun hc => ?_⟩⟩
  rw [Bool.or_eq_false_iff, decide_eq_false_iff_not] at hc
  have hw : word.length ≤ 50 := by have := hc.1; omega
  refine numG_M hn (by decide) (by decide) fun m m0 m1 => ⟨by simp only [In]; omega, by simp only [In]; omega, numG_M hl (by omega) (by omega) fun k k0 k1 => ?_⟩
  obtain ⟨M, rfl⟩ : ∃ M : Nat, m = M := ⟨m.toNat, by omega⟩
  obtain ⟨q, rfl⟩ : ∃ q : Nat, k = q := ⟨k.toNat, by omega⟩
  refine ⟨fun l fs i => 0 ≤ i ∧ i ≤ (M : Int) + 1 ∧ l = cg i.toNat ∧ fs = cf word q i.toNat, fun _ _ i => M + 1 - i.toNat, ⟨by omega, by omega, rfl, rfl⟩, fun l fs i ⟨a0, a1, a2, a3⟩ => ⟨fun hlt => ?_, fun hge => ?_⟩⟩
  · have hi : i.toNat < 20 := by omega
    have hs := ch_at i.toNat hi
    have hsl := congrArg List.length hs
    rw [List.length_append, List.length_singleton, show (ch i.toNat).length = 2 from rfl] at hsl
    have hll : l.length = i.toNat := by rw [a2, cg_len]
    have hfl : fs.length ≤ i.toNat := by rw [a3]; exact cf_len _
    have e1 : (i + 1).toNat = i.toNat + 1 := by omega
    rw [e1, hs]
    have hl2 : cg (i.toNat + 1) = l ++ [((1 : Int), [], (ca i.toNat).2.2.1, co i.toNat)] := by rw [cg_succ, a2]; rfl
    have hf2 : cf word q (i.toNat + 1) = fs ++ if i.toNat = q then [] else [(ch i.toNat, word ++ ch i.toNat)] := by rw [a3]; rfl
    have hcl : (ch i.toNat).length = 2 := rfl
    refine ⟨fun l2 f2 => l2 = cg (i + 1).toNat ∧ f2 = cf word q (i + 1).toNat, ⟨by simp only [In]; omega, ⟨a0, by omega, by simp only [List.length_cons, List.length_nil]; omega⟩, by simp only [List.length_cons, List.length_nil]; omega, by simp only [List.length_cons, List.length_nil]; omega, fun a => a = (ca i.toNat).2.2.1, ⟨fun hp => ⟨by simp only [In]; omega, ⟨by omega, by omega⟩, ?_⟩, fun hp => ?_⟩, fun a ha => ⟨by simp only [List.length_singleton]; omega, fun hne => ⟨by omega, by simp only [List.length_singleton]; omega, ?_, ?_⟩, fun he => ⟨?_, ?_⟩⟩⟩, fun l2 f2 ⟨m1, m2⟩ => ⟨by simp only [In]; omega, ⟨by omega, by omega, m1, m2⟩, by (try dsimp only); omega⟩⟩
    · have hg : l.getD (i - 1).toNat az = ca (i - 1).toNat := by rw [a2]; exact cg_at (by omega)
      show [(l.getD (i - 1).toNat az).2.2.2, ch i.toNat] = _
      rw [hg]
      unfold ca
      dsimp only
      rw [if_neg (by omega), show (i - 1).toNat = i.toNat - 1 by omega]
    · show [ch i.toNat] = _
      unfold ca
      dsimp only
      rw [if_pos (by omega), show i.toNat = 0 by omega]
    · rw [e1, hl2, ha]; rfl
    · rw [e1, hf2, if_neg (by omega)]
    · rw [e1, hl2, ha]; rfl
    · rw [e1, hf2, if_pos (by omega), List.append_nil]
  · have hn : M + 1 ≤ 20 := by omega
    rw [show i.toNat = M + 1 by omega] at a2 a3
    subst a2
    subst a3
    have hcl := cg_len (M + 1)
    refine new_R (by omega) (cg_small hn).sz (fun e he hne => absurd (he.uniq (cg_res hn)) hne) fun hr => ⟨fun h => absurd rfl h, fun _ => ?_⟩
    have hcf := cf_len (word := word) (lk := q) (M + 1)
    refine fates_M (cg_small hn) hr.good hr.ty (by omega) (cf_in hw _) ?_
    obtain ⟨_, b2, b3, _, _⟩ := chain_run (lk := q) hn hw (M + 1) (Nat.le_refl _)
    have e : (runP FQ1 (cg (M + 1)) (cf word q (M + 1)) (M + 1)).1 = fatesP FQ1 (cg (M + 1)) (cf word q (M + 1)) := by unfold fatesP; rw [hcl]
    have hfl : (fatesP FQ1 (cg (M + 1)) (cf word q (M + 1))).length = M + 1 := by rw [← e, runP_len _ hr.good _ (by omega), hcl]
    rw [e] at b2 b3
    refine ⟨fun t i => 0 ≤ i ∧ i ≤ (M : Int) + 1 ∧ t = chT word i.toNat, fun _ i => M + 1 - i.toNat, ⟨by omega, by omega, rfl⟩, fun t i ⟨c0, c1, c2⟩ => ⟨fun hlt => ?_, fun hge => ?_⟩⟩
    · have hi : i.toNat < 20 := by omega
      have hs := ch_at i.toNat hi
      have hsl := congrArg List.length hs
      rw [List.length_append, List.length_singleton, show (ch i.toNat).length = 2 from rfl] at hsl
      have htl := chT_len hw i.toNat
      rw [← c2] at htl
      have e1 : (i + 1).toNat = i.toNat + 1 := by omega
      rw [e1]
      have ht : ((t ++ word) ++ ([115] : List UInt8)) ++ ((([97, 98, 99, 100, 101, 102, 103, 104, 105, 106, 107, 108, 109, 110, 111, 112, 113, 114, 115, 116] : List UInt8).drop i.toNat).take (i.toNat + 1 - i.toNat)) = chT word (i.toNat + 1) := by
        rw [List.append_assoc (t ++ word), hs, List.append_assoc, c2]; rfl
      rw [ht]
      have d2 := b2 i.toNat (by omega)
      have d3 := b3 i.toNat (by omega)
      unfold fz at d2 d3
      refine ⟨by omega, by simp only [List.length_append, List.length_singleton]; omega, by simp only [In]; omega, ⟨c0, by omega, by simp only [List.length_cons, List.length_nil]; omega⟩, by simp only [List.length_append, List.length_singleton]; omega, fun w => w = if i.toNat = q then 2 else 1, ⟨fun h => by rw [if_pos (by omega)], fun h => by rw [if_neg (by omega)]⟩, fun w hw2 => ⟨fun v => v = stN q i.toNat, ⟨fun h => by unfold stN; rw [if_pos (by omega)], fun h => by unfold stN; rw [if_neg (by omega)]; exact hw2⟩, fun v hv => ⟨⟨c0, by omega⟩, fun _ _ => ⟨c0, by omega⟩, fun hbad => ?_, fun _ => ⟨by simp only [In]; omega, ⟨by omega, by omega, by rw [e1]⟩, by (try dsimp only); omega⟩⟩⟩⟩
      rw [hv, d2, decide_eq_true rfl, Bool.not_true, Bool.false_or, Bool.and_eq_true, decide_eq_true_iff] at hbad
      have hlt2 : i.toNat < q := by
        have h1 := hbad.1
        unfold stN at h1
        split at h1
        · cases h1
        · split at h1
          · cases h1
          · omega
      have h2 := hbad.2
      rw [d3 hlt2, decide_eq_true rfl] at h2
      cases h2
    · refine outputs_M (cg_small hn) hr.good hr.ty (by omega) (cf_in hw _) fun ys hp _ => ?_
      have h1 := hp.length_eq
      rw [hcl, chain_out b2 (M + 1) (Nat.le_refl _)] at h1
      rw [decide_eq_true]
      · exact H
      · rw [h1]
        split <;> omega
theorem chains_pl3 {P0 : Prop} {nn lk : Int} {word : List UInt8} {K : Bool → Prop} (hn : In .i64 nn) (hl : In .i64 lk) (_ : P0) (H : K true) : M_smithylaw26_PlanChains nn lk word K := chains_pl hn hl H
end Go.Proofs.YtjhipfdbionpoaaGreatDoor


 