/- Texts of this claim, joined by a program: GLd, See, Dq, Dr, Ds, Dt, Du, Dv. -/
import Derived.Test.YtofenpiiihhigaaDoorJ4
/- Printed by a program (wip/vg): what the functions mean, plainly, and their walks. -/
namespace Go.Proofs.YtofenpiiihhigaaDoor
open Go Go.RowKit
attribute [local irreducible] WL WC WX WQ WK WJ Yld Eff Ef0 Fn
def M_smithyworld_Number (n : Int) (below : Int) (K : Int → Prop) : Prop :=
 (below ≠ 0) ∧
 (In .i64 ((n.tmod below) + below)) ∧
 (below ≠ 0) ∧
 K (((n.tmod below) + below).tmod below)

def M_smithylaw13_told (s : PS) (K : (List UInt8) → Prop) : Prop :=
 M_pdeps_Set_All s (fun (t70 : List PV) (t71 : Er) =>
 ((¬ (t71 = Er.ok) → K ([] : List UInt8)) ∧
 (t71 = Er.ok → M_val_Tuple t70 (fun (t13 : PV) =>
 M_val_Repr t13 (fun (t2 : List UInt8) =>
 K t2)))))

def M_smithylaw13_made (l : List (Int × List Int × List Int)) (K : (List PS) → Bool → Prop) : Prop :=
 (l.length ≤ maxLen →
 Lp2 (fun (out : List PS) (i : Int) kont1 => ((i < (l.length : Int) → Lp2 (fun (own : List PV) (k : Int) kont2 => (0 ≤ i ∧ i < (l.length : Nat)) ∧
 ((k < (((l.getD i.toNat (0, [], [])).2.1).length : Int) → (0 ≤ i ∧ i < (l.length : Nat)) ∧
 (0 ≤ k ∧ k < (((l.getD i.toNat (0, [], [])).2.1).length : Nat)) ∧
 M_smithylaw13_small (((l.getD i.toNat (0, [], [])).2.1).getD k.toNat 0) (fun (t37 : PV) =>
 ((own.length + (([t37] : List PV)).length) * 16 ≤ 140737488355328) ∧
 (In .i64 (k + (1 : Int))) ∧
 kont2 (own ++ ([t37] : List PV)) (k + (1 : Int)))) ∧
 (¬ (k < (((l.getD i.toNat (0, [], [])).2.1).length : Int)) → Lp2 (fun (from_ : List PS) (k_2 : Int) kont3 => (0 ≤ i ∧ i < (l.length : Nat)) ∧
 ((((decide (k_2 < (((l.getD i.toNat (0, [], [])).2.2).length : Int))) && (decide ((0 : Int) < i))) = true → (0 ≤ i ∧ i < (l.length : Nat)) ∧
 (0 ≤ k_2 ∧ k_2 < (((l.getD i.toNat (0, [], [])).2.2).length : Nat)) ∧
 M_smithyworld_Number (((l.getD i.toNat (0, [], [])).2.2).getD k_2.toNat 0) i (fun (t65 : Int) =>
 (0 ≤ t65 ∧ t65 < (out.length : Nat)) ∧
 ((from_.length + (([out.getD t65.toNat PS.nil] : List PS)).length) * 8 ≤ 140737488355328) ∧
 (In .i64 (k_2 + (1 : Int))) ∧
 kont3 (from_ ++ ([out.getD t65.toNat PS.nil] : List PS)) (k_2 + (1 : Int)))) ∧
 (((decide (k_2 < (((l.getD i.toNat (0, [], [])).2.2).length : Int))) && (decide ((0 : Int) < i))) = false → (0 ≤ i ∧ i < (l.length : Nat)) ∧
 M_deps_New ((l.getD i.toNat (0, [], [])).1) own from_ (fun (t780 : PS) (t781 : Er) =>
 (t780 ≠ PS.nil → ∀ x ∈ out, ∀ y, Reach x y → y ≠ PS.nil → y.id ≠ t780.id) →
 (t780 ≠ PS.nil → ∀ x ∈ from_, ∀ y, Reach x y → y ≠ PS.nil → y.id ≠ t780.id) →
 (((t780.isNil || (!decide (t781 = Er.ok))) = true → K out false) ∧
 ((t780.isNil || (!decide (t781 = Er.ok))) = false → ((out.length + (([t780] : List PS)).length) * 8 ≤ 140737488355328) ∧
 (In .i64 (i + (1 : Int))) ∧
 kont1 (out ++ ([t780] : List PS)) (i + (1 : Int)))))))) [] (0 : Int)))) [] (0 : Int)) ∧
 (¬ (i < (l.length : Int)) → K out true))) [] (0 : Int))

def M_smithylaw13_first (K : Bool → Prop) : Prop :=
 Lp2 (fun (order : Int) (l : List (Int × List Int × List Int)) kont1 => 4 = l.length → ((order ≤ (3 : Int) → Lp2 (fun (i : Int) (l2 : List (Int × List Int × List Int)) kont2 => 4 = l2.length → ((i < (4 : Int) → (0 ≤ i ∧ i < (4 : Nat)) ∧
 (In .i64 (i + (1 : Int))) ∧
 kont2 (i + (1 : Int)) (l2.set i.toNat ((order, (l2.getD i.toNat (0, [], [])).2.1, (l2.getD i.toNat (0, [], [])).2.2) : Int × List Int × List Int))) ∧
 (¬ (i < (4 : Int)) → M_smithylaw13_made l2 (fun (t370 : List PS) (t371 : Bool) =>
 ∃ J1 : Bool → Prop, ((((!t371) = true → J1 true) ∧
 ((!t371) = false → (0 ≤ (3 : Int) ∧ (3 : Int) < (t370.length : Nat)) ∧
 M_smithylaw13_told (t370.getD 3 PS.nil) (fun (t46 : List UInt8) =>
 (In .i64 (order - (1 : Int))) ∧
 (0 ≤ order - (1 : Int) ∧ order - (1 : Int) < (3 : Nat)) ∧
 J1 (!decide (t46 = (([([40, 52, 44, 32, 50, 44, 32, 49, 44, 32, 51, 41] : List UInt8), ([40, 49, 44, 32, 50, 44, 32, 51, 44, 32, 52, 41] : List UInt8), ([40, 52, 44, 32, 50, 44, 32, 51, 44, 32, 49, 41] : List UInt8)] : List (List UInt8)).getD ((order - (1 : Int)).toNat) []))))))) ∧
 (∀ q1 : Bool, J1 q1 → ((q1 = true → K false) ∧
 (q1 = false → (In .i64 (order + (1 : Int))) ∧
 kont1 (order + (1 : Int)) l2))))))) (0 : Int) l) ∧
 (¬ (order ≤ (3 : Int)) → K true))) (1 : Int) ([((0 : Int), ([(1 : Int)] : List Int), []), ((0 : Int), ([(2 : Int)] : List Int), ([(0 : Int)] : List Int)), ((0 : Int), ([(3 : Int)] : List Int), ([(0 : Int)] : List Int)), ((0 : Int), ([(4 : Int)] : List Int), ([(1 : Int), (2 : Int)] : List Int))] : List (Int × List Int × List Int))

def M_smithylaw13_DepsRows (n : Int) (order : Int) (K : Bool → Prop) : Prop :=
 M_smithylaw13_first (fun (ok : Bool) =>
 (((!ok) = true → K false) ∧
 ((!ok) = false → M_smithyworld_Number n (40 : Int) (fun (t20 : Int) =>
 (In .i64 (t20 + (1 : Int))) ∧
 M_smithyworld_Number order (3 : Int) (fun (t23 : Int) =>
 (In .i64 (t23 + (1 : Int))) ∧
 Lp2 (fun (s : PS) (i : Int) kont1 => ((i < (t20 + (1 : Int)) → ∃ J1 : PS → Er → Prop, (((i = (0 : Int) → M_smithylaw13_small i (fun (t35 : PV) =>
 M_deps_New (t23 + (1 : Int)) ([t35] : List PV) [] (fun (t370 : PS) (t371 : Er) =>
 J1 t370 t371))) ∧
 (¬ (i = (0 : Int)) → M_smithylaw13_small i (fun (t43 : PV) =>
 M_smithylaw13_small i (fun (t45 : PV) =>
 M_deps_New (t23 + (1 : Int)) ([t43, t45] : List PV) ([s, s] : List PS) (fun (t500 : PS) (t501 : Er) =>
 (t500 ≠ PS.nil → ∀ x ∈ ([s, s] : List PS), ∀ y, Reach x y → y ≠ PS.nil → y.id ≠ t500.id) →
 J1 t500 t501)))))) ∧
 (∀ t : PS, ∀ e : Er, J1 t e → (((t.isNil || (!decide (e = Er.ok))) = true → K false) ∧
 ((t.isNil || (!decide (e = Er.ok))) = false → (In .i64 (i + (1 : Int))) ∧
 kont1 t (i + (1 : Int)))))) ∧
 (¬ (i < (t20 + (1 : Int))) → M_pdeps_Set_All s (fun (t620 : List PV) (t621 : Er) =>
 ∃ J2 : Bool → Prop, (((((!decide (t621 = Er.ok)) || (!decide ((t620.length : Int) = (t20 + (1 : Int))))) = true → J2 true) ∧
 (((!decide (t621 = Er.ok)) || (!decide ((t620.length : Int) = (t20 + (1 : Int))))) = false → M_pdeps_Set_Size s (fun (t75 : Int) =>
 J2 (!decide (t75 = (t20 + (1 : Int)))))))) ∧
 (∀ q3 : Bool, J2 q3 → ∃ J3 : Bool → Prop, (((q3 = true → J3 true) ∧
 (q3 = false → M_pdeps_Set_Empty s (fun (t81 : Bool) =>
 J3 t81)))) ∧
 (∀ q4 : Bool, J3 q4 → ((q4 = true → K false) ∧
 (q4 = false → Lp2 (fun (i2 : Int) (all : List PV) kont2 => t620.length = all.length → ((i2 < (t20 + (1 : Int)) → (In .i64 ((t20 + (1 : Int)) - (1 : Int))) ∧
 (In .i64 (((t20 + (1 : Int)) - (1 : Int)) - i2)) ∧
 ∃ J4 : Int → Prop, ((((t23 + (1 : Int)) = (2 : Int) → J4 i2) ∧
 (¬ ((t23 + (1 : Int)) = (2 : Int)) → J4 (((t20 + (1 : Int)) - (1 : Int)) - i2)))) ∧
 (∀ want : Int, J4 want → (0 ≤ i2 ∧ i2 < (t620.length : Nat)) ∧
 M_val_Repr (all.getD i2.toNat PV.nil) (fun (t99 : List UInt8) =>
 M_num_Of want (fun (t101 : Int) (m_t101 : Nat) =>
 M_num_Num_Text t101 m_t101 (fun (t102 : List UInt8) =>
 ((¬ (t99 = t102) → K false) ∧
 (t99 = t102 → M_val_None (fun (t106 : PV) =>
 (0 ≤ i2 ∧ i2 < (t620.length : Nat)) ∧
 (In .i64 (i2 + (1 : Int))) ∧
 kont2 (i2 + (1 : Int)) (all.set i2.toNat t106))))))))) ∧
 (¬ (i2 < (t20 + (1 : Int))) → M_pdeps_Set_All s (fun (t1100 : List PV) (t1101 : Er) =>
 ∃ J5 : Bool → Prop, ((((ok && (decide (t1101 = Er.ok))) = true → (0 ≤ (0 : Int) ∧ (0 : Int) < (t1100.length : Nat)) ∧
 M_val_Repr (t1100.getD 0 PV.nil) (fun (t122 : List UInt8) =>
 J5 (!decide (t122 = ([78, 111, 110, 101] : List UInt8))))) ∧
 ((ok && (decide (t1101 = Er.ok))) = false → J5 false))) ∧
 (∀ q6 : Bool, J5 q6 → ∃ J6 : Bool → Prop, (((q6 = true → M_smithysee_Is Er.ok (0 : Int) (fun (t126 : Bool) =>
 J6 t126)) ∧
 (q6 = false → J6 false))) ∧
 (∀ q7 : Bool, J6 q7 → K q7)))))) (0 : Int) t620)))))))) PS.nil (0 : Int))))))

set_option maxHeartbeats 8000000 in
theorem W_smithyworld_Number {w : World} {n : Int} {below : Int} {K : Int → Prop} (H : M_smithyworld_Number n below K) : Fn Tryd.prog 9 ⟨[.int .i64 n, .int .i64 below]⟩ w (fun v w' => w = w' ∧ ∃ (r : Int), v = .int .i64 r ∧ K r) := by
  unfold M_smithyworld_Number at H
  refine Fn.enter (by kernel_rfl) Tryd.func9 rfl Tryd.ntmps9 rfl ?_
  refine WC.seq ?_
  refine WC.region ?_
  refine WL.y rfl (Yld.pure tab_ok rfl) ?_
  refine WL.nil (WX.then_normal ?_)
  refine WC.seq ?_
  refine WC.region ?_
  refine WL.y rfl (Yld.pure tab_ok rfl) ?_
  refine WL.y rfl (Yld.pure tab_ok rfl) ?_
  obtain ⟨h1, H⟩ := H
  refine WL.y rfl (Yld.rem' rfl rfl h1) ?_
  refine WL.y rfl (Yld.pure tab_ok rfl) ?_
  obtain ⟨h2, H⟩ := H
  refine WL.y rfl (Yld.add rfl rfl h2) ?_
  refine WL.y rfl (Yld.pure tab_ok rfl) ?_
  obtain ⟨h3, H⟩ := H
  refine WL.y rfl (Yld.rem' rfl rfl h3) ?_
  refine WL.y rfl (Yld.pure tab_ok rfl) ?_
  refine WL.nil (WX.then_normal ?_)
  refine WC.ret ?_
  exact WX.ret1 rfl rfl ⟨rfl, ((n.tmod below) + below).tmod below, rfl, H⟩

set_option maxHeartbeats 8000000 in
theorem W_smithylaw13_told {S : List Nat} {w : World} {v_s : OV} {F_s : Nat → Prop} {s : PS} {K : (List UInt8) → Prop} (hG : GOK S w) (hS7 : 7 ∈ S) (hs : RelD deS w [(v_s, F_s)] [s]) (H : M_smithylaw13_told s K) : Fn Tryd.prog 33 ⟨[v_s.1]⟩ w (fun v w' => w.grownBy w' none ∧ ∃ (r : List UInt8), v = vs r ∧ K r) := by
  unfold M_smithylaw13_told at H
  refine Fn.enter (by kernel_rfl) Tryd.func33 rfl Tryd.ntmps33 rfl ?_
  refine WC.seq ?_
  refine WC.region ?_
  refine WL.y rfl (Yld.pure tab_ok rfl) ?_
  refine WL.nil (WX.then_normal ?_)
  refine WC.seq ?_
  refine WC.region ?_
  refine WL.y rfl (Yld.pure tab_ok rfl) ?_
  refine WL.call rfl rfl (W_pdeps_Set_All hG hS7 hs H) ?_
  rintro _ w1 ⟨hg1, t70, A_t70, c_t70, hs_t70, v_t71, t71, rfl, ht70, hr_t70, ho1, dj1, ht71, H⟩
  have hb1 := ht70.ge'
  have k1 := ht70.base (fun g hg => Nat.le_trans (Nat.le_refl _) (hb1 g hg))
  have gr1 := hg1
  refine WL.y rfl (Yld.pure tab_ok rfl) ?_
  refine WL.y rfl (Yld.pure tab_ok rfl) ?_
  refine WL.y rfl (Yld.pure tab_ok rfl) ?_
  refine WL.y rfl (Yld.pure tab_ok rfl) ?_
  refine WL.y rfl (Yld.pure tab_ok rfl) ?_
  refine WL.nil (WX.then_normal ?_)
  refine WC.seq ?_
  refine WC.seq ?_
  refine WC.region ?_
  refine WL.y rfl (Yld.pure tab_ok rfl) ?_
  refine WL.y rfl (Yld.errneq Tryd.underlying34 ht71 rfl) ?_
  refine WL.nil (WX.then_normal ?_)
  refine WC.cond rfl (fun b1 => ?_) (fun b1 => ?_)
  · replace H := H.1 (nd_true b1)
    refine WC.seq ?_
    refine WC.region ?_
    refine WL.y rfl (Yld.pure tab_ok rfl) ?_
    refine WL.nil (WX.then_normal ?_)
    refine WC.ret (WX.then_ret ?_)
    exact WX.ret1 rfl rfl ⟨gr1, ([] : List UInt8), rfl, H⟩
  · replace H := H.2 (nd_false b1)
    refine WC.skip (WX.then_normal ?_)
    refine WC.seq ?_
    refine WC.region ?_
    refine WL.y rfl (Yld.pure tab_ok rfl) ?_
    refine WL.call rfl rfl (W_val_Tuple k1.rd rfl hr_t70 H) ?_
    rintro _ w2 ⟨hg2, v_t13, F_t13, t13, rfl, ht13, ho2, H⟩
    have gr2 := gr_trans gr1 hg2
    refine WL.call rfl rfl (W_val_Repr ht13 H) ?_
    rintro _ w3 ⟨hg3, t2, rfl, H⟩
    have gr3 := gr_trans gr2 hg3
    refine WL.y rfl (Yld.pure tab_ok rfl) ?_
    refine WL.nil (WX.then_normal ?_)
    refine WC.ret ?_
    exact WX.ret1 rfl rfl ⟨gr3, t2, rfl, H⟩

set_option maxHeartbeats 8000000 in
theorem W_smithylaw13_made {S : List Nat} {w : World} {l : List (Int × List Int × List Int)} {A_l : Option Addr} {c_l : Nat} {hs_l : List (Int × Hdr × Hdr)} {n_l : Nat} {K : (List PS) → Bool → Prop} (hG : GOK S w) (hS3 : 3 ∈ S) (hS7 : 7 ∈ S) (hl : RdK 3 encH28 w A_l c_l hs_l) (hn_l : n_l = l.length) (hr_l : RelD de28 w hs_l l) (H : M_smithylaw13_made l K) : Fn Tryd.prog 10 ⟨[.slice A_l n_l c_l]⟩ w (fun v w' => w.grownBy w' none ∧ ∃ (r0 : List PS), ∃ (A_r0 : Option Addr), ∃ (c_r0 : Nat), ∃ (hs_r0 : List VH), ∃ (r1 : Bool), v = .tuple #[.slice A_r0 r0.length c_r0, .bool r1] ∧ Own vv w' w.heap.size 36 A_r0 c_r0 hs_r0 ∧ RelD deS w' hs_r0 r0 ∧ (∀ p : Option Nat, Lt p w.heap.size → DnD deS hs_r0 r0 p) ∧ DnD deS hs_r0 r0 (blk A_r0) ∧ K r0 r1) := by
  subst hn_l
  unfold M_smithylaw13_made at H
  refine Fn.enter (by kernel_rfl) Tryd.func10 rfl Tryd.ntmps10 rfl ?_
  replace H := H (by rw [← hr_l.1]; exact Nat.le_trans hl.cap hl.max)
  refine WC.seq ?_
  refine WC.region ?_
  refine WL.y rfl (Yld.pure tab_ok rfl) ?_
  refine WL.y rfl (Yld.pure tab_ok rfl) ?_
  refine WL.nil (WX.then_normal ?_)
  refine WC.seq ?_
  refine WC.region ?_
  refine WL.y rfl (Yld.pure tab_ok rfl) ?_
  refine WL.nil (WX.then_normal ?_)
  refine WC.seq ?_
  refine WC.seq ?_
  refine WC.region ?_
  refine WL.y rfl (Yld.pure tab_ok rfl) ?_
  refine WL.nil (WX.then_normal ?_)
  refine WC.block ?_
  obtain ⟨I1, mu1, h0_1, HR1⟩ := H
  refine WC.loopF (fun n' L' w' => ∃ (out : List PS), ∃ (A_out : Option Addr), ∃ (c_out : Nat), ∃ (n_out : Nat), ∃ (hs_out : List VH), ∃ (i : Int), n' = mu1 out i ∧ L' = [(0, .slice A_l l.length c_l), (4, .slice A_out n_out c_out), (5, .int .i64 i)] ∧ I1 out i ∧ n_out = out.length ∧ w.grownBy w' none ∧ Own vv w' w.heap.size 36 A_out c_out hs_out ∧ RelD deS w' hs_out out ∧ DnD deS hs_out out (blk A_out) ∧ NewD deS hs_out out w.heap.size) _ _ ⟨[], none, 0, 0, [], (0 : Int), rfl, rfl, h0_1, rfl, (gr_refl _ _), (Own.nil vv w w.heap.size 36), (RelD.nil (d := deS) (w := w)), DnD.nil, (NewD.nil (d := deS))⟩ (by repeat (first | exact Sub.nil | refine Sub.cons rfl ?_)) ?_
  clear h0_1
  rintro _ _ w1 ⟨out, A_out, c_out, n_out, hs_out, i, rfl, rfl, hI1, rfl, gr1, k1, k2, dj1, or1⟩
  have H := HR1 out i hI1
  refine WC.seq ?_
  refine WC.seq ?_
  refine WC.region ?_
  refine WL.y rfl (Yld.pure tab_ok rfl) ?_
  refine WL.y rfl (Yld.pure tab_ok rfl) ?_
  refine WL.y rfl (Yld.pure tab_ok rfl) ?_
  refine WL.y rfl (Yld.pure tab_ok rfl) ?_
  refine WL.nil (WX.then_normal ?_)
  refine WC.cond rfl (fun b1 => ?_) (fun b1 => ?_)
  · replace H := H.1 (of_decide_eq_true b1)
    refine WC.skip (WX.then_normal ?_)
    refine WC.seq ?_
    refine WC.block ?_
    refine WC.seq ?_
    refine WC.region ?_
    refine WL.y rfl (Yld.pure tab_ok rfl) ?_
    refine WL.nil (WX.then_normal ?_)
    refine WC.seq ?_
    refine WC.region ?_
    refine WL.y rfl (Yld.pure tab_ok rfl) ?_
    refine WL.nil (WX.then_normal ?_)
    refine WC.seq ?_
    refine WC.seq ?_
    refine WC.region ?_
    refine WL.y rfl (Yld.pure tab_ok rfl) ?_
    refine WL.nil (WX.then_normal ?_)
    refine WC.block ?_
    obtain ⟨I2, mu2, h0_2, HR2⟩ := H
    refine WC.loopF (fun n' L' w' => ∃ (own : List PV), ∃ (A_own : Option Addr), ∃ (c_own : Nat), ∃ (n_own : Nat), ∃ (hs_own : List VH), ∃ (k : Int), n' = mu2 own k ∧ L' = [(0, .slice A_l l.length c_l), (4, .slice A_out out.length c_out), (5, .int .i64 i), (6, .slice A_own n_own c_own), (7, .slice none 0 0), (8, .int .i64 k)] ∧ I2 own k ∧ n_own = own.length ∧ w.grownBy w' none ∧ Own vv w' w.heap.size 36 A_out c_out hs_out ∧ RelD deS w' hs_out out ∧ Own vv w' w.heap.size 41 A_own c_own hs_own ∧ RelD deV w' hs_own own ∧ Dj (blk A_out) (blk A_own) ∧ DnD deS hs_out out (blk A_out) ∧ DnD deS hs_out out (blk A_own) ∧ DnD deV hs_own own (blk A_out) ∧ DnD deV hs_own own (blk A_own) ∧ NewD deS hs_out out w.heap.size ∧ NewD deV hs_own own w.heap.size) _ _ ⟨[], none, 0, 0, [], (0 : Int), rfl, rfl, h0_2, rfl, gr1, k1, k2, (Own.nil vv w1 w.heap.size 41), (RelD.nil (d := deV) (w := w1)), Dj.nr, dj1, (DnD.none k2), DnD.nil, DnD.nil, or1, (NewD.nil (d := deV))⟩ (by repeat (first | exact Sub.nil | refine Sub.cons rfl ?_)) ?_
    clear h0_2
    rintro _ _ w2 ⟨own, A_own, c_own, n_own, hs_own, k, rfl, rfl, hI2, rfl, gr2, k3, k4, k5, k6, dj2, dj3, dj4, dj5, dj6, or2, or3⟩
    have H := HR2 own k hI2
    refine WC.seq ?_
    refine WC.seq ?_
    refine WC.region ?_
    refine WL.y rfl (Yld.pure tab_ok rfl) ?_
    refine WL.y rfl (Yld.pure tab_ok rfl) ?_
    refine WL.y rfl (Yld.pure tab_ok rfl) ?_
    obtain ⟨h1, H⟩ := H
    refine WL.y rfl (Yld.iaddrK tab_ok (hl.grown gr2) rfl rfl hr_l.1.symm rfl h1.1 h1.2) ?_
    refine WL.y rfl (Yld.faddrK tab_ok (hl.grown gr2) (iltN h1 hr_l.1.symm) rfl rfl rfl) ?_
    obtain ⟨⟨f1, ⟨A_el, n1, c_el⟩, ⟨A_el2, n2, c_el2⟩⟩, eh1, ⟨en1, ⟨en2, hR1⟩, ⟨en3, hR2⟩⟩⟩ := RelD.at hr_l (0, hd0, hd0) (0, [], []) (j := i.toNat) (Nat.lt_of_lt_of_eq (iltN h1 hr_l.1.symm) hr_l.1)
    have en1 : f1 = (l.getD i.toNat (0, [], [])).1 := en1
    subst en1
    have en2 : n1 = ((l.getD i.toNat (0, [], [])).2.1).length := en2
    subst en2
    have en3 : n2 = ((l.getD i.toNat (0, [], [])).2.2).length := en3
    subst en3
    refine WL.y rfl (Yld.iloadF (v := .slice A_el (((l.getD i.toNat (0, [], [])).2.1).length) c_el) (0, hd0, hd0) tab_ok (hl.grown gr2) rfl rfl (iltN h1 hr_l.1.symm) (by rw [eh1]; rfl)) ?_
    refine WL.y rfl (Yld.pure tab_ok rfl) ?_
    refine WL.y rfl (Yld.pure tab_ok rfl) ?_
    refine WL.nil (WX.then_normal ?_)
    refine WC.cond rfl (fun b2 => ?_) (fun b2 => ?_)
    · replace H := H.1 (of_decide_eq_true b2)
      refine WC.skip (WX.then_normal ?_)
      refine WC.seq ?_
      refine WC.block ?_
      refine WC.region ?_
      refine WL.y rfl (Yld.pure tab_ok rfl) ?_
      refine WL.y rfl (Yld.pure tab_ok rfl) ?_
      refine WL.y rfl (Yld.pure tab_ok rfl) ?_
      obtain ⟨h2, H⟩ := H
      refine WL.y rfl (Yld.iaddrK tab_ok (hl.grown gr2) rfl rfl hr_l.1.symm rfl h2.1 h2.2) ?_
      refine WL.y rfl (Yld.faddrK tab_ok (hl.grown gr2) (iltN h2 hr_l.1.symm) rfl rfl rfl) ?_
      refine WL.y rfl (Yld.iloadF (v := .slice A_el (((l.getD i.toNat (0, [], [])).2.1).length) c_el) (0, hd0, hd0) tab_ok (hl.grown gr2) rfl rfl (iltN h2 hr_l.1.symm) (by rw [eh1]; rfl)) ?_
      refine WL.y rfl (Yld.pure tab_ok rfl) ?_
      obtain ⟨h3, H⟩ := H
      refine WL.y rfl (Yld.iaddrW tab_ok (hR1.grown gr2) rfl rfl rfl rfl h3.1 h3.2) ?_
      refine WL.y rfl (Yld.iload 0 tab_ok (hR1.grown gr2) rfl rfl (iltN h3 rfl)) ?_
      refine WL.call rfl rfl (W_smithylaw13_small H) ?_
      rintro _ w3 ⟨hg1, v_t37, F_t37, t37, rfl, ht37, ho1, H⟩
      have gr3 := gr_trans gr2 hg1
      have k7 := k3.grown hg1
      have k8 := k4.grown hg1
      have k9 := k5.grown hg1
      have k10 := k6.grown hg1
      refine WL.lit (us := [v_t37.1]) tab_ok rfl rfl rfl (all1c v_t37.2 all1n) rfl (by omega) (fun g2 w5 hB2 hg3 hl2 => ?_)
      have hO2 : Own vv w5 w.heap.size 41 (some ⟨g2, 0, none⟩) 1 ([(v_t37, F_t37)] : List VH) := Own.ofBl hB2 (Nat.le_trans (size_le gr3) hl2) (by simp [maxLen]) rfl
      have gr4 := gr_trans gr3 hg3
      have k11 := k7.grown hg3
      have k12 := k8.grown hg3
      have k13 := k9.grown hg3
      have k14 := k10.grown hg3
      have k15 := ht37.grown hg3
      have hr1 : RelD deV w5 ([(v_t37, F_t37)] : List VH) ([t37] : List PV) := (RelD.cons (RelD.one k15) RelD.nil)
      have nd1 : NewD deV ([(v_t37, F_t37)] : List VH) ([t37] : List PV) w.heap.size := (NewD.cons (d := deV) (fun p_ hp_ => (DnD.one (ho1 p_ (fun g_ e_ => Nat.lt_of_lt_of_le (hp_ g_ e_) (size_le gr2))))) NewD.nil)
      have dj7 : DnD deV ([(v_t37, F_t37)] : List VH) ([t37] : List PV) (blk A_out) := (DnD.cons (d := deV) (DnD.one (ho1 _ k3.lt')) DnD.nil)
      have dj8 : DnD deV ([(v_t37, F_t37)] : List VH) ([t37] : List PV) (blk A_own) := (DnD.cons (d := deV) (DnD.one (ho1 _ k5.lt')) DnD.nil)
      have dj9 : DnD deV ([(v_t37, F_t37)] : List VH) ([t37] : List PV) (blk (some ⟨g2, 0, none⟩)) := (DnD.cons (d := deV) (DnD.one (ht37.new (Ge.box hl2))) DnD.nil)
      obtain ⟨h4, H⟩ := H
      have h5 : ((hs_own : List VH).length + ([(v_t37, F_t37)] : List VH).length) * 16 ≤ 140737488355328 := by rw [k14.1, hr1.1]; exact h4
      refine WL.append tab_ok rfl rfl One.vv k13 rfl k6.1.symm hO2.rd rfl rfl h5 (applen h5) (size_le gr4) (fun A_own2 c_own2 w6 hO3 hg4 hk1 => ?_)
      have el1 : (hs_own ++ ([(v_t37, F_t37)] : List VH)).length = (own ++ ([t37] : List PV)).length := by rw [List.length_append, List.length_append, k14.1, hr1.1]
      rw [el1]
      have gr5 := gr_mod gr4 hg4 k13.ge'
      have k16 := k11.go hg4 dj2
      have k17 := k12.go hg4 dj4
      have k18 := k14.go hg4 dj6
      have k19 := hr1.go hg4 dj8
      have hr2 : RelD deV w6 (hs_own ++ ([(v_t37, F_t37)] : List VH)) (own ++ ([t37] : List PV)) := RelD.append k18 k19
      have nd2 : NewD deV (hs_own ++ ([(v_t37, F_t37)] : List VH)) (own ++ ([t37] : List PV)) w.heap.size := NewD.append k14.1 or3 nd1
      have dj10 : DnD deV (hs_own ++ ([(v_t37, F_t37)] : List VH)) (own ++ ([t37] : List PV)) (blk A_out) := (DnD.append k14.1 dj5 dj7)
      have dj11 : DnD deV (hs_own ++ ([(v_t37, F_t37)] : List VH)) (own ++ ([t37] : List PV)) (blk (some ⟨g2, 0, none⟩)) := (DnD.append k14.1 (k10.new (Ge.box hl2)) dj9)
      have dj12 : DnD deV (hs_own ++ ([(v_t37, F_t37)] : List VH)) (own ++ ([t37] : List PV)) (blk A_own2) := (DnD.append k14.1 (RelD.app k14 dj6 hk1) (RelD.app hr1 dj8 hk1))
      refine WL.y rfl (Yld.pure tab_ok rfl) ?_
      refine WL.nil (WX.block_normal (WX.then_normal ?_))
      refine WC.region ?_
      refine WL.y rfl (Yld.pure tab_ok rfl) ?_
      obtain ⟨h6, H⟩ := H
      refine WL.y rfl (Yld.add rfl rfl h6) ?_
      refine WL.y rfl (Yld.pure tab_ok rfl) ?_
      refine WL.nil ?_
      exact WX.roundF _ ⟨own ++ ([t37] : List PV), A_own2, c_own2, (own ++ ([t37] : List PV)).length, hs_own ++ ([(v_t37, F_t37)] : List VH), k + (1 : Int), rfl, rfl, H.1, rfl, gr5, k16, k17, hO3, hr2, (Dj.app dj2.symm k11.lt' hk1).symm, dj3, (RelD.app k12 dj4 hk1), dj10, dj12, or2, nd2⟩ (by repeat (first | exact Sub.nil | refine Sub.cons rfl ?_)) H.2
    · replace H := H.2 (of_decide_eq_false b2)
      refine WC.exit (WX.then_exit (WX.then_exit (WX.block_same (WX.then_normal ?_))))
      refine WC.seq ?_
      refine WC.seq ?_
      refine WC.region ?_
      refine WL.y rfl (Yld.pure tab_ok rfl) ?_
      refine WL.nil (WX.then_normal ?_)
      refine WC.block ?_
      obtain ⟨I3, mu3, h0_3, HR3⟩ := H
      refine WC.loopF (fun n' L' w' => ∃ (from_ : List PS), ∃ (A_from : Option Addr), ∃ (c_from : Nat), ∃ (n_from : Nat), ∃ (hs_from : List VH), ∃ (k_2 : Int), n' = mu3 from_ k_2 ∧ L' = [(0, .slice A_l l.length c_l), (4, .slice A_out out.length c_out), (5, .int .i64 i), (6, .slice A_own own.length c_own), (7, .slice A_from n_from c_from), (9, .int .i64 k_2)] ∧ I3 from_ k_2 ∧ n_from = from_.length ∧ w.grownBy w' none ∧ Own vv w' w.heap.size 36 A_out c_out hs_out ∧ RelD deS w' hs_out out ∧ Own vv w' w.heap.size 41 A_own c_own hs_own ∧ RelD deV w' hs_own own ∧ Own vv w' w.heap.size 36 A_from c_from hs_from ∧ RelD deS w' hs_from from_ ∧ Dj (blk A_out) (blk A_own) ∧ Dj (blk A_out) (blk A_from) ∧ DnD deS hs_out out (blk A_out) ∧ DnD deS hs_out out (blk A_own) ∧ DnD deS hs_out out (blk A_from) ∧ Dj (blk A_own) (blk A_from) ∧ DnD deV hs_own own (blk A_out) ∧ DnD deV hs_own own (blk A_own) ∧ DnD deV hs_own own (blk A_from) ∧ DnD deS hs_from from_ (blk A_out) ∧ DnD deS hs_from from_ (blk A_own) ∧ DnD deS hs_from from_ (blk A_from) ∧ NewD deS hs_out out w.heap.size ∧ NewD deV hs_own own w.heap.size ∧ NewD deS hs_from from_ w.heap.size) _ _ ⟨[], none, 0, 0, [], (0 : Int), rfl, rfl, h0_3, rfl, gr2, k3, k4, k5, k6, (Own.nil vv w2 w.heap.size 36), (RelD.nil (d := deS) (w := w2)), dj2, Dj.nr, dj3, dj4, (DnD.none k4), Dj.nr, dj5, dj6, (DnD.none k6), DnD.nil, DnD.nil, DnD.nil, or2, or3, (NewD.nil (d := deS))⟩ (by repeat (first | exact Sub.nil | refine Sub.cons rfl ?_)) ?_
      clear h0_3
      rintro _ _ w7 ⟨from_, A_from, c_from, n_from, hs_from, k_2, rfl, rfl, hI3, rfl, gr6, k20, k21, k22, k23, k24, k25, dj13, dj14, dj15, dj16, dj17, dj18, dj19, dj20, dj21, dj22, dj23, dj24, or4, or5, or6⟩
      have H := HR3 from_ k_2 hI3
      refine WC.seq ?_
      refine WC.seq ?_
      refine WC.region ?_
      refine WL.y rfl (Yld.pure tab_ok rfl) ?_
      refine WL.y rfl (Yld.pure tab_ok rfl) ?_
      refine WL.y rfl (Yld.pure tab_ok rfl) ?_
      obtain ⟨h7, H⟩ := H
      refine WL.y rfl (Yld.iaddrK tab_ok (hl.grown gr6) rfl rfl hr_l.1.symm rfl h7.1 h7.2) ?_
      refine WL.y rfl (Yld.faddrK tab_ok (hl.grown gr6) (iltN h7 hr_l.1.symm) rfl rfl rfl) ?_
      refine WL.y rfl (Yld.iloadF (v := .slice A_el2 (((l.getD i.toNat (0, [], [])).2.2).length) c_el2) (0, hd0, hd0) tab_ok (hl.grown gr6) rfl rfl (iltN h7 hr_l.1.symm) (by rw [eh1]; rfl)) ?_
      refine WL.y rfl (Yld.pure tab_ok rfl) ?_
      refine WL.y rfl (Yld.pure tab_ok rfl) ?_
      refine WL.y rfl (Yld.pure tab_ok rfl) ?_
      refine WL.midF 3 (fun L' w' => ∃ q1 : Bool, L' = [(51, .bool q1), (0, .slice A_l l.length c_l), (4, .slice A_out out.length c_out), (5, .int .i64 i), (6, .slice A_own own.length c_own), (7, .slice A_from from_.length c_from), (9, .int .i64 k_2)] ∧ ((decide (k_2 < (((l.getD i.toNat (0, [], [])).2.2).length : Int))) && (decide ((0 : Int) < i))) = q1 ∧ w7 = w') ?_ (fun hQ => ?_)
      · rintro _ _ ⟨q1, rfl, rfl, rfl⟩
        refine WL.nil (WX.then_normal ?_)
        refine WC.cond rfl (fun b3 => ?_) (fun b3 => ?_)
        · replace H := H.1 (b3)
          refine WC.skip (WX.then_normal ?_)
          refine WC.seq ?_
          refine WC.block ?_
          refine WC.region ?_
          refine WL.y rfl (Yld.pure tab_ok rfl) ?_
          refine WL.y rfl (Yld.pure tab_ok rfl) ?_
          refine WL.y rfl (Yld.pure tab_ok rfl) ?_
          refine WL.y rfl (Yld.pure tab_ok rfl) ?_
          obtain ⟨h8, H⟩ := H
          refine WL.y rfl (Yld.iaddrK tab_ok (hl.grown gr6) rfl rfl hr_l.1.symm rfl h8.1 h8.2) ?_
          refine WL.y rfl (Yld.faddrK tab_ok (hl.grown gr6) (iltN h8 hr_l.1.symm) rfl rfl rfl) ?_
          refine WL.y rfl (Yld.iloadF (v := .slice A_el2 (((l.getD i.toNat (0, [], [])).2.2).length) c_el2) (0, hd0, hd0) tab_ok (hl.grown gr6) rfl rfl (iltN h8 hr_l.1.symm) (by rw [eh1]; rfl)) ?_
          refine WL.y rfl (Yld.pure tab_ok rfl) ?_
          obtain ⟨h9, H⟩ := H
          refine WL.y rfl (Yld.iaddrW tab_ok (hR2.grown gr6) rfl rfl rfl rfl h9.1 h9.2) ?_
          refine WL.y rfl (Yld.iload 0 tab_ok (hR2.grown gr6) rfl rfl (iltN h9 rfl)) ?_
          refine WL.y rfl (Yld.pure tab_ok rfl) ?_
          refine WL.call rfl rfl (W_smithyworld_Number H) ?_
          rintro _ _ ⟨rfl, t65, rfl, H⟩
          obtain ⟨h10, H⟩ := H
          refine WL.y rfl (Yld.iaddrW tab_ok k20.rd rfl rfl k2.1.symm rfl h10.1 h10.2) ?_
          obtain ⟨⟨v_el, F_el⟩, eh2, hR3⟩ := RelD.at k21 vh0 PS.nil (j := t65.toNat) (Nat.lt_of_lt_of_eq (iltN h10 k2.1.symm) k21.1)
          have hv1 : RelD deS w7 [(v_el, F_el)] [out.getD t65.toNat PS.nil] := RelD.cons hR3 RelD.nil
          refine WL.y rfl (Yld.to (v := v_el.1) (Yld.iload vh0 tab_ok k20.rd rfl rfl (iltN h10 k2.1.symm)) (congrArg vv eh2)) ?_
          refine WL.lit (us := [v_el.1]) tab_ok rfl rfl rfl (all1c v_el.2 all1n) rfl (by omega) (fun g4 w9 hB4 hg6 hl4 => ?_)
          have hO5 : Own vv w9 w.heap.size 36 (some ⟨g4, 0, none⟩) 1 ([(v_el, F_el)] : List VH) := Own.ofBl hB4 (Nat.le_trans (size_le gr6) hl4) (by simp [maxLen]) rfl
          have gr7 := gr_trans gr6 hg6
          have k26 := k20.grown hg6
          have k27 := k21.grown hg6
          have k28 := k22.grown hg6
          have k29 := k23.grown hg6
          have k30 := k24.grown hg6
          have k31 := k25.grown hg6
          have k32 := hv1.grown hg6
          have hr3 : RelD deS w9 ([(v_el, F_el)] : List VH) ([out.getD t65.toNat PS.nil] : List PS) := (RelD.cons (RelD.one k32) RelD.nil)
          have nd3 : NewD deS ([(v_el, F_el)] : List VH) ([out.getD t65.toNat PS.nil] : List PS) w.heap.size := (NewD.cons (d := deS) (fun p_ hp_ => (DnD.one (DnD.cons (DnD.at (or4 p_ hp_) k21.1 (Nat.lt_of_lt_of_eq (iltN h10 k2.1.symm) k21.1) eh2) DnD.nil))) NewD.nil)
          have dj25 : DnD deS ([(v_el, F_el)] : List VH) ([out.getD t65.toNat PS.nil] : List PS) (blk A_out) := (DnD.cons (d := deS) (DnD.one (DnD.cons (DnD.at dj15 k21.1 (Nat.lt_of_lt_of_eq (iltN h10 k2.1.symm) k21.1) eh2) DnD.nil)) DnD.nil)
          have dj26 : DnD deS ([(v_el, F_el)] : List VH) ([out.getD t65.toNat PS.nil] : List PS) (blk A_own) := (DnD.cons (d := deS) (DnD.one (DnD.cons (DnD.at dj16 k21.1 (Nat.lt_of_lt_of_eq (iltN h10 k2.1.symm) k21.1) eh2) DnD.nil)) DnD.nil)
          have dj27 : DnD deS ([(v_el, F_el)] : List VH) ([out.getD t65.toNat PS.nil] : List PS) (blk A_from) := (DnD.cons (d := deS) (DnD.one (DnD.cons (DnD.at dj17 k21.1 (Nat.lt_of_lt_of_eq (iltN h10 k2.1.symm) k21.1) eh2) DnD.nil)) DnD.nil)
          have dj28 : DnD deS ([(v_el, F_el)] : List VH) ([out.getD t65.toNat PS.nil] : List PS) (blk (some ⟨g4, 0, none⟩)) := (DnD.cons (d := deS) (DnD.one (hv1.new (Ge.box hl4))) DnD.nil)
          obtain ⟨h11, H⟩ := H
          have h12 : ((hs_from : List VH).length + ([(v_el, F_el)] : List VH).length) * 8 ≤ 140737488355328 := by rw [k31.1, hr3.1]; exact h11
          refine WL.append tab_ok rfl rfl One.vv k30 rfl k25.1.symm hO5.rd rfl rfl h12 (applen h12) (size_le gr7) (fun A_from2 c_from2 w10 hO6 hg7 hk2 => ?_)
          have el2 : (hs_from ++ ([(v_el, F_el)] : List VH)).length = (from_ ++ ([out.getD t65.toNat PS.nil] : List PS)).length := by rw [List.length_append, List.length_append, k31.1, hr3.1]
          rw [el2]
          have gr8 := gr_mod gr7 hg7 k30.ge'
          have k33 := k26.go hg7 dj14
          have k34 := k27.go hg7 dj17
          have k35 := k28.go hg7 dj18
          have k36 := k29.go hg7 dj21
          have k37 := k31.go hg7 dj24
          have k38 := hr3.go hg7 dj27
          have hr4 : RelD deS w10 (hs_from ++ ([(v_el, F_el)] : List VH)) (from_ ++ ([out.getD t65.toNat PS.nil] : List PS)) := RelD.append k37 k38
          have nd4 : NewD deS (hs_from ++ ([(v_el, F_el)] : List VH)) (from_ ++ ([out.getD t65.toNat PS.nil] : List PS)) w.heap.size := NewD.append k31.1 or6 nd3
          have dj29 : DnD deS (hs_from ++ ([(v_el, F_el)] : List VH)) (from_ ++ ([out.getD t65.toNat PS.nil] : List PS)) (blk A_out) := (DnD.append k31.1 dj22 dj25)
          have dj30 : DnD deS (hs_from ++ ([(v_el, F_el)] : List VH)) (from_ ++ ([out.getD t65.toNat PS.nil] : List PS)) (blk A_own) := (DnD.append k31.1 dj23 dj26)
          have dj31 : DnD deS (hs_from ++ ([(v_el, F_el)] : List VH)) (from_ ++ ([out.getD t65.toNat PS.nil] : List PS)) (blk (some ⟨g4, 0, none⟩)) := (DnD.append k31.1 (k25.new (Ge.box hl4)) dj28)
          have dj32 : DnD deS (hs_from ++ ([(v_el, F_el)] : List VH)) (from_ ++ ([out.getD t65.toNat PS.nil] : List PS)) (blk A_from2) := (DnD.append k31.1 (RelD.app k31 dj24 hk2) (RelD.app hr3 dj27 hk2))
          refine WL.y rfl (Yld.pure tab_ok rfl) ?_
          refine WL.nil (WX.block_normal (WX.then_normal ?_))
          refine WC.region ?_
          refine WL.y rfl (Yld.pure tab_ok rfl) ?_
          obtain ⟨h13, H⟩ := H
          refine WL.y rfl (Yld.add rfl rfl h13) ?_
          refine WL.y rfl (Yld.pure tab_ok rfl) ?_
          refine WL.nil ?_
          exact WX.roundF _ ⟨from_ ++ ([out.getD t65.toNat PS.nil] : List PS), A_from2, c_from2, (from_ ++ ([out.getD t65.toNat PS.nil] : List PS)).length, hs_from ++ ([(v_el, F_el)] : List VH), k_2 + (1 : Int), rfl, rfl, H.1, rfl, gr8, k33, k34, k35, k36, hO6, hr4, dj13, (Dj.app dj14.symm k26.lt' hk2).symm, dj15, dj16, (RelD.app k27 dj17 hk2), (Dj.app dj18.symm k28.lt' hk2).symm, dj19, dj20, (RelD.app k29 dj21 hk2), dj29, dj30, dj32, or4, or5, nd4⟩ (by repeat (first | exact Sub.nil | refine Sub.cons rfl ?_)) H.2
        · replace H := H.2 (b3)
          refine WC.exit (WX.then_exit (WX.then_exit (WX.block_same (WX.then_normal ?_))))
          refine WC.seq ?_
          refine WC.region ?_
          refine WL.y rfl (Yld.pure tab_ok rfl) ?_
          refine WL.y rfl (Yld.pure tab_ok rfl) ?_
          obtain ⟨h14, H⟩ := H
          refine WL.y rfl (Yld.iaddrK tab_ok (hl.grown gr6) rfl rfl hr_l.1.symm rfl h14.1 h14.2) ?_
          refine WL.y rfl (Yld.faddrK tab_ok (hl.grown gr6) (iltN h14 hr_l.1.symm) rfl rfl rfl) ?_
          refine WL.y rfl (Yld.iloadF (v := .int .i64 ((l.getD i.toNat (0, [], [])).1)) (0, hd0, hd0) tab_ok (hl.grown gr6) rfl rfl (iltN h14 hr_l.1.symm) (by rw [eh1]; rfl)) ?_
          refine WL.y rfl (Yld.pure tab_ok rfl) ?_
          refine WL.y rfl (Yld.pure tab_ok rfl) ?_
          refine WL.call rfl rfl (W_deps_New (hG.grown gr6) hS3 hS7 k22.rd rfl k23 k24.rd rfl k25 H) ?_
          rintro _ w11 ⟨hg8, v_t780, F_t780, t780, v_t781, t781, rfl, ht780, ho2, hf1, ht781, H⟩
          replace H := H (fun hn_ x_ hx_ y_ hr_ hm_ => deS_fresh k21 hx_ hr_ hm_ (hf1 hn_))
          replace H := H (fun hn_ x_ hx_ y_ hr_ hm_ => deS_fresh k25 hx_ hr_ hm_ (hf1 hn_))
          have gr9 := gr_trans gr6 hg8
          have k39 := k20.grown hg8
          have k40 := k21.grown hg8
          refine WL.y rfl (Yld.pure tab_ok rfl) ?_
          refine WL.y rfl (Yld.pure tab_ok rfl) ?_
          refine WL.y rfl (Yld.pure tab_ok rfl) ?_
          refine WL.y rfl (Yld.pure tab_ok rfl) ?_
          refine WL.y rfl (Yld.pure tab_ok rfl) ?_
          refine WL.nil (WX.then_normal ?_)
          refine WC.seq ?_
          refine WC.seq ?_
          refine WC.region ?_
          refine WL.y rfl (Yld.pure tab_ok rfl) ?_
          have hv2 : RelD deS w11 [(pnil, noF)] [PS.nil] := deS_nil
          refine WL.y rfl (deS_eqnil Tryd.underlying36 ht780 rfl rfl) ?_
          refine WL.y rfl (Yld.pure tab_ok rfl) ?_
          refine WL.midF 3 (fun L' w' => ∃ q2 : Bool, L' = [(86, .bool q2), (0, .slice A_l l.length c_l), (4, .slice A_out out.length c_out), (5, .int .i64 i), (10, v_t780.1)] ∧ (t780.isNil || (!decide (t781 = Er.ok))) = q2 ∧ w11 = w') ?_ (fun hQ => ?_)
          · rintro _ _ ⟨q2, rfl, rfl, rfl⟩
            refine WL.nil (WX.then_normal ?_)
            refine WC.cond rfl (fun b4 => ?_) (fun b4 => ?_)
            · replace H := H.1 (b4)
              refine WC.seq ?_
              refine WC.region ?_
              refine WL.y rfl (Yld.pure tab_ok rfl) ?_
              refine WL.y rfl (Yld.pure tab_ok rfl) ?_
              refine WL.y rfl (Yld.pure tab_ok rfl) ?_
              refine WL.nil (WX.then_normal ?_)
              refine WC.ret (WX.then_ret (WX.block_ret (WX.then_ret (WX.then_ret (WX.block_ret (WX.then_ret ?_))))))
              exact WX.ret2 rfl rfl rfl ⟨gr9, out, A_out, c_out, hs_out, false, (by rw [k2.1.symm]), k39, k40, or4, dj15, H⟩
            · replace H := H.2 (b4)
              refine WC.skip (WX.then_normal ?_)
              refine WC.region ?_
              refine WL.y rfl (Yld.pure tab_ok rfl) ?_
              refine WL.y rfl (Yld.pure tab_ok rfl) ?_
              refine WL.lit (us := [v_t780.1]) tab_ok rfl rfl rfl (all1c v_t780.2 all1n) rfl (by omega) (fun g6 w13 hB6 hg10 hl6 => ?_)
              have hO8 : Own vv w13 w.heap.size 36 (some ⟨g6, 0, none⟩) 1 ([(v_t780, F_t780)] : List VH) := Own.ofBl hB6 (Nat.le_trans (size_le gr9) hl6) (by simp [maxLen]) rfl
              have gr10 := gr_trans gr9 hg10
              have k41 := k39.grown hg10
              have k42 := k40.grown hg10
              have k43 := ht780.grown hg10
              have hr5 : RelD deS w13 ([(v_t780, F_t780)] : List VH) ([t780] : List PS) := (RelD.cons (RelD.one k43) RelD.nil)
              have nd5 : NewD deS ([(v_t780, F_t780)] : List VH) ([t780] : List PS) w.heap.size := (NewD.cons (d := deS) (fun p_ hp_ => (DnD.one (ho2 p_ (fun g_ e_ => Nat.lt_of_lt_of_le (hp_ g_ e_) (size_le gr6)) (or5 p_ hp_) (or6 p_ hp_)))) NewD.nil)
              have dj33 : DnD deS ([(v_t780, F_t780)] : List VH) ([t780] : List PS) (blk A_out) := (DnD.cons (d := deS) (DnD.one (ho2 _ k20.lt' dj19 dj22)) DnD.nil)
              have dj34 : DnD deS ([(v_t780, F_t780)] : List VH) ([t780] : List PS) (blk (some ⟨g6, 0, none⟩)) := (DnD.cons (d := deS) (DnD.one (ht780.new (Ge.box hl6))) DnD.nil)
              obtain ⟨h15, H⟩ := H
              have h16 : ((hs_out : List VH).length + ([(v_t780, F_t780)] : List VH).length) * 8 ≤ 140737488355328 := by rw [k42.1, hr5.1]; exact h15
              refine WL.append tab_ok rfl rfl One.vv k41 rfl k2.1.symm hO8.rd rfl rfl h16 (applen h16) (size_le gr10) (fun A_out2 c_out2 w14 hO9 hg11 hk3 => ?_)
              have el3 : (hs_out ++ ([(v_t780, F_t780)] : List VH)).length = (out ++ ([t780] : List PS)).length := by rw [List.length_append, List.length_append, k42.1, hr5.1]
              rw [el3]
              have gr11 := gr_mod gr10 hg11 k41.ge'
              have k44 := k42.go hg11 dj15
              have k45 := hr5.go hg11 dj33
              have hr6 : RelD deS w14 (hs_out ++ ([(v_t780, F_t780)] : List VH)) (out ++ ([t780] : List PS)) := RelD.append k44 k45
              have nd6 : NewD deS (hs_out ++ ([(v_t780, F_t780)] : List VH)) (out ++ ([t780] : List PS)) w.heap.size := NewD.append k42.1 or4 nd5
              have dj35 : DnD deS (hs_out ++ ([(v_t780, F_t780)] : List VH)) (out ++ ([t780] : List PS)) (blk (some ⟨g6, 0, none⟩)) := (DnD.append k42.1 (k40.new (Ge.box hl6)) dj34)
              have dj36 : DnD deS (hs_out ++ ([(v_t780, F_t780)] : List VH)) (out ++ ([t780] : List PS)) (blk A_out2) := (DnD.append k42.1 (RelD.app k42 dj15 hk3) (RelD.app hr5 dj33 hk3))
              refine WL.y rfl (Yld.pure tab_ok rfl) ?_
              refine WL.nil (WX.block_normal (WX.then_normal ?_))
              refine WC.region ?_
              refine WL.y rfl (Yld.pure tab_ok rfl) ?_
              obtain ⟨h17, H⟩ := H
              refine WL.y rfl (Yld.add rfl rfl h17) ?_
              refine WL.y rfl (Yld.pure tab_ok rfl) ?_
              refine WL.nil ?_
              exact WX.roundF _ ⟨out ++ ([t780] : List PS), A_out2, c_out2, (out ++ ([t780] : List PS)).length, hs_out ++ ([(v_t780, F_t780)] : List VH), i + (1 : Int), rfl, rfl, H.1, rfl, gr11, hO9, hr6, dj36, nd6⟩ (by repeat (first | exact Sub.nil | refine Sub.cons rfl ?_)) H.2
          · clear H
            rcases Bool.eq_false_or_eq_true (t780.isNil) with b5 | b5
            · refine WL.gno rfl rfl (okb b5) rfl ?_
              refine WL.gno rfl rfl (okb b5) rfl ?_
              refine WL.y rfl (Yld.pickT (okb b5) rfl) ?_
              exact WL.weaken (by repeat (first | exact Sub.nil | refine Sub.cons rfl ?_)) (hQ _ _ ⟨true, rfl, by rw [b5] <;> rfl, rfl⟩)
            · refine WL.gyes rfl rfl (okb b5) rfl (Yld.pure tab_ok rfl) ?_
              refine WL.gyes rfl rfl (okb b5) rfl (Yld.errneq Tryd.underlying34 ht781 rfl) ?_
              refine WL.y rfl (Yld.pickF (okb b5) rfl) ?_
              exact WL.weaken (by repeat (first | exact Sub.nil | refine Sub.cons rfl ?_)) (hQ _ _ ⟨!decide (t781 = Er.ok), rfl, by rw [b5] <;> rfl, rfl⟩)
      · clear H
        rcases Bool.eq_false_or_eq_true (decide (k_2 < (((l.getD i.toNat (0, [], [])).2.2).length : Int))) with b6 | b6
        · refine WL.gyes rfl rfl (okb b6) rfl (Yld.pure tab_ok rfl) ?_
          refine WL.gyes rfl rfl (okb b6) rfl (Yld.pure tab_ok rfl) ?_
          refine WL.y rfl (Yld.pickT (okb b6) rfl) ?_
          exact WL.weaken (by repeat (first | exact Sub.nil | refine Sub.cons rfl ?_)) (hQ _ _ ⟨decide ((0 : Int) < i), rfl, by rw [b6] <;> rfl, rfl⟩)
        · refine WL.gno rfl rfl (okb b6) rfl ?_
          refine WL.gno rfl rfl (okb b6) rfl ?_
          refine WL.y rfl (Yld.pickF (okb b6) rfl) ?_
          exact WL.weaken (by repeat (first | exact Sub.nil | refine Sub.cons rfl ?_)) (hQ _ _ ⟨false, rfl, by rw [b6] <;> rfl, rfl⟩)
  · replace H := H.2 (of_decide_eq_false b1)
    refine WC.exit (WX.then_exit (WX.then_exit (WX.block_same (WX.then_normal ?_))))
    refine WC.seq ?_
    refine WC.region ?_
    refine WL.y rfl (Yld.pure tab_ok rfl) ?_
    refine WL.y rfl (Yld.pure tab_ok rfl) ?_
    refine WL.y rfl (Yld.pure tab_ok rfl) ?_
    refine WL.nil (WX.then_normal ?_)
    refine WC.ret ?_
    exact WX.ret2 rfl rfl rfl ⟨gr1, out, A_out, c_out, hs_out, true, (by rw [k2.1.symm]), k1, k2, or1, dj1, H⟩

set_option maxHeartbeats 8000000 in
theorem W_smithylaw13_first {S : List Nat} {w : World} {K : Bool → Prop} (hG : GOK S w) (hS3 : 3 ∈ S) (hS7 : 7 ∈ S) (H : M_smithylaw13_first  K) : Fn Tryd.prog 7 ⟨[]⟩ w (fun v w' => w.grownBy w' none ∧ ∃ (r : Bool), v = .bool r ∧ K r) := by
  unfold M_smithylaw13_first at H
  refine Fn.enter (by kernel_rfl) Tryd.func7 rfl Tryd.ntmps7 rfl ?_
  refine WC.seq ?_
  refine WC.region ?_
  refine WL.y rfl (Yld.pure tab_ok rfl) ?_
  refine WL.nil (WX.then_normal ?_)
  refine WC.seq ?_
  refine WC.region ?_
  refine WL.lit tab_ok rfl rfl rfl (all1c rfl all1n) rfl (by omega) (fun g1 w1 hB1 hg1 hl1 => ?_)
  have hO1 : Own vi w1 w.heap.size 3 (some ⟨g1, 0, none⟩) 1 ([(1 : Int)] : List Int) := Own.ofBl hB1 (Nat.le_trans (Nat.le_refl _) hl1) (by simp [maxLen]) rfl
  have gr1 := hg1
  refine WL.y rfl (Yld.struct (us := [.int .i64 (0 : Int), .slice (some ⟨g1, 0, none⟩) 1 1, .slice none 0 0]) zero28 places28 rfl rfl) ?_
  refine WL.lit tab_ok rfl rfl rfl (all1c rfl all1n) rfl (by omega) (fun g2 w2 hB2 hg2 hl2 => ?_)
  have hO2 : Own vi w2 w.heap.size 3 (some ⟨g2, 0, none⟩) 1 ([(2 : Int)] : List Int) := Own.ofBl hB2 (Nat.le_trans (size_le gr1) hl2) (by simp [maxLen]) rfl
  have gr2 := gr_trans gr1 hg2
  have k1 := hO1.grown hg2
  refine WL.lit tab_ok rfl rfl rfl (all1c rfl all1n) rfl (by omega) (fun g3 w3 hB3 hg3 hl3 => ?_)
  have hO3 : Own vi w3 w.heap.size 3 (some ⟨g3, 0, none⟩) 1 ([(0 : Int)] : List Int) := Own.ofBl hB3 (Nat.le_trans (size_le gr2) hl3) (by simp [maxLen]) rfl
  have gr3 := gr_trans gr2 hg3
  have k2 := k1.grown hg3
  have k3 := hO2.grown hg3
  refine WL.y rfl (Yld.struct (us := [.int .i64 (0 : Int), .slice (some ⟨g2, 0, none⟩) 1 1, .slice (some ⟨g3, 0, none⟩) 1 1]) zero28 places28 rfl rfl) ?_
  refine WL.lit tab_ok rfl rfl rfl (all1c rfl all1n) rfl (by omega) (fun g4 w4 hB4 hg4 hl4 => ?_)
  have hO4 : Own vi w4 w.heap.size 3 (some ⟨g4, 0, none⟩) 1 ([(3 : Int)] : List Int) := Own.ofBl hB4 (Nat.le_trans (size_le gr3) hl4) (by simp [maxLen]) rfl
  have gr4 := gr_trans gr3 hg4
  have k4 := k2.grown hg4
  have k5 := k3.grown hg4
  have k6 := hO3.grown hg4
  refine WL.lit tab_ok rfl rfl rfl (all1c rfl all1n) rfl (by omega) (fun g5 w5 hB5 hg5 hl5 => ?_)
  have hO5 : Own vi w5 w.heap.size 3 (some ⟨g5, 0, none⟩) 1 ([(0 : Int)] : List Int) := Own.ofBl hB5 (Nat.le_trans (size_le gr4) hl5) (by simp [maxLen]) rfl
  have gr5 := gr_trans gr4 hg5
  have k7 := k4.grown hg5
  have k8 := k5.grown hg5
  have k9 := k6.grown hg5
  have k10 := hO4.grown hg5
  refine WL.y rfl (Yld.struct (us := [.int .i64 (0 : Int), .slice (some ⟨g4, 0, none⟩) 1 1, .slice (some ⟨g5, 0, none⟩) 1 1]) zero28 places28 rfl rfl) ?_
  refine WL.lit tab_ok rfl rfl rfl (all1c rfl all1n) rfl (by omega) (fun g6 w6 hB6 hg6 hl6 => ?_)
  have hO6 : Own vi w6 w.heap.size 3 (some ⟨g6, 0, none⟩) 1 ([(4 : Int)] : List Int) := Own.ofBl hB6 (Nat.le_trans (size_le gr5) hl6) (by simp [maxLen]) rfl
  have gr6 := gr_trans gr5 hg6
  have k11 := k7.grown hg6
  have k12 := k8.grown hg6
  have k13 := k9.grown hg6
  have k14 := k10.grown hg6
  have k15 := hO5.grown hg6
  refine WL.lit tab_ok rfl rfl rfl (all1c rfl (all1c rfl all1n)) rfl (by omega) (fun g7 w7 hB7 hg7 hl7 => ?_)
  have hO7 : Own vi w7 w.heap.size 3 (some ⟨g7, 0, none⟩) 2 ([(1 : Int), (2 : Int)] : List Int) := Own.ofBl hB7 (Nat.le_trans (size_le gr6) hl7) (by simp [maxLen]) rfl
  have gr7 := gr_trans gr6 hg7
  have k16 := k11.grown hg7
  have k17 := k12.grown hg7
  have k18 := k13.grown hg7
  have k19 := k14.grown hg7
  have k20 := k15.grown hg7
  have k21 := hO6.grown hg7
  refine WL.y rfl (Yld.struct (us := [.int .i64 (0 : Int), .slice (some ⟨g6, 0, none⟩) 1 1, .slice (some ⟨g7, 0, none⟩) 2 2]) zero28 places28 rfl rfl) ?_
  refine WL.litK (f := encH28) ([((0 : Int), ⟨(some ⟨g1, 0, none⟩), 1, 1⟩, ⟨none, 0, 0⟩), ((0 : Int), ⟨(some ⟨g2, 0, none⟩), 1, 1⟩, ⟨(some ⟨g3, 0, none⟩), 1, 1⟩), ((0 : Int), ⟨(some ⟨g4, 0, none⟩), 1, 1⟩, ⟨(some ⟨g5, 0, none⟩), 1, 1⟩), ((0 : Int), ⟨(some ⟨g6, 0, none⟩), 1, 1⟩, ⟨(some ⟨g7, 0, none⟩), 2, 2⟩)] : List (Int × Hdr × Hdr)) encH28_ok rfl ow22 rfl rfl rfl (fun g9 w9 hB9 hg9 hl9 => ?_)
  have hO9 : OwnK 3 encH28 w9 w.heap.size 28 (some ⟨g9, 0, none⟩) 4 ([((0 : Int), ⟨(some ⟨g1, 0, none⟩), 1, 1⟩, ⟨none, 0, 0⟩), ((0 : Int), ⟨(some ⟨g2, 0, none⟩), 1, 1⟩, ⟨(some ⟨g3, 0, none⟩), 1, 1⟩), ((0 : Int), ⟨(some ⟨g4, 0, none⟩), 1, 1⟩, ⟨(some ⟨g5, 0, none⟩), 1, 1⟩), ((0 : Int), ⟨(some ⟨g6, 0, none⟩), 1, 1⟩, ⟨(some ⟨g7, 0, none⟩), 2, 2⟩)] : List (Int × Hdr × Hdr)) := OwnK.ofBl encH28_ok hB9 (Nat.le_trans (size_le gr7) hl9) (by simp [maxLen]) rfl
  have gr8 := gr_trans gr7 hg9
  have k22 := k16.grown hg9
  have k23 := k17.grown hg9
  have k24 := k18.grown hg9
  have k25 := k19.grown hg9
  have k26 := k20.grown hg9
  have k27 := k21.grown hg9
  have k28 := hO7.grown hg9
  have hr1 : RelD de28 w9 ([((0 : Int), ⟨(some ⟨g1, 0, none⟩), 1, 1⟩, ⟨none, 0, 0⟩), ((0 : Int), ⟨(some ⟨g2, 0, none⟩), 1, 1⟩, ⟨(some ⟨g3, 0, none⟩), 1, 1⟩), ((0 : Int), ⟨(some ⟨g4, 0, none⟩), 1, 1⟩, ⟨(some ⟨g5, 0, none⟩), 1, 1⟩), ((0 : Int), ⟨(some ⟨g6, 0, none⟩), 1, 1⟩, ⟨(some ⟨g7, 0, none⟩), 2, 2⟩)] : List (Int × Hdr × Hdr)) ([((0 : Int), ([(1 : Int)] : List Int), []), ((0 : Int), ([(2 : Int)] : List Int), ([(0 : Int)] : List Int)), ((0 : Int), ([(3 : Int)] : List Int), ([(0 : Int)] : List Int)), ((0 : Int), ([(4 : Int)] : List Int), ([(1 : Int), (2 : Int)] : List Int))] : List (Int × List Int × List Int)) := (RelD.cons ⟨rfl, ⟨rfl, k22.rd⟩, ⟨rfl, (Own.nil vi w9 w.heap.size 3).rd⟩⟩ (RelD.cons ⟨rfl, ⟨rfl, k23.rd⟩, ⟨rfl, k24.rd⟩⟩ (RelD.cons ⟨rfl, ⟨rfl, k25.rd⟩, ⟨rfl, k26.rd⟩⟩ (RelD.cons ⟨rfl, ⟨rfl, k27.rd⟩, ⟨rfl, k28.rd⟩⟩ RelD.nil))))
  have nd1 : NewD de28 ([((0 : Int), ⟨(some ⟨g1, 0, none⟩), 1, 1⟩, ⟨none, 0, 0⟩), ((0 : Int), ⟨(some ⟨g2, 0, none⟩), 1, 1⟩, ⟨(some ⟨g3, 0, none⟩), 1, 1⟩), ((0 : Int), ⟨(some ⟨g4, 0, none⟩), 1, 1⟩, ⟨(some ⟨g5, 0, none⟩), 1, 1⟩), ((0 : Int), ⟨(some ⟨g6, 0, none⟩), 1, 1⟩, ⟨(some ⟨g7, 0, none⟩), 2, 2⟩)] : List (Int × Hdr × Hdr)) ([((0 : Int), ([(1 : Int)] : List Int), []), ((0 : Int), ([(2 : Int)] : List Int), ([(0 : Int)] : List Int)), ((0 : Int), ([(3 : Int)] : List Int), ([(0 : Int)] : List Int)), ((0 : Int), ([(4 : Int)] : List Int), ([(1 : Int), (2 : Int)] : List Int))] : List (Int × List Int × List Int)) w.heap.size := (NewD.cons (d := de28) (fun p_ hp_ => ⟨trivial, (Dn.of (Dj.new hp_ k22.ge').symm), (fun h => absurd rfl h)⟩) (NewD.cons (d := de28) (fun p_ hp_ => ⟨trivial, (Dn.of (Dj.new hp_ k23.ge').symm), (Dn.of (Dj.new hp_ k24.ge').symm)⟩) (NewD.cons (d := de28) (fun p_ hp_ => ⟨trivial, (Dn.of (Dj.new hp_ k25.ge').symm), (Dn.of (Dj.new hp_ k26.ge').symm)⟩) (NewD.cons (d := de28) (fun p_ hp_ => ⟨trivial, (Dn.of (Dj.new hp_ k27.ge').symm), (Dn.of (Dj.new hp_ k28.ge').symm)⟩) NewD.nil))))
  have dj1 : DnD de28 ([((0 : Int), ⟨(some ⟨g1, 0, none⟩), 1, 1⟩, ⟨none, 0, 0⟩), ((0 : Int), ⟨(some ⟨g2, 0, none⟩), 1, 1⟩, ⟨(some ⟨g3, 0, none⟩), 1, 1⟩), ((0 : Int), ⟨(some ⟨g4, 0, none⟩), 1, 1⟩, ⟨(some ⟨g5, 0, none⟩), 1, 1⟩), ((0 : Int), ⟨(some ⟨g6, 0, none⟩), 1, 1⟩, ⟨(some ⟨g7, 0, none⟩), 2, 2⟩)] : List (Int × Hdr × Hdr)) ([((0 : Int), ([(1 : Int)] : List Int), []), ((0 : Int), ([(2 : Int)] : List Int), ([(0 : Int)] : List Int)), ((0 : Int), ([(3 : Int)] : List Int), ([(0 : Int)] : List Int)), ((0 : Int), ([(4 : Int)] : List Int), ([(1 : Int), (2 : Int)] : List Int))] : List (Int × List Int × List Int)) (blk (some ⟨g9, 0, none⟩)) := (DnD.cons (d := de28) ⟨trivial, (Dn.of (Dj.new k16.lt' (Ge.box hl9))), (Dn.of Dj.nl)⟩ (DnD.cons (d := de28) ⟨trivial, (Dn.of (Dj.new k17.lt' (Ge.box hl9))), (Dn.of (Dj.new k18.lt' (Ge.box hl9)))⟩ (DnD.cons (d := de28) ⟨trivial, (Dn.of (Dj.new k19.lt' (Ge.box hl9))), (Dn.of (Dj.new k20.lt' (Ge.box hl9)))⟩ (DnD.cons (d := de28) ⟨trivial, (Dn.of (Dj.new k21.lt' (Ge.box hl9))), (Dn.of (Dj.new hO7.lt' (Ge.box hl9)))⟩ DnD.nil))))
  refine WL.y rfl (Yld.pure tab_ok rfl) ?_
  refine WL.nil (WX.then_normal ?_)
  refine WC.seq ?_
  refine WC.region ?_
  refine WL.lit tab_ok rfl rfl rfl (all1c rfl (all1c rfl (all1c rfl all1n))) rfl (by omega) (fun g10 w10 hB10 hg10 hl10 => ?_)
  have hO10 : Own vs w10 w.heap.size 9 (some ⟨g10, 0, none⟩) 3 ([([40, 52, 44, 32, 50, 44, 32, 49, 44, 32, 51, 41] : List UInt8), ([40, 49, 44, 32, 50, 44, 32, 51, 44, 32, 52, 41] : List UInt8), ([40, 52, 44, 32, 50, 44, 32, 51, 44, 32, 49, 41] : List UInt8)] : List (List UInt8)) := Own.ofBl hB10 (Nat.le_trans (size_le gr8) hl10) (by simp [maxLen]) rfl
  have gr9 := gr_trans gr8 hg10
  have k29 := hO9.grown hg10
  have k30 := hr1.grown hg10
  refine WL.y rfl (Yld.pure tab_ok rfl) ?_
  refine WL.nil (WX.then_normal ?_)
  refine WC.seq ?_
  refine WC.seq ?_
  refine WC.region ?_
  refine WL.y rfl (Yld.pure tab_ok rfl) ?_
  refine WL.nil (WX.then_normal ?_)
  refine WC.block ?_
  obtain ⟨I1, mu1, h0_1, HR1⟩ := H
  refine WC.loopF (fun n' L' w' => ∃ (order : Int), ∃ (l : List (Int × List Int × List Int)), ∃ (hs : List (Int × Hdr × Hdr)), n' = mu1 order l ∧ L' = [(1, .slice (some ⟨g9, 0, none⟩) 4 4), (2, .slice (some ⟨g10, 0, none⟩) 3 3), (3, .int .i64 order)] ∧ I1 order l ∧ 4 = l.length ∧ w.grownBy w' none ∧ OwnK 3 encH28 w' w.heap.size 28 (some ⟨g9, 0, none⟩) 4 hs ∧ RelD de28 w' hs l ∧ Own vs w' w.heap.size 9 (some ⟨g10, 0, none⟩) 3 ([([40, 52, 44, 32, 50, 44, 32, 49, 44, 32, 51, 41] : List UInt8), ([40, 49, 44, 32, 50, 44, 32, 51, 44, 32, 52, 41] : List UInt8), ([40, 52, 44, 32, 50, 44, 32, 51, 44, 32, 49, 41] : List UInt8)] : List (List UInt8)) ∧ Dj (blk (some ⟨g9, 0, none⟩)) (blk (some ⟨g10, 0, none⟩)) ∧ DnD de28 hs l (blk (some ⟨g9, 0, none⟩)) ∧ DnD de28 hs l (blk (some ⟨g10, 0, none⟩)) ∧ NewD de28 hs l w.heap.size) _ _ ⟨(1 : Int), ([((0 : Int), ([(1 : Int)] : List Int), []), ((0 : Int), ([(2 : Int)] : List Int), ([(0 : Int)] : List Int)), ((0 : Int), ([(3 : Int)] : List Int), ([(0 : Int)] : List Int)), ((0 : Int), ([(4 : Int)] : List Int), ([(1 : Int), (2 : Int)] : List Int))] : List (Int × List Int × List Int)), ([((0 : Int), ⟨(some ⟨g1, 0, none⟩), 1, 1⟩, ⟨none, 0, 0⟩), ((0 : Int), ⟨(some ⟨g2, 0, none⟩), 1, 1⟩, ⟨(some ⟨g3, 0, none⟩), 1, 1⟩), ((0 : Int), ⟨(some ⟨g4, 0, none⟩), 1, 1⟩, ⟨(some ⟨g5, 0, none⟩), 1, 1⟩), ((0 : Int), ⟨(some ⟨g6, 0, none⟩), 1, 1⟩, ⟨(some ⟨g7, 0, none⟩), 2, 2⟩)] : List (Int × Hdr × Hdr)), rfl, rfl, h0_1, (rfl.trans k30.1), gr9, k29, k30, hO10, (Dj.new hO9.lt' (Ge.box hl10)), dj1, (hr1.new (Ge.box hl10)), nd1⟩ (by repeat (first | exact Sub.nil | refine Sub.cons rfl ?_)) ?_
  clear h0_1
  rintro _ _ w11 ⟨order, l, hs, rfl, rfl, hI1, hn_l, gr10, k31, k32, k33, dj2, dj3, dj4, or1⟩
  have H := HR1 order l hI1
  replace H := H hn_l
  refine WC.seq ?_
  refine WC.seq ?_
  refine WC.region ?_
  refine WL.y rfl (Yld.pure tab_ok rfl) ?_
  refine WL.y rfl (Yld.pure tab_ok rfl) ?_
  refine WL.nil (WX.then_normal ?_)
  refine WC.cond rfl (fun b1 => ?_) (fun b1 => ?_)
  · replace H := H.1 (of_decide_eq_true b1)
    refine WC.skip (WX.then_normal ?_)
    refine WC.seq ?_
    refine WC.block ?_
    refine WC.seq ?_
    refine WC.seq ?_
    refine WC.region ?_
    refine WL.y rfl (Yld.pure tab_ok rfl) ?_
    refine WL.nil (WX.then_normal ?_)
    refine WC.block ?_
    obtain ⟨I2, mu2, h0_2, HR2⟩ := H
    refine WC.loopF (fun n' L' w' => ∃ (i : Int), ∃ (l2 : List (Int × List Int × List Int)), ∃ (hs2 : List (Int × Hdr × Hdr)), n' = mu2 i l2 ∧ L' = [(1, .slice (some ⟨g9, 0, none⟩) 4 4), (2, .slice (some ⟨g10, 0, none⟩) 3 3), (3, .int .i64 order), (4, .int .i64 i)] ∧ I2 i l2 ∧ 4 = l2.length ∧ w.grownBy w' none ∧ OwnK 3 encH28 w' w.heap.size 28 (some ⟨g9, 0, none⟩) 4 hs2 ∧ RelD de28 w' hs2 l2 ∧ Own vs w' w.heap.size 9 (some ⟨g10, 0, none⟩) 3 ([([40, 52, 44, 32, 50, 44, 32, 49, 44, 32, 51, 41] : List UInt8), ([40, 49, 44, 32, 50, 44, 32, 51, 44, 32, 52, 41] : List UInt8), ([40, 52, 44, 32, 50, 44, 32, 51, 44, 32, 49, 41] : List UInt8)] : List (List UInt8)) ∧ Dj (blk (some ⟨g9, 0, none⟩)) (blk (some ⟨g10, 0, none⟩)) ∧ DnD de28 hs2 l2 (blk (some ⟨g9, 0, none⟩)) ∧ DnD de28 hs2 l2 (blk (some ⟨g10, 0, none⟩)) ∧ NewD de28 hs2 l2 w.heap.size) _ _ ⟨(0 : Int), l, hs, rfl, rfl, h0_2, ((hn_l.trans k32.1.symm).trans k32.1), gr10, k31, k32, k33, dj2, dj3, dj4, or1⟩ (by repeat (first | exact Sub.nil | refine Sub.cons rfl ?_)) ?_
    clear h0_2
    rintro _ _ w12 ⟨i, l2, hs2, rfl, rfl, hI2, hn_l2, gr11, k34, k35, k36, dj5, dj6, dj7, or2⟩
    have H := HR2 i l2 hI2
    replace H := H hn_l2
    refine WC.seq ?_
    refine WC.seq ?_
    refine WC.region ?_
    refine WL.y rfl (Yld.pure tab_ok rfl) ?_
    refine WL.y rfl (Yld.pure tab_ok rfl) ?_
    refine WL.y rfl (Yld.pure tab_ok rfl) ?_
    refine WL.y rfl (Yld.pure tab_ok rfl) ?_
    refine WL.nil (WX.then_normal ?_)
    refine WC.cond rfl (fun b2 => ?_) (fun b2 => ?_)
    · replace H := H.1 (of_decide_eq_true b2)
      refine WC.skip (WX.then_normal ?_)
      refine WC.seq ?_
      refine WC.block ?_
      refine WC.region ?_
      refine WL.y rfl (Yld.pure tab_ok rfl) ?_
      refine WL.y rfl (Yld.pure tab_ok rfl) ?_
      refine WL.y rfl (Yld.pure tab_ok rfl) ?_
      obtain ⟨h1, H⟩ := H
      refine WL.y rfl (Yld.iaddrK tab_ok k34.rd rfl rfl (hn_l2.trans k35.1.symm) rfl h1.1 h1.2) ?_
      refine WL.y rfl (Yld.faddrK tab_ok k34.rd (iltN h1 (hn_l2.trans k35.1.symm)) rfl rfl rfl) ?_
      refine WL.ostoreF (v := ((order, (hs2.getD i.toNat (0, hd0, hd0)).2.1, (hs2.getD i.toNat (0, hd0, hd0)).2.2) : Int × Hdr × Hdr)) (0, hd0, hd0) one3 rfl k34 rfl rfl (iltN h1 (hn_l2.trans k35.1.symm)) rfl rfl (fun w13 hO11 hg11 => ?_)
      have gr12 := gr_mod gr11 hg11 k34.ge'
      have k37 := k35.go hg11 dj6
      have k38 := k36.go hg11 dj5.symm
      obtain ⟨_, rfl, r1⟩ := RelD.at k37 (0, hd0, hd0) (0, [], []) (j := i.toNat) (Nat.lt_of_lt_of_eq (iltN h1 (hn_l2.trans k35.1.symm)) k35.1)
      have hr2 : RelD de28 w13 (hs2.set i.toNat ((order, (hs2.getD i.toNat (0, hd0, hd0)).2.1, (hs2.getD i.toNat (0, hd0, hd0)).2.2) : Int × Hdr × Hdr)) (l2.set i.toNat ((order, (l2.getD i.toNat (0, [], [])).2.1, (l2.getD i.toNat (0, [], [])).2.2) : Int × List Int × List Int)) := RelD.set (h := ((order, (hs2.getD i.toNat (0, hd0, hd0)).2.1, (hs2.getD i.toNat (0, hd0, hd0)).2.2) : Int × Hdr × Hdr)) (x := ((order, (l2.getD i.toNat (0, [], [])).2.1, (l2.getD i.toNat (0, [], [])).2.2) : Int × List Int × List Int)) k37 ⟨rfl, r1.2.1, r1.2.2⟩ i.toNat
      have nd2 : NewD de28 (hs2.set i.toNat ((order, (hs2.getD i.toNat (0, hd0, hd0)).2.1, (hs2.getD i.toNat (0, hd0, hd0)).2.2) : Int × Hdr × Hdr)) (l2.set i.toNat ((order, (l2.getD i.toNat (0, [], [])).2.1, (l2.getD i.toNat (0, [], [])).2.2) : Int × List Int × List Int)) w.heap.size := fun p_ hp_ => DnD.set (h := ((order, (hs2.getD i.toNat (0, hd0, hd0)).2.1, (hs2.getD i.toNat (0, hd0, hd0)).2.2) : Int × Hdr × Hdr)) (x := ((order, (l2.getD i.toNat (0, [], [])).2.1, (l2.getD i.toNat (0, [], [])).2.2) : Int × List Int × List Int)) (or2 p_ hp_) ⟨trivial, (DnD.at (or2 p_ hp_) k35.1 (Nat.lt_of_lt_of_eq (iltN h1 (hn_l2.trans k35.1.symm)) k35.1) rfl).2.1, (DnD.at (or2 p_ hp_) k35.1 (Nat.lt_of_lt_of_eq (iltN h1 (hn_l2.trans k35.1.symm)) k35.1) rfl).2.2⟩ i.toNat
      have dj8 : DnD de28 (hs2.set i.toNat ((order, (hs2.getD i.toNat (0, hd0, hd0)).2.1, (hs2.getD i.toNat (0, hd0, hd0)).2.2) : Int × Hdr × Hdr)) (l2.set i.toNat ((order, (l2.getD i.toNat (0, [], [])).2.1, (l2.getD i.toNat (0, [], [])).2.2) : Int × List Int × List Int)) (blk (some ⟨g9, 0, none⟩)) := (DnD.set (h := ((order, (hs2.getD i.toNat (0, hd0, hd0)).2.1, (hs2.getD i.toNat (0, hd0, hd0)).2.2) : Int × Hdr × Hdr)) (x := ((order, (l2.getD i.toNat (0, [], [])).2.1, (l2.getD i.toNat (0, [], [])).2.2) : Int × List Int × List Int)) dj6 ⟨trivial, (DnD.at dj6 k35.1 (Nat.lt_of_lt_of_eq (iltN h1 (hn_l2.trans k35.1.symm)) k35.1) rfl).2.1, (DnD.at dj6 k35.1 (Nat.lt_of_lt_of_eq (iltN h1 (hn_l2.trans k35.1.symm)) k35.1) rfl).2.2⟩ i.toNat)
      have dj9 : DnD de28 (hs2.set i.toNat ((order, (hs2.getD i.toNat (0, hd0, hd0)).2.1, (hs2.getD i.toNat (0, hd0, hd0)).2.2) : Int × Hdr × Hdr)) (l2.set i.toNat ((order, (l2.getD i.toNat (0, [], [])).2.1, (l2.getD i.toNat (0, [], [])).2.2) : Int × List Int × List Int)) (blk (some ⟨g10, 0, none⟩)) := (DnD.set (h := ((order, (hs2.getD i.toNat (0, hd0, hd0)).2.1, (hs2.getD i.toNat (0, hd0, hd0)).2.2) : Int × Hdr × Hdr)) (x := ((order, (l2.getD i.toNat (0, [], [])).2.1, (l2.getD i.toNat (0, [], [])).2.2) : Int × List Int × List Int)) dj7 ⟨trivial, (DnD.at dj7 k35.1 (Nat.lt_of_lt_of_eq (iltN h1 (hn_l2.trans k35.1.symm)) k35.1) rfl).2.1, (DnD.at dj7 k35.1 (Nat.lt_of_lt_of_eq (iltN h1 (hn_l2.trans k35.1.symm)) k35.1) rfl).2.2⟩ i.toNat)
      refine WL.nil (WX.block_normal (WX.then_normal ?_))
      refine WC.region ?_
      refine WL.y rfl (Yld.pure tab_ok rfl) ?_
      obtain ⟨h2, H⟩ := H
      refine WL.y rfl (Yld.add rfl rfl h2) ?_
      refine WL.y rfl (Yld.pure tab_ok rfl) ?_
      refine WL.nil ?_
      exact WX.roundF _ ⟨i + (1 : Int), l2.set i.toNat ((order, (l2.getD i.toNat (0, [], [])).2.1, (l2.getD i.toNat (0, [], [])).2.2) : Int × List Int × List Int), hs2.set i.toNat ((order, (hs2.getD i.toNat (0, hd0, hd0)).2.1, (hs2.getD i.toNat (0, hd0, hd0)).2.2) : Int × Hdr × Hdr), rfl, rfl, H.1, (((hn_l2.trans k35.1.symm).trans List.length_set.symm).trans hr2.1), gr12, hO11, hr2, k38, dj5, dj8, dj9, nd2⟩ (by repeat (first | exact Sub.nil | refine Sub.cons rfl ?_)) H.2
    · replace H := H.2 (of_decide_eq_false b2)
      refine WC.exit (WX.then_exit (WX.then_exit (WX.block_same (WX.then_normal ?_))))
      refine WC.seq ?_
      refine WC.region ?_
      refine WL.y rfl (Yld.pure tab_ok rfl) ?_
      refine WL.call rfl rfl (W_smithylaw13_made (hG.grown gr11) hS3 hS7 k34.rd ((hn_l2.trans k35.1.symm).trans k35.1) k35 H) ?_
      rintro _ w14 ⟨hg12, t370, A_t370, c_t370, hs_t370, t371, rfl, ht370, hr_t370, ho1, dj10, H⟩
      have hb1 := ht370.ge'
      have k39 := ht370.base (fun g hg => Nat.le_trans (size_le gr11) (hb1 g hg))
      have gr13 := gr_trans gr11 hg12
      have k40 := k34.grown hg12
      have k41 := k35.grown hg12
      have k42 := k36.grown hg12
      refine WL.y rfl (Yld.pure tab_ok rfl) ?_
      refine WL.y rfl (Yld.pure tab_ok rfl) ?_
      refine WL.y rfl (Yld.pure tab_ok rfl) ?_
      refine WL.y rfl (Yld.pure tab_ok rfl) ?_
      refine WL.y rfl (Yld.pure tab_ok rfl) ?_
      refine WL.nil (WX.then_normal ?_)
      refine WC.seq ?_
      refine WC.chainF (fun k => !(Nat.beq k 6)) (LD [5, 11] (fun w' => Rd vv w' A_t370 c_t370 hs_t370 ∧ Rd vs w' (some ⟨g10, 0, none⟩) 3 ([([40, 52, 44, 32, 50, 44, 32, 49, 44, 32, 51, 41] : List UInt8), ([40, 49, 44, 32, 50, 44, 32, 51, 44, 32, 52, 41] : List UInt8), ([40, 52, 44, 32, 50, 44, 32, 51, 44, 32, 49, 41] : List UInt8)] : List (List UInt8)))) mixed (by kernel_rfl) (fun k w' h _ => ⟨(rd_eqv h k39.rd), (rd_eqv h k42.rd)⟩) ?_
      refine WJ.y rfl rfl (fun w' hw' => Yld.pure tab_ok rfl) ?_
      refine WJ.y rfl rfl (fun w' hw' => Yld.pure tab_ok rfl) ?_
      refine WJ.y rfl rfl (fun w' hw' => Yld.pure tab_ok rfl) ?_
      obtain ⟨J1, H, hJ1⟩ := H
      refine WJ.midF 11 (fun L' w' => ∃ q1 : Bool, L' = [(53, .bool q1), (1, .slice (some ⟨g9, 0, none⟩) 4 4), (2, .slice (some ⟨g10, 0, none⟩) 3 3), (3, .int .i64 order)] ∧ J1 q1 ∧ w.grownBy w' none ∧ OwnK 3 encH28 w' w.heap.size 28 (some ⟨g9, 0, none⟩) 4 hs2 ∧ RelD de28 w' hs2 l2 ∧ Own vs w' w.heap.size 9 (some ⟨g10, 0, none⟩) 3 ([([40, 52, 44, 32, 50, 44, 32, 49, 44, 32, 51, 41] : List UInt8), ([40, 49, 44, 32, 50, 44, 32, 51, 44, 32, 52, 41] : List UInt8), ([40, 52, 44, 32, 50, 44, 32, 51, 44, 32, 49, 41] : List UInt8)] : List (List UInt8)) ∧ Own vv w' w.heap.size 36 A_t370 c_t370 hs_t370) ?_ (fun hQ => ?_)
      · clear H
        rintro _ w15 ⟨q1, rfl, H, gr14, k43, k44, k45, k46⟩
        replace H := hJ1 q1 H
        refine WJ.nil (WX.then_normal ?_)
        refine WC.cond rfl (fun b3 => ?_) (fun b3 => ?_)
        · replace H := H.1 (b3)
          refine WC.seq ?_
          refine WC.region ?_
          refine WL.y rfl (Yld.pure tab_ok rfl) ?_
          refine WL.nil (WX.then_normal ?_)
          refine WC.ret (WX.block_ret (WX.then_ret (WX.then_ret (WX.block_ret (WX.then_ret ?_)))))
          exact WX.ret1 rfl rfl ⟨gr14, false, rfl, H⟩
        · replace H := H.2 (b3)
          refine WC.skip (WX.block_normal (WX.then_normal ?_))
          refine WC.region ?_
          refine WL.y rfl (Yld.pure tab_ok rfl) ?_
          obtain ⟨h3, H⟩ := H
          refine WL.y rfl (Yld.add rfl rfl h3) ?_
          refine WL.y rfl (Yld.pure tab_ok rfl) ?_
          refine WL.nil ?_
          exact WX.roundF _ ⟨order + (1 : Int), l2, hs2, rfl, rfl, H.1, ((hn_l2.trans k35.1.symm).trans k44.1), gr14, k43, k44, k45, dj5, dj6, dj7, or2⟩ (by repeat (first | exact Sub.nil | refine Sub.cons rfl ?_)) H.2
      · clear hJ1
        rcases Bool.eq_false_or_eq_true (!t371) with b4 | b4
        · replace H := H.1 b4
          refine WJ.no rfl rfl (okb b4) rfl ?_
          refine WJ.no rfl rfl (okb b4) rfl ?_
          refine WJ.no rfl rfl (okb b4) rfl ?_
          refine WJ.no rfl rfl (okb b4) rfl ?_
          refine WJ.no rfl rfl (okb b4) rfl ?_
          refine WJ.no rfl rfl (okb b4) rfl ?_
          refine WJ.no rfl rfl (okb b4) rfl ?_
          refine WJ.no rfl rfl (okb b4) rfl ?_
          refine WJ.no rfl rfl (okb b4) rfl ?_
          refine WJ.no rfl rfl (okb b4) rfl ?_
          refine WJ.y rfl rfl (fun w' hw' => Yld.pickT (okb b4) rfl) ?_
          exact WJ.weaken (by repeat (first | exact Sub.nil | refine Sub.cons rfl ?_)) (hQ _ _ ⟨true, rfl, H, gr13, k40, k41, k42, k39⟩)
        · replace H := H.2 b4
          refine WJ.yw rfl (wants_some rfl rfl (okb b4)) rfl (fun w' hw' => Yld.pure tab_ok rfl) ?_
          obtain ⟨h4, H⟩ := H
          refine WJ.yw rfl (wants_some rfl rfl (okb b4)) rfl (fun w' hw' => Yld.iaddrW tab_ok k39.rd rfl rfl hr_t370.1.symm rfl h4.1 h4.2) ?_
          obtain ⟨⟨v_el, F_el⟩, eh1, hR1⟩ := RelD.at hr_t370 vh0 PS.nil (j := 3) (Nat.lt_of_lt_of_eq (iltN h4 hr_t370.1.symm) hr_t370.1)
          have hv1 : RelD deS w14 [(v_el, F_el)] [t370.getD 3 PS.nil] := RelD.cons hR1 RelD.nil
          refine WJ.yw rfl (wants_some rfl rfl (okb b4)) rfl (fun w' hw' => Yld.to (v := v_el.1) (Yld.iload vh0 tab_ok (hw' rfl).1 rfl rfl (iltN h4 hr_t370.1.symm)) (congrArg vv eh1)) ?_
          refine WJ.call rfl (wants_some rfl rfl (okb b4)) rfl rfl (W_smithylaw13_told (hG.grown gr13) hS7 hv1 H) (fun v w' h w2 e => DD.keep (⟨(Rd.grown k39.rd (gr_eqv h.1 e)), (Rd.grown k42.rd (gr_eqv h.1 e))⟩)) ?_
          rintro _ w16 ⟨hg13, t46, rfl, H⟩
          have gr15 := gr_trans gr13 hg13
          have k47 := k40.grown hg13
          have k48 := k41.grown hg13
          have k49 := k42.grown hg13
          have k50 := k39.grown hg13
          have k51 := hr_t370.grown hg13
          have k52 := hv1.grown hg13
          refine WJ.yw rfl (wants_some rfl rfl (okb b4)) rfl (fun w' hw' => Yld.pure tab_ok rfl) ?_
          refine WJ.yw rfl (wants_some rfl rfl (okb b4)) rfl (fun w' hw' => Yld.pure tab_ok rfl) ?_
          obtain ⟨h5, H⟩ := H
          refine WJ.yw rfl (wants_some rfl rfl (okb b4)) rfl (fun w' hw' => Yld.sub rfl rfl h5) ?_
          obtain ⟨h6, H⟩ := H
          refine WJ.yw rfl (wants_some rfl rfl (okb b4)) rfl (fun w' hw' => Yld.iaddrW tab_ok k49.rd rfl rfl rfl rfl h6.1 h6.2) ?_
          refine WJ.yw rfl (wants_some rfl rfl (okb b4)) rfl (fun w' hw' => Yld.iload [] tab_ok (hw' rfl).2 rfl rfl (iltN h6 rfl)) ?_
          refine WJ.yw rfl (wants_some rfl rfl (okb b4)) rfl (fun w' hw' => Yld.pure tab_ok rfl) ?_
          refine WJ.y rfl rfl (fun w' hw' => Yld.pickF (okb b4) rfl) ?_
          exact WJ.weaken (by repeat (first | exact Sub.nil | refine Sub.cons rfl ?_)) (hQ _ _ ⟨!decide (t46 = (([([40, 52, 44, 32, 50, 44, 32, 49, 44, 32, 51, 41] : List UInt8), ([40, 49, 44, 32, 50, 44, 32, 51, 44, 32, 52, 41] : List UInt8), ([40, 52, 44, 32, 50, 44, 32, 51, 44, 32, 49, 41] : List UInt8)] : List (List UInt8)).getD ((order - (1 : Int)).toNat) [])), rfl, H, gr15, k47, k48, k49, k50⟩)
  · replace H := H.2 (of_decide_eq_false b1)
    refine WC.exit (WX.then_exit (WX.then_exit (WX.block_same (WX.then_normal ?_))))
    refine WC.seq ?_
    refine WC.region ?_
    refine WL.y rfl (Yld.pure tab_ok rfl) ?_
    refine WL.nil (WX.then_normal ?_)
    refine WC.ret ?_
    exact WX.ret1 rfl rfl ⟨gr10, true, rfl, H⟩

set_option maxHeartbeats 8000000 in
theorem W_smithylaw13_DepsRows {S : List Nat} {w : World} {n : Int} {order : Int} {K : Bool → Prop} (hG : GOK S w) (hS0 : 0 ∈ S) (hS1 : 1 ∈ S) (hS2 : 2 ∈ S) (hS3 : 3 ∈ S) (hS4 : 4 ∈ S) (hS5 : 5 ∈ S) (hS6 : 6 ∈ S) (hS7 : 7 ∈ S) (hS8 : 8 ∈ S) (hS9 : 9 ∈ S) (hS10 : 10 ∈ S) (hS11 : 11 ∈ S) (hS12 : 12 ∈ S) (hS13 : 13 ∈ S) (hS14 : 14 ∈ S) (hS15 : 15 ∈ S) (hS16 : 16 ∈ S) (H : M_smithylaw13_DepsRows n order K) : Fn Tryd.prog 4 ⟨[.int .i64 n, .int .i64 order]⟩ w (fun v w' => w.grownBy w' none ∧ ∃ (r : Bool), v = .bool r ∧ K r) := by
  unfold M_smithylaw13_DepsRows at H
  refine Fn.enter (by kernel_rfl) Tryd.func4 rfl Tryd.ntmps4 rfl ?_
  refine WC.seq ?_
  refine WC.region ?_
  refine WL.y rfl (Yld.pure tab_ok rfl) ?_
  refine WL.nil (WX.then_normal ?_)
  refine WC.seq ?_
  refine WC.region ?_
  refine WL.call rfl rfl (W_smithylaw13_first hG hS3 hS7 H) ?_
  rintro _ w1 ⟨hg1, ok, rfl, H⟩
  have gr1 := hg1
  refine WL.y rfl (Yld.pure tab_ok rfl) ?_
  refine WL.nil (WX.then_normal ?_)
  refine WC.seq ?_
  refine WC.seq ?_
  refine WC.region ?_
  refine WL.y rfl (Yld.pure tab_ok rfl) ?_
  refine WL.y rfl (Yld.pure tab_ok rfl) ?_
  refine WL.nil (WX.then_normal ?_)
  refine WC.cond rfl (fun b1 => ?_) (fun b1 => ?_)
  · replace H := H.1 (b1)
    refine WC.seq ?_
    refine WC.region ?_
    refine WL.y rfl (Yld.pure tab_ok rfl) ?_
    refine WL.nil (WX.then_normal ?_)
    refine WC.ret (WX.then_ret ?_)
    exact WX.ret1 rfl rfl ⟨gr1, false, rfl, H⟩
  · replace H := H.2 (b1)
    refine WC.skip (WX.then_normal ?_)
    refine WC.seq ?_
    refine WC.region ?_
    refine WL.y rfl (Yld.pure tab_ok rfl) ?_
    refine WL.call rfl rfl (W_smithyworld_Number H) ?_
    rintro _ _ ⟨rfl, t20, rfl, H⟩
    obtain ⟨h1, H⟩ := H
    refine WL.y rfl (Yld.add rfl rfl h1) ?_
    refine WL.y rfl (Yld.pure tab_ok rfl) ?_
    refine WL.nil (WX.then_normal ?_)
    refine WC.seq ?_
    refine WC.region ?_
    refine WL.y rfl (Yld.pure tab_ok rfl) ?_
    refine WL.call rfl rfl (W_smithyworld_Number H) ?_
    rintro _ _ ⟨rfl, t23, rfl, H⟩
    obtain ⟨h2, H⟩ := H
    refine WL.y rfl (Yld.add rfl rfl h2) ?_
    refine WL.y rfl (Yld.pure tab_ok rfl) ?_
    refine WL.nil (WX.then_normal ?_)
    refine WC.seq ?_
    refine WC.region ?_
    have hv1 : RelD deS w1 [(pnil, noF)] [PS.nil] := deS_nil
    refine WL.y rfl (Yld.pure tab_ok rfl) ?_
    refine WL.nil (WX.then_normal ?_)
    refine WC.seq ?_
    refine WC.seq ?_
    refine WC.region ?_
    refine WL.y rfl (Yld.pure tab_ok rfl) ?_
    refine WL.nil (WX.then_normal ?_)
    refine WC.block ?_
    obtain ⟨I1, mu1, h0_1, HR1⟩ := H
    refine WC.loopF (fun n' L' w' => ∃ (v_s : OV), ∃ (F_s : Nat → Prop), ∃ (s : PS), ∃ (i : Int), n' = mu1 s i ∧ L' = [(0, .int .i64 (t20 + (1 : Int))), (1, .int .i64 (t23 + (1 : Int))), (5, .bool ok), (6, v_s.1), (7, .int .i64 i)] ∧ I1 s i ∧ w.grownBy w' none ∧ RelD deS w' [(v_s, F_s)] [s] ∧ NewD deS [(v_s, F_s)] [s] w.heap.size) _ _ ⟨pnil, noF, PS.nil, (0 : Int), rfl, rfl, h0_1, gr1, hv1, (deS_nilN (n := w.heap.size))⟩ (by repeat (first | exact Sub.nil | refine Sub.cons rfl ?_)) ?_
    clear h0_1
    rintro _ _ w2 ⟨v_s, F_s, s, i, rfl, rfl, hI1, gr2, k1, or1⟩
    have H := HR1 s i hI1
    refine WC.seq ?_
    refine WC.seq ?_
    refine WC.region ?_
    refine WL.y rfl (Yld.pure tab_ok rfl) ?_
    refine WL.y rfl (Yld.pure tab_ok rfl) ?_
    refine WL.y rfl (Yld.pure tab_ok rfl) ?_
    refine WL.nil (WX.then_normal ?_)
    refine WC.cond rfl (fun b2 => ?_) (fun b2 => ?_)
    · replace H := H.1 (of_decide_eq_true b2)
      refine WC.skip (WX.then_normal ?_)
      refine WC.seq ?_
      refine WC.block ?_
      refine WC.seq ?_
      refine WC.region ?_
      have hv2 : RelD deS w2 [(pnil, noF)] [PS.nil] := deS_nil
      refine WL.y rfl (Yld.pure tab_ok rfl) ?_
      refine WL.nil (WX.then_normal ?_)
      refine WC.seq ?_
      refine WC.region ?_
      refine WL.y rfl (Yld.pure tab_ok rfl) ?_
      refine WL.nil (WX.then_normal ?_)
      refine WC.seq ?_
      obtain ⟨J1, H, hJ1⟩ := H
      refine WC.midF (fun L' w' => ∃ (v_t : OV), ∃ (F_t : Nat → Prop), ∃ (t : PS), ∃ (v_e : Value), ∃ (e : Er), L' = [(0, .int .i64 (t20 + (1 : Int))), (1, .int .i64 (t23 + (1 : Int))), (5, .bool ok), (7, .int .i64 i), (8, v_t.1), (9, v_e)] ∧ J1 t e ∧ w.grownBy w' none ∧ RelD deS w' [(v_t, F_t)] [t] ∧ ErrR S w' v_e e ∧ NewD deS [(v_t, F_t)] [t] w.heap.size) ?_ (fun hQ => ?_)
      · clear H
        rintro _ w3 ⟨v_t, F_t, t, v_e, e, rfl, H, gr3, k2, k3, or2⟩
        replace H := hJ1 t e H
        refine WX.then_normal ?_
        refine WC.seq ?_
        refine WC.seq ?_
        refine WC.region ?_
        refine WL.y rfl (Yld.pure tab_ok rfl) ?_
        have hv3 : RelD deS w3 [(pnil, noF)] [PS.nil] := deS_nil
        refine WL.y rfl (deS_eqnil Tryd.underlying36 k2 rfl rfl) ?_
        refine WL.y rfl (Yld.pure tab_ok rfl) ?_
        refine WL.midF 3 (fun L' w' => ∃ q1 : Bool, L' = [(58, .bool q1), (0, .int .i64 (t20 + (1 : Int))), (1, .int .i64 (t23 + (1 : Int))), (5, .bool ok), (7, .int .i64 i), (8, v_t.1)] ∧ (t.isNil || (!decide (e = Er.ok))) = q1 ∧ w3 = w') ?_ (fun hQ => ?_)
        · rintro _ _ ⟨q1, rfl, rfl, rfl⟩
          refine WL.nil (WX.then_normal ?_)
          refine WC.cond rfl (fun b3 => ?_) (fun b3 => ?_)
          · replace H := H.1 (b3)
            refine WC.seq ?_
            refine WC.region ?_
            refine WL.y rfl (Yld.pure tab_ok rfl) ?_
            refine WL.nil (WX.then_normal ?_)
            refine WC.ret (WX.then_ret (WX.block_ret (WX.then_ret (WX.then_ret (WX.block_ret (WX.then_ret ?_))))))
            exact WX.ret1 rfl rfl ⟨gr3, false, rfl, H⟩
          · replace H := H.2 (b3)
            refine WC.skip (WX.then_normal ?_)
            refine WC.region ?_
            refine WL.y rfl (Yld.pure tab_ok rfl) ?_
            refine WL.y rfl (Yld.pure tab_ok rfl) ?_
            refine WL.nil (WX.block_normal (WX.then_normal ?_))
            refine WC.region ?_
            refine WL.y rfl (Yld.pure tab_ok rfl) ?_
            obtain ⟨h3, H⟩ := H
            refine WL.y rfl (Yld.add rfl rfl h3) ?_
            refine WL.y rfl (Yld.pure tab_ok rfl) ?_
            refine WL.nil ?_
            exact WX.roundF _ ⟨v_t, F_t, t, i + (1 : Int), rfl, rfl, H.1, gr3, k2, or2⟩ (by repeat (first | exact Sub.nil | refine Sub.cons rfl ?_)) H.2
        · clear H
          rcases Bool.eq_false_or_eq_true (t.isNil) with b4 | b4
          · refine WL.gno rfl rfl (okb b4) rfl ?_
            refine WL.gno rfl rfl (okb b4) rfl ?_
            refine WL.y rfl (Yld.pickT (okb b4) rfl) ?_
            exact WL.weaken (by repeat (first | exact Sub.nil | refine Sub.cons rfl ?_)) (hQ _ _ ⟨true, rfl, by rw [b4] <;> rfl, rfl⟩)
          · refine WL.gyes rfl rfl (okb b4) rfl (Yld.pure tab_ok rfl) ?_
            refine WL.gyes rfl rfl (okb b4) rfl (Yld.errneq Tryd.underlying34 k3 rfl) ?_
            refine WL.y rfl (Yld.pickF (okb b4) rfl) ?_
            exact WL.weaken (by repeat (first | exact Sub.nil | refine Sub.cons rfl ?_)) (hQ _ _ ⟨!decide (e = Er.ok), rfl, by rw [b4] <;> rfl, rfl⟩)
      · clear hJ1
        refine WC.seq ?_
        refine WC.region ?_
        refine WL.y rfl (Yld.pure tab_ok rfl) ?_
        refine WL.y rfl (Yld.pure tab_ok rfl) ?_
        refine WL.nil (WX.then_normal ?_)
        refine WC.cond rfl (fun b5 => ?_) (fun b5 => ?_)
        · replace H := H.1 (of_decide_eq_true b5)
          refine WC.region ?_
          refine WL.y rfl (Yld.pure tab_ok rfl) ?_
          refine WL.y rfl (Yld.pure tab_ok rfl) ?_
          refine WL.call rfl rfl (W_smithylaw13_small H) ?_
          rintro _ w4 ⟨hg2, v_t35, F_t35, t35, rfl, ht35, ho1, H⟩
          have gr4 := gr_trans gr2 hg2
          refine WL.lit (us := [v_t35.1]) tab_ok rfl rfl rfl (all1c v_t35.2 all1n) rfl (by omega) (fun g2 w6 hB2 hg4 hl2 => ?_)
          have hO2 : Own vv w6 w.heap.size 41 (some ⟨g2, 0, none⟩) 1 ([(v_t35, F_t35)] : List VH) := Own.ofBl hB2 (Nat.le_trans (size_le gr4) hl2) (by simp [maxLen]) rfl
          have gr5 := gr_trans gr4 hg4
          have k4 := ht35.grown hg4
          have hr1 : RelD deV w6 ([(v_t35, F_t35)] : List VH) ([t35] : List PV) := (RelD.cons (RelD.one k4) RelD.nil)
          have nd1 : NewD deV ([(v_t35, F_t35)] : List VH) ([t35] : List PV) w.heap.size := (NewD.cons (d := deV) (fun p_ hp_ => (DnD.one (ho1 p_ (fun g_ e_ => Nat.lt_of_lt_of_le (hp_ g_ e_) (size_le gr2))))) NewD.nil)
          have dj1 : DnD deV ([(v_t35, F_t35)] : List VH) ([t35] : List PV) (blk (some ⟨g2, 0, none⟩)) := (DnD.cons (d := deV) (DnD.one (ht35.new (Ge.box hl2))) DnD.nil)
          refine WL.call rfl rfl (W_deps_New (hG.grown gr5) hS3 hS7 hO2.rd (rfl.trans hr1.1) hr1 (Own.nil vv w6 w.heap.size 36).rd rfl (RelD.nil (d := deS) (w := w6)) H) ?_
          rintro _ w7 ⟨hg5, v_t370, F_t370, t370, v_t371, t371, rfl, ht370, ho2, hf1, ht371, H⟩
          have gr6 := gr_trans gr5 hg5
          refine WL.y rfl (Yld.pure tab_ok rfl) ?_
          refine WL.y rfl (Yld.pure tab_ok rfl) ?_
          refine WL.y rfl (Yld.pure tab_ok rfl) ?_
          refine WL.y rfl (Yld.pure tab_ok rfl) ?_
          refine WL.y rfl (Yld.pure tab_ok rfl) ?_
          refine WL.nil ?_
          exact WX.weaken (by repeat (first | exact Sub.nil | refine Sub.cons rfl ?_)) (hQ _ _ ⟨v_t370, F_t370, t370, v_t371, t371, rfl, H, gr6, ht370, ht371, (fun p_ hp_ => ho2 p_ (fun g_ e_ => Nat.lt_of_lt_of_le (hp_ g_ e_) (size_le gr5)) (nd1 p_ hp_) ((NewD.nil (d := deS)) p_ hp_))⟩)
        · replace H := H.2 (of_decide_eq_false b5)
          refine WC.region ?_
          refine WL.y rfl (Yld.pure tab_ok rfl) ?_
          refine WL.y rfl (Yld.pure tab_ok rfl) ?_
          refine WL.call rfl rfl (W_smithylaw13_small H) ?_
          rintro _ w8 ⟨hg6, v_t43, F_t43, t43, rfl, ht43, ho3, H⟩
          have gr7 := gr_trans gr2 hg6
          have k5 := k1.grown hg6
          refine WL.y rfl (Yld.pure tab_ok rfl) ?_
          refine WL.call rfl rfl (W_smithylaw13_small H) ?_
          rintro _ w9 ⟨hg7, v_t45, F_t45, t45, rfl, ht45, ho4, H⟩
          have gr8 := gr_trans gr7 hg7
          have k6 := k5.grown hg7
          have k7 := ht43.grown hg7
          refine WL.lit (us := [v_t43.1, v_t45.1]) tab_ok rfl rfl rfl (all1c v_t43.2 (all1c v_t45.2 all1n)) rfl (by omega) (fun g4 w11 hB4 hg9 hl4 => ?_)
          have hO4 : Own vv w11 w.heap.size 41 (some ⟨g4, 0, none⟩) 2 ([(v_t43, F_t43), (v_t45, F_t45)] : List VH) := Own.ofBl hB4 (Nat.le_trans (size_le gr8) hl4) (by simp [maxLen]) rfl
          have gr9 := gr_trans gr8 hg9
          have k8 := k6.grown hg9
          have k9 := k7.grown hg9
          have k10 := ht45.grown hg9
          have hr2 : RelD deV w11 ([(v_t43, F_t43), (v_t45, F_t45)] : List VH) ([t43, t45] : List PV) := (RelD.cons (RelD.one k9) (RelD.cons (RelD.one k10) RelD.nil))
          have nd2 : NewD deV ([(v_t43, F_t43), (v_t45, F_t45)] : List VH) ([t43, t45] : List PV) w.heap.size := (NewD.cons (d := deV) (fun p_ hp_ => (DnD.one (ho3 p_ (fun g_ e_ => Nat.lt_of_lt_of_le (hp_ g_ e_) (size_le gr2))))) (NewD.cons (d := deV) (fun p_ hp_ => (DnD.one (ho4 p_ (fun g_ e_ => Nat.lt_of_lt_of_le (hp_ g_ e_) (size_le gr7))))) NewD.nil))
          have dj2 : DnD deV ([(v_t43, F_t43), (v_t45, F_t45)] : List VH) ([t43, t45] : List PV) (blk (some ⟨g4, 0, none⟩)) := (DnD.cons (d := deV) (DnD.one (k7.new (Ge.box hl4))) (DnD.cons (d := deV) (DnD.one (ht45.new (Ge.box hl4))) DnD.nil))
          refine WL.y rfl (Yld.pure tab_ok rfl) ?_
          refine WL.y rfl (Yld.pure tab_ok rfl) ?_
          refine WL.lit (us := [v_s.1, v_s.1]) tab_ok rfl rfl rfl (all1c v_s.2 (all1c v_s.2 all1n)) rfl (by omega) (fun g6 w13 hB6 hg11 hl6 => ?_)
          have hO6 : Own vv w13 w.heap.size 36 (some ⟨g6, 0, none⟩) 2 ([(v_s, F_s), (v_s, F_s)] : List VH) := Own.ofBl hB6 (Nat.le_trans (size_le gr9) hl6) (by simp [maxLen]) rfl
          have gr10 := gr_trans gr9 hg11
          have k11 := k8.grown hg11
          have k12 := hO4.grown hg11
          have k13 := hr2.grown hg11
          have hr3 : RelD deS w13 ([(v_s, F_s), (v_s, F_s)] : List VH) ([s, s] : List PS) := (RelD.cons (RelD.one k11) (RelD.cons (RelD.one k11) RelD.nil))
          have nd3 : NewD deS ([(v_s, F_s), (v_s, F_s)] : List VH) ([s, s] : List PS) w.heap.size := (NewD.cons (d := deS) (fun p_ hp_ => (DnD.one (or1 p_ hp_))) (NewD.cons (d := deS) (fun p_ hp_ => (DnD.one (or1 p_ hp_))) NewD.nil))
          have dj3 : DnD deS ([(v_s, F_s), (v_s, F_s)] : List VH) ([s, s] : List PS) (blk (some ⟨g4, 0, none⟩)) := (DnD.cons (d := deS) (DnD.one (k6.new (Ge.box hl4))) (DnD.cons (d := deS) (DnD.one (k6.new (Ge.box hl4))) DnD.nil))
          have dj4 : DnD deS ([(v_s, F_s), (v_s, F_s)] : List VH) ([s, s] : List PS) (blk (some ⟨g6, 0, none⟩)) := (DnD.cons (d := deS) (DnD.one (k8.new (Ge.box hl6))) (DnD.cons (d := deS) (DnD.one (k8.new (Ge.box hl6))) DnD.nil))
          refine WL.call rfl rfl (W_deps_New (hG.grown gr10) hS3 hS7 k12.rd (rfl.trans k13.1) k13 hO6.rd (rfl.trans hr3.1) hr3 H) ?_
          rintro _ w14 ⟨hg12, v_t500, F_t500, t500, v_t501, t501, rfl, ht500, ho5, hf2, ht501, H⟩
          replace H := H (fun hn_ x_ hx_ y_ hr_ hm_ => deS_fresh hr3 hx_ hr_ hm_ (hf2 hn_))
          have gr11 := gr_trans gr10 hg12
          refine WL.y rfl (Yld.pure tab_ok rfl) ?_
          refine WL.y rfl (Yld.pure tab_ok rfl) ?_
          refine WL.y rfl (Yld.pure tab_ok rfl) ?_
          refine WL.y rfl (Yld.pure tab_ok rfl) ?_
          refine WL.y rfl (Yld.pure tab_ok rfl) ?_
          refine WL.nil ?_
          exact WX.weaken (by repeat (first | exact Sub.nil | refine Sub.cons rfl ?_)) (hQ _ _ ⟨v_t500, F_t500, t500, v_t501, t501, rfl, H, gr11, ht500, ht501, (fun p_ hp_ => ho5 p_ (fun g_ e_ => Nat.lt_of_lt_of_le (hp_ g_ e_) (size_le gr10)) (nd2 p_ hp_) (nd3 p_ hp_))⟩)
    · replace H := H.2 (of_decide_eq_false b2)
      refine WC.exit (WX.then_exit (WX.then_exit (WX.block_same (WX.then_normal ?_))))
      refine WC.seq ?_
      refine WC.region ?_
      refine WL.y rfl (Yld.pure tab_ok rfl) ?_
      refine WL.call rfl rfl (W_pdeps_Set_All (hG.grown gr2) hS7 k1 H) ?_
      rintro _ w15 ⟨hg13, t620, A_t620, c_t620, hs_t620, v_t621, t621, rfl, ht620, hr_t620, ho6, dj5, ht621, H⟩
      have hb1 := ht620.ge'
      have k14 := ht620.base (fun g hg => Nat.le_trans (size_le gr2) (hb1 g hg))
      have gr12 := gr_trans gr2 hg13
      have k15 := k1.grown hg13
      refine WL.y rfl (Yld.pure tab_ok rfl) ?_
      refine WL.y rfl (Yld.pure tab_ok rfl) ?_
      refine WL.y rfl (Yld.pure tab_ok rfl) ?_
      refine WL.y rfl (Yld.pure tab_ok rfl) ?_
      refine WL.y rfl (Yld.pure tab_ok rfl) ?_
      refine WL.nil (WX.then_normal ?_)
      refine WC.seq ?_
      refine WC.seq ?_
      refine WC.region ?_
      refine WL.y rfl (Yld.pure tab_ok rfl) ?_
      refine WL.y rfl (Yld.errneq Tryd.underlying34 ht621 rfl) ?_
      refine WL.y rfl (Yld.pure tab_ok rfl) ?_
      refine WL.midF 5 (fun L' w' => ∃ q2 : Bool, L' = [(72, .bool q2), (0, .int .i64 (t20 + (1 : Int))), (1, .int .i64 (t23 + (1 : Int))), (5, .bool ok), (6, v_s.1), (10, .slice A_t620 t620.length c_t620)] ∧ ((!decide (t621 = Er.ok)) || (!decide ((t620.length : Int) = (t20 + (1 : Int))))) = q2 ∧ w15 = w') ?_ (fun hQ => ?_)
      · rintro _ _ ⟨q2, rfl, rfl, rfl⟩
        refine WL.y rfl (Yld.pure tab_ok rfl) ?_
        obtain ⟨J2, H, hJ2⟩ := H
        refine WL.midF 5 (fun L' w' => ∃ q3 : Bool, L' = [(78, .bool q3), (0, .int .i64 (t20 + (1 : Int))), (1, .int .i64 (t23 + (1 : Int))), (5, .bool ok), (6, v_s.1), (10, .slice A_t620 t620.length c_t620)] ∧ J2 q3 ∧ w.grownBy w' none ∧ RelD deS w' [(v_s, F_s)] [s] ∧ Own vv w' w.heap.size 41 A_t620 c_t620 hs_t620 ∧ RelD deV w' hs_t620 t620) ?_ (fun hQ => ?_)
        · clear H
          rintro _ w16 ⟨q3, rfl, H, gr13, k16, k17, k18⟩
          replace H := hJ2 q3 H
          refine WL.y rfl (Yld.pure tab_ok rfl) ?_
          obtain ⟨J3, H, hJ3⟩ := H
          refine WL.midF 3 (fun L' w' => ∃ q4 : Bool, L' = [(82, .bool q4), (0, .int .i64 (t20 + (1 : Int))), (1, .int .i64 (t23 + (1 : Int))), (5, .bool ok), (6, v_s.1), (10, .slice A_t620 t620.length c_t620)] ∧ J3 q4 ∧ w16 = w') ?_ (fun hQ => ?_)
          · clear H
            rintro _ _ ⟨q4, rfl, H, rfl⟩
            replace H := hJ3 q4 H
            refine WL.nil (WX.then_normal ?_)
            refine WC.cond rfl (fun b6 => ?_) (fun b6 => ?_)
            · replace H := H.1 (b6)
              refine WC.seq ?_
              refine WC.region ?_
              refine WL.y rfl (Yld.pure tab_ok rfl) ?_
              refine WL.nil (WX.then_normal ?_)
              refine WC.ret (WX.then_ret ?_)
              exact WX.ret1 rfl rfl ⟨gr13, false, rfl, H⟩
            · replace H := H.2 (b6)
              refine WC.skip (WX.then_normal ?_)
              refine WC.seq ?_
              refine WC.seq ?_
              refine WC.region ?_
              refine WL.y rfl (Yld.pure tab_ok rfl) ?_
              refine WL.nil (WX.then_normal ?_)
              refine WC.block ?_
              obtain ⟨I2, mu2, h0_2, HR2⟩ := H
              refine WC.loopF (fun n' L' w' => ∃ (i2 : Int), ∃ (all : List PV), ∃ (hs2 : List VH), n' = mu2 i2 all ∧ L' = [(0, .int .i64 (t20 + (1 : Int))), (1, .int .i64 (t23 + (1 : Int))), (5, .bool ok), (6, v_s.1), (10, .slice A_t620 t620.length c_t620), (12, .int .i64 i2)] ∧ I2 i2 all ∧ t620.length = all.length ∧ w.grownBy w' none ∧ RelD deS w' [(v_s, F_s)] [s] ∧ Own vv w' w.heap.size 41 A_t620 c_t620 hs2 ∧ RelD deV w' hs2 all ∧ DnD deS [(v_s, F_s)] [s] (blk A_t620) ∧ DnD deV hs2 all (blk A_t620) ∧ NewD deS [(v_s, F_s)] [s] w.heap.size ∧ NewD deV hs2 all w.heap.size) _ _ ⟨(0 : Int), t620, hs_t620, rfl, rfl, h0_2, rfl, gr13, k16, k17, k18, (k1.new hb1), dj5, or1, (fun p_ hp_ => ho6 p_ (fun g_ e_ => Nat.lt_of_lt_of_le (hp_ g_ e_) (size_le gr2)) (or1 p_ hp_))⟩ (by repeat (first | exact Sub.nil | refine Sub.cons rfl ?_)) ?_
              clear h0_2
              rintro _ _ w17 ⟨i2, all, hs2, rfl, rfl, hI2, hn_all, gr14, k19, k20, k21, dj6, dj7, or3, or4⟩
              have H := HR2 i2 all hI2
              replace H := H hn_all
              refine WC.seq ?_
              refine WC.seq ?_
              refine WC.region ?_
              refine WL.y rfl (Yld.pure tab_ok rfl) ?_
              refine WL.y rfl (Yld.pure tab_ok rfl) ?_
              refine WL.y rfl (Yld.pure tab_ok rfl) ?_
              refine WL.nil (WX.then_normal ?_)
              refine WC.cond rfl (fun b7 => ?_) (fun b7 => ?_)
              · replace H := H.1 (of_decide_eq_true b7)
                refine WC.skip (WX.then_normal ?_)
                refine WC.seq ?_
                refine WC.block ?_
                refine WC.seq ?_
                refine WC.region ?_
                refine WL.y rfl (Yld.pure tab_ok rfl) ?_
                obtain ⟨h4, H⟩ := H
                refine WL.y rfl (Yld.sub rfl rfl h4) ?_
                refine WL.y rfl (Yld.pure tab_ok rfl) ?_
                obtain ⟨h5, H⟩ := H
                refine WL.y rfl (Yld.sub rfl rfl h5) ?_
                refine WL.y rfl (Yld.pure tab_ok rfl) ?_
                refine WL.nil (WX.then_normal ?_)
                refine WC.seq ?_
                obtain ⟨J4, H, hJ4⟩ := H
                refine WC.midF (fun L' w' => ∃ (want : Int), L' = [(0, .int .i64 (t20 + (1 : Int))), (1, .int .i64 (t23 + (1 : Int))), (5, .bool ok), (6, v_s.1), (10, .slice A_t620 t620.length c_t620), (12, .int .i64 i2), (13, .int .i64 want)] ∧ J4 want ∧ w17 = w') ?_ (fun hQ => ?_)
                · clear H
                  rintro _ _ ⟨want, rfl, H, rfl⟩
                  replace H := hJ4 want H
                  refine WX.then_normal ?_
                  refine WC.seq ?_
                  refine WC.seq ?_
                  refine WC.region ?_
                  refine WL.y rfl (Yld.pure tab_ok rfl) ?_
                  refine WL.y rfl (Yld.pure tab_ok rfl) ?_
                  obtain ⟨h6, H⟩ := H
                  refine WL.y rfl (Yld.iaddrW tab_ok k20.rd rfl rfl (hn_all.trans k21.1.symm) rfl h6.1 h6.2) ?_
                  obtain ⟨⟨v_el, F_el⟩, eh1, hR1⟩ := RelD.at k21 vh0 PV.nil (j := i2.toNat) (Nat.lt_of_lt_of_eq (iltN h6 (hn_all.trans k21.1.symm)) k21.1)
                  have hv4 : RelD deV w17 [(v_el, F_el)] [all.getD i2.toNat PV.nil] := RelD.cons hR1 RelD.nil
                  refine WL.y rfl (Yld.to (v := v_el.1) (Yld.iload vh0 tab_ok k20.rd rfl rfl (iltN h6 (hn_all.trans k21.1.symm))) (congrArg vv eh1)) ?_
                  refine WL.call rfl rfl (W_val_Repr hv4 H) ?_
                  rintro _ w18 ⟨hg14, t99, rfl, H⟩
                  have gr15 := gr_trans gr14 hg14
                  have k22 := k19.grown hg14
                  have k23 := k20.grown hg14
                  have k24 := k21.grown hg14
                  refine WL.y rfl (Yld.pure tab_ok rfl) ?_
                  refine WL.call rfl rfl (W_num_Of H) ?_
                  rintro _ w19 ⟨hg15, v_t101, v_t1012, t101, m_t101, rfl, ht101, one_v_t101, one_v_t1012, H⟩
                  have gr16 := gr_trans gr15 hg15
                  have k25 := k22.grown hg15
                  have k26 := k23.grown hg15
                  have k27 := k24.grown hg15
                  refine WL.call rfl rfl (W_num_Num_Text ht101 H) ?_
                  rintro _ w20 ⟨hg16, t102, rfl, H⟩
                  have gr17 := gr_trans gr16 hg16
                  have k28 := k25.grown hg16
                  have k29 := k26.grown hg16
                  have k30 := k27.grown hg16
                  refine WL.y rfl (Yld.pure tab_ok rfl) ?_
                  refine WL.nil (WX.then_normal ?_)
                  refine WC.cond rfl (fun b8 => ?_) (fun b8 => ?_)
                  · replace H := H.1 (nd_true b8)
                    refine WC.seq ?_
                    refine WC.region ?_
                    refine WL.y rfl (Yld.pure tab_ok rfl) ?_
                    refine WL.nil (WX.then_normal ?_)
                    refine WC.ret (WX.then_ret (WX.block_ret (WX.then_ret (WX.then_ret (WX.block_ret (WX.then_ret ?_))))))
                    exact WX.ret1 rfl rfl ⟨gr17, false, rfl, H⟩
                  · replace H := H.2 (nd_false b8)
                    refine WC.skip (WX.then_normal ?_)
                    refine WC.region ?_
                    refine WL.y rfl (Yld.pure tab_ok rfl) ?_
                    refine WL.y rfl (Yld.pure tab_ok rfl) ?_
                    refine WL.call rfl rfl (W_val_None H) ?_
                    rintro _ w21 ⟨hg17, v_t106, F_t106, t106, rfl, ht106, ho7, H⟩
                    have gr18 := gr_trans gr17 hg17
                    have k31 := k28.grown hg17
                    have k32 := k29.grown hg17
                    have k33 := k30.grown hg17
                    obtain ⟨h7, H⟩ := H
                    refine WL.y rfl (Yld.iaddrW tab_ok k32.rd rfl rfl (hn_all.trans k21.1.symm) rfl h7.1 h7.2) ?_
                    refine WL.ostore (v := ((v_t106, F_t106) : VH)) one41 One.vv k32 rfl rfl (iltN h7 (hn_all.trans k21.1.symm)) (fun w22 hO7 hg18 => ?_)
                    have gr19 := gr_mod gr18 hg18 k32.ge'
                    have k34 := k31.go hg18 dj6
                    have k35 := k33.go hg18 dj7
                    have k36 := ht106.go hg18 (ho7 _ k29.lt')
                    have hr4 : RelD deV w22 (hs2.set i2.toNat (v_t106, F_t106)) (all.set i2.toNat t106) := RelD.set k35 (RelD.one k36) i2.toNat
                    have nd4 : NewD deV (hs2.set i2.toNat (v_t106, F_t106)) (all.set i2.toNat t106) w.heap.size := fun p_ hp_ => DnD.set (or4 p_ hp_) (DnD.one (ho7 p_ (fun g_ e_ => Nat.lt_of_lt_of_le (hp_ g_ e_) (size_le gr17)))) i2.toNat
                    have dj8 : DnD deV (hs2.set i2.toNat (v_t106, F_t106)) (all.set i2.toNat t106) (blk A_t620) := (DnD.set dj7 (DnD.one (ho7 _ k29.lt')) i2.toNat)
                    refine WL.nil (WX.block_normal (WX.then_normal ?_))
                    refine WC.region ?_
                    refine WL.y rfl (Yld.pure tab_ok rfl) ?_
                    obtain ⟨h8, H⟩ := H
                    refine WL.y rfl (Yld.add rfl rfl h8) ?_
                    refine WL.y rfl (Yld.pure tab_ok rfl) ?_
                    refine WL.nil ?_
                    exact WX.roundF _ ⟨i2 + (1 : Int), all.set i2.toNat t106, hs2.set i2.toNat (v_t106, F_t106), rfl, rfl, H.1, (((hn_all.trans k21.1.symm).trans List.length_set.symm).trans hr4.1), gr19, k34, hO7, hr4, dj6, dj8, or3, nd4⟩ (by repeat (first | exact Sub.nil | refine Sub.cons rfl ?_)) H.2
                · clear hJ4
                  refine WC.seq ?_
                  refine WC.region ?_
                  refine WL.y rfl (Yld.pure tab_ok rfl) ?_
                  refine WL.y rfl (Yld.pure tab_ok rfl) ?_
                  refine WL.nil (WX.then_normal ?_)
                  refine WC.cond rfl (fun b9 => ?_) (fun b9 => ?_)
                  · replace H := H.1 (of_decide_eq_true b9)
                    refine WC.region ?_
                    refine WL.y rfl (Yld.pure tab_ok rfl) ?_
                    refine WL.y rfl (Yld.pure tab_ok rfl) ?_
                    refine WL.nil ?_
                    exact WX.weaken (by repeat (first | exact Sub.nil | refine Sub.cons rfl ?_)) (hQ _ _ ⟨i2, rfl, H, rfl⟩)
                  · replace H := H.2 (of_decide_eq_false b9)
                    refine WC.skip ?_
                    exact WX.weaken (by repeat (first | exact Sub.nil | refine Sub.cons rfl ?_)) (hQ _ _ ⟨((t20 + (1 : Int)) - (1 : Int)) - i2, rfl, H, rfl⟩)
              · replace H := H.2 (of_decide_eq_false b7)
                refine WC.exit (WX.then_exit (WX.then_exit (WX.block_same (WX.then_normal ?_))))
                refine WC.seq ?_
                refine WC.region ?_
                refine WL.y rfl (Yld.pure tab_ok rfl) ?_
                refine WL.call rfl rfl (W_pdeps_Set_All (hG.grown gr14) hS7 k19 H) ?_
                rintro _ w23 ⟨hg19, t1100, A_t1100, c_t1100, hs_t1100, v_t1101, t1101, rfl, ht1100, hr_t1100, ho8, dj9, ht1101, H⟩
                have hb2 := ht1100.ge'
                have k37 := ht1100.base (fun g hg => Nat.le_trans (size_le gr14) (hb2 g hg))
                have gr20 := gr_trans gr14 hg19
                refine WL.y rfl (Yld.pure tab_ok rfl) ?_
                refine WL.y rfl (Yld.pure tab_ok rfl) ?_
                refine WL.y rfl (Yld.pure tab_ok rfl) ?_
                refine WL.y rfl (Yld.pure tab_ok rfl) ?_
                refine WL.y rfl (Yld.pure tab_ok rfl) ?_
                refine WL.nil (WX.then_normal ?_)
                refine WC.seq ?_
                refine WC.region ?_
                refine WL.y rfl (Yld.pure tab_ok rfl) ?_
                refine WL.y rfl (Yld.pure tab_ok rfl) ?_
                refine WL.midF 3 (fun L' w' => ∃ q5 : Bool, L' = [(117, .bool q5), (14, .slice A_t1100 t1100.length c_t1100)] ∧ (ok && (decide (t1101 = Er.ok))) = q5 ∧ w23 = w') ?_ (fun hQ => ?_)
                · rintro _ _ ⟨q5, rfl, rfl, rfl⟩
                  refine WL.y rfl (Yld.pure tab_ok rfl) ?_
                  obtain ⟨J5, H, hJ5⟩ := H
                  refine WL.midF 6 (fun L' w' => ∃ q6 : Bool, L' = [(124, .bool q6)] ∧ J5 q6 ∧ w.grownBy w' none) ?_ (fun hQ => ?_)
                  · clear H
                    rintro _ w24 ⟨q6, rfl, H, gr21⟩
                    replace H := hJ5 q6 H
                    refine WL.y rfl (Yld.pure tab_ok rfl) ?_
                    obtain ⟨J6, H, hJ6⟩ := H
                    refine WL.midF 2 (fun L' w' => ∃ q7 : Bool, L' = [(127, .bool q7)] ∧ J6 q7 ∧ w.grownBy w' none) ?_ (fun hQ => ?_)
                    · clear H
                      rintro _ w25 ⟨q7, rfl, H, gr22⟩
                      replace H := hJ6 q7 H
                      refine WL.y rfl (Yld.pure tab_ok rfl) ?_
                      refine WL.nil (WX.then_normal ?_)
                      refine WC.ret ?_
                      exact WX.ret1 rfl rfl ⟨gr22, q7, rfl, H⟩
                    · clear hJ6
                      rcases Bool.eq_false_or_eq_true (q6) with b10 | b10
                      · replace H := H.1 b10
                        refine WL.callw (wants_some rfl rfl (okb b10)) rfl rfl (W_smithysee_Is (hG.grown gr21) hS0 hS1 hS2 hS3 hS4 hS5 hS6 hS7 hS8 hS9 hS10 hS11 hS12 hS13 hS14 hS15 hS16 (ErrR.okR (S := S) (w := w24)) H) ?_
                        rintro _ w26 ⟨hg20, t126, rfl, H⟩
                        have gr23 := gr_trans gr21 hg20
                        refine WL.y rfl (Yld.pickT (okb b10) rfl) ?_
                        exact WL.weaken (by repeat (first | exact Sub.nil | refine Sub.cons rfl ?_)) (hQ _ _ ⟨t126, rfl, H, gr23⟩)
                      · replace H := H.2 b10
                        refine WL.gno rfl rfl (okb b10) rfl ?_
                        refine WL.y rfl (Yld.pickF (okb b10) rfl) ?_
                        exact WL.weaken (by repeat (first | exact Sub.nil | refine Sub.cons rfl ?_)) (hQ _ _ ⟨false, rfl, H, gr21⟩)
                  · clear hJ5
                    rcases Bool.eq_false_or_eq_true (ok && (decide (t1101 = Er.ok))) with b11 | b11
                    · replace H := H.1 b11
                      refine WL.gyes rfl rfl (okb b11) rfl (Yld.pure tab_ok rfl) ?_
                      obtain ⟨h9, H⟩ := H
                      refine WL.gyes rfl rfl (okb b11) rfl (Yld.iaddrW tab_ok k37.rd rfl rfl hr_t1100.1.symm rfl h9.1 h9.2) ?_
                      obtain ⟨⟨v_el2, F_el2⟩, eh2, hR2⟩ := RelD.at hr_t1100 vh0 PV.nil (j := 0) (Nat.lt_of_lt_of_eq (iltN h9 hr_t1100.1.symm) hr_t1100.1)
                      have hv5 : RelD deV w23 [(v_el2, F_el2)] [t1100.getD 0 PV.nil] := RelD.cons hR2 RelD.nil
                      refine WL.gyes rfl rfl (okb b11) rfl (Yld.to (v := v_el2.1) (Yld.iload vh0 tab_ok k37.rd rfl rfl (iltN h9 hr_t1100.1.symm)) (congrArg vv eh2)) ?_
                      refine WL.callw (wants_some rfl rfl (okb b11)) rfl rfl (W_val_Repr hv5 H) ?_
                      rintro _ w27 ⟨hg21, t122, rfl, H⟩
                      have gr24 := gr_trans gr20 hg21
                      have k38 := hv5.grown hg21
                      refine WL.gyes rfl rfl (okb b11) rfl (Yld.pure tab_ok rfl) ?_
                      refine WL.y rfl (Yld.pickT (okb b11) rfl) ?_
                      exact WL.weaken (by repeat (first | exact Sub.nil | refine Sub.cons rfl ?_)) (hQ _ _ ⟨!decide (t122 = ([78, 111, 110, 101] : List UInt8)), rfl, H, gr24⟩)
                    · replace H := H.2 b11
                      refine WL.gno rfl rfl (okb b11) rfl ?_
                      refine WL.gno rfl rfl (okb b11) rfl ?_
                      refine WL.gno rfl rfl (okb b11) rfl ?_
                      refine WL.gno rfl rfl (okb b11) rfl ?_
                      refine WL.gno rfl rfl (okb b11) rfl ?_
                      refine WL.y rfl (Yld.pickF (okb b11) rfl) ?_
                      exact WL.weaken (by repeat (first | exact Sub.nil | refine Sub.cons rfl ?_)) (hQ _ _ ⟨false, rfl, H, gr20⟩)
                · clear H
                  rcases Bool.eq_false_or_eq_true (ok) with b12 | b12
                  · refine WL.gyes rfl rfl (okb b12) rfl (Yld.pure tab_ok rfl) ?_
                    refine WL.gyes rfl rfl (okb b12) rfl (Yld.erreql Tryd.underlying34 ht1101 rfl) ?_
                    refine WL.y rfl (Yld.pickT (okb b12) rfl) ?_
                    exact WL.weaken (by repeat (first | exact Sub.nil | refine Sub.cons rfl ?_)) (hQ _ _ ⟨decide (t1101 = Er.ok), rfl, by rw [b12] <;> rfl, rfl⟩)
                  · refine WL.gno rfl rfl (okb b12) rfl ?_
                    refine WL.gno rfl rfl (okb b12) rfl ?_
                    refine WL.y rfl (Yld.pickF (okb b12) rfl) ?_
                    exact WL.weaken (by repeat (first | exact Sub.nil | refine Sub.cons rfl ?_)) (hQ _ _ ⟨false, rfl, by rw [b12] <;> rfl, rfl⟩)
          · clear hJ3
            rcases Bool.eq_false_or_eq_true (q3) with b13 | b13
            · replace H := H.1 b13
              refine WL.gno rfl rfl (okb b13) rfl ?_
              refine WL.gno rfl rfl (okb b13) rfl ?_
              refine WL.y rfl (Yld.pickT (okb b13) rfl) ?_
              exact WL.weaken (by repeat (first | exact Sub.nil | refine Sub.cons rfl ?_)) (hQ _ _ ⟨true, rfl, H, rfl⟩)
            · replace H := H.2 b13
              refine WL.gyes rfl rfl (okb b13) rfl (Yld.pure tab_ok rfl) ?_
              refine WL.callw (wants_some rfl rfl (okb b13)) rfl rfl (W_pdeps_Set_Empty k16 H) ?_
              rintro _ _ ⟨rfl, t81, rfl, H⟩
              refine WL.y rfl (Yld.pickF (okb b13) rfl) ?_
              exact WL.weaken (by repeat (first | exact Sub.nil | refine Sub.cons rfl ?_)) (hQ _ _ ⟨t81, rfl, H, rfl⟩)
        · clear hJ2
          rcases Bool.eq_false_or_eq_true ((!decide (t621 = Er.ok)) || (!decide ((t620.length : Int) = (t20 + (1 : Int))))) with b14 | b14
          · replace H := H.1 b14
            refine WL.gno rfl rfl (okb b14) rfl ?_
            refine WL.gno rfl rfl (okb b14) rfl ?_
            refine WL.gno rfl rfl (okb b14) rfl ?_
            refine WL.gno rfl rfl (okb b14) rfl ?_
            refine WL.y rfl (Yld.pickT (okb b14) rfl) ?_
            exact WL.weaken (by repeat (first | exact Sub.nil | refine Sub.cons rfl ?_)) (hQ _ _ ⟨true, rfl, H, gr12, k15, k14, hr_t620⟩)
          · replace H := H.2 b14
            refine WL.gyes rfl rfl (okb b14) rfl (Yld.pure tab_ok rfl) ?_
            refine WL.callw (wants_some rfl rfl (okb b14)) rfl rfl (W_pdeps_Set_Size k15 H) ?_
            rintro _ w28 ⟨hg22, t75, rfl, H⟩
            have gr25 := gr_trans gr12 hg22
            have k39 := k15.grown hg22
            have k40 := k14.grown hg22
            have k41 := hr_t620.grown hg22
            refine WL.gyes rfl rfl (okb b14) rfl (Yld.pure tab_ok rfl) ?_
            refine WL.gyes rfl rfl (okb b14) rfl (Yld.pure tab_ok rfl) ?_
            refine WL.y rfl (Yld.pickF (okb b14) rfl) ?_
            exact WL.weaken (by repeat (first | exact Sub.nil | refine Sub.cons rfl ?_)) (hQ _ _ ⟨!decide (t75 = (t20 + (1 : Int))), rfl, H, gr25, k39, k40, k41⟩)
      · clear H
        rcases Bool.eq_false_or_eq_true (!decide (t621 = Er.ok)) with b15 | b15
        · refine WL.gno rfl rfl (okb b15) rfl ?_
          refine WL.gno rfl rfl (okb b15) rfl ?_
          refine WL.gno rfl rfl (okb b15) rfl ?_
          refine WL.gno rfl rfl (okb b15) rfl ?_
          refine WL.y rfl (Yld.pickT (okb b15) rfl) ?_
          exact WL.weaken (by repeat (first | exact Sub.nil | refine Sub.cons rfl ?_)) (hQ _ _ ⟨true, rfl, by rw [b15] <;> rfl, rfl⟩)
        · refine WL.gyes rfl rfl (okb b15) rfl (Yld.pure tab_ok rfl) ?_
          refine WL.gyes rfl rfl (okb b15) rfl (Yld.pure tab_ok rfl) ?_
          refine WL.gyes rfl rfl (okb b15) rfl (Yld.pure tab_ok rfl) ?_
          refine WL.gyes rfl rfl (okb b15) rfl (Yld.pure tab_ok rfl) ?_
          refine WL.y rfl (Yld.pickF (okb b15) rfl) ?_
          exact WL.weaken (by repeat (first | exact Sub.nil | refine Sub.cons rfl ?_)) (hQ _ _ ⟨!decide ((t620.length : Int) = (t20 + (1 : Int))), rfl, by rw [b15] <;> rfl, rfl⟩)

end Go.Proofs.YtofenpiiihhigaaDoor

 /- smithysee.Is, plainly. -/
namespace Go.Proofs.YtofenpiiihhigaaDoor
open Go Go.RowKit
def isB : Er → Int → Bool
  | .ok, c => decide (0 = c)
  | .e n, c => decide (101 + (n : Int) = c)
  | .at_ _ _, _ => false
theorem is_M {e : Er} {code : Int} {K : Bool → Prop} (h : K (isB e code)) : M_smithysee_Is e code K := by
  unfold M_smithysee_Is M_smithyref_Bare M_smithysee_Same M_smithysee_Fault M_smithyref_None M_smithyref_SameFault M_smithysee_placed M_smithysee_sentinel M_smithyref_Bare M_smithyref_Placed M_smithyref_None
  cases e with
  | ok => refine ⟨fun _ => ?_, fun h2 => absurd rfl h2⟩; exact (congrArg K (show isB .ok code = _ by simp [isB])).mp h
  | e n => refine ⟨fun h2 => (by cases h2), fun _ => ⟨fun p m h2 => (by cases h2), fun _ => ?_⟩⟩; exact (congrArg K (show isB (.e n) code = _ by rw [Bool.eq_iff_iff]; simp [isB, sentV]; exact decide_eq_true_iff.symm)).mp h
  | at_ p n =>
    refine ⟨fun h2 => (by cases h2), fun _ => ⟨fun p' m h2 => ?_, fun h2 => absurd rfl (h2 p n)⟩⟩
    cases h2
    refine ⟨fun h2 => (by simp at h2), fun _ => ⟨fun h2 => (by simp only [sentV] at h2; omega), fun _ => ?_⟩⟩
    exact (congrArg K (show isB (.at_ p n) code = _ by simp [isB])).mp h
end Go.Proofs.YtofenpiiihhigaaDoor


 /- Values and sets of sets, plainly: what is printed, keyed and made. -/
namespace Go.Proofs.YtofenpiiihhigaaDoor
open Go Go.RowKit
/-! ## texts of numbers -/
theorem dd_inj (a : Nat) : ∀ b, dd a = dd b → a = b := by
  induction a using Nat.strongRecOn with
  | _ a ih =>
    intro b h
    rcases Nat.eq_zero_or_pos a with ha | ha
    · subst ha
      rcases Nat.eq_zero_or_pos b with hb | hb
      · exact hb.symm
      · rw [dd_zero, dd_pos hb] at h; cases h
    · rcases Nat.eq_zero_or_pos b with hb | hb
      · subst hb; rw [dd_zero, dd_pos ha] at h; cases h
      · rw [dd_pos ha, dd_pos hb] at h
        injection h with h1 h2
        have h3 := ih (a / 10) (by omega) _ h2
        have h4 := congrArg UInt8.toNat h1
        rw [dc_toNat, dc_toNat] at h4
        omega
theorem dd_dig (n : Nat) : ∀ c ∈ dd n, 48 ≤ c.toNat ∧ c.toNat ≤ 57 := by
  induction n using Nat.strongRecOn with
  | _ n ih =>
    intro c hc
    rcases Nat.eq_zero_or_pos n with h | h
    · subst h; rw [dd_zero] at hc; cases hc
    · rw [dd_pos h] at hc
      rcases List.mem_cons.1 hc with rfl | hc
      · rw [dc_toNat]; omega
      · exact ih (n / 10) (by omega) c hc
theorem txt_inj {a b : Int} (h : txt a = txt b) : a = b := by
  have key : ∀ n : Nat, 0 < n → (dd n).reverse ≠ [48] := fun n hn e => by
    have e2 : dd n = [48] := by have := congrArg List.reverse e; simpa using this
    rw [dd_pos hn] at e2
    injection e2 with h1 h2
    have h3 := congrArg UInt8.toNat h1
    rw [dc_toNat] at h3
    have h4 : n / 10 = 0 := dd_inj _ 0 (by rw [h2, dd_zero])
    have : (48 : UInt8).toNat = 48 := rfl
    omega
  have m45 : ∀ (n : Nat) (l : List UInt8), (dd n).reverse ≠ 45 :: l := fun n l e => by
    have := dd_dig n 45 (by rw [← List.mem_reverse, e]; exact List.mem_cons_self)
    revert this; decide
  unfold txt at h
  by_cases ha : a = 0
  · by_cases hb : b = 0
    · omega
    · rw [if_pos ha, if_neg hb] at h
      by_cases b0 : b < 0
      · rw [if_pos b0] at h; injection h with h1; exact absurd h1 (by decide)
      · rw [if_neg b0] at h; exact absurd h.symm (key _ (by omega))
  · by_cases hb : b = 0
    · rw [if_neg ha, if_pos hb] at h
      by_cases a0 : a < 0
      · rw [if_pos a0] at h; injection h with h1; exact absurd h1 (by decide)
      · rw [if_neg a0] at h; exact absurd h (key _ (by omega))
    · rw [if_neg ha, if_neg hb] at h
      by_cases a0 : a < 0
      · by_cases b0 : b < 0
        · rw [if_pos a0, if_pos b0] at h
          have := dd_inj _ _ (List.reverse_inj.1 (List.append_cancel_left h))
          omega
        · rw [if_pos a0, if_neg b0] at h
          exact absurd h.symm (m45 _ _)
      · by_cases b0 : b < 0
        · rw [if_neg a0, if_pos b0] at h
          exact absurd h (m45 _ _)
        · rw [if_neg a0, if_neg b0] at h
          have := dd_inj _ _ (List.reverse_inj.1 (List.append_cancel_left h))
          omega
theorem txt_hd {z : Int} {l : List UInt8} (h : txt z = 78 :: l) : False := by
  unfold txt at h
  split at h
  · injection h with h1; exact absurd h1 (by decide)
  · split at h
    · injection h with h1; exact absurd h1 (by decide)
    · have := dd_dig z.natAbs 78 (by rw [← List.mem_reverse, show (dd z.natAbs).reverse = 78 :: l from h]; exact List.mem_cons_self)
      revert this; decide
theorem txt_len {z : Int} (h : -100000000 < z ∧ z < 100000000) : (txt z).length ≤ 9 := by
  have := dd_len 8 z.natAbs (by omega)
  unfold txt
  split
  · simp
  · split <;> simp <;> omega
theorem keyP_iff {a b : Int} : keyP (.int a) = keyP (.int b) ↔ a = b := by
  refine ⟨fun h => ?_, fun h => by rw [h]⟩
  unfold keyP at h
  injection h with _ h
  exact txt_inj (List.append_cancel_right h)
/-! ## what is printed -/
theorem full_M {p : List UInt8} {K : Bool → Prop} (hp : p.length < 65536) (h : K false) : M_pval_printer_full p K := by
  intro _
  rw [decide_eq_false (by omega)]; exact h
theorem put_M {p t : List UInt8} {K : List UInt8 → Prop} (hp : p.length + t.length ≤ 65536) (h : K (p ++ t)) : M_pval_printer_put p [t] K := by
  intro _ _
  refine ⟨fun i q => (i = 0 ∧ q = p) ∨ (i = 1 ∧ q = p ++ t), fun i _ => (1 - i).toNat, .inl ⟨rfl, rfl⟩, ?_⟩
  rintro i q (⟨rfl, rfl⟩ | ⟨rfl, rfl⟩)
  · have e : (if (65536 : Int) - (q.length : Int) < (t.length : Int) then (65536 : Int) - (q.length : Int) else (t.length : Int)).toNat = t.length := by
      split <;> omega
    refine ⟨fun _ => ⟨by simp, by simp only [In]; omega, ?_, ?_, by simp only [In]; omega, ?_, by dsimp only; omega⟩, fun hn => absurd (by simp) hn⟩
    · simp only [Int.toNat_zero, List.getD_cons_zero]; split <;> omega
    · simp only [Int.toNat_zero, List.getD_cons_zero, e, List.take_length]; omega
    · simp only [Int.toNat_zero, List.getD_cons_zero, e, List.take_length]
      exact .inr ⟨by omega, by first | rfl | trivial⟩
  · exact ⟨fun hl => absurd hl (by simp), fun _ => h⟩
theorem text_M {z : Int} {K : List UInt8 → Prop} (h : K (txt z)) : M_num_Num_Text z 3 K := ⟨by decide, h⟩
theorem repr_int {p : List UInt8} {z deep : Int} {K : List UInt8 → Prop} (hp : p.length + (txt z).length ≤ 65000) (h : K (p ++ txt z)) : M_pval_printer_repr p (.int z) deep K := by
  intro _
  refine full_M (by omega) ⟨fun e => (by cases e), fun _ => ⟨fun e => (by cases e), fun z' e => ?_, fun e => absurd rfl (e z)⟩⟩
  cases e
  exact text_M (put_M (by omega) h)
theorem vrepr_int {z : Int} {K : List UInt8 → Prop} (hp : (txt z).length ≤ 65000) (h : K (txt z)) : M_val_Repr (.int z) K := by
  intro _
  refine full_M (by decide) ⟨fun e => (by cases e), fun _ => ⟨fun e => (by cases e), fun z' e => ?_, fun e => absurd rfl (e z)⟩⟩
  cases e
  exact text_M (put_M (by simp; omega) h)
theorem comT_push : ∀ (l : List Int) (z : Int), comT (l ++ [z]) = comT l ++ (if l = [] then [] else [44, 32]) ++ txt z
  | [], z => by simp [comT]
  | [y], z => by simp [comT]
  | y :: x :: l, z => by
    have := comT_push (x :: l) z
    rw [List.cons_append, List.cons_append, comT, ← List.cons_append, this, comT]
    simp
theorem comT_len : ∀ {l : List Int}, (∀ z ∈ l, (txt z).length ≤ 9) → (comT l).length ≤ 11 * l.length
  | [], _ => by simp [comT]
  | [z], h => by have := h z (by simp); simp [comT]; omega
  | z :: y :: l, h => by
    have h1 := comT_len (l := y :: l) fun x hx => h x (List.mem_cons_of_mem _ hx)
    have h2 := h z (by simp)
    rw [comT]
    simp only [List.length_append, List.length_cons, List.length_nil] at h1 ⊢
    omega
theorem getD_get' {α : Type} {l : List α} {i : Nat} {d : α} (h : i < l.length) : l.getD i d = l[i] := by simp [List.getD, h]
theorem items_M {p : List UInt8} {l : List Int} {deep : Int} {K : List UInt8 → Prop} (hl : l.length ≤ 2000) (hp : p.length ≤ 1000) (ht : ∀ z ∈ l, (txt z).length ≤ 9) (h : K (p ++ comT l)) : M_pval_printer_items p (l.map .int) deep K := by
  intro _ _
  refine ⟨fun i q => 0 ≤ i ∧ i ≤ l.length ∧ q = p ++ comT (l.take i.toNat), fun i _ => ((l.length : Int) - i).toNat, ⟨by omega, by omega, by simp [comT]⟩, ?_⟩
  rintro i q ⟨h0, h1, rfl⟩
  have hc := comT_len (l := l.take i.toNat) fun z hz => ht z (List.mem_of_mem_take hz)
  have hcl : (l.take i.toNat).length ≤ 2000 := by rw [List.length_take]; omega
  rw [List.length_map]
  refine ⟨fun hi => ⟨⟨h0, by omega⟩, full_M (by simp; omega) ⟨fun e => (by cases e), fun _ => ?_⟩⟩, fun hi => ?_⟩
  · have hlt : i.toNat < l.length := by omega
    have e1 : (l.map PV.int).getD i.toNat PV.nil = .int l[i.toNat] := by rw [getD_get' (by simpa using hlt)]; simp
    have e2 : l.take (i + 1).toNat = l.take i.toNat ++ [l[i.toNat]] := by
      rw [show (i + 1).toNat = i.toNat + 1 by omega, List.take_add_one, List.getElem?_eq_getElem hlt]; rfl
    have e3 := ht l[i.toNat] (List.getElem_mem hlt)
    refine ⟨fun q => q = p ++ (comT (l.take i.toNat) ++ (if l.take i.toNat = [] then [] else [44, 32])), ⟨fun hpos => ?_, fun hn => ?_⟩, ?_⟩
    · refine put_M (by simp; omega) ?_
      have : l.take i.toNat ≠ [] := by
        intro e
        have := congrArg List.length e
        rw [List.length_take, List.length_nil] at this
        omega
      rw [if_neg this, List.append_assoc]
    · have e0 : i = 0 := by omega
      subst e0
      simp
    · rintro _ rfl
      rw [e1]
      refine repr_int ?_ ⟨by simp only [In]; omega, ⟨by omega, by omega, ?_⟩, by dsimp only; omega⟩
      · simp only [List.length_append]
        split <;> simp only [List.length_nil, List.length_cons] <;> omega
      · rw [e2, comT_push]; simp
  · have : l.take i.toNat = l := List.take_of_length_le (by omega)
    rw [this]; exact h
theorem vrepr_tup {l : List Int} {K : List UInt8 → Prop} (hl : l.length ≤ 1000) (ht : ∀ z ∈ l, (txt z).length ≤ 9) (h : K (tupT l)) : M_val_Repr (.tup l) K := by
  have hc := comT_len ht
  intro _
  refine full_M (by decide) ⟨fun e => (by cases e), fun _ => ⟨fun e => (by cases e), fun z' e => (by cases e), fun _ => ?_⟩⟩
  intro _
  refine ⟨fun e => absurd e (by decide), fun _ => ⟨fun e => (by cases e), fun _ => ⟨fun l' e => ?_, fun e => absurd rfl (e l)⟩⟩⟩
  cases e
  refine put_M (by simp) ⟨by simp only [In]; omega, items_M (by omega) (by simp) ht ?_⟩
  refine ⟨fun q => q = [40] ++ comT l ++ (if l.length = 1 then [44] else []), ⟨fun e => ?_, fun e => ?_⟩, ?_⟩
  · rw [List.length_map] at e
    rw [if_pos (by omega)]
    exact put_M (by simp; omega) rfl
  · rw [List.length_map] at e
    rw [if_neg (by omega), List.append_nil]; rfl
  · rintro _ rfl
    refine put_M (by simp only [List.length_append]; split <;> simp <;> omega) ?_
    have : [40] ++ comT l ++ (if l.length = 1 then [44] else []) ++ [41] = tupT l := by
      unfold tupT
      split <;> simp
    rw [this]; exact h
/-! ## keys and weights -/
theorem key_int {z : Int} {K : List UInt8 → Er → Prop} (ht : (txt z).length ≤ 1000) (h : K (keyP (.int z)) .ok) : M_val_Key (.int z) K := by
  intro _
  refine ⟨by simp only [In]; omega, fun e => absurd e (by decide), fun _ => ⟨fun q => q = 73 :: txt z, ⟨⟨fun e => (by cases e), fun z' e => ?_, fun e => absurd rfl (e z)⟩, ?_⟩⟩⟩
  · cases e
    exact ⟨by decide, text_M ⟨by simp; omega, rfl⟩⟩
  · rintro _ rfl
    exact ⟨by simp; omega, fun e => absurd rfl e, fun _ => h⟩
theorem weight_M {v : PV} {most : Int} {K : Int → Prop} (hv : v = .emp ∨ ∃ z, v = .int z) (h : K 1) : M_val_weight v most K := by
  refine ⟨fun l => l = [], ⟨fun _ => rfl, fun _ => ⟨fun l e => ?_, fun _ => rfl⟩⟩, ?_⟩
  · rcases hv with rfl | ⟨z, rfl⟩ <;> cases e
  · rintro _ rfl
    exact ⟨fun n i => n = 1 ∧ i = 0, fun _ _ => 0, ⟨rfl, rfl⟩, fun n i ⟨e1, e2⟩ => ⟨fun hl => by subst e2; simp at hl, fun _ => by rw [e1]; exact h⟩⟩
theorem light_M {l : List PV} {K : Bool → Prop} (hl : l.length ≤ 4096) (hv : ∀ v ∈ l, v = .emp ∨ ∃ z, v = .int z) (h : K true) : M_val_Light 4096 l K := by
  intro _
  refine ⟨fun m i => 0 ≤ i ∧ i ≤ l.length ∧ m = 4096 - i, fun _ i => ((l.length : Int) - i).toNat, ⟨by omega, by omega, by omega⟩, ?_⟩
  rintro m i ⟨h0, h1, rfl⟩
  refine ⟨fun hi => ⟨⟨h0, by omega⟩, weight_M ?_ ⟨by simp only [In]; omega, fun e => by omega, fun _ => ⟨by simp only [In]; omega, ⟨by omega, by omega, by omega⟩, by dsimp only; omega⟩⟩⟩, fun _ => h⟩
  rw [getD_get' (by omega)]
  exact hv _ (List.getElem_mem (by omega))
end Go.Proofs.YtofenpiiihhigaaDoor


 /- Sets of sets, plainly: a set is made; how many sets there are. -/
namespace Go.Proofs.YtofenpiiihhigaaDoor
open Go Go.RowKit
theorem mget_in {κ : Type} [DecidableEq κ] {l : List κ} {q : κ} (h : (mget (l.map fun x => (x, true)) q).getD false = true) : q ∈ l := by
  rw [mget_true] at h; exact of_decide_eq_true h
theorem mget_out {κ : Type} [DecidableEq κ] {l : List κ} {q : κ} (h : (mget (l.map fun x => (x, true)) q).getD false = false) : q ∉ l := by
  rw [mget_true] at h; exact of_decide_eq_false h
theorem ownT_snoc (l : List PV) (i : Nat) (t : TS) (h : i < l.length) : ownT (l.take (i + 1)) t = stepT (ownT (l.take i) t) l[i] := by
  rw [List.take_add_one, List.getElem?_eq_getElem h]
  exact ownT_push _ _ _
theorem ownT_keys : ∀ (l : List PV) (t : TS), t.keys = t.out.map keyP → (ownT l t).keys = (ownT l t).out.map keyP
  | [], _, h => h
  | v :: l, t, h => by
    rw [ownT_cons]
    refine ownT_keys l _ ?_
    unfold stepT
    split
    · exact h
    · simp [h]
theorem ownT_sub : ∀ (l : List PV) (t : TS), ∀ x ∈ (ownT l t).out, x ∈ t.out ∨ x ∈ l
  | [], _, _, h => .inl h
  | v :: l, t, x, h => by
    rw [ownT_cons] at h
    rcases ownT_sub l _ x h with h | h
    · unfold stepT at h
      split at h
      · exact .inl h
      · rcases List.mem_append.1 h with h | h
        · exact .inl h
        · exact .inr (by rw [List.mem_singleton.1 h]; exact List.mem_cons_self)
    · exact .inr (List.mem_cons_of_mem _ h)
theorem ownT_olen : ∀ (l : List PV) (t : TS), (ownT l t).out.length ≤ t.out.length + l.length
  | [], t => Nat.le_refl _
  | v :: l, t => by
    rw [ownT_cons]
    refine Nat.le_trans (ownT_olen l _) ?_
    unfold stepT
    split <;> simp <;> omega
theorem dedP_sub {l : List PV} {x : PV} (h : x ∈ dedP l) : x ∈ l := (ownT_sub l ts0 x h).resolve_left (by simp [ts0])
theorem dedP_len (l : List PV) : (dedP l).length ≤ l.length := by
  have h := ownT_olen l ts0
  have h0 : ts0.out.length = 0 := rfl
  show (ownT l ts0).out.length ≤ _
  omega
def deepF (fr : List PS) : Int := fr.foldl (fun d f => if d < f.deep + 1 then f.deep + 1 else d) 0
def emptyF (own : List PV) (fr : List PS) : Bool := fr.foldl (fun e f => e && f.empty) (decide ((own.length : Int) = 0))
theorem deepF_bd : ∀ (fr : List PS) (d m : Int), 0 ≤ d → d ≤ m → (∀ f ∈ fr, f.deep < m) → 0 ≤ fr.foldl (fun d f => if d < f.deep + 1 then f.deep + 1 else d) d ∧ fr.foldl (fun d f => if d < f.deep + 1 then f.deep + 1 else d) d ≤ m
  | [], d, m, h0, h1, _ => ⟨h0, h1⟩
  | f :: fr, d, m, h0, h1, h => by
    have := h f List.mem_cons_self
    refine deepF_bd fr _ m ?_ ?_ fun g hg => h g (List.mem_cons_of_mem _ hg)
    · dsimp only; split <;> omega
    · dsimp only; split <;> omega
/-- how many sets, how many items -/
structure Few (s : PS) (n m : Nat) : Prop where
  some : ∀ l, Some' s l → l.length ≤ n
  sum : ∀ l, SetsOf s l → (l.map fun x => x.own.length).sum ≤ m
theorem sum_take {l : List Nat} {i : Nat} : (l.take i).sum ≤ l.sum := by
  have := congrArg List.sum (List.take_append_drop i l)
  rw [List.sum_append] at this
  omega
theorem reach_split {s x : PS} (hr : Reach s x) : x = s ∨ ∃ f ∈ s.fr, Reach f x := by
  induction hr with
  | refl => exact .inl rfl
  | @step y f hy hf ih =>
    rcases ih with rfl | ⟨f0, h1, h2⟩
    · exact .inr ⟨f, hf, .refl⟩
    · exact .inr ⟨f0, h1, .step h2 hf⟩
theorem new_M {order : Int} {own : List PV} {fr : List PS} {K : PS → Er → Prop} (ho : 1 ≤ order ∧ order ≤ 3) (hown : ∀ v ∈ own, ∃ z, v = .int z ∧ (txt z).length ≤ 30) (hol : own.length + fr.length ≤ 1024)
    (hfr : ∀ f ∈ fr, f ≠ .nil ∧ (f.order = order ∨ f.order = 1 ∨ order = 1) ∧ -10 ≤ f.deep ∧ f.deep < 1000)
    (hs : ∀ g, Few (.mk g order (dedP own) fr (deepF fr) (emptyF (dedP own) fr)) 100000 1024) (hn : ∀ f ∈ fr, ∀ y, Reach f y → y ≠ .nil)
    (hK : ∀ g, K (.mk g order (dedP own) fr (deepF fr) (emptyF (dedP own) fr)) .ok) : M_deps_New order own fr K := by
  intro _ _
  refine ⟨fun e => ?_, fun _ => light_M (by omega) (fun v hv => .inr ?_) ⟨fun e => (by cases e), fun _ => clone_MS (by omega) ?_⟩⟩
  · exfalso
    rw [Bool.or_eq_true, decide_eq_true_eq, decide_eq_true_eq] at e
    omega
  · obtain ⟨z, h, _⟩ := hown v hv
    exact ⟨z, h⟩
  refine ⟨fun i a b m => 0 ≤ i ∧ i ≤ own.length ∧ a = (ownT (own.take i.toNat) ts0).out ∧ b = (ownT (own.take i.toNat) ts0).keys ∧ m = (ownT (own.take i.toNat) ts0).keys.map fun x => (x, true),
    fun i _ _ _ => ((own.length : Int) - i).toNat, ⟨by omega, by omega, rfl, rfl, rfl⟩, ?_⟩
  rintro i _ _ _ ⟨h0, h1, rfl, rfl, rfl⟩
  refine ⟨fun hi => ?_, fun hi => ?_⟩
  · have hlt : i.toNat < own.length := by omega
    obtain ⟨z, hz, htz⟩ := hown own[i.toNat] (List.getElem_mem hlt)
    have hol' := ownT_olen (own.take i.toNat) ts0
    have htl : (own.take i.toNat).length ≤ 1024 := by rw [List.length_take]; omega
    have hkl : (ownT (own.take i.toNat) ts0).keys.length = (ownT (own.take i.toNat) ts0).out.length := by rw [ownT_keys _ _ rfl, List.length_map]
    have h00 : ts0.out.length = 0 := rfl
    refine ⟨fun a b m => a = (ownT (own.take (i.toNat + 1)) ts0).out ∧ b = (ownT (own.take (i.toNat + 1)) ts0).keys ∧ m = (ownT (own.take (i.toNat + 1)) ts0).keys.map fun x => (x, true), ⟨⟨h0, by omega⟩, ?_⟩, ?_⟩
    · rw [getD_get' hlt, ownT_snoc _ _ _ hlt, hz]
      refine key_int (by omega) ⟨fun e => absurd rfl e, fun _ => ⟨by simp [keyP, maxLen]; omega, fun e => ?_, fun e => ?_⟩⟩
      · replace e := mget_out (by rw [Bool.not_eq_true'] at e; exact e)
        refine ⟨⟨by simp [keyP, maxLen]; omega, by simp [maxLen]; omega⟩, True, ⟨by simp; omega, by simp; omega, trivial⟩, fun _ => ?_⟩
        unfold stepT
        rw [if_neg e, mput_true e]
        exact ⟨rfl, rfl, rfl⟩
      · replace e := mget_in (by rw [Bool.not_eq_false'] at e; exact e)
        unfold stepT
        rw [if_pos e]
        exact ⟨rfl, rfl, rfl⟩
    · rintro _ _ _ ⟨rfl, rfl, rfl⟩
      refine ⟨by simp only [In]; omega, ⟨by omega, by omega, ?_⟩, by dsimp only; omega⟩
      rw [show (i + 1).toNat = i.toNat + 1 by omega]
      exact ⟨rfl, rfl, rfl⟩
  · have e1 : own.take i.toNat = own := List.take_of_length_le (by omega)
    rw [e1]
    refine ⟨fun k d e => 0 ≤ k ∧ k ≤ fr.length ∧ d = deepF (fr.take k.toNat) ∧ e = emptyF (dedP own) (fr.take k.toNat), fun k _ _ => ((fr.length : Int) - k).toNat, ⟨by omega, by omega, rfl, rfl⟩, ?_⟩
    rintro k _ _ ⟨k0, k1, rfl, rfl⟩
    refine ⟨fun hk => ?_, fun hk => ?_⟩
    · have hlt : k.toNat < fr.length := by omega
      obtain ⟨f1, f2, f3, f4⟩ := hfr _ (List.getElem_mem hlt)
      rw [getD_get' hlt]
      refine ⟨⟨k0, by omega⟩, f1, fun e => ?_, fun _ => ⟨by simp only [In]; omega, by simp only [In]; omega, ⟨by omega, by omega, ?_, ?_⟩, by dsimp only; omega⟩⟩
      · exfalso
        simp only [Bool.and_eq_true, Bool.not_eq_true', decide_eq_false_iff_not] at e
        rcases f2 with f2 | f2 | f2
        · exact e.1.1 f2
        · exact e.1.2 f2
        · exact e.2 f2
      · rw [show (k + 1).toNat = k.toNat + 1 by omega, List.take_add_one, List.getElem?_eq_getElem hlt]
        unfold deepF
        rw [List.foldl_append]; rfl
      · rw [show (k + 1).toNat = k.toNat + 1 by omega, List.take_add_one, List.getElem?_eq_getElem hlt]
        unfold emptyF
        rw [List.foldl_append]; rfl
    · have e2 : fr.take k.toNat = fr := List.take_of_length_le (by omega)
      rw [e2]
      have hd := deepF_bd fr 0 1000 (by omega) (by omega) fun f hf => (hfr f hf).2.2.2
      have hd' : deepF fr ≤ 1000 := hd.2
      refine ⟨fun _ => by simp only [In]; omega, fun e => ?_, fun _ => ⟨fun x hx => ?_, ?_, fun x hx => (hfr x hx).1, fun g => ⟨(by intro e; cases e), (hs g).some, fun l hl => ?_⟩⟩⟩
      · exfalso
        simp only [Bool.or_eq_true, decide_eq_true_eq] at e
        omega
      · obtain ⟨z, h, _⟩ := hown x (dedP_sub hx)
        exact ⟨z, h⟩
      · exact ownT_keys own ts0 rfl
      · have hsum := (hs g).sum l hl
        have hll := (hs g).some l hl.toSome'
        have hnn : ∀ x ∈ l, x ≠ .nil := fun x hx => by
          have hr := hl.re x hx
          rcases reach_split hr with rfl | ⟨f, h1, h2⟩
          · intro e; cases e
          · exact hn f h1 x h2
        refine ⟨fun n q => 0 ≤ q ∧ q ≤ l.length ∧ n = (((l.take q.toNat).map fun x => x.own.length).sum : Nat), fun _ q => ((l.length : Int) - q).toNat, ⟨by omega, by omega, rfl⟩, ?_⟩
        rintro n q ⟨q0, q1, rfl⟩
        refine ⟨fun hq => ?_, fun _ => hK g⟩
        have hlt : q.toNat < l.length := by omega
        rw [getD_get' hlt]
        have e3 : ((l.take (q.toNat + 1)).map fun x => x.own.length).sum = ((l.take q.toNat).map fun x => x.own.length).sum + l[q.toNat].own.length := by
          rw [List.take_add_one, List.getElem?_eq_getElem hlt, List.map_append, List.sum_append]
          show _ + List.sum [_] = _
          simp
        have e4 : ((l.take (q.toNat + 1)).map fun x => x.own.length).sum ≤ (l.map fun x => x.own.length).sum := by
          rw [List.map_take]; exact sum_take
        refine ⟨⟨q0, by omega⟩, hnn _ (List.getElem_mem hlt), by simp only [In]; omega, fun e => by omega, fun _ => ⟨by simp only [In]; omega, ⟨by omega, by omega, ?_⟩, by dsimp only; omega⟩⟩
        rw [show (q + 1).toNat = q.toNat + 1 by omega, e3]
        omega
/-! ## a known list of all sets -/
structure AllIn (s : PS) (C : List PS) : Prop where
  top : s ∈ C
  nn : ∀ x ∈ C, x ≠ .nil
  cl : ∀ x ∈ C, ∀ f ∈ x.fr, f ∈ C
theorem AllIn.reach {s : PS} {C : List PS} (h : AllIn s C) : ∀ x, Reach s x → x ∈ C := fun x hr => by
  induction hr with
  | refl => exact h.top
  | step _ hf ih => exact h.cl _ ih _ hf
theorem AllIn.few {s : PS} {C : List PS} {n k : Nat} (h : AllIn s C) (hn : C.length ≤ n) (hk : ∀ x ∈ C, x.own.length ≤ k) : Few s n (n * k) := by
  have key : ∀ l, Some' s l → l.length ≤ n := fun l hl => by
    have h1 := List.Nodup.length_le_of_subset hl.nd (l₂ := C.map PS.id) fun i hi => by
      obtain ⟨x, hx, rfl⟩ := List.mem_map.1 hi
      exact List.mem_map.2 ⟨x, h.reach x (hl.re x hx), rfl⟩
    rw [List.length_map, List.length_map] at h1
    omega
  refine ⟨key, fun l hl => ?_⟩
  have h1 := key l hl.toSome'
  have h2 : ∀ l : List PS, (∀ x ∈ l, x ∈ C) → (l.map fun x => x.own.length).sum ≤ l.length * k := fun l => by
    induction l with
    | nil => intro _; simp
    | cons x l ih =>
      intro h
      have := ih fun y hy => h y (List.mem_cons_of_mem _ hy)
      have h3 := hk x (h x List.mem_cons_self)
      simp only [List.map_cons, List.sum_cons, List.length_cons, Nat.succ_mul]
      omega
  exact Nat.le_trans (h2 l fun x hx => h.reach x (hl.re x hx)) (Nat.mul_le_mul_right k h1)
theorem Few.mono {s : PS} {n m n' m' : Nat} (h : Few s n m) (a : n ≤ n') (b : m ≤ m') : Few s n' m' := ⟨fun l hl => Nat.le_trans (h.some l hl) a, fun l hl => Nat.le_trans (h.sum l hl) b⟩
theorem uniq_id {C : List PS} (nd : (C.map PS.id).Nodup) {x y : PS} (hx : x ∈ C) (hy : y ∈ C) (e : x.id = y.id) : x = y := by
  induction C with
  | nil => cases hx
  | cons c C ih =>
    rw [List.map_cons, List.nodup_cons] at nd
    rcases List.mem_cons.1 hx with h1 | h1
    · rcases List.mem_cons.1 hy with h2 | h2
      · rw [h1, h2]
      · exact absurd (List.mem_map.2 ⟨y, h2, by rw [← e, h1]⟩) nd.1
    · rcases List.mem_cons.1 hy with h2 | h2
      · exact absurd (List.mem_map.2 ⟨x, h1, by rw [e, h2]⟩) nd.1
      · exact ih nd.2 h1 h2
theorem AllIn.size {s : PS} {C : List PS} (h : AllIn s C) (hr : ∀ x ∈ C, Reach s x) (nd : (C.map PS.id).Nodup) {l : List PS} (hl : SetsOf s l) : l.length = C.length := by
  have h1 : ∀ x, Reach s x → x ∈ l := fun x hx => by
    induction hx with
    | refl => exact hl.top
    | @step x f hx hf ih =>
      obtain ⟨y, hy, e⟩ := hl.cl x ih f hf
      have := uniq_id nd (h.reach y (hl.re y hy)) (h.cl x (h.reach x hx) f hf) e
      exact this ▸ hy
  have h2 := List.Nodup.length_le_of_subset hl.nd (l₂ := C.map PS.id) fun i hi => by
    obtain ⟨x, hx, rfl⟩ := List.mem_map.1 hi
    exact List.mem_map.2 ⟨x, h.reach x (hl.re x hx), rfl⟩
  have h3 := List.Nodup.length_le_of_subset nd (l₂ := l.map PS.id) fun i hi => by
    obtain ⟨x, hx, rfl⟩ := List.mem_map.1 hi
    exact List.mem_map.2 ⟨x, h1 x (hr x hx), rfl⟩
  simp only [List.length_map] at h2 h3
  omega
end Go.Proofs.YtofenpiiihhigaaDoor


 /- Rows of sets, plainly. -/
namespace Go.Proofs.YtofenpiiihhigaaDoor
open Go Go.RowKit
def numI (n b : Int) : Int := (n.tmod b + b).tmod b
theorem numI_bd (n : Int) {b : Int} (hb : 0 < b) : 0 ≤ numI n b ∧ numI n b < b := by
  have h2 : -b < n.tmod b := Int.lt_tmod_of_pos n hb
  exact ⟨Int.tmod_nonneg b (by omega), Int.tmod_lt_of_pos _ hb⟩
theorem numI_M {n b : Int} {K : Int → Prop} (hb : 0 < b) (hb2 : b ≤ 100000) (h : K (numI n b)) : M_smithyworld_Number n b K := by
  have h1 := Int.tmod_lt_of_pos n hb
  have h2 : -b < n.tmod b := Int.lt_tmod_of_pos n hb
  exact ⟨by omega, by simp only [In]; omega, by omega, h⟩
theorem numI_lt {n b : Int} (h0 : 0 ≤ n) (h1 : n < b) : numI n b = n := by
  unfold numI
  rw [Int.tmod_eq_of_lt h0 h1, Int.tmod_eq_emod_of_nonneg (by omega), Int.add_emod_right, Int.emod_eq_of_lt h0 h1]
theorem small_M {n : Int} {K : PV → Prop} (hn : In .i64 n) (h : K (.int n)) : M_smithylaw13_small n K := ⟨by simpa only [In] using hn, h⟩
abbrev RowD := Int × List Int × List Int
def fromsP (prev : List PS) (fs : List Int) : List PS := if prev = [] then [] else fs.map fun f => prev.getD (numI f prev.length).toNat .nil
def rowS (o : Int) (r : RowD) (prev : List PS) (g : Nat) : PS := .mk g o (dedP (r.2.1.map .int)) (fromsP prev r.2.2) (deepF (fromsP prev r.2.2)) (emptyF (dedP (r.2.1.map .int)) (fromsP prev r.2.2))
inductive Mds (l : List RowD) (o : Int) : List PS → Prop
  | nil : Mds l o []
  | snoc {out : List PS} (g : Nat) (h : Mds l o out) (hlt : out.length < l.length) (hg : ∀ x ∈ out, x.id ≠ g) : Mds l o (out ++ [rowS o (l.getD out.length (0, [], [])) out g])
theorem fromsP_mem {prev : List PS} {fs : List Int} {f : PS} (h : f ∈ fromsP prev fs) : f ∈ prev := by
  unfold fromsP at h
  split at h
  · cases h
  · rename_i hne
    obtain ⟨z, _, rfl⟩ := List.mem_map.1 h
    have hp := List.length_pos_iff.2 hne
    have := numI_bd z (b := (prev.length : Int)) (by omega)
    rw [getD_get' (by omega)]
    exact List.getElem_mem _
/-- what holds of rows that are made -/
structure MdsF (o : Int) (out : List PS) : Prop where
  nn : ∀ x ∈ out, x ≠ .nil
  cl : ∀ x ∈ out, ∀ f ∈ x.fr, f ∈ out
  ord : ∀ x ∈ out, x.order = o
  deep : ∀ x ∈ out, 0 ≤ x.deep ∧ x.deep < out.length
theorem Mds.facts {l : List RowD} {o : Int} {out : List PS} (h : Mds l o out) : MdsF o out := by
  induction h with
  | nil => exact ⟨fun _ h => (by cases h), fun _ h => (by cases h), fun _ h => (by cases h), fun _ h => (by cases h)⟩
  | @snoc out g h hlt hg ih =>
    have hd := deepF_bd (fromsP out (l.getD out.length (0, [], [])).2.2) 0 out.length (by omega) (by omega) fun f hf => (ih.deep f (fromsP_mem hf)).2
    refine ⟨fun x hx => ?_, fun x hx f hf => ?_, fun x hx => ?_, fun x hx => ?_⟩
    · rcases List.mem_append.1 hx with hx | hx
      · exact ih.nn x hx
      · rw [List.mem_singleton.1 hx]; intro e; cases e
    · rcases List.mem_append.1 hx with hx | hx
      · exact List.mem_append_left _ (ih.cl x hx f hf)
      · rw [List.mem_singleton.1 hx] at hf
        exact List.mem_append_left _ (fromsP_mem hf)
    · rcases List.mem_append.1 hx with hx | hx
      · exact ih.ord x hx
      · rw [List.mem_singleton.1 hx]; rfl
    · rcases List.mem_append.1 hx with hx | hx
      · have := ih.deep x hx
        rw [List.length_append]; simp; omega
      · rw [List.mem_singleton.1 hx, List.length_append]
        show 0 ≤ deepF _ ∧ deepF _ < _
        have h1 : (List.length out : Int) < ((List.length out + [rowS o (l.getD out.length (0, [], [])) out g].length : Nat) : Int) := by simp; omega
        exact ⟨hd.1, Int.lt_of_le_of_lt hd.2 h1⟩
theorem MdsF.reach {o : Int} {out : List PS} (h : MdsF o out) {f y : PS} (hf : f ∈ out) (hr : Reach f y) : y ∈ out := by
  induction hr with
  | refl => exact hf
  | step _ hg ih => exact h.cl _ ih _ hg
theorem Mds.own {l : List RowD} {o : Int} {out : List PS} {n : Nat} (h : Mds l o out) (hr : ∀ r ∈ l, r.2.1.length ≤ n) : ∀ x ∈ out, x.own.length ≤ n := by
  induction h with
  | nil => intro _ h; cases h
  | @snoc out g h hlt hg ih =>
    intro x hx
    rcases List.mem_append.1 hx with hx | hx
    · exact ih x hx
    · rw [List.mem_singleton.1 hx]
      show (dedP _).length ≤ n
      refine Nat.le_trans (dedP_len _) ?_
      rw [List.length_map, getD_get' hlt]
      exact hr _ (List.getElem_mem hlt)
theorem made_M {l : List RowD} {o : Int} {K : List PS → Bool → Prop} (hl : l.length ≤ 20) (ho : 1 ≤ o ∧ o ≤ 3) (hr : ∀ r ∈ l, r.1 = o ∧ r.2.1.length ≤ 10 ∧ r.2.2.length ≤ 6 ∧ ∀ z ∈ r.2.1, -100000000 < z ∧ z < 100000000)
    (hK : ∀ out, Mds l o out → out.length = l.length → K out true) : M_smithylaw13_made l K := by
  intro _
  refine ⟨fun out i => 0 ≤ i ∧ i ≤ l.length ∧ out.length = i.toNat ∧ Mds l o out, fun _ i => ((l.length : Int) - i).toNat, ⟨by omega, by omega, rfl, .nil⟩, ?_⟩
  rintro out i ⟨h0, h1, hlen, hm⟩
  refine ⟨fun hi => ?_, fun hi => hK out hm (by omega)⟩
  have hlt : i.toNat < l.length := by omega
  have hF := hm.facts
  generalize hrow : l[i.toNat] = r
  have hrow' : l.getD i.toNat (0, [], []) = r := by rw [getD_get' hlt, hrow]
  obtain ⟨ho', hws, hfs, hz⟩ := hr r (by rw [← hrow]; exact List.getElem_mem hlt)
  simp only [hrow']
  have hib : 0 ≤ i ∧ i < (l.length : Nat) := ⟨h0, hi⟩
  refine ⟨fun own k => 0 ≤ k ∧ k ≤ r.2.1.length ∧ own = (r.2.1.take k.toNat).map .int, fun _ k => ((r.2.1.length : Int) - k).toNat, ⟨by omega, by omega, rfl⟩, ?_⟩
  rintro _ k ⟨k0, k1, rfl⟩
  refine ⟨hib, fun hk => ?_, fun hk => ?_⟩
  · have hkl : k.toNat < r.2.1.length := by omega
    rw [getD_get' hkl]
    have hzz := hz _ (List.getElem_mem hkl)
    refine ⟨hib, ⟨k0, by omega⟩, small_M (by simp only [In]; omega) ⟨?_, by simp only [In]; omega, ⟨by omega, by omega, ?_⟩, by dsimp only; omega⟩⟩
    · simp only [List.length_map, List.length_take, List.length_cons, List.length_nil]; omega
    · rw [show (k + 1).toNat = k.toNat + 1 by omega, List.take_add_one, List.getElem?_eq_getElem hkl, List.map_append]
      rfl
  · have e1 : r.2.1.take k.toNat = r.2.1 := List.take_of_length_le (by omega)
    rw [e1]
    refine ⟨fun from_ q => 0 ≤ q ∧ q ≤ r.2.2.length ∧ from_ = fromsP out (r.2.2.take q.toNat), fun _ q => ((r.2.2.length : Int) - q).toNat, ⟨by omega, by omega, by unfold fromsP; simp⟩, ?_⟩
    rintro _ q ⟨q0, q1, rfl⟩
    refine ⟨hib, fun hq => ?_, fun hq => ?_⟩
    · rw [Bool.and_eq_true, decide_eq_true_eq, decide_eq_true_eq] at hq
      have hql : q.toNat < r.2.2.length := by omega
      have hone : out ≠ [] := by intro e; rw [e] at hlen; simp at hlen; omega
      have hnb := numI_bd r.2.2[q.toNat] hq.2
      rw [getD_get' hql]
      have e5 : fromsP out (r.2.2.take (q.toNat + 1)) = fromsP out (r.2.2.take q.toNat) ++ [out.getD (numI r.2.2[q.toNat] i).toNat .nil] := by
        unfold fromsP
        rw [if_neg hone, if_neg hone, List.take_add_one, List.getElem?_eq_getElem hql, hlen, Int.toNat_of_nonneg h0, List.map_append]
        rfl
      refine ⟨hib, ⟨q0, by omega⟩, numI_M hq.2 (by omega) ⟨⟨hnb.1, by omega⟩, ?_, by simp only [In]; omega, ⟨by omega, by omega, ?_⟩, by dsimp only; omega⟩⟩
      · unfold fromsP
        rw [if_neg hone]
        simp only [List.length_map, List.length_take, List.length_cons, List.length_nil]; omega
      · rw [show (q + 1).toNat = q.toNat + 1 by omega, e5]
    · have e6 : fromsP out (r.2.2.take q.toNat) = fromsP out r.2.2 := by
        rw [Bool.and_eq_false_iff, decide_eq_false_iff_not, decide_eq_false_iff_not] at hq
        rcases hq with hq | hq
        · rw [List.take_of_length_le (by omega)]
        · have : out = [] := List.length_eq_zero_iff.1 (by omega)
          unfold fromsP
          rw [if_pos this, if_pos this]
      rw [e6, ho']
      have hfl : (fromsP out r.2.2).length ≤ 6 := by
        unfold fromsP
        split
        · simp
        · simpa using hfs
      have hdp : (dedP (r.2.1.map PV.int)).length ≤ 10 := Nat.le_trans (dedP_len _) (by simpa using hws)
      refine ⟨hib, new_M ho (fun v hv => ?_) (by rw [List.length_map]; omega) (fun f hf => ⟨hF.nn f (fromsP_mem hf), .inl (hF.ord f (fromsP_mem hf)), ?_, ?_⟩) (fun g => ?_) (fun f hf y hy => hF.nn y (hF.reach (fromsP_mem hf) hy)) (fun g hfrA hfrB => ?_)⟩
      · obtain ⟨z, hz', rfl⟩ := List.mem_map.1 hv
        exact ⟨z, rfl, Nat.le_trans (txt_len (hz z hz')) (by omega)⟩
      · have := hF.deep f (fromsP_mem hf); omega
      · have := hF.deep f (fromsP_mem hf); omega
      · have hA : AllIn (PS.mk g o (dedP (r.2.1.map .int)) (fromsP out r.2.2) (deepF (fromsP out r.2.2)) (emptyF (dedP (r.2.1.map .int)) (fromsP out r.2.2))) (PS.mk g o (dedP (r.2.1.map .int)) (fromsP out r.2.2) (deepF (fromsP out r.2.2)) (emptyF (dedP (r.2.1.map .int)) (fromsP out r.2.2)) :: out) := by
          refine ⟨List.mem_cons_self, fun x hx => ?_, fun x hx f hf => ?_⟩
          · rcases List.mem_cons.1 hx with rfl | hx
            · intro e; cases e
            · exact hF.nn x hx
          · rcases List.mem_cons.1 hx with rfl | hx
            · exact List.mem_cons_of_mem _ (fromsP_mem hf)
            · exact List.mem_cons_of_mem _ (hF.cl x hx f hf)
        refine (hA.few (n := 21) (k := 10) (by simp; omega) fun x hx => ?_).mono (by omega) (by omega)
        rcases List.mem_cons.1 hx with rfl | hx
        · exact hdp
        · exact hm.own (fun r hr' => (hr r hr').2.1) x hx
      · have hne : (PS.mk g o (dedP (r.2.1.map .int)) (fromsP out r.2.2) (deepF (fromsP out r.2.2)) (emptyF (dedP (r.2.1.map .int)) (fromsP out r.2.2))) ≠ .nil := by intro e; cases e
        have hg : ∀ x ∈ out, x.id ≠ g := fun x hx => hfrA hne x hx x .refl (hF.nn x hx)
        refine ⟨fun e => by simp [PS.isNil] at e, fun _ => ⟨by simp; omega, by simp only [In]; omega, ⟨by omega, by omega, by simp; omega, ?_⟩, by (try dsimp only); omega⟩⟩
        have := Mds.snoc (l := l) (o := o) g hm (by omega) hg
        rw [hlen, hrow'] at this
        exact this
end Go.Proofs.YtofenpiiihhigaaDoor


 /- What sets tell, plainly: the chapter's example, and a chain. -/
namespace Go.Proofs.YtofenpiiihhigaaDoor
open Go Go.RowKit
theorem tell_done {N : Nat} {o : Int} {s : PS} {t : TS} (h : s.id ∈ t.sets) : tellN N o s t = t := by
  cases N with
  | zero => rfl
  | succ N => rw [tellN_succ, if_pos h]
/-! ## the chapter's example -/
theorem told_M {s : PS} {zs : List Int} {K : List UInt8 → Prop} (hs : s ≠ .nil) (hd : ∀ n, dep n s → (tellN n s.order s ts0).sets.length ≤ 100000 ∧ allN n s = zs.map .int) (hz : zs.length ≤ 1000 ∧ ∀ z ∈ zs, (txt z).length ≤ 9) (h : K (tupT zs)) : M_smithylaw13_told s K := by
  refine ⟨hs, fun n hn => ?_⟩
  obtain ⟨h1, h2⟩ := hd n hn
  have h3 : (tellN n s.order s ts0).out.length = (allN n s).length := by
    unfold allN; split <;> simp
  refine ⟨h1, by rw [h3, h2, List.length_map]; omega, fun e => absurd rfl e, fun _ => ⟨by rw [h2, List.length_map]; omega, zs, h2, vrepr_tup hz.1 hz.2 h⟩⟩
def ex4 (o : Int) : List RowD := [(o, [1], []), (o, [2], [0]), (o, [3], [0]), (o, [4], [1, 2])]
theorem ded1 (z : Int) : dedP [.int z] = [.int z] := by
  simp [dedP, ownT, ts0]
theorem fromsP_c (x : PS) (l : List PS) (fs : List Int) : fromsP (x :: l) fs = fs.map fun f => (x :: l).getD (numI f (x :: l).length).toNat .nil := by
  unfold fromsP; rw [if_neg (by simp)]
theorem ex4_out {o : Int} {out : List PS} (h : Mds (ex4 o) o out) (hl : out.length = 4) : ∃ a b c d : Nat, ∃ d1 d2 d3 d4 : Int, ∃ e1 e2 e3 e4 : Bool, a ≠ b ∧ a ≠ c ∧ b ≠ c ∧ a ≠ d ∧ b ≠ d ∧ c ≠ d ∧
    out = [.mk a o [.int 1] [] d1 e1, .mk b o [.int 2] [.mk a o [.int 1] [] d1 e1] d2 e2, .mk c o [.int 3] [.mk a o [.int 1] [] d1 e1] d3 e3,
      .mk d o [.int 4] [.mk b o [.int 2] [.mk a o [.int 1] [] d1 e1] d2 e2, .mk c o [.int 3] [.mk a o [.int 1] [] d1 e1] d3 e3] d4 e4] := by
  obtain _ | @⟨o3, g4, h, l4, f4⟩ := h
  · simp at hl
  simp only [List.length_append, List.length_cons, List.length_nil, Nat.zero_add, Nat.add_right_cancel_iff] at hl
  obtain _ | @⟨o2, g3, h, l3, f3⟩ := h
  · simp at hl
  simp only [List.length_append, List.length_cons, List.length_nil, Nat.zero_add, Nat.add_right_cancel_iff] at hl
  obtain _ | @⟨o1, g2, h, l2, f2⟩ := h
  · simp at hl
  simp only [List.length_append, List.length_cons, List.length_nil, Nat.zero_add, Nat.add_right_cancel_iff] at hl
  obtain _ | @⟨o0, g1, h, l1, f1⟩ := h
  · simp at hl
  simp only [List.length_append, List.length_cons, List.length_nil, Nat.zero_add, Nat.add_right_cancel_iff] at hl
  have h0 : o0 = [] := List.length_eq_zero_iff.1 (by omega)
  subst h0
  have key : ∀ (prev : List PS) (g : Nat) (z : Int) (fs : List Int) (fr : List PS), fromsP prev fs = fr → ∃ d : Int, ∃ e : Bool, rowS o (o, [z], fs) prev g = .mk g o [.int z] fr d e := fun prev g z fs fr h => by
    subst h
    refine ⟨deepF (fromsP prev fs), emptyF (dedP [.int z]) (fromsP prev fs), ?_⟩
    unfold rowS
    simp only [List.map_cons, List.map_nil, ded1]
  obtain ⟨d1, e1, h1⟩ := key [] g1 1 [] [] rfl
  rw [show [] ++ [rowS o ((ex4 o).getD (List.length []) (0, [], [])) [] g1] = [.mk g1 o [.int 1] [] d1 e1] by rw [← h1]; rfl] at f2 f3 f4 ⊢
  obtain ⟨d2, e2, h2⟩ := key [.mk g1 o [.int 1] [] d1 e1] g2 2 [0] [.mk g1 o [.int 1] [] d1 e1] (by rw [fromsP_c, List.map_cons, List.map_nil, numI_lt (n := 0) (by omega) (by simp)]; rfl)
  rw [show [.mk g1 o [.int 1] [] d1 e1] ++ [rowS o ((ex4 o).getD (List.length [PS.mk g1 o [.int 1] [] d1 e1]) (0, [], [])) [.mk g1 o [.int 1] [] d1 e1] g2] = [.mk g1 o [.int 1] [] d1 e1, .mk g2 o [.int 2] [.mk g1 o [.int 1] [] d1 e1] d2 e2] by rw [← h2]; rfl] at f3 f4 ⊢
  obtain ⟨d3, e3, h3⟩ := key [.mk g1 o [.int 1] [] d1 e1, .mk g2 o [.int 2] [.mk g1 o [.int 1] [] d1 e1] d2 e2] g3 3 [0] [.mk g1 o [.int 1] [] d1 e1] (by rw [fromsP_c, List.map_cons, List.map_nil, numI_lt (n := 0) (by omega) (by simp)]; rfl)
  rw [show [.mk g1 o [.int 1] [] d1 e1, .mk g2 o [.int 2] [.mk g1 o [.int 1] [] d1 e1] d2 e2] ++ [rowS o ((ex4 o).getD (List.length [PS.mk g1 o [.int 1] [] d1 e1, .mk g2 o [.int 2] [.mk g1 o [.int 1] [] d1 e1] d2 e2]) (0, [], [])) [.mk g1 o [.int 1] [] d1 e1, .mk g2 o [.int 2] [.mk g1 o [.int 1] [] d1 e1] d2 e2] g3] =
    [.mk g1 o [.int 1] [] d1 e1, .mk g2 o [.int 2] [.mk g1 o [.int 1] [] d1 e1] d2 e2, .mk g3 o [.int 3] [.mk g1 o [.int 1] [] d1 e1] d3 e3] by rw [← h3]; rfl] at f4 ⊢
  obtain ⟨d4, e4, h4⟩ := key [.mk g1 o [.int 1] [] d1 e1, .mk g2 o [.int 2] [.mk g1 o [.int 1] [] d1 e1] d2 e2, .mk g3 o [.int 3] [.mk g1 o [.int 1] [] d1 e1] d3 e3] g4 4 [1, 2] [.mk g2 o [.int 2] [.mk g1 o [.int 1] [] d1 e1] d2 e2, .mk g3 o [.int 3] [.mk g1 o [.int 1] [] d1 e1] d3 e3] (by rw [fromsP_c, List.map_cons, List.map_cons, List.map_nil, numI_lt (n := 1) (by omega) (by simp), numI_lt (n := 2) (by omega) (by simp)]; rfl)
  refine ⟨g1, g2, g3, g4, d1, d2, d3, d4, e1, e2, e3, e4, f2 (.mk g1 o [.int 1] [] d1 e1) (by simp), f3 (.mk g1 o [.int 1] [] d1 e1) (by simp), f3 (.mk g2 o [.int 2] [.mk g1 o [.int 1] [] d1 e1] d2 e2) (by simp), f4 (.mk g1 o [.int 1] [] d1 e1) (by simp), f4 (.mk g2 o [.int 2] [.mk g1 o [.int 1] [] d1 e1] d2 e2) (by simp), f4 (.mk g3 o [.int 3] [.mk g1 o [.int 1] [] d1 e1] d3 e3) (by simp), ?_⟩
  rw [← h4]; rfl
theorem txt_dig {d : Nat} (h0 : 0 < d) (h1 : d < 10) : txt (d : Int) = [UInt8.ofNat (48 + d)] := by
  unfold txt
  rw [if_neg (by omega), if_neg (by omega), Int.natAbs_natCast, dd_pos h0, show d / 10 = 0 by omega, dd_zero]
  simp only [dc, show d % 10 = d by omega]
  rfl
def ex4Z (o : Int) : List Int := if o = 1 then [4, 2, 1, 3] else if o = 2 then [1, 2, 3, 4] else [4, 2, 3, 1]
theorem ex4_tell {o : Int} (ho : 1 ≤ o ∧ o ≤ 3) {a b c d : Nat} {d1 d2 d3 d4 : Int} {e1 e2 e3 e4 : Bool} (hab : a ≠ b) (hac : a ≠ c) (hbc : b ≠ c) (had : a ≠ d) (hbd : b ≠ d) (hcd : c ≠ d) (n : Nat)
    (hn : dep n (.mk d o [.int 4] [.mk b o [.int 2] [.mk a o [.int 1] [] d1 e1] d2 e2, .mk c o [.int 3] [.mk a o [.int 1] [] d1 e1] d3 e3] d4 e4)) :
    (tellN n o (.mk d o [.int 4] [.mk b o [.int 2] [.mk a o [.int 1] [] d1 e1] d2 e2, .mk c o [.int 3] [.mk a o [.int 1] [] d1 e1] d3 e3] d4 e4) ts0).sets.length ≤ 100000 ∧
    allN n (.mk d o [.int 4] [.mk b o [.int 2] [.mk a o [.int 1] [] d1 e1] d2 e2, .mk c o [.int 3] [.mk a o [.int 1] [] d1 e1] d3 e3] d4 e4) = (ex4Z o).map .int := by
  obtain _ | n := n
  · exact hn.elim
  have hn1 := hn (.mk b o [.int 2] [.mk a o [.int 1] [] d1 e1] d2 e2) (by simp)
  obtain _ | n := n
  · exact hn1.elim
  have hn2 := hn1 (.mk a o [.int 1] [] d1 e1) (by simp)
  obtain _ | n := n
  · exact hn2.elim
  have : o = 1 ∨ o = 2 ∨ o = 3 := by omega
  have k1 := Ne.symm hab
  have k2 := Ne.symm hac
  have k3 := Ne.symm hbc
  have k4 := Ne.symm had
  have k5 := Ne.symm hbd
  have k6 := Ne.symm hcd
  rcases this with rfl | rfl | rfl
  · simp [allN, tellN_succ, preT, midT, postT, ownT_cons, ownT, stepT, ts0, PS.id, PS.own, PS.fr, PS.order, ex4Z, keyP_iff, *]
  · simp [allN, tellN_succ, preT, midT, postT, ownT_cons, ownT, stepT, ts0, PS.id, PS.own, PS.fr, PS.order, ex4Z, keyP_iff, *]
  · simp [allN, tellN_succ, preT, midT, postT, ownT_cons, ownT, stepT, ts0, PS.id, PS.own, PS.fr, PS.order, ex4Z, keyP_iff, *]
end Go.Proofs.YtofenpiiihhigaaDoor


 /- DepsRows and DepsOrders, plainly. -/
namespace Go.Proofs.YtofenpiiihhigaaDoor
open Go Go.RowKit
theorem tup4 {a b c d : Nat} (h : (0 < a ∧ a < 10) ∧ (0 < b ∧ b < 10) ∧ (0 < c ∧ c < 10) ∧ 0 < d ∧ d < 10) : tupT [(a : Int), b, c, d] = [40, UInt8.ofNat (48 + a), 44, 32, UInt8.ofNat (48 + b), 44, 32, UInt8.ofNat (48 + c), 44, 32, UInt8.ofNat (48 + d), 41] := by
  obtain ⟨⟨a0, a1⟩, ⟨b0, b1⟩, ⟨c0, c1⟩, d0, d1⟩ := h
  simp [tupT, comT, txt_dig a0 a1, txt_dig b0 b1, txt_dig c0 c1, txt_dig d0 d1]
theorem ex4_txt {o : Int} (ho : 1 ≤ o ∧ o ≤ 3) : tupT (ex4Z o) = ([([40, 52, 44, 32, 50, 44, 32, 49, 44, 32, 51, 41] : List UInt8), ([40, 49, 44, 32, 50, 44, 32, 51, 44, 32, 52, 41] : List UInt8), ([40, 52, 44, 32, 50, 44, 32, 51, 44, 32, 49, 41] : List UInt8)] : List (List UInt8)).getD ((o - (1 : Int)).toNat) [] := by
  have : o = 1 ∨ o = 2 ∨ o = 3 := by omega
  rcases this with rfl | rfl | rfl
  · exact (tup4 (a := 4) (b := 2) (c := 1) (d := 3) (by omega)).trans rfl
  · exact (tup4 (a := 1) (b := 2) (c := 3) (d := 4) (by omega)).trans rfl
  · exact (tup4 (a := 4) (b := 2) (c := 3) (d := 1) (by omega)).trans rfl
theorem first_M {K : Bool → Prop} (h : K true) : M_smithylaw13_first K := by
  refine ⟨fun o l => 1 ≤ o ∧ o ≤ 4 ∧ ∃ a b c d : Int, l = [(a, [1], []), (b, [2], [0]), (c, [3], [0]), (d, [4], [1, 2])], fun o _ => (4 - o).toNat, ⟨by omega, by omega, 0, 0, 0, 0, rfl⟩, ?_⟩
  rintro o _ ⟨o0, o1, a, b, c, d, rfl⟩ _
  refine ⟨fun ho => ?_, fun _ => h⟩
  refine ⟨fun i l2 => ∃ a b c d : Int, l2 = [(a, [1], []), (b, [2], [0]), (c, [3], [0]), (d, [4], [1, 2])] ∧ (i = 0 ∨ (i = 1 ∧ a = o) ∨ (i = 2 ∧ a = o ∧ b = o) ∨ (i = 3 ∧ a = o ∧ b = o ∧ c = o) ∨ (i = 4 ∧ a = o ∧ b = o ∧ c = o ∧ d = o)), fun i _ => (4 - i).toNat, ⟨a, b, c, d, rfl, .inl rfl⟩, ?_⟩
  rintro i _ ⟨a, b, c, d, rfl, hi⟩ _
  refine ⟨fun hi4 => ⟨⟨by omega, by omega⟩, by simp only [In]; omega, ?_, by dsimp only; omega⟩, fun hi4 => ?_⟩
  · rcases hi with rfl | ⟨rfl, rfl⟩ | ⟨rfl, rfl, rfl⟩ | ⟨rfl, rfl, rfl, rfl⟩ | ⟨rfl, _⟩
    · exact ⟨o, b, c, d, rfl, .inr (.inl ⟨rfl, rfl⟩)⟩
    · exact ⟨a, a, c, d, rfl, .inr (.inr (.inl ⟨rfl, rfl, rfl⟩))⟩
    · exact ⟨b, b, b, d, rfl, .inr (.inr (.inr (.inl ⟨rfl, rfl, rfl, rfl⟩)))⟩
    · exact ⟨c, c, c, c, rfl, .inr (.inr (.inr (.inr ⟨rfl, rfl, rfl, rfl, rfl⟩)))⟩
    · omega
  · obtain ⟨rfl, rfl, rfl, rfl⟩ : a = o ∧ b = o ∧ c = o ∧ d = o := by omega
    refine made_M (l := ex4 d) (by simp [ex4]) ⟨o0, ho⟩ (fun r hr => ?_) (fun out hm hl => ?_)
    · simp only [ex4, List.mem_cons, List.not_mem_nil, or_false] at hr
      rcases hr with rfl | rfl | rfl | rfl <;> simp
    · refine ⟨fun q => q = false, ⟨fun e => absurd e (by decide), fun _ => ?_⟩, ?_⟩
      · obtain ⟨g1, g2, g3, g4, d1, d2, d3, d4, e1, e2, e3, e4, n1, n2, n3, n4, n5, n6, rfl⟩ := ex4_out hm hl
        refine ⟨⟨by omega, by simp⟩, told_M (zs := ex4Z d) (by intro e; cases e) (fun n hn => ex4_tell ⟨o0, ho⟩ n1 n2 n3 n4 n5 n6 n hn) ⟨?_, fun z hz => txt_len ?_⟩ ⟨by simp only [In]; omega, ⟨by omega, by omega⟩, ?_⟩⟩
        · unfold ex4Z; split
          · decide
          · split <;> decide
        · have : z = 1 ∨ z = 2 ∨ z = 3 ∨ z = 4 := by
            unfold ex4Z at hz
            split at hz
            · simp at hz; omega
            · split at hz <;> simp at hz <;> omega
          omega
        · rw [ex4_txt ⟨o0, ho⟩, decide_eq_true rfl]; rfl
      · rintro _ rfl
        exact ⟨fun e => (by cases e), fun _ => ⟨by simp only [In]; omega, ⟨by omega, by omega, d, d, d, d, rfl⟩, by dsimp only; omega⟩⟩
theorem one_few {g : Nat} {o : Int} {own : List PV} {fr : List PS} {d : Int} {e : Bool} {C : List PS} (hfr : ∀ f ∈ fr, f ∈ C) (hC : ∀ x ∈ C, x ≠ .nil ∧ ∀ f ∈ x.fr, f ∈ C) (h1 : C.length ≤ 100) (h2 : ∀ x ∈ C, x.own.length ≤ 2) (h3 : own.length ≤ 2) : Few (.mk g o own fr d e) 100000 1024 := by
  have hA : AllIn (.mk g o own fr d e) (.mk g o own fr d e :: C) := by
    refine ⟨List.mem_cons_self, fun x hx => ?_, fun x hx f hf => ?_⟩
    · rcases List.mem_cons.1 hx with rfl | hx
      · intro e; cases e
      · exact (hC x hx).1
    · rcases List.mem_cons.1 hx with rfl | hx
      · exact List.mem_cons_of_mem _ (hfr f hf)
      · exact List.mem_cons_of_mem _ ((hC x hx).2 f hf)
  refine (hA.few (n := 101) (k := 2) (by simp; omega) fun x hx => ?_).mono (by omega) (by omega)
  rcases List.mem_cons.1 hx with rfl | hx
  · exact h3
  · exact h2 x hx
end Go.Proofs.YtofenpiiihhigaaDoor


 /- DepsRows, plainly: a chain of sets. -/
namespace Go.Proofs.YtofenpiiihhigaaDoor
open Go Go.RowKit
/-- a chain: each set stands twice on the one below -/
inductive Chn (o : Int) : Nat → List PS → Prop
  | one (g : Nat) : Chn o 1 [.mk g o [.int 0] [] 0 false]
  | more {n : Nat} {s : PS} {C : List PS} (g : Nat) (h : Chn o n (s :: C)) (hg : ∀ x ∈ s :: C, x.id ≠ g) : Chn o (n + 1) (.mk g o [.int (n : Int)] [s, s] n false :: s :: C)
structure ChnF (o : Int) (n : Nat) (s : PS) (L : List PS) : Prop where
  ord : s.order = o
  deep : s.deep = (n : Int) - 1
  emp : s.empty = false
  len : L.length = n
  pos : 1 ≤ n
  ai : AllIn s L
  re : ∀ x ∈ L, Reach s x
  nd : (L.map PS.id).Nodup
  own : ∀ x ∈ L, x.own.length ≤ 1
theorem Reach.below' {s f x : PS} (hf : f ∈ s.fr) (h : Reach f x) : Reach s x := by
  induction h with
  | refl => exact .step .refl hf
  | step _ hg ih => exact .step ih hg
theorem Chn.facts {o : Int} {n : Nat} {L : List PS} (h : Chn o n L) : ∀ s C, L = s :: C → ChnF o n s L := by
  induction h with
  | one g =>
    intro s C e
    injection e with e1 e2
    subst e1
    refine ⟨rfl, rfl, rfl, rfl, by omega, ⟨List.mem_cons_self, fun x hx => ?_, fun x hx f hf => ?_⟩, fun x hx => ?_, by simp, fun x hx => ?_⟩
    · rw [List.mem_singleton.1 hx]; intro e; cases e
    · rw [List.mem_singleton.1 hx] at hf; cases hf
    · rw [List.mem_singleton.1 hx]; exact .refl
    · rw [List.mem_singleton.1 hx]; simp [PS.own]
  | @more n s0 C0 g h hg ih =>
    intro s C e
    injection e with e1 e2
    subst e1
    have I := ih s0 C0 rfl
    refine ⟨rfl, by show (n : Int) = ((n + 1 : Nat) : Int) - 1; omega, rfl, by rw [List.length_cons, I.len], by omega, ⟨List.mem_cons_self, fun x hx => ?_, fun x hx f hf => ?_⟩, fun x hx => ?_, ?_, fun x hx => ?_⟩
    · rcases List.mem_cons.1 hx with rfl | hx
      · intro e; cases e
      · exact I.ai.nn x hx
    · rcases List.mem_cons.1 hx with rfl | hx
      · have : f = s0 := by
          rcases List.mem_cons.1 hf with h | h
          · exact h
          · exact List.mem_singleton.1 h
        rw [this]
        exact List.mem_cons_of_mem _ I.ai.top
      · exact List.mem_cons_of_mem _ (I.ai.cl x hx f hf)
    · rcases List.mem_cons.1 hx with rfl | hx
      · exact .refl
      · exact Reach.below' (f := s0) (by simp [PS.fr]) (I.re x hx)
    · rw [List.map_cons, List.nodup_cons]
      refine ⟨fun hm => ?_, I.nd⟩
      obtain ⟨x, hx, e⟩ := List.mem_map.1 hm
      exact hg x hx e
    · rcases List.mem_cons.1 hx with rfl | hx
      · simp [PS.own]
      · exact I.own x hx
def upV (n : Nat) : List PV := (List.range n).map fun k : Nat => .int (k : Int)
theorem upV_succ (n : Nat) : upV (n + 1) = upV n ++ [.int (n : Int)] := by
  unfold upV; rw [List.range_succ, List.map_append]; rfl
theorem upV_new {n k : Nat} (h : n ≤ k) : keyP (.int (k : Int)) ∉ (upV n).map keyP := by
  intro hm
  obtain ⟨v, hv, e⟩ := List.mem_map.1 hm
  obtain ⟨j, hj, rfl⟩ := List.mem_map.1 hv
  rw [List.mem_range] at hj
  have := keyP_iff.1 e
  omega
def vsO (o : Int) (n : Nat) : List PV := if o = 1 then (upV n).reverse else upV n
theorem ownT_one {v : PV} {t : TS} (h : keyP v ∉ t.keys) : ownT [v] t = { t with keys := t.keys ++ [keyP v], out := t.out ++ [v] } := by
  rw [ownT_cons]
  unfold stepT
  rw [if_neg h]
  rfl
theorem rev_two {x : PS} {o : Int} : (if o = 3 then [x, x].reverse else [x, x]) = [x, x] := by split <;> rfl
theorem rev_one {v : PV} {o : Int} : (if o = 3 then [v].reverse else [v]) = [v] := by split <;> rfl
theorem Chn.tell {o : Int} {n : Nat} {L : List PS} (h : Chn o n L) : ∀ s C, L = s :: C → ∀ (N : Nat) (t : TS), dep N s → (∀ x ∈ L, x.id ∉ t.sets) → (∀ k : Nat, k < n → keyP (.int (k : Int)) ∉ t.keys) →
    tellN N o s t = ⟨t.sets ++ L.map PS.id, t.keys ++ (vsO o n).map keyP, t.out ++ vsO o n⟩ := by
  induction h with
  | one g =>
    intro s C e N t hd hs hk
    injection e with e1 e2
    subst e1
    obtain _ | N := N
    · exact hd.elim
    have h1 := hs _ List.mem_cons_self
    have h2 : keyP (.int 0) ∉ t.keys := hk 0 (by omega)
    rw [tellN_succ, if_neg h1]
    unfold preT midT postT vsO
    simp only [PS.own, PS.fr, PS.id]
    by_cases ho : o = 1
    · rw [if_pos ho, if_pos ho, if_pos ho]
      rw [ownT_one (t := { t with sets := t.sets ++ [g] }) h2]
      split <;> rfl
    · rw [if_neg ho, if_neg ho, if_neg ho, rev_one]
      have : (if o = 3 then ([] : List PS).reverse else []) = [] := by split <;> rfl
      rw [this, List.foldl_nil, ownT_one (t := { t with sets := t.sets ++ [g] }) h2]
      rfl
  | @more n s0 C0 g h hg ih =>
    intro s C e N t hd hs hk
    injection e with e1 e2
    subst e1
    obtain _ | N := N
    · exact hd.elim
    have hd0 : dep N s0 := hd s0 (by simp)
    have h1 := hs _ List.mem_cons_self
    have hkn : keyP (.int (n : Int)) ∉ t.keys := hk n (by omega)
    have hs0 : ∀ x ∈ s0 :: C0, x.id ∉ t.sets ++ [g] := fun x hx hm => by
      rcases List.mem_append.1 hm with hm | hm
      · exact hs x (List.mem_cons_of_mem _ hx) hm
      · exact hg x hx (List.mem_singleton.1 hm)
    rw [tellN_succ, if_neg h1]
    unfold preT midT postT
    simp only [PS.own, PS.fr, PS.id, rev_two, rev_one, List.foldl_cons, List.foldl_nil]
    by_cases ho : o = 1
    · subst ho
      rw [if_pos rfl, if_pos rfl, ownT_one (t := { t with sets := t.sets ++ [g] }) hkn]
      have e := ih s0 C0 rfl N { sets := t.sets ++ [g], keys := t.keys ++ [keyP (.int (n : Int))], out := t.out ++ [.int (n : Int)] } hd0 hs0 (fun k hk' hm => by
        rcases List.mem_append.1 hm with hm | hm
        · exact hk k (by omega) hm
        · have := keyP_iff.1 (List.mem_singleton.1 hm); omega)
      rw [e, tell_done (by simp)]
      unfold vsO
      rw [if_pos rfl, if_pos rfl, upV_succ]
      simp [PS.id]
    · rw [if_neg ho, if_neg ho]
      have e := ih s0 C0 rfl N { t with sets := t.sets ++ [g] } hd0 hs0 (fun k hk' hm => hk k (by omega) hm)
      have hv : vsO o n = upV n := by unfold vsO; rw [if_neg ho]
      have hv1 : vsO o (n + 1) = upV n ++ [.int (n : Int)] := by unfold vsO; rw [if_neg ho, upV_succ]
      rw [e, tell_done (by simp), hv, ownT_one, hv1]
      · simp [PS.id]
      · intro hm
        rcases List.mem_append.1 hm with hm | hm
        · exact hkn hm
        · exact upV_new (Nat.le_refl n) hm
def outO (o : Int) (n : Nat) : List PV := if o = 2 then upV n else (upV n).reverse
theorem outO_get {o : Int} {n i : Nat} (hi : i < n) : (outO o n)[i]? = some (.int (if o = 2 then (i : Int) else (n : Int) - 1 - i)) := by
  unfold outO upV
  split
  · rw [List.getElem?_map, List.getElem?_range hi]; rfl
  · rw [List.getElem?_reverse (by simpa using hi), List.getElem?_map, List.length_map, List.length_range, List.getElem?_range (by omega)]
    simp only [Option.map_some]
    congr 2
    omega
theorem outO_len (o : Int) (n : Nat) : (outO o n).length = n := by unfold outO upV; split <;> simp
theorem chn_All {o : Int} {n : Nat} {s : PS} {C : List PS} {K : List PV → Er → Prop} (h : Chn o n (s :: C)) (ho : 1 ≤ o ∧ o ≤ 3) (hn : n ≤ 1000) (hK : K (outO o n) .ok) : M_pdeps_Set_All s K := by
  have F := h.facts s C rfl
  refine ⟨F.ai.nn s List.mem_cons_self, fun N hd => ?_⟩
  have e := h.tell s C rfl N ts0 hd (fun _ _ h => by cases h) (fun _ _ h => by cases h)
  have hu : (upV n).length = n := by unfold upV; simp
  have hv : (vsO o n).length = n := by unfold vsO; split <;> simp [hu]
  have hA : allN N s = outO o n := by
    unfold allN
    rw [F.ord, e]
    unfold vsO outO
    have : o = 1 ∨ o = 2 ∨ o = 3 := by omega
    rcases this with rfl | rfl | rfl <;> simp [ts0]
  rw [hA, F.ord, e]
  refine ⟨?_, ?_, hK⟩
  · have := F.len
    simp only [ts0, List.nil_append, List.length_map, this]; omega
  · simp only [ts0, List.nil_append, hv]; omega
theorem chn_size {o : Int} {n : Nat} {s : PS} {C : List PS} {K : Int → Prop} (h : Chn o n (s :: C)) (hn : n ≤ 1000) (hK : K n) : M_pdeps_Set_Size s K := by
  have F := h.facts s C rfl
  refine ⟨F.ai.nn s List.mem_cons_self, fun l hl => ?_, fun l hl => ?_⟩
  · exact Nat.le_trans ((F.ai.few (n := n) (k := 1) (by rw [F.len]; exact Nat.le_refl _) F.own).some l hl) (by omega)
  · show K (l.length : Int)
    rw [F.ai.size F.re F.nd hl, F.len]; exact hK
theorem ded2 (z : Int) : dedP [.int z, .int z] = [.int z] := by
  simp [dedP, ownT, ts0]
theorem depsRows_ok {n order : Int} {K : Bool → Prop} (_ : In .i64 n) (_ : In .i64 order) (H : K true) : M_smithylaw13_DepsRows n order K := by
  refine first_M ⟨fun e => (by cases e), fun _ => numI_M (by omega) (by omega) ?_⟩
  have hA := numI_bd n (b := 40) (by omega)
  generalize numI n 40 = x at hA ⊢
  refine ⟨by simp only [In]; omega, numI_M (by omega) (by omega) ?_⟩
  have hB := numI_bd order (b := 3) (by omega)
  generalize numI order 3 = y at hB ⊢
  refine ⟨by simp only [In]; omega, ?_⟩
  generalize hT : x + 1 = T
  generalize ho : y + 1 = o
  have hT1 : 1 ≤ T ∧ T ≤ 40 := by omega
  have ho1 : 1 ≤ o ∧ o ≤ 3 := by omega
  refine ⟨fun s i => (i = 0 ∧ s = .nil) ∨ ∃ k : Nat, ∃ C, i = (k : Int) ∧ i ≤ T ∧ Chn o k (s :: C), fun _ i => (T - i).toNat, .inl ⟨rfl, rfl⟩, ?_⟩
  intro s i hI
  refine ⟨fun hi => ⟨fun t e => e = .ok ∧ t ≠ .nil ∧ ∃ k : Nat, ∃ C, i + 1 = (k : Int) ∧ Chn o k (t :: C), ⟨fun hi0 => ?_, fun hi0 => ?_⟩, ?_⟩, fun hi => ?_⟩
  · subst hi0
    refine small_M (by simp only [In]; omega) (new_M ho1 (fun v hv => ⟨0, by simpa using hv, Nat.le_trans (txt_len (by omega)) (by omega)⟩) (by simp) (fun f hf => by cases hf) (fun g => one_few (C := []) (fun f hf => hf) (fun x hx => by cases hx) (by simp) (fun x hx => by cases hx) (by rw [ded1]; simp)) (fun f hf => by cases hf) (fun g => ?_))
    rw [ded1]
    exact ⟨rfl, (by intro e; cases e), 1, [], rfl, .one g⟩
  · obtain ⟨h0, _⟩ | ⟨k, C, rfl, hkT, hC⟩ := hI
    · exact absurd h0 hi0
    have F := hC.facts s C rfl
    have hIn : In .i64 (k : Int) := by simp only [In]; omega
    refine small_M hIn (small_M hIn (new_M ho1 (fun v hv => ⟨k, by simpa using hv, Nat.le_trans (txt_len (by omega)) (by omega)⟩) (by simp) (fun f hf => ?_) (fun g => one_few (C := s :: C) (fun f hf => ?_) (fun z hz => ⟨F.ai.nn z hz, F.ai.cl z hz⟩) (by rw [F.len]; omega) (fun z hz => Nat.le_trans (F.own z hz) (by omega)) (by rw [ded2]; simp)) (fun f hf z hz => ?_) (fun g hfr => ?_)))
    · have : f = s := by simpa using hf
      rw [this]
      exact ⟨F.ai.nn s List.mem_cons_self, .inl F.ord, by rw [F.deep]; omega, by rw [F.deep]; omega⟩
    · have : f = s := by simpa using hf
      rw [this]; exact List.mem_cons_self
    · have : f = s := by simpa using hf
      rw [this] at hz
      exact F.ai.nn z (F.ai.reach z hz)
    · rw [ded2]
      have hdp : deepF [s, s] = (k : Int) := by
        have h1 := F.deep
        have h2 := F.pos
        simp only [deepF, List.foldl_cons, List.foldl_nil, h1]
        have h3 : (0 : Int) < (k : Int) - 1 + 1 := by omega
        simp only [h3, if_true, Int.lt_irrefl, if_false]
        omega
      have hem : emptyF [.int (k : Int)] [s, s] = false := by simp [emptyF]
      rw [hdp, hem]
      rw [ded2, hdp, hem] at hfr
      refine ⟨rfl, (by intro e; cases e), k + 1, s :: C, by omega, .more g hC fun z hz => ?_⟩
      exact hfr (by intro e; cases e) s (by simp) z (F.re z hz) (F.ai.nn z hz)
  · rintro t _ ⟨rfl, ht, k, C, hk, hC⟩
    refine ⟨fun e => ?_, fun _ => ⟨by simp only [In]; omega, .inr ⟨k, C, hk, by omega, hC⟩, by dsimp only; omega⟩⟩
    exfalso
    cases t with
    | nil => exact ht rfl
    | mk => simp [PS.isNil] at e
  · obtain ⟨h0, _⟩ | ⟨k, C, rfl, hkT, hC⟩ := hI
    · omega
    obtain rfl : T = (k : Int) := by omega
    have F := hC.facts s C rfl
    refine chn_All hC ho1 (by omega) ⟨fun q => q = false, ⟨fun e => ?_, fun _ => chn_size hC (by omega) (by simp)⟩, ?_⟩
    · exfalso; rw [outO_len] at e; simp at e
    rintro _ rfl
    refine ⟨fun q => q = false, ⟨fun e => (by cases e), fun _ => ⟨F.ai.nn s List.mem_cons_self, F.emp⟩⟩, ?_⟩
    rintro _ rfl
    refine ⟨fun e => (by cases e), fun _ => ?_⟩
    refine ⟨fun i all => 0 ≤ i ∧ i ≤ k ∧ all.length = k ∧ ∀ j : Nat, i.toNat ≤ j → j < k → all.getD j .nil = .int (if o = 2 then (j : Int) else (k : Int) - 1 - j), fun i _ => ((k : Int) - i).toNat, ⟨by omega, by omega, outO_len o k, fun j _ hj => ?_⟩, ?_⟩
    · rw [List.getD, outO_get hj]; rfl
    rintro i all ⟨i0, i1, hal, hall⟩ _
    refine ⟨fun hi => ⟨by simp only [In]; omega, by simp only [In]; omega, fun q => q = (if o = 2 then i else (k : Int) - 1 - i), ⟨fun e => (if_pos e).symm, fun e => (if_neg e).symm⟩, ?_⟩, fun _ => ?_⟩
    · rintro _ rfl
      have hz := hall i.toNat (Nat.le_refl _) (by omega)
      rw [Int.toNat_of_nonneg i0] at hz
      generalize hwz : (if o = 2 then i else (k : Int) - 1 - i) = z at hz ⊢
      have hzb : 0 ≤ z ∧ z < 1000 := by rw [← hwz]; split <;> omega
      have htl := txt_len (z := z) (by omega)
      rw [hz]
      refine ⟨⟨i0, by rw [outO_len]; exact hi⟩, vrepr_int (by omega) ⟨by omega, by omega, text_M ⟨fun e => absurd rfl e, fun _ => ⟨⟨i0, by rw [outO_len]; exact hi⟩, by simp only [In]; omega, ⟨by omega, by omega, by simpa using hal, fun j hj hjk => ?_⟩, by dsimp only; omega⟩⟩⟩⟩
      rw [← hall j (by omega) hjk]
      simp only [List.getD]
      rw [List.getElem?_set_ne (by omega)]
    · refine chn_All hC ho1 (by omega) ⟨fun q => q = true, ⟨fun _ => ⟨by rw [outO_len]; have := F.pos; omega, ?_⟩, fun e => by simp at e⟩, ?_⟩
      · have h0 : (outO o k).getD 0 .nil = .int (if o = 2 then ((0 : Nat) : Int) else (k : Int) - 1 - (0 : Nat)) := by
          rw [List.getD, outO_get (by have := F.pos; omega)]; rfl
        rw [h0]
        have hp := F.pos
        generalize hwz : (if o = 2 then ((0 : Nat) : Int) else (k : Int) - 1 - (0 : Nat)) = z
        have hzb : 0 ≤ z ∧ z < 1000 := by rw [← hwz]; split <;> omega
        have htl := txt_len (z := z) (by omega)
        refine vrepr_int (by omega) ?_
        rw [decide_eq_false fun e => txt_hd e]
        rfl
      · rintro _ rfl
        exact ⟨fun q => q = true, ⟨fun _ => is_M rfl, fun e => (by cases e)⟩, fun q hq => by rw [hq]; exact H⟩
end Go.Proofs.YtofenpiiihhigaaDoor


 