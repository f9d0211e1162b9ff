/- Texts of this claim, joined by a program: GGb, GGr. -/
import Derived.Test.YtlonpmajnglmoaaGreatDoorJ4
/- Printed by a program (wip/vg): what the functions mean, plainly, and their walks. -/
namespace Go.Proofs.YtlonpmajnglmoaaGreatDoor
open Go Go.RowKit
attribute [local irreducible] WL WC WX WQ WK WJ Yld Eff Ef0 Fn
def M_pgraph_Graph_Len (g_l : List (Int × List (List UInt8) × List (List UInt8) × List UInt8)) (g_makers : List (List UInt8 × Int)) (g_before : List (List Int)) (g_after : List (List Int)) (K : Int → Prop) : Prop :=
 (g_l.length ≤ maxLen →
 (g_before.length ≤ maxLen →
 (g_after.length ≤ maxLen →
 K (g_l.length : Int))))

def M_pgraph_Graph_Action (g_l : List (Int × List (List UInt8) × List (List UInt8) × List UInt8)) (g_makers : List (List UInt8 × Int)) (g_before : List (List Int)) (g_after : List (List Int)) (i : Int) (K : Int → (List (List UInt8)) → (List (List UInt8)) → (List UInt8) → Bool → Prop) : Prop :=
 (g_l.length ≤ maxLen →
 (g_before.length ≤ maxLen →
 (g_after.length ≤ maxLen →
 ((((decide (i < (0 : Int))) || (decide ((g_l.length : Int) ≤ i))) = true → K (0 : Int) [] [] ([] : List UInt8) false) ∧
 (((decide (i < (0 : Int))) || (decide ((g_l.length : Int) ≤ i))) = false → (0 ≤ i ∧ i < (g_l.length : Nat)) ∧
 M_graph_copied ((g_l.getD i.toNat (0, [], [], [])).1) ((g_l.getD i.toNat (0, [], [], [])).2.1) ((g_l.getD i.toNat (0, [], [], [])).2.2.1) ((g_l.getD i.toNat (0, [], [], [])).2.2.2) (fun (t25_Tool : Int) (t25_Args : List (List UInt8)) (t25_Inputs : List (List UInt8)) (t25_Output : List UInt8) =>
 K t25_Tool t25_Args t25_Inputs t25_Output true))))))

def M_pgraph_Graph_Maker (g_l : List (Int × List (List UInt8) × List (List UInt8) × List UInt8)) (g_makers : List (List UInt8 × Int)) (g_before : List (List Int)) (g_after : List (List Int)) (p : List UInt8) (K : Int → Prop) : Prop :=
 (g_l.length ≤ maxLen →
 (g_before.length ≤ maxLen →
 (g_after.length ≤ maxLen →
 (p.length ≤ maxLen) ∧
 ((((mget g_makers p).isSome) = true → K ((mget g_makers p).getD 0)) ∧
 (((mget g_makers p).isSome) = false → K (-1 : Int))))))

def M_pgraph_Graph_Before (g_l : List (Int × List (List UInt8) × List (List UInt8) × List UInt8)) (g_makers : List (List UInt8 × Int)) (g_before : List (List Int)) (g_after : List (List Int)) (i : Int) (K : (List Int) → Prop) : Prop :=
 (g_l.length ≤ maxLen →
 (g_before.length ≤ maxLen →
 (g_after.length ≤ maxLen →
 ((((decide (i < (0 : Int))) || (decide ((g_l.length : Int) ≤ i))) = true → K []) ∧
 (((decide (i < (0 : Int))) || (decide ((g_l.length : Int) ≤ i))) = false → (0 ≤ i ∧ i < (g_before.length : Nat)) ∧
 M_slices_Clone_int_int (g_before.getD i.toNat []) (fun (t4 : List Int) =>
 K t4))))))

def M_graph_Only (l : List (Int × List (List UInt8) × List (List UInt8) × List UInt8)) (outputs : List (List UInt8)) (K : (List (Int × List (List UInt8) × List (List UInt8) × List UInt8)) → Prop) : Prop :=
 (l.length ≤ maxLen →
 (outputs.length ≤ maxLen →
 M_graph_New l (fun (t121 : Er) =>
 ((¬ (t121 = Er.ok) → K []) ∧
 (t121 = Er.ok → False))) (fun (t120_l : List (Int × List (List UInt8) × List (List UInt8) × List UInt8)) (t120_makers : List (List UInt8 × Int)) (t120_before : List (List Int)) (t120_after : List (List Int)) (t1212 : Er) =>
 ((¬ (t1212 = Er.ok) → K []) ∧
 (t1212 = Er.ok → M_pgraph_Graph_Needs t120_l t120_makers t120_before t120_after outputs (fun (t19 : List Int) =>
 Lp2 (fun (out : List (Int × List (List UInt8) × List (List UInt8) × List UInt8)) (t21 : Int) kont1 => ((t21 < (t19.length : Int) → (0 ≤ t21 ∧ t21 < (t19.length : Nat)) ∧
 (0 ≤ t19.getD t21.toNat 0 ∧ t19.getD t21.toNat 0 < (t120_l.length : Nat)) ∧
 M_graph_copied ((t120_l.getD ((t19.getD t21.toNat 0).toNat) (0, [], [], [])).1) ((t120_l.getD ((t19.getD t21.toNat 0).toNat) (0, [], [], [])).2.1) ((t120_l.getD ((t19.getD t21.toNat 0).toNat) (0, [], [], [])).2.2.1) ((t120_l.getD ((t19.getD t21.toNat 0).toNat) (0, [], [], [])).2.2.2) (fun (t33_Tool : Int) (t33_Args : List (List UInt8)) (t33_Inputs : List (List UInt8)) (t33_Output : List UInt8) =>
 ((out.length + (([(t33_Tool, t33_Args, t33_Inputs, t33_Output)] : List (Int × List (List UInt8) × List (List UInt8) × List UInt8))).length) * 72 ≤ 140737488355328) ∧
 (In .i64 (t21 + (1 : Int))) ∧
 kont1 (out ++ ([(t33_Tool, t33_Args, t33_Inputs, t33_Output)] : List (Int × List (List UInt8) × List (List UInt8) × List UInt8))) (t21 + (1 : Int)))) ∧
 (¬ (t21 < (t19.length : Int)) → K out))) [] (0 : Int)))))))

def M_smithyref_Among (l : List Int) (n : Int) (K : Bool → Prop) : Prop :=
 (l.length ≤ maxLen →
 Lp1 (fun (i : Int) kont1 => ((i < (l.length : Int) → (0 ≤ i ∧ i < (l.length : Nat)) ∧
 (((l.getD i.toNat 0) = n → K true) ∧
 (¬ ((l.getD i.toNat 0) = n) → (In .i64 (i + (1 : Int))) ∧
 kont1 (i + (1 : Int))))) ∧
 (¬ (i < (l.length : Int)) → K false))) (0 : Int))

def M_smithyref_Sorted (l : List Int) (K : (List Int) → Prop) : Prop :=
 (l.length ≤ maxLen →
 Lp2 (fun (out : List Int) (i : Int) kont1 => ((i < (l.length : Int) → ∃ J1 : (List Int) → Prop, (Lp1 (fun (k : Int) kont2 => ((decide (k < (out.length : Int))) = true → (0 ≤ k ∧ k < (out.length : Nat))) ∧
 ((decide (k < (out.length : Int))) = true → (0 ≤ i ∧ i < (l.length : Nat))) ∧
 ((((decide (k < (out.length : Int))) && (decide ((out.getD k.toNat 0) < (l.getD i.toNat 0)))) = true → (In .i64 (k + (1 : Int))) ∧
 kont2 (k + (1 : Int))) ∧
 (((decide (k < (out.length : Int))) && (decide ((out.getD k.toNat 0) < (l.getD i.toNat 0)))) = false → ((decide (k < (out.length : Int))) = true → (0 ≤ k ∧ k < (out.length : Nat))) ∧
 ((decide (k < (out.length : Int))) = true → (0 ≤ i ∧ i < (l.length : Nat))) ∧
 ((((decide (k < (out.length : Int))) && (decide ((out.getD k.toNat 0) = (l.getD i.toNat 0)))) = true → J1 out) ∧
 (((decide (k < (out.length : Int))) && (decide ((out.getD k.toNat 0) = (l.getD i.toNat 0)))) = false → (In .i64 ((out.length : Int) + (1 : Int))) ∧
 (0 ≤ (out.length : Int) + (1 : Int) ∧ ((out.length : Int) + (1 : Int)) * 8 ≤ 140737488355328 ∧ (out.length : Int) + (1 : Int) ≤ 140737488355328) ∧
 (0 ≤ k ∧ k ≤ (out.length : Nat)) ∧
 (((([] : List Int)).length + (out.take k.toNat).length) * 8 ≤ 140737488355328) ∧
 (0 ≤ i ∧ i < (l.length : Nat)) ∧
 (((([] : List Int) ++ (out.take k.toNat)).length + (([l.getD i.toNat 0] : List Int)).length) * 8 ≤ 140737488355328) ∧
 (0 ≤ k ∧ k ≤ (out.length : Int) ∧ (out.length : Int) ≤ (out.length : Nat)) ∧
 ((((([] : List Int) ++ (out.take k.toNat)) ++ ([l.getD i.toNat 0] : List Int)).length + (out.drop k.toNat).length) * 8 ≤ 140737488355328) ∧
 J1 (((([] : List Int) ++ (out.take k.toNat)) ++ ([l.getD i.toNat 0] : List Int)) ++ (out.drop k.toNat))))))) (0 : Int)) ∧
 (∀ out2 : List Int, J1 out2 → (In .i64 (i + (1 : Int))) ∧
 kont1 out2 (i + (1 : Int)))) ∧
 (¬ (i < (l.length : Int)) → K out))) [] (0 : Int))

def M_smithyref_Action (a_Tool : Int) (a_Args : List (List UInt8)) (a_Inputs : List (List UInt8)) (a_Output : List UInt8) (K : Int → (List (List UInt8)) → (List (List UInt8)) → (List UInt8) → Prop) : Prop :=
 (a_Args.length ≤ maxLen →
 (a_Inputs.length ≤ maxLen →
 M_smithyref_Texts a_Args (fun (t7 : List (List UInt8)) =>
 M_smithyref_Texts a_Inputs (fun (t10 : List (List UInt8)) =>
 K a_Tool t7 t10 a_Output))))

def M_smithyref_Actions (a : List (Int × List (List UInt8) × List (List UInt8) × List UInt8)) (K : (List (Int × List (List UInt8) × List (List UInt8) × List UInt8)) → Prop) : Prop :=
 (a.length ≤ maxLen →
 (0 ≤ (a.length : Int) ∧ (a.length : Int) * 72 ≤ 140737488355328 ∧ (a.length : Int) ≤ 140737488355328) ∧
 Lp2 (fun (out : List (Int × List (List UInt8) × List (List UInt8) × List UInt8)) (i : Int) kont1 => ((i < (a.length : Int) → (0 ≤ i ∧ i < (a.length : Nat)) ∧
 M_smithyref_Action ((a.getD i.toNat (0, [], [], [])).1) ((a.getD i.toNat (0, [], [], [])).2.1) ((a.getD i.toNat (0, [], [], [])).2.2.1) ((a.getD i.toNat (0, [], [], [])).2.2.2) (fun (t19_Tool : Int) (t19_Args : List (List UInt8)) (t19_Inputs : List (List UInt8)) (t19_Output : List UInt8) =>
 ((out.length + (([(t19_Tool, t19_Args, t19_Inputs, t19_Output)] : List (Int × List (List UInt8) × List (List UInt8) × List UInt8))).length) * 72 ≤ 140737488355328) ∧
 (In .i64 (i + (1 : Int))) ∧
 kont1 (out ++ ([(t19_Tool, t19_Args, t19_Inputs, t19_Output)] : List (Int × List (List UInt8) × List (List UInt8) × List UInt8))) (i + (1 : Int)))) ∧
 (¬ (i < (a.length : Int)) → K out))) ([] : List (Int × List (List UInt8) × List (List UInt8) × List UInt8)) (0 : Int))

def M_smithyref_SameAction (a_Tool : Int) (a_Args : List (List UInt8)) (a_Inputs : List (List UInt8)) (a_Output : List UInt8) (b_Tool : Int) (b_Args : List (List UInt8)) (b_Inputs : List (List UInt8)) (b_Output : List UInt8) (K : Bool → Prop) : Prop :=
 (a_Args.length ≤ maxLen →
 (a_Inputs.length ≤ maxLen →
 (b_Args.length ≤ maxLen →
 (b_Inputs.length ≤ maxLen →
 M_smithyref_SameTexts a_Args b_Args (fun (x : Bool) =>
 M_smithyref_SameTexts a_Inputs b_Inputs (fun (y : Bool) =>
 K (((x && y) && (decide (a_Tool = b_Tool))) && (decide (a_Output = b_Output)))))))))

def M_smithyref_SameActions (a : List (Int × List (List UInt8) × List (List UInt8) × List UInt8)) (b : List (Int × List (List UInt8) × List (List UInt8) × List UInt8)) (K : Bool → Prop) : Prop :=
 (a.length ≤ maxLen →
 (b.length ≤ maxLen →
 ((¬ ((a.length : Int) = (b.length : Int)) → K false) ∧
 ((a.length : Int) = (b.length : Int) → Lp1 (fun (i : Int) kont1 => ((i < (a.length : Int) → (0 ≤ i ∧ i < (a.length : Nat)) ∧
 (0 ≤ i ∧ i < (b.length : Nat)) ∧
 M_smithyref_SameAction ((a.getD i.toNat (0, [], [], [])).1) ((a.getD i.toNat (0, [], [], [])).2.1) ((a.getD i.toNat (0, [], [], [])).2.2.1) ((a.getD i.toNat (0, [], [], [])).2.2.2) ((b.getD i.toNat (0, [], [], [])).1) ((b.getD i.toNat (0, [], [], [])).2.1) ((b.getD i.toNat (0, [], [], [])).2.2.1) ((b.getD i.toNat (0, [], [], [])).2.2.2) (fun (same : Bool) =>
 (((!same) = true → K false) ∧
 ((!same) = false → (In .i64 (i + (1 : Int))) ∧
 kont1 (i + (1 : Int)))))) ∧
 (¬ (i < (a.length : Int)) → K true))) (0 : Int)))))

def M_smithyworld_Actions (l : List (Int × List (List UInt8) × List (List UInt8) × List UInt8)) (K : Bool → Prop) : Prop :=
 (l.length ≤ maxLen →
 (((24 : Int) < (l.length : Int) → K false) ∧
 (¬ ((24 : Int) < (l.length : Int)) → Lp1 (fun (i : Int) kont1 => ((i < (l.length : Int) → (0 ≤ i ∧ i < (l.length : Nat)) ∧
 M_smithyworld_Texts ((l.getD i.toNat (0, [], [], [])).2.1) (8 : Int) (100 : Int) (fun (t18 : Bool) =>
 ∃ J1 : Bool → Prop, ((((!t18) = true → J1 true) ∧
 ((!t18) = false → (0 ≤ i ∧ i < (l.length : Nat)) ∧
 M_smithyworld_Texts ((l.getD i.toNat (0, [], [], [])).2.2.1) (10 : Int) (250 : Int) (fun (t26 : Bool) =>
 J1 (!t26))))) ∧
 (∀ q1 : Bool, J1 q1 → (q1 = false → (0 ≤ i ∧ i < (l.length : Nat))) ∧
 (((q1 || (decide ((250 : Int) < (((l.getD i.toNat (0, [], [], [])).2.2.2).length : Int)))) = true → K false) ∧
 ((q1 || (decide ((250 : Int) < (((l.getD i.toNat (0, [], [], [])).2.2.2).length : Int)))) = false → (In .i64 (i + (1 : Int))) ∧
 kont1 (i + (1 : Int))))))) ∧
 (¬ (i < (l.length : Int)) → K true))) (0 : Int))))

set_option maxHeartbeats 8000000 in
theorem W_pgraph_Graph_Len {w : World} {g_g : Nat} {g_l : List (Int × List (List UInt8) × List (List UInt8) × List UInt8)} {A_g_l : Option Addr} {c_g_l : Nat} {hs_g_l : List (Int × Hdr × Hdr × List UInt8)} {g_g_makers : Nat} {g_makers : List (List UInt8 × Int)} {g_before : List (List Int)} {A_g_before : Option Addr} {c_g_before : Nat} {hs_g_before : List Hdr} {g_after : List (List Int)} {A_g_after : Option Addr} {c_g_after : Nat} {hs_g_after : List Hdr} {n_g_l : Nat} {n_g_before : Nat} {n_g_after : Nat} {K : Int → Prop} (hg_l : RdK 4 encH94 w A_g_l c_g_l hs_g_l) (hn_g_l : n_g_l = g_l.length) (hr_g_l : RelD de94 w hs_g_l g_l) (hg_makers : MapB vs okS vi w g_g_makers g_makers) (hg_before : Rd vh w A_g_before c_g_before hs_g_before) (hn_g_before : n_g_before = g_before.length) (hr_g_before : RelD de98 w hs_g_before g_before) (hg_after : Rd vh w A_g_after c_g_after hs_g_after) (hn_g_after : n_g_after = g_after.length) (hr_g_after : RelD de98 w hs_g_after g_after) (hg : Bl w g_g 169 [.slice A_g_l n_g_l c_g_l, .map (some g_g_makers), .slice A_g_before n_g_before c_g_before, .slice A_g_after n_g_after c_g_after]) (H : M_pgraph_Graph_Len g_l g_makers g_before g_after K) : Fn Tryz.prog 52 ⟨[.pointer (some ⟨g_g, 0, none⟩)]⟩ w (fun v w' => w = w' ∧ ∃ (r : Int), v = .int .i64 r ∧ K r) := by
  subst hn_g_l
  subst hn_g_before
  subst hn_g_after
  unfold M_pgraph_Graph_Len at H
  refine Fn.enter (by kernel_rfl) Tryz.func52 rfl Tryz.ntmps52 rfl ?_
  replace H := H (by rw [← hr_g_l.1]; exact Nat.le_trans hg_l.cap hg_l.max)
  replace H := H (by rw [← hr_g_before.1]; exact Nat.le_trans hg_before.cap hg_before.max)
  replace H := H (by rw [← hr_g_after.1]; exact Nat.le_trans hg_after.cap hg_after.max)
  refine WC.seq ?_
  refine WC.region ?_
  refine WL.y rfl (Yld.pure tab_ok rfl) ?_
  refine WL.nil (WX.then_normal ?_)
  refine WC.seq ?_
  refine WC.region ?_
  refine WL.y rfl (Yld.pure tab_ok rfl) ?_
  refine WL.y rfl (Yld.pure tab_ok rfl) ?_
  refine WL.y rfl (Yld.pure tab_ok rfl) ?_
  refine WL.y rfl (Yld.bload tab_ok hg rfl rfl rfl) ?_
  refine WL.y rfl (Yld.pure tab_ok rfl) ?_
  refine WL.y rfl (Yld.pure tab_ok rfl) ?_
  refine WL.nil (WX.then_normal ?_)
  refine WC.ret ?_
  exact WX.ret1 rfl rfl ⟨rfl, (g_l.length : Int), rfl, H⟩

set_option maxHeartbeats 8000000 in
theorem W_pgraph_Graph_Action {w : World} {g_g : Nat} {g_l : List (Int × List (List UInt8) × List (List UInt8) × List UInt8)} {A_g_l : Option Addr} {c_g_l : Nat} {hs_g_l : List (Int × Hdr × Hdr × List UInt8)} {g_g_makers : Nat} {g_makers : List (List UInt8 × Int)} {g_before : List (List Int)} {A_g_before : Option Addr} {c_g_before : Nat} {hs_g_before : List Hdr} {g_after : List (List Int)} {A_g_after : Option Addr} {c_g_after : Nat} {hs_g_after : List Hdr} {i : Int} {n_g_l : Nat} {n_g_before : Nat} {n_g_after : Nat} {K : Int → (List (List UInt8)) → (List (List UInt8)) → (List UInt8) → Bool → Prop} (hg_l : RdK 4 encH94 w A_g_l c_g_l hs_g_l) (hn_g_l : n_g_l = g_l.length) (hr_g_l : RelD de94 w hs_g_l g_l) (hg_makers : MapB vs okS vi w g_g_makers g_makers) (hg_before : Rd vh w A_g_before c_g_before hs_g_before) (hn_g_before : n_g_before = g_before.length) (hr_g_before : RelD de98 w hs_g_before g_before) (hg_after : Rd vh w A_g_after c_g_after hs_g_after) (hn_g_after : n_g_after = g_after.length) (hr_g_after : RelD de98 w hs_g_after g_after) (hg : Bl w g_g 169 [.slice A_g_l n_g_l c_g_l, .map (some g_g_makers), .slice A_g_before n_g_before c_g_before, .slice A_g_after n_g_after c_g_after]) (H : M_pgraph_Graph_Action g_l g_makers g_before g_after i K) : Fn Tryz.prog 47 ⟨[.pointer (some ⟨g_g, 0, none⟩), .int .i64 i]⟩ w (fun v w' => w.grownBy w' none ∧ ∃ (r0_Tool : Int), ∃ (r0_Args : List (List UInt8)), ∃ (A_r0_Args : Option Addr), ∃ (c_r0_Args : Nat), ∃ (r0_Inputs : List (List UInt8)), ∃ (A_r0_Inputs : Option Addr), ∃ (c_r0_Inputs : Nat), ∃ (r0_Output : List UInt8), ∃ (r1 : Bool), v = .tuple #[.agg ⟨[.int .i64 r0_Tool, .slice A_r0_Args r0_Args.length c_r0_Args, .slice A_r0_Inputs r0_Inputs.length c_r0_Inputs, vs r0_Output]⟩, .bool r1] ∧ Own vs w' w.heap.size 9 A_r0_Args c_r0_Args r0_Args ∧ Own vs w' w.heap.size 9 A_r0_Inputs c_r0_Inputs r0_Inputs ∧ Dj (blk A_r0_Args) (blk A_r0_Inputs) ∧ K r0_Tool r0_Args r0_Inputs r0_Output r1) := by
  subst hn_g_l
  subst hn_g_before
  subst hn_g_after
  unfold M_pgraph_Graph_Action at H
  refine Fn.enter (by kernel_rfl) Tryz.func47 rfl Tryz.ntmps47 rfl ?_
  replace H := H (by rw [← hr_g_l.1]; exact Nat.le_trans hg_l.cap hg_l.max)
  replace H := H (by rw [← hr_g_before.1]; exact Nat.le_trans hg_before.cap hg_before.max)
  replace H := H (by rw [← hr_g_after.1]; exact Nat.le_trans hg_after.cap hg_after.max)
  refine WC.seq ?_
  refine WC.region ?_
  refine WL.alloc rfl zero94 (fun g1 w1 hB1 hg1 hl1 => ?_)
  have gr1 := hg1
  refine WL.y rfl (Yld.pure tab_ok rfl) ?_
  refine WL.nil (WX.then_normal ?_)
  refine WC.seq ?_
  refine WC.seq ?_
  refine WC.region ?_
  refine WL.y rfl (Yld.pure tab_ok rfl) ?_
  refine WL.y rfl (Yld.pure tab_ok rfl) ?_
  refine WL.y rfl (Yld.pure tab_ok rfl) ?_
  refine WL.midF 8 (fun L' w' => ∃ q1 : Bool, L' = [(16, .bool q1), (0, .pointer (some ⟨g_g, 0, none⟩)), (1, .int .i64 i), (4, .pointer (some ⟨g1, 0, none⟩))] ∧ ((decide (i < (0 : Int))) || (decide ((g_l.length : Int) ≤ i))) = q1 ∧ w1 = w') ?_ (fun hQ => ?_)
  · rintro _ _ ⟨q1, rfl, rfl, rfl⟩
    refine WL.nil (WX.then_normal ?_)
    refine WC.cond rfl (fun b1 => ?_) (fun b1 => ?_)
    · replace H := H.1 (b1)
      refine WC.seq ?_
      refine WC.region ?_
      refine WL.y rfl (Yld.struct (us := [.int .i64 (0 : Int), .slice none 0 0, .slice none 0 0, vs ([] : List UInt8)]) zero94 places94 rfl rfl) ?_
      refine WL.storeW (vs := [.int .i64 (0 : Int), .slice none 0 0, .slice none 0 0, vs ([] : List UInt8)]) tab_ok rfl rfl rfl (all1c rfl (all1c rfl (all1c rfl (all1c rfl all1n)))) hB1 rfl rfl (fun w2 hB2 hg2 => ?_)
      have gr2 := gr_mod gr1 hg2 (Ge.le (Ge.box hl1) (Nat.le_refl _))
      refine WL.y rfl (Yld.pure tab_ok rfl) ?_
      refine WL.nil (WX.then_normal ?_)
      refine WC.ret (WX.then_ret ?_)
      exact WX.retct tab_ok rfl rfl rfl hB2 rfl rfl ⟨gr2, (0 : Int), [], none, 0, [], none, 0, ([] : List UInt8), false, rfl, (Own.nil vs w2 w.heap.size 9), (Own.nil vs w2 w.heap.size 9), Dj.nl, H⟩
    · replace H := H.2 (b1)
      refine WC.skip (WX.then_normal ?_)
      refine WC.seq ?_
      refine WC.region ?_
      refine WL.y rfl (Yld.pure tab_ok rfl) ?_
      refine WL.y rfl (Yld.pure tab_ok rfl) ?_
      refine WL.y rfl (Yld.pure tab_ok rfl) ?_
      refine WL.y rfl (Yld.bload tab_ok (hg.g0 gr1) rfl rfl rfl) ?_
      refine WL.y rfl (Yld.pure tab_ok rfl) ?_
      obtain ⟨h1, H⟩ := H
      refine WL.y rfl (Yld.iaddrK tab_ok (hg_l.grown gr1) rfl rfl hr_g_l.1.symm rfl h1.1 h1.2) ?_
      obtain ⟨⟨f1, ⟨A_el, n1, c_el⟩, ⟨A_el2, n2, c_el2⟩, f2⟩, eh1, ⟨en1, ⟨en2, hR1⟩, ⟨en3, hR2⟩, en4⟩⟩ := RelD.at hr_g_l (0, hd0, hd0, []) (0, [], [], []) (j := i.toNat) (Nat.lt_of_lt_of_eq (iltN h1 hr_g_l.1.symm) hr_g_l.1)
      have en1 : f1 = (g_l.getD i.toNat (0, [], [], [])).1 := en1
      subst en1
      have en2 : n1 = ((g_l.getD i.toNat (0, [], [], [])).2.1).length := en2
      subst en2
      have en3 : n2 = ((g_l.getD i.toNat (0, [], [], [])).2.2.1).length := en3
      subst en3
      have en4 : f2 = (g_l.getD i.toNat (0, [], [], [])).2.2.2 := en4
      subst en4
      refine WL.y rfl (Yld.to (v := .agg ⟨[.int .i64 ((g_l.getD i.toNat (0, [], [], [])).1), .slice A_el (((g_l.getD i.toNat (0, [], [], [])).2.1).length) c_el, .slice A_el2 (((g_l.getD i.toNat (0, [], [], [])).2.2.1).length) c_el2, vs ((g_l.getD i.toNat (0, [], [], [])).2.2.2)]⟩) (Yld.iloadK (0, hd0, hd0, []) tab_ok (hg_l.grown gr1) rfl rfl (iltN h1 hr_g_l.1.symm)) (by rw [eh1]; rfl)) ?_
      refine WL.call rfl rfl (W_graph_copied (hR1.grown gr1) rfl (hR2.grown gr1) rfl H) ?_
      rintro _ w3 ⟨hg3, t25_Tool, t25_Args, A_t25_Args, c_t25_Args, t25_Inputs, A_t25_Inputs, c_t25_Inputs, t25_Output, rfl, ht25_Args, ht25_Inputs, dj1, H⟩
      have hb1 := ht25_Args.ge'
      have k1 := ht25_Args.base (fun g hg => Nat.le_trans (size_le gr1) (hb1 g hg))
      have hb2 := ht25_Inputs.ge'
      have k2 := ht25_Inputs.base (fun g hg => Nat.le_trans (size_le gr1) (hb2 g hg))
      have gr3 := gr_trans gr1 hg3
      have k3 := hB1.g0 hg3
      refine WL.storeW (vs := [.int .i64 t25_Tool, .slice A_t25_Args t25_Args.length c_t25_Args, .slice A_t25_Inputs t25_Inputs.length c_t25_Inputs, vs t25_Output]) tab_ok rfl rfl rfl (all1c rfl (all1c rfl (all1c rfl (all1c rfl all1n)))) k3 rfl rfl (fun w4 hB3 hg4 => ?_)
      have gr4 := gr_mod gr3 hg4 (Ge.le (Ge.box hl1) (Nat.le_refl _))
      have k4 := k1.go hg4 ((Dj.new hB1.lt' hb1).symm)
      have k5 := k2.go hg4 ((Dj.new hB1.lt' hb2).symm)
      refine WL.y rfl (Yld.pure tab_ok rfl) ?_
      refine WL.nil (WX.then_normal ?_)
      refine WC.ret ?_
      exact WX.retct tab_ok rfl rfl rfl hB3 rfl rfl ⟨gr4, t25_Tool, t25_Args, A_t25_Args, c_t25_Args, t25_Inputs, A_t25_Inputs, c_t25_Inputs, t25_Output, true, rfl, k4, k5, dj1, H⟩
  · clear H
    rcases Bool.eq_false_or_eq_true (decide (i < (0 : Int))) with b2 | b2
    · refine WL.gno rfl rfl (okb b2) rfl ?_
      refine WL.gno rfl rfl (okb b2) rfl ?_
      refine WL.gno rfl rfl (okb b2) rfl ?_
      refine WL.gno rfl rfl (okb b2) rfl ?_
      refine WL.gno rfl rfl (okb b2) rfl ?_
      refine WL.gno rfl rfl (okb b2) rfl ?_
      refine WL.gno rfl rfl (okb b2) rfl ?_
      refine WL.y rfl (Yld.pickT (okb b2) rfl) ?_
      exact WL.weaken (by repeat (first | exact Sub.nil | refine Sub.cons rfl ?_)) (hQ _ _ ⟨true, rfl, by rw [b2] <;> rfl, rfl⟩)
    · refine WL.gyes rfl rfl (okb b2) rfl (Yld.pure tab_ok rfl) ?_
      refine WL.gyes rfl rfl (okb b2) rfl (Yld.pure tab_ok rfl) ?_
      refine WL.gyes rfl rfl (okb b2) rfl (Yld.pure tab_ok rfl) ?_
      refine WL.gyes rfl rfl (okb b2) rfl (Yld.pure tab_ok rfl) ?_
      refine WL.gyes rfl rfl (okb b2) rfl (Yld.bload tab_ok (hg.g0 gr1) rfl rfl rfl) ?_
      refine WL.gyes rfl rfl (okb b2) rfl (Yld.pure tab_ok rfl) ?_
      refine WL.gyes rfl rfl (okb b2) rfl (Yld.pure tab_ok rfl) ?_
      refine WL.y rfl (Yld.pickF (okb b2) rfl) ?_
      exact WL.weaken (by repeat (first | exact Sub.nil | refine Sub.cons rfl ?_)) (hQ _ _ ⟨decide ((g_l.length : Int) ≤ i), rfl, by rw [b2] <;> rfl, rfl⟩)

set_option maxHeartbeats 8000000 in
theorem W_pgraph_Graph_Maker {w : World} {g_g : Nat} {g_l : List (Int × List (List UInt8) × List (List UInt8) × List UInt8)} {A_g_l : Option Addr} {c_g_l : Nat} {hs_g_l : List (Int × Hdr × Hdr × List UInt8)} {g_g_makers : Nat} {g_makers : List (List UInt8 × Int)} {g_before : List (List Int)} {A_g_before : Option Addr} {c_g_before : Nat} {hs_g_before : List Hdr} {g_after : List (List Int)} {A_g_after : Option Addr} {c_g_after : Nat} {hs_g_after : List Hdr} {p : List UInt8} {n_g_l : Nat} {n_g_before : Nat} {n_g_after : Nat} {K : Int → Prop} (hg_l : RdK 4 encH94 w A_g_l c_g_l hs_g_l) (hn_g_l : n_g_l = g_l.length) (hr_g_l : RelD de94 w hs_g_l g_l) (hg_makers : MapB vs okS vi w g_g_makers g_makers) (hg_before : Rd vh w A_g_before c_g_before hs_g_before) (hn_g_before : n_g_before = g_before.length) (hr_g_before : RelD de98 w hs_g_before g_before) (hg_after : Rd vh w A_g_after c_g_after hs_g_after) (hn_g_after : n_g_after = g_after.length) (hr_g_after : RelD de98 w hs_g_after g_after) (hg : Bl w g_g 169 [.slice A_g_l n_g_l c_g_l, .map (some g_g_makers), .slice A_g_before n_g_before c_g_before, .slice A_g_after n_g_after c_g_after]) (H : M_pgraph_Graph_Maker g_l g_makers g_before g_after p K) : Fn Tryz.prog 53 ⟨[.pointer (some ⟨g_g, 0, none⟩), vs p]⟩ w (fun v w' => w = w' ∧ ∃ (r : Int), v = .int .i64 r ∧ K r) := by
  subst hn_g_l
  subst hn_g_before
  subst hn_g_after
  unfold M_pgraph_Graph_Maker at H
  refine Fn.enter (by kernel_rfl) Tryz.func53 rfl Tryz.ntmps53 rfl ?_
  replace H := H (by rw [← hr_g_l.1]; exact Nat.le_trans hg_l.cap hg_l.max)
  replace H := H (by rw [← hr_g_before.1]; exact Nat.le_trans hg_before.cap hg_before.max)
  replace H := H (by rw [← hr_g_after.1]; exact Nat.le_trans hg_after.cap hg_after.max)
  refine WC.seq ?_
  refine WC.region ?_
  refine WL.y rfl (Yld.pure tab_ok rfl) ?_
  refine WL.nil (WX.then_normal ?_)
  refine WC.seq ?_
  refine WC.seq ?_
  refine WC.region ?_
  refine WL.y rfl (Yld.pure tab_ok rfl) ?_
  refine WL.y rfl (Yld.pure tab_ok rfl) ?_
  refine WL.y rfl (Yld.pure tab_ok rfl) ?_
  refine WL.y rfl (Yld.bload tab_ok hg rfl rfl rfl) ?_
  refine WL.y rfl (Yld.pure tab_ok rfl) ?_
  obtain ⟨h1, H⟩ := H
  refine WL.y rfl (Yld.lookOk (z := 0) (keyF_s Tryz.underlying9) Tryz.underlying166 (fun _ => by kernel_rfl) hg_makers rfl rfl h1) ?_
  refine WL.y rfl (Yld.pure tab_ok rfl) ?_
  refine WL.y rfl (Yld.pure tab_ok rfl) ?_
  refine WL.y rfl (Yld.pure tab_ok rfl) ?_
  refine WL.y rfl (Yld.pure tab_ok rfl) ?_
  refine WL.y rfl (Yld.pure tab_ok rfl) ?_
  refine WL.nil (WX.then_normal ?_)
  refine WC.seq ?_
  refine WC.region ?_
  refine WL.y rfl (Yld.pure tab_ok rfl) ?_
  refine WL.nil (WX.then_normal ?_)
  refine WC.cond rfl (fun b1 => ?_) (fun b1 => ?_)
  · replace H := H.1 (b1)
    refine WC.seq ?_
    refine WC.region ?_
    refine WL.y rfl (Yld.pure tab_ok rfl) ?_
    refine WL.y rfl (Yld.pure tab_ok rfl) ?_
    refine WL.nil (WX.then_normal ?_)
    refine WC.ret (WX.then_ret ?_)
    exact WX.ret1 rfl rfl ⟨rfl, (mget g_makers p).getD 0, rfl, H⟩
  · replace H := H.2 (b1)
    refine WC.skip (WX.then_normal ?_)
    refine WC.seq ?_
    refine WC.region ?_
    refine WL.y rfl (Yld.pure tab_ok rfl) ?_
    refine WL.nil (WX.then_normal ?_)
    refine WC.ret ?_
    exact WX.ret1 rfl rfl ⟨rfl, (-1 : Int), rfl, H⟩

set_option maxHeartbeats 8000000 in
theorem W_pgraph_Graph_Before {w : World} {g_g : Nat} {g_l : List (Int × List (List UInt8) × List (List UInt8) × List UInt8)} {A_g_l : Option Addr} {c_g_l : Nat} {hs_g_l : List (Int × Hdr × Hdr × List UInt8)} {g_g_makers : Nat} {g_makers : List (List UInt8 × Int)} {g_before : List (List Int)} {A_g_before : Option Addr} {c_g_before : Nat} {hs_g_before : List Hdr} {g_after : List (List Int)} {A_g_after : Option Addr} {c_g_after : Nat} {hs_g_after : List Hdr} {i : Int} {n_g_l : Nat} {n_g_before : Nat} {n_g_after : Nat} {K : (List Int) → Prop} (hg_l : RdK 4 encH94 w A_g_l c_g_l hs_g_l) (hn_g_l : n_g_l = g_l.length) (hr_g_l : RelD de94 w hs_g_l g_l) (hg_makers : MapB vs okS vi w g_g_makers g_makers) (hg_before : Rd vh w A_g_before c_g_before hs_g_before) (hn_g_before : n_g_before = g_before.length) (hr_g_before : RelD de98 w hs_g_before g_before) (hg_after : Rd vh w A_g_after c_g_after hs_g_after) (hn_g_after : n_g_after = g_after.length) (hr_g_after : RelD de98 w hs_g_after g_after) (hg : Bl w g_g 169 [.slice A_g_l n_g_l c_g_l, .map (some g_g_makers), .slice A_g_before n_g_before c_g_before, .slice A_g_after n_g_after c_g_after]) (H : M_pgraph_Graph_Before g_l g_makers g_before g_after i K) : Fn Tryz.prog 55 ⟨[.pointer (some ⟨g_g, 0, none⟩), .int .i64 i]⟩ w (fun v w' => w.grownBy w' none ∧ ∃ (r : List Int), ∃ (A_r : Option Addr), ∃ (c_r : Nat), v = .slice A_r r.length c_r ∧ Own vi w' w.heap.size 3 A_r c_r r ∧ K r) := by
  subst hn_g_l
  subst hn_g_before
  subst hn_g_after
  unfold M_pgraph_Graph_Before at H
  refine Fn.enter (by kernel_rfl) Tryz.func55 rfl Tryz.ntmps55 rfl ?_
  replace H := H (by rw [← hr_g_l.1]; exact Nat.le_trans hg_l.cap hg_l.max)
  replace H := H (by rw [← hr_g_before.1]; exact Nat.le_trans hg_before.cap hg_before.max)
  replace H := H (by rw [← hr_g_after.1]; exact Nat.le_trans hg_after.cap hg_after.max)
  refine WC.seq ?_
  refine WC.region ?_
  refine WL.y rfl (Yld.pure tab_ok rfl) ?_
  refine WL.nil (WX.then_normal ?_)
  refine WC.seq ?_
  refine WC.seq ?_
  refine WC.region ?_
  refine WL.y rfl (Yld.pure tab_ok rfl) ?_
  refine WL.y rfl (Yld.pure tab_ok rfl) ?_
  refine WL.y rfl (Yld.pure tab_ok rfl) ?_
  refine WL.midF 8 (fun L' w' => ∃ q1 : Bool, L' = [(15, .bool q1), (0, .pointer (some ⟨g_g, 0, none⟩)), (1, .int .i64 i)] ∧ ((decide (i < (0 : Int))) || (decide ((g_l.length : Int) ≤ i))) = q1 ∧ w = w') ?_ (fun hQ => ?_)
  · rintro _ _ ⟨q1, rfl, rfl, rfl⟩
    refine WL.nil (WX.then_normal ?_)
    refine WC.cond rfl (fun b1 => ?_) (fun b1 => ?_)
    · replace H := H.1 (b1)
      refine WC.seq ?_
      refine WC.region ?_
      refine WL.y rfl (Yld.pure tab_ok rfl) ?_
      refine WL.nil (WX.then_normal ?_)
      refine WC.ret (WX.then_ret ?_)
      exact WX.ret1 rfl rfl ⟨(gr_refl _ _), [], none, 0, rfl, (Own.nil vi w w.heap.size 3), H⟩
    · replace H := H.2 (b1)
      refine WC.skip (WX.then_normal ?_)
      refine WC.seq ?_
      refine WC.region ?_
      refine WL.y rfl (Yld.pure tab_ok rfl) ?_
      refine WL.y rfl (Yld.pure tab_ok rfl) ?_
      refine WL.y rfl (Yld.pure tab_ok rfl) ?_
      refine WL.y rfl (Yld.bload tab_ok hg rfl rfl rfl) ?_
      refine WL.y rfl (Yld.pure tab_ok rfl) ?_
      obtain ⟨h1, H⟩ := H
      refine WL.y rfl (Yld.iaddrW tab_ok hg_before rfl rfl hr_g_before.1.symm rfl h1.1 h1.2) ?_
      obtain ⟨⟨A_el, n1, c_el⟩, eh1, ⟨en1, hR1⟩⟩ := RelD.at hr_g_before hd0 [] (j := i.toNat) (Nat.lt_of_lt_of_eq (iltN h1 hr_g_before.1.symm) hr_g_before.1)
      have en1 : n1 = (g_before.getD i.toNat []).length := en1
      subst en1
      refine WL.y rfl (Yld.to (v := .slice A_el ((g_before.getD i.toNat []).length) c_el) (Yld.iload hd0 tab_ok hg_before rfl rfl (iltN h1 hr_g_before.1.symm)) (by rw [eh1]; rfl)) ?_
      refine WL.call rfl rfl (W_slices_Clone_int_int hR1 rfl H) ?_
      rintro _ w1 ⟨hg1, t4, A_t4, c_t4, rfl, ht4, H⟩
      have hb1 := ht4.ge'
      have k1 := ht4.base (fun g hg => Nat.le_trans (Nat.le_refl _) (hb1 g hg))
      have gr1 := hg1
      refine WL.y rfl (Yld.pure tab_ok rfl) ?_
      refine WL.nil (WX.then_normal ?_)
      refine WC.ret ?_
      exact WX.ret1 rfl rfl ⟨gr1, t4, A_t4, c_t4, rfl, k1, H⟩
  · clear H
    rcases Bool.eq_false_or_eq_true (decide (i < (0 : Int))) with b2 | b2
    · refine WL.gno rfl rfl (okb b2) rfl ?_
      refine WL.gno rfl rfl (okb b2) rfl ?_
      refine WL.gno rfl rfl (okb b2) rfl ?_
      refine WL.gno rfl rfl (okb b2) rfl ?_
      refine WL.gno rfl rfl (okb b2) rfl ?_
      refine WL.gno rfl rfl (okb b2) rfl ?_
      refine WL.gno rfl rfl (okb b2) rfl ?_
      refine WL.y rfl (Yld.pickT (okb b2) rfl) ?_
      exact WL.weaken (by repeat (first | exact Sub.nil | refine Sub.cons rfl ?_)) (hQ _ _ ⟨true, rfl, by rw [b2] <;> rfl, rfl⟩)
    · refine WL.gyes rfl rfl (okb b2) rfl (Yld.pure tab_ok rfl) ?_
      refine WL.gyes rfl rfl (okb b2) rfl (Yld.pure tab_ok rfl) ?_
      refine WL.gyes rfl rfl (okb b2) rfl (Yld.pure tab_ok rfl) ?_
      refine WL.gyes rfl rfl (okb b2) rfl (Yld.pure tab_ok rfl) ?_
      refine WL.gyes rfl rfl (okb b2) rfl (Yld.bload tab_ok hg rfl rfl rfl) ?_
      refine WL.gyes rfl rfl (okb b2) rfl (Yld.pure tab_ok rfl) ?_
      refine WL.gyes rfl rfl (okb b2) rfl (Yld.pure tab_ok rfl) ?_
      refine WL.y rfl (Yld.pickF (okb b2) rfl) ?_
      exact WL.weaken (by repeat (first | exact Sub.nil | refine Sub.cons rfl ?_)) (hQ _ _ ⟨decide ((g_l.length : Int) ≤ i), rfl, by rw [b2] <;> rfl, rfl⟩)

set_option maxHeartbeats 8000000 in
theorem W_graph_Only {S : List Nat} {w : World} {l : List (Int × List (List UInt8) × List (List UInt8) × List UInt8)} {A_l : Option Addr} {c_l : Nat} {hs_l : List (Int × Hdr × Hdr × List UInt8)} {outputs : List (List UInt8)} {A_outputs : Option Addr} {c_outputs : Nat} {n_l : Nat} {n_outputs : Nat} {K : (List (Int × List (List UInt8) × List (List UInt8) × List UInt8)) → Prop} (hG : GOK S w) (hS4 : 4 ∈ S) (hS6 : 6 ∈ S) (hS9 : 9 ∈ S) (hS10 : 10 ∈ S) (hS11 : 11 ∈ S) (hS100 : 100 ∈ S) (hl : RdK 4 encH94 w A_l c_l hs_l) (hn_l : n_l = l.length) (hr_l : RelD de94 w hs_l l) (houtputs : Rd vs w A_outputs c_outputs outputs) (hn_outputs : n_outputs = outputs.length) (H : M_graph_Only l outputs K) : Fn Tryz.prog 45 ⟨[.slice A_l n_l c_l, .slice A_outputs n_outputs c_outputs]⟩ w (fun v w' => w.grownBy w' none ∧ ∃ (r : List (Int × List (List UInt8) × List (List UInt8) × List UInt8)), ∃ (A_r : Option Addr), ∃ (c_r : Nat), ∃ (hs_r : List (Int × Hdr × Hdr × List UInt8)), v = .slice A_r r.length c_r ∧ OwnK 4 encH94 w' w.heap.size 94 A_r c_r hs_r ∧ RelD de94 w' hs_r r ∧ K r) := by
  subst hn_l
  subst hn_outputs
  unfold M_graph_Only at H
  refine Fn.enter (by kernel_rfl) Tryz.func45 rfl Tryz.ntmps45 rfl ?_
  replace H := H (by rw [← hr_l.1]; exact Nat.le_trans hl.cap hl.max)
  replace H := H (Nat.le_trans houtputs.cap houtputs.max)
  refine WC.seq ?_
  refine WC.region ?_
  refine WL.y rfl (Yld.pure tab_ok rfl) ?_
  refine WL.nil (WX.then_normal ?_)
  refine WC.seq ?_
  refine WC.region ?_
  refine WL.y rfl (Yld.pure tab_ok rfl) ?_
  refine WL.call rfl rfl (W_graph_New hG hS4 hS6 hS9 hS10 hS11 hS100 hl rfl hr_l H) ?_
  rintro v_ w1 ⟨hg_, hc_ | hc_⟩
  · obtain ⟨v_t121, t121, rfl, ht121, H⟩ := hc_
    have hg1 := hg_
    have gr1 := hg1
    refine WL.y rfl (Yld.pure tab_ok rfl) ?_
    refine WL.y rfl (Yld.pure tab_ok rfl) ?_
    refine WL.y rfl (Yld.pure tab_ok rfl) ?_
    refine WL.y rfl (Yld.pure tab_ok rfl) ?_
    refine WL.y rfl (Yld.pure tab_ok rfl) ?_
    refine WL.nil (WX.then_normal ?_)
    refine WC.seq ?_
    refine WC.seq ?_
    refine WC.region ?_
    refine WL.y rfl (Yld.pure tab_ok rfl) ?_
    refine WL.y rfl (Yld.errneq Tryz.underlying26 ht121 rfl) ?_
    refine WL.nil (WX.then_normal ?_)
    refine WC.cond rfl (fun b1 => ?_) (fun b1 => ?_)
    · replace H := H.1 (nd_true b1)
      refine WC.seq ?_
      refine WC.region ?_
      refine WL.y rfl (Yld.pure tab_ok rfl) ?_
      refine WL.nil (WX.then_normal ?_)
      refine WC.ret (WX.then_ret ?_)
      exact WX.ret1 rfl rfl ⟨gr1, [], none, 0, [], rfl, (OwnK.nil encH94_ok w1 w.heap.size 94), (RelD.nil (d := de94) (w := w1)), H⟩
    · replace H := H.2 (nd_false b1)
      refine WC.skip (WX.then_normal ?_)
      refine WC.seq ?_
      refine WC.region ?_
      refine WL.y rfl (Yld.pure tab_ok rfl) ?_
      refine WL.nil (WX.then_normal ?_)
      refine WC.seq ?_
      refine WC.seq ?_
      refine WC.region ?_
      refine WL.y rfl (Yld.pure tab_ok rfl) ?_
      refine WL.y rfl (Yld.pure tab_ok rfl) ?_
      exact False.elim H
  · obtain ⟨g_t120, t120_l, A_t120_l, c_t120_l, hs_t120_l, g_t120_makers, t120_makers, t120_before, A_t120_before, c_t120_before, hs_t120_before, t120_after, A_t120_after, c_t120_after, hs_t120_after, v_t1212, t1212, rfl, ht120_l, hr_t120_l, ht120_before, hr_t120_before, ht120_after, hr_t120_after, ht1212, ht120_makers, hge1, ht120, hge2, dj1, dj2, dj3, dj4, dj5, dj6, dj7, dj8, dj9, dj10, dj11, dj12, dj13, dj14, dj15, dj16, dj17, dj18, dj19, dj20, dj21, dj22, dj23, dj24, dj25, H⟩ := hc_
    have hg2 := hg_
    have hb1 := ht120_l.ge'
    have k1 := ht120_l.base (fun g hg => Nat.le_trans (Nat.le_refl _) (hb1 g hg))
    have hb2 := ht120_before.ge'
    have k2 := ht120_before.base (fun g hg => Nat.le_trans (Nat.le_refl _) (hb2 g hg))
    have hb3 := ht120_after.ge'
    have k3 := ht120_after.base (fun g hg => Nat.le_trans (Nat.le_refl _) (hb3 g hg))
    have gr2 := hg2
    refine WL.y rfl (Yld.pure tab_ok rfl) ?_
    refine WL.y rfl (Yld.pure tab_ok rfl) ?_
    refine WL.y rfl (Yld.pure tab_ok rfl) ?_
    refine WL.y rfl (Yld.pure tab_ok rfl) ?_
    refine WL.y rfl (Yld.pure tab_ok rfl) ?_
    refine WL.nil (WX.then_normal ?_)
    refine WC.seq ?_
    refine WC.seq ?_
    refine WC.region ?_
    refine WL.y rfl (Yld.pure tab_ok rfl) ?_
    refine WL.y rfl (Yld.errneq Tryz.underlying26 ht1212 rfl) ?_
    refine WL.nil (WX.then_normal ?_)
    refine WC.cond rfl (fun b2 => ?_) (fun b2 => ?_)
    · replace H := H.1 (nd_true b2)
      refine WC.seq ?_
      refine WC.region ?_
      refine WL.y rfl (Yld.pure tab_ok rfl) ?_
      refine WL.nil (WX.then_normal ?_)
      refine WC.ret (WX.then_ret ?_)
      exact WX.ret1 rfl rfl ⟨gr2, [], none, 0, [], rfl, (OwnK.nil encH94_ok w1 w.heap.size 94), (RelD.nil (d := de94) (w := w1)), H⟩
    · replace H := H.2 (nd_false b2)
      refine WC.skip (WX.then_normal ?_)
      refine WC.seq ?_
      refine WC.region ?_
      refine WL.y rfl (Yld.pure tab_ok rfl) ?_
      refine WL.nil (WX.then_normal ?_)
      refine WC.seq ?_
      refine WC.seq ?_
      refine WC.region ?_
      refine WL.y rfl (Yld.pure tab_ok rfl) ?_
      refine WL.y rfl (Yld.pure tab_ok rfl) ?_
      refine WL.call rfl rfl (W_pgraph_Graph_Needs k1.rd rfl hr_t120_l ht120_makers k2.rd rfl hr_t120_before k3.rd rfl hr_t120_after ht120 (houtputs.grown gr2) rfl H) ?_
      rintro _ w4 ⟨hg3, t19, A_t19, c_t19, rfl, ht19, H⟩
      have hb4 := ht19.ge'
      have k4 := ht19.base (fun g hg => Nat.le_trans (size_le gr2) (hb4 g hg))
      have gr3 := gr_trans gr2 hg3
      have k5 := k1.grown hg3
      have k6 := hr_t120_l.grown hg3
      have k7 := k2.grown hg3
      have k8 := hr_t120_before.grown hg3
      have k9 := k3.grown hg3
      have k10 := hr_t120_after.grown hg3
      have k11 := ht120_makers.g0 hg3
      have k12 := ht120.g0 hg3
      refine WL.y rfl (Yld.pure tab_ok rfl) ?_
      refine WL.y rfl (Yld.pure tab_ok rfl) ?_
      refine WL.nil (WX.then_normal ?_)
      refine WC.block ?_
      obtain ⟨I1, mu1, h0_1, HR1⟩ := H
      refine WC.loopF (fun n' L' w' => ∃ (out : List (Int × List (List UInt8) × List (List UInt8) × List UInt8)), ∃ (A_out : Option Addr), ∃ (c_out : Nat), ∃ (n_out : Nat), ∃ (hs_out : List (Int × Hdr × Hdr × List UInt8)), ∃ (t21 : Int), n' = mu1 out t21 ∧ L' = [(5, .pointer (some ⟨g_t120, 0, none⟩)), (7, .slice A_out n_out c_out), (19, .slice A_t19 t19.length c_t19), (20, .int .i64 (t19.length : Int)), (21, .int .i64 t21)] ∧ I1 out t21 ∧ n_out = out.length ∧ w.grownBy w' none ∧ OwnK 4 encH94 w' w.heap.size 94 A_t120_l c_t120_l hs_t120_l ∧ RelD de94 w' hs_t120_l t120_l ∧ Own vh w' w.heap.size 98 A_t120_before c_t120_before hs_t120_before ∧ RelD de98 w' hs_t120_before t120_before ∧ Own vh w' w.heap.size 98 A_t120_after c_t120_after hs_t120_after ∧ RelD de98 w' hs_t120_after t120_after ∧ MapB vs okS vi w' g_t120_makers t120_makers ∧ Bl w' g_t120 169 [.slice A_t120_l t120_l.length c_t120_l, .map (some g_t120_makers), .slice A_t120_before t120_before.length c_t120_before, .slice A_t120_after t120_after.length c_t120_after] ∧ Own vi w' w.heap.size 3 A_t19 c_t19 t19 ∧ OwnK 4 encH94 w' w.heap.size 94 A_out c_out hs_out ∧ RelD de94 w' hs_out out ∧ Dj (blk A_t120_l) (blk A_t120_before) ∧ Dj (blk A_t120_l) (blk A_t120_after) ∧ Dj (blk A_t120_l) (some g_t120_makers) ∧ Dj (blk A_t120_l) (some g_t120) ∧ Dj (blk A_t120_l) (blk A_t19) ∧ Dj (blk A_t120_l) (blk A_out) ∧ DnD de94 hs_t120_l t120_l (blk A_t120_l) ∧ DnD de94 hs_t120_l t120_l (blk A_t120_before) ∧ DnD de94 hs_t120_l t120_l (blk A_t120_after) ∧ DnD de94 hs_t120_l t120_l (some g_t120_makers) ∧ DnD de94 hs_t120_l t120_l (some g_t120) ∧ DnD de94 hs_t120_l t120_l (blk A_t19) ∧ DnD de94 hs_t120_l t120_l (blk A_out) ∧ Dj (blk A_t120_before) (blk A_t120_after) ∧ Dj (blk A_t120_before) (some g_t120) ∧ Dj (blk A_t120_before) (blk A_t19) ∧ Dj (blk A_t120_before) (blk A_out) ∧ DnD de98 hs_t120_before t120_before (blk A_t120_l) ∧ DnD de98 hs_t120_before t120_before (blk A_t120_before) ∧ DnD de98 hs_t120_before t120_before (blk A_t120_after) ∧ DnD de98 hs_t120_before t120_before (some g_t120_makers) ∧ DnD de98 hs_t120_before t120_before (some g_t120) ∧ DnD de98 hs_t120_before t120_before (blk A_t19) ∧ DnD de98 hs_t120_before t120_before (blk A_out) ∧ Dj (blk A_t120_after) (some g_t120) ∧ Dj (blk A_t120_after) (blk A_t19) ∧ Dj (blk A_t120_after) (blk A_out) ∧ DnD de98 hs_t120_after t120_after (blk A_t120_l) ∧ DnD de98 hs_t120_after t120_after (blk A_t120_before) ∧ DnD de98 hs_t120_after t120_after (blk A_t120_after) ∧ DnD de98 hs_t120_after t120_after (some g_t120_makers) ∧ DnD de98 hs_t120_after t120_after (some g_t120) ∧ DnD de98 hs_t120_after t120_after (blk A_t19) ∧ DnD de98 hs_t120_after t120_after (blk A_out) ∧ Dj (some g_t120_makers) (blk A_t120_before) ∧ Dj (some g_t120_makers) (blk A_t120_after) ∧ Dj (some g_t120_makers) (some g_t120) ∧ Dj (some g_t120_makers) (blk A_t19) ∧ Dj (some g_t120_makers) (blk A_out) ∧ Dj (some g_t120) (blk A_t19) ∧ Dj (some g_t120) (blk A_out) ∧ Dj (blk A_t19) (blk A_out) ∧ DnD de94 hs_out out (blk A_t120_l) ∧ DnD de94 hs_out out (blk A_t120_before) ∧ DnD de94 hs_out out (blk A_t120_after) ∧ DnD de94 hs_out out (some g_t120_makers) ∧ DnD de94 hs_out out (some g_t120) ∧ DnD de94 hs_out out (blk A_t19) ∧ DnD de94 hs_out out (blk A_out) ∧ NewD de94 hs_out out w.heap.size) _ _ ⟨[], none, 0, 0, [], (0 : Int), rfl, rfl, h0_1, rfl, gr3, k5, k6, k7, k8, k9, k10, k11, k12, k4, (OwnK.nil encH94_ok w4 w.heap.size 94), (RelD.nil (d := de94) (w := w4)), dj16, dj17, dj18, dj19, (Dj.new k1.lt' hb4), Dj.nr, dj1, dj2, dj3, dj4, dj5, (hr_t120_l.new hb4), (DnD.none k6), dj20, dj22, (Dj.new k2.lt' hb4), Dj.nr, dj6, dj7, dj8, dj9, dj10, (hr_t120_before.new hb4), (DnD.none k8), dj24, (Dj.new k3.lt' hb4), Dj.nr, dj11, dj12, dj13, dj14, dj15, (hr_t120_after.new hb4), (DnD.none k10), dj21.symm, dj23.symm, dj25, (Dj.new ht120_makers.lt' hb4), Dj.nr, (Dj.new ht120.lt' hb4), Dj.nr, Dj.nr, DnD.nil, DnD.nil, DnD.nil, DnD.nil, DnD.nil, DnD.nil, DnD.nil, (NewD.nil (d := de94))⟩ (by repeat (first | exact Sub.nil | refine Sub.cons rfl ?_)) ?_
      clear h0_1
      rintro _ _ w5 ⟨out, A_out, c_out, n_out, hs_out, t21, rfl, rfl, hI1, rfl, gr4, k13, k14, k15, k16, k17, k18, k19, k20, k21, k22, k23, dj26, dj27, dj28, dj29, dj30, dj31, dj32, dj33, dj34, dj35, dj36, dj37, dj38, dj39, dj40, dj41, dj42, dj43, dj44, dj45, dj46, dj47, dj48, dj49, dj50, dj51, dj52, dj53, dj54, dj55, dj56, dj57, dj58, dj59, dj60, dj61, dj62, dj63, dj64, dj65, dj66, dj67, dj68, dj69, dj70, dj71, dj72, dj73, dj74, or1⟩
      have H := HR1 out t21 hI1
      refine WC.seq ?_
      refine WC.region ?_
      refine WL.y rfl (Yld.pure tab_ok rfl) ?_
      refine WL.nil (WX.then_normal ?_)
      refine WC.seq ?_
      refine WC.cond rfl (fun b3 => ?_) (fun b3 => ?_)
      · replace H := H.1 (of_decide_eq_true b3)
        refine WC.skip (WX.then_normal ?_)
        refine WC.seq ?_
        refine WC.block ?_
        refine WC.seq ?_
        refine WC.region ?_
        obtain ⟨h1, H⟩ := H
        refine WL.y rfl (Yld.iaddrW tab_ok k21.rd rfl rfl rfl rfl h1.1 h1.2) ?_
        refine WL.y rfl (Yld.iload 0 tab_ok k21.rd rfl rfl (iltN h1 rfl)) ?_
        refine WL.y rfl (Yld.pure tab_ok rfl) ?_
        refine WL.nil (WX.then_normal ?_)
        refine WC.region ?_
        refine WL.y rfl (Yld.pure tab_ok rfl) ?_
        refine WL.y rfl (Yld.pure tab_ok rfl) ?_
        refine WL.y rfl (Yld.pure tab_ok rfl) ?_
        refine WL.y rfl (Yld.pure tab_ok rfl) ?_
        refine WL.y rfl (Yld.bload tab_ok k20 rfl rfl rfl) ?_
        refine WL.y rfl (Yld.pure tab_ok rfl) ?_
        obtain ⟨h2, H⟩ := H
        refine WL.y rfl (Yld.iaddrK tab_ok k13.rd rfl rfl hr_t120_l.1.symm rfl h2.1 h2.2) ?_
        obtain ⟨⟨f1, ⟨A_el, n1, c_el⟩, ⟨A_el2, n2, c_el2⟩, f2⟩, eh1, ⟨en1, ⟨en2, hR1⟩, ⟨en3, hR2⟩, en4⟩⟩ := RelD.at k14 (0, hd0, hd0, []) (0, [], [], []) (j := (t19.getD t21.toNat 0).toNat) (Nat.lt_of_lt_of_eq (iltN h2 hr_t120_l.1.symm) k14.1)
        have en1 : f1 = (t120_l.getD ((t19.getD t21.toNat 0).toNat) (0, [], [], [])).1 := en1
        subst en1
        have en2 : n1 = ((t120_l.getD ((t19.getD t21.toNat 0).toNat) (0, [], [], [])).2.1).length := en2
        subst en2
        have en3 : n2 = ((t120_l.getD ((t19.getD t21.toNat 0).toNat) (0, [], [], [])).2.2.1).length := en3
        subst en3
        have en4 : f2 = (t120_l.getD ((t19.getD t21.toNat 0).toNat) (0, [], [], [])).2.2.2 := en4
        subst en4
        refine WL.y rfl (Yld.to (v := .agg ⟨[.int .i64 ((t120_l.getD ((t19.getD t21.toNat 0).toNat) (0, [], [], [])).1), .slice A_el (((t120_l.getD ((t19.getD t21.toNat 0).toNat) (0, [], [], [])).2.1).length) c_el, .slice A_el2 (((t120_l.getD ((t19.getD t21.toNat 0).toNat) (0, [], [], [])).2.2.1).length) c_el2, vs ((t120_l.getD ((t19.getD t21.toNat 0).toNat) (0, [], [], [])).2.2.2)]⟩) (Yld.iloadK (0, hd0, hd0, []) tab_ok k13.rd rfl rfl (iltN h2 hr_t120_l.1.symm)) (by rw [eh1]; rfl)) ?_
        refine WL.call rfl rfl (W_graph_copied hR1 rfl hR2 rfl H) ?_
        rintro _ w6 ⟨hg4, t33_Tool, t33_Args, A_t33_Args, c_t33_Args, t33_Inputs, A_t33_Inputs, c_t33_Inputs, t33_Output, rfl, ht33_Args, ht33_Inputs, dj75, H⟩
        have hb5 := ht33_Args.ge'
        have k24 := ht33_Args.base (fun g hg => Nat.le_trans (size_le gr4) (hb5 g hg))
        have hb6 := ht33_Inputs.ge'
        have k25 := ht33_Inputs.base (fun g hg => Nat.le_trans (size_le gr4) (hb6 g hg))
        have gr5 := gr_trans gr4 hg4
        have k26 := k13.grown hg4
        have k27 := k14.grown hg4
        have k28 := k15.grown hg4
        have k29 := k16.grown hg4
        have k30 := k17.grown hg4
        have k31 := k18.grown hg4
        have k32 := k19.g0 hg4
        have k33 := k20.g0 hg4
        have k34 := k21.grown hg4
        have k35 := k22.grown hg4
        have k36 := k23.grown hg4
        refine WL.litK (f := encH94) ([(t33_Tool, ⟨A_t33_Args, t33_Args.length, c_t33_Args⟩, ⟨A_t33_Inputs, t33_Inputs.length, c_t33_Inputs⟩, t33_Output)] : List (Int × Hdr × Hdr × List UInt8)) encH94_ok rfl ow77 rfl rfl rfl (fun g2 w8 hB2 hg6 hl2 => ?_)
        have hO2 : OwnK 4 encH94 w8 w.heap.size 94 (some ⟨g2, 0, none⟩) 1 ([(t33_Tool, ⟨A_t33_Args, t33_Args.length, c_t33_Args⟩, ⟨A_t33_Inputs, t33_Inputs.length, c_t33_Inputs⟩, t33_Output)] : List (Int × Hdr × Hdr × List UInt8)) := OwnK.ofBl encH94_ok hB2 (Nat.le_trans (size_le gr5) hl2) (by simp [maxLen]) rfl
        have gr6 := gr_trans gr5 hg6
        have k37 := k26.grown hg6
        have k38 := k27.grown hg6
        have k39 := k28.grown hg6
        have k40 := k29.grown hg6
        have k41 := k30.grown hg6
        have k42 := k31.grown hg6
        have k43 := k32.g0 hg6
        have k44 := k33.g0 hg6
        have k45 := k34.grown hg6
        have k46 := k35.grown hg6
        have k47 := k36.grown hg6
        have k48 := k24.grown hg6
        have k49 := k25.grown hg6
        have hr1 : RelD de94 w8 ([(t33_Tool, ⟨A_t33_Args, t33_Args.length, c_t33_Args⟩, ⟨A_t33_Inputs, t33_Inputs.length, c_t33_Inputs⟩, t33_Output)] : List (Int × Hdr × Hdr × List UInt8)) ([(t33_Tool, t33_Args, t33_Inputs, t33_Output)] : List (Int × List (List UInt8) × List (List UInt8) × List UInt8)) := (RelD.cons ⟨rfl, ⟨rfl, k48.rd⟩, ⟨rfl, k49.rd⟩, rfl⟩ RelD.nil)
        have nd1 : NewD de94 ([(t33_Tool, ⟨A_t33_Args, t33_Args.length, c_t33_Args⟩, ⟨A_t33_Inputs, t33_Inputs.length, c_t33_Inputs⟩, t33_Output)] : List (Int × Hdr × Hdr × List UInt8)) ([(t33_Tool, t33_Args, t33_Inputs, t33_Output)] : List (Int × List (List UInt8) × List (List UInt8) × List UInt8)) w.heap.size := (NewD.cons (d := de94) (fun p_ hp_ => ⟨trivial, (Dn.of (Dj.new hp_ k48.ge').symm), (Dn.of (Dj.new hp_ k49.ge').symm), trivial⟩) NewD.nil)
        have dj76 : DnD de94 ([(t33_Tool, ⟨A_t33_Args, t33_Args.length, c_t33_Args⟩, ⟨A_t33_Inputs, t33_Inputs.length, c_t33_Inputs⟩, t33_Output)] : List (Int × Hdr × Hdr × List UInt8)) ([(t33_Tool, t33_Args, t33_Inputs, t33_Output)] : List (Int × List (List UInt8) × List (List UInt8) × List UInt8)) (blk A_t120_l) := (DnD.cons (d := de94) ⟨trivial, (Dn.of (Dj.new k13.lt' hb5).symm), (Dn.of (Dj.new k13.lt' hb6).symm), trivial⟩ DnD.nil)
        have dj77 : DnD de94 ([(t33_Tool, ⟨A_t33_Args, t33_Args.length, c_t33_Args⟩, ⟨A_t33_Inputs, t33_Inputs.length, c_t33_Inputs⟩, t33_Output)] : List (Int × Hdr × Hdr × List UInt8)) ([(t33_Tool, t33_Args, t33_Inputs, t33_Output)] : List (Int × List (List UInt8) × List (List UInt8) × List UInt8)) (blk A_t120_before) := (DnD.cons (d := de94) ⟨trivial, (Dn.of (Dj.new k15.lt' hb5).symm), (Dn.of (Dj.new k15.lt' hb6).symm), trivial⟩ DnD.nil)
        have dj78 : DnD de94 ([(t33_Tool, ⟨A_t33_Args, t33_Args.length, c_t33_Args⟩, ⟨A_t33_Inputs, t33_Inputs.length, c_t33_Inputs⟩, t33_Output)] : List (Int × Hdr × Hdr × List UInt8)) ([(t33_Tool, t33_Args, t33_Inputs, t33_Output)] : List (Int × List (List UInt8) × List (List UInt8) × List UInt8)) (blk A_t120_after) := (DnD.cons (d := de94) ⟨trivial, (Dn.of (Dj.new k17.lt' hb5).symm), (Dn.of (Dj.new k17.lt' hb6).symm), trivial⟩ DnD.nil)
        have dj79 : DnD de94 ([(t33_Tool, ⟨A_t33_Args, t33_Args.length, c_t33_Args⟩, ⟨A_t33_Inputs, t33_Inputs.length, c_t33_Inputs⟩, t33_Output)] : List (Int × Hdr × Hdr × List UInt8)) ([(t33_Tool, t33_Args, t33_Inputs, t33_Output)] : List (Int × List (List UInt8) × List (List UInt8) × List UInt8)) (some g_t120_makers) := (DnD.cons (d := de94) ⟨trivial, (Dn.of (Dj.new k19.lt' hb5).symm), (Dn.of (Dj.new k19.lt' hb6).symm), trivial⟩ DnD.nil)
        have dj80 : DnD de94 ([(t33_Tool, ⟨A_t33_Args, t33_Args.length, c_t33_Args⟩, ⟨A_t33_Inputs, t33_Inputs.length, c_t33_Inputs⟩, t33_Output)] : List (Int × Hdr × Hdr × List UInt8)) ([(t33_Tool, t33_Args, t33_Inputs, t33_Output)] : List (Int × List (List UInt8) × List (List UInt8) × List UInt8)) (some g_t120) := (DnD.cons (d := de94) ⟨trivial, (Dn.of (Dj.new k20.lt' hb5).symm), (Dn.of (Dj.new k20.lt' hb6).symm), trivial⟩ DnD.nil)
        have dj81 : DnD de94 ([(t33_Tool, ⟨A_t33_Args, t33_Args.length, c_t33_Args⟩, ⟨A_t33_Inputs, t33_Inputs.length, c_t33_Inputs⟩, t33_Output)] : List (Int × Hdr × Hdr × List UInt8)) ([(t33_Tool, t33_Args, t33_Inputs, t33_Output)] : List (Int × List (List UInt8) × List (List UInt8) × List UInt8)) (blk A_t19) := (DnD.cons (d := de94) ⟨trivial, (Dn.of (Dj.new k21.lt' hb5).symm), (Dn.of (Dj.new k21.lt' hb6).symm), trivial⟩ DnD.nil)
        have dj82 : DnD de94 ([(t33_Tool, ⟨A_t33_Args, t33_Args.length, c_t33_Args⟩, ⟨A_t33_Inputs, t33_Inputs.length, c_t33_Inputs⟩, t33_Output)] : List (Int × Hdr × Hdr × List UInt8)) ([(t33_Tool, t33_Args, t33_Inputs, t33_Output)] : List (Int × List (List UInt8) × List (List UInt8) × List UInt8)) (blk A_out) := (DnD.cons (d := de94) ⟨trivial, (Dn.of (Dj.new k22.lt' hb5).symm), (Dn.of (Dj.new k22.lt' hb6).symm), trivial⟩ DnD.nil)
        have dj83 : DnD de94 ([(t33_Tool, ⟨A_t33_Args, t33_Args.length, c_t33_Args⟩, ⟨A_t33_Inputs, t33_Inputs.length, c_t33_Inputs⟩, t33_Output)] : List (Int × Hdr × Hdr × List UInt8)) ([(t33_Tool, t33_Args, t33_Inputs, t33_Output)] : List (Int × List (List UInt8) × List (List UInt8) × List UInt8)) (blk (some ⟨g2, 0, none⟩)) := (DnD.cons (d := de94) ⟨trivial, (Dn.of (Dj.new k24.lt' (Ge.box hl2))), (Dn.of (Dj.new k25.lt' (Ge.box hl2))), trivial⟩ DnD.nil)
        obtain ⟨h3, H⟩ := H
        have h4 : ((hs_out : List (Int × Hdr × Hdr × List UInt8)).length + ([(t33_Tool, ⟨A_t33_Args, t33_Args.length, c_t33_Args⟩, ⟨A_t33_Inputs, t33_Inputs.length, c_t33_Inputs⟩, t33_Output)] : List (Int × Hdr × Hdr × List UInt8)).length) * 72 ≤ 140737488355328 := by rw [k47.1, hr1.1]; exact h3
        refine WL.appendK rfl ow77 k46 rfl k23.1.symm hO2.rd rfl rfl h4 (applen h4) (size_le gr6) (fun A_out2 c_out2 w9 hO3 hg7 hk1 => ?_)
        have el1 : (hs_out ++ ([(t33_Tool, ⟨A_t33_Args, t33_Args.length, c_t33_Args⟩, ⟨A_t33_Inputs, t33_Inputs.length, c_t33_Inputs⟩, t33_Output)] : List (Int × Hdr × Hdr × List UInt8))).length = (out ++ ([(t33_Tool, t33_Args, t33_Inputs, t33_Output)] : List (Int × List (List UInt8) × List (List UInt8) × List UInt8))).length := by rw [List.length_append, List.length_append, k47.1, hr1.1]
        rw [el1]
        have gr7 := gr_mod gr6 hg7 k46.ge'
        have k50 := k37.go hg7 dj31
        have k51 := k38.go hg7 dj38
        have k52 := k39.go hg7 dj42
        have k53 := k40.go hg7 dj49
        have k54 := k41.go hg7 dj52
        have k55 := k42.go hg7 dj59
        have k56 := k43.go hg7 dj64
        have k57 := k44.go hg7 dj66
        have k58 := k45.go hg7 dj67
        have k59 := k47.go hg7 dj74
        have k60 := hr1.go hg7 dj82
        have hr2 : RelD de94 w9 (hs_out ++ ([(t33_Tool, ⟨A_t33_Args, t33_Args.length, c_t33_Args⟩, ⟨A_t33_Inputs, t33_Inputs.length, c_t33_Inputs⟩, t33_Output)] : List (Int × Hdr × Hdr × List UInt8))) (out ++ ([(t33_Tool, t33_Args, t33_Inputs, t33_Output)] : List (Int × List (List UInt8) × List (List UInt8) × List UInt8))) := RelD.append k59 k60
        have nd2 : NewD de94 (hs_out ++ ([(t33_Tool, ⟨A_t33_Args, t33_Args.length, c_t33_Args⟩, ⟨A_t33_Inputs, t33_Inputs.length, c_t33_Inputs⟩, t33_Output)] : List (Int × Hdr × Hdr × List UInt8))) (out ++ ([(t33_Tool, t33_Args, t33_Inputs, t33_Output)] : List (Int × List (List UInt8) × List (List UInt8) × List UInt8))) w.heap.size := NewD.append k47.1 or1 nd1
        have dj84 : DnD de94 (hs_out ++ ([(t33_Tool, ⟨A_t33_Args, t33_Args.length, c_t33_Args⟩, ⟨A_t33_Inputs, t33_Inputs.length, c_t33_Inputs⟩, t33_Output)] : List (Int × Hdr × Hdr × List UInt8))) (out ++ ([(t33_Tool, t33_Args, t33_Inputs, t33_Output)] : List (Int × List (List UInt8) × List (List UInt8) × List UInt8))) (blk A_t120_l) := (DnD.append k47.1 dj68 dj76)
        have dj85 : DnD de94 (hs_out ++ ([(t33_Tool, ⟨A_t33_Args, t33_Args.length, c_t33_Args⟩, ⟨A_t33_Inputs, t33_Inputs.length, c_t33_Inputs⟩, t33_Output)] : List (Int × Hdr × Hdr × List UInt8))) (out ++ ([(t33_Tool, t33_Args, t33_Inputs, t33_Output)] : List (Int × List (List UInt8) × List (List UInt8) × List UInt8))) (blk A_t120_before) := (DnD.append k47.1 dj69 dj77)
        have dj86 : DnD de94 (hs_out ++ ([(t33_Tool, ⟨A_t33_Args, t33_Args.length, c_t33_Args⟩, ⟨A_t33_Inputs, t33_Inputs.length, c_t33_Inputs⟩, t33_Output)] : List (Int × Hdr × Hdr × List UInt8))) (out ++ ([(t33_Tool, t33_Args, t33_Inputs, t33_Output)] : List (Int × List (List UInt8) × List (List UInt8) × List UInt8))) (blk A_t120_after) := (DnD.append k47.1 dj70 dj78)
        have dj87 : DnD de94 (hs_out ++ ([(t33_Tool, ⟨A_t33_Args, t33_Args.length, c_t33_Args⟩, ⟨A_t33_Inputs, t33_Inputs.length, c_t33_Inputs⟩, t33_Output)] : List (Int × Hdr × Hdr × List UInt8))) (out ++ ([(t33_Tool, t33_Args, t33_Inputs, t33_Output)] : List (Int × List (List UInt8) × List (List UInt8) × List UInt8))) (some g_t120_makers) := (DnD.append k47.1 dj71 dj79)
        have dj88 : DnD de94 (hs_out ++ ([(t33_Tool, ⟨A_t33_Args, t33_Args.length, c_t33_Args⟩, ⟨A_t33_Inputs, t33_Inputs.length, c_t33_Inputs⟩, t33_Output)] : List (Int × Hdr × Hdr × List UInt8))) (out ++ ([(t33_Tool, t33_Args, t33_Inputs, t33_Output)] : List (Int × List (List UInt8) × List (List UInt8) × List UInt8))) (some g_t120) := (DnD.append k47.1 dj72 dj80)
        have dj89 : DnD de94 (hs_out ++ ([(t33_Tool, ⟨A_t33_Args, t33_Args.length, c_t33_Args⟩, ⟨A_t33_Inputs, t33_Inputs.length, c_t33_Inputs⟩, t33_Output)] : List (Int × Hdr × Hdr × List UInt8))) (out ++ ([(t33_Tool, t33_Args, t33_Inputs, t33_Output)] : List (Int × List (List UInt8) × List (List UInt8) × List UInt8))) (blk A_t19) := (DnD.append k47.1 dj73 dj81)
        have dj90 : DnD de94 (hs_out ++ ([(t33_Tool, ⟨A_t33_Args, t33_Args.length, c_t33_Args⟩, ⟨A_t33_Inputs, t33_Inputs.length, c_t33_Inputs⟩, t33_Output)] : List (Int × Hdr × Hdr × List UInt8))) (out ++ ([(t33_Tool, t33_Args, t33_Inputs, t33_Output)] : List (Int × List (List UInt8) × List (List UInt8) × List UInt8))) (blk (some ⟨g2, 0, none⟩)) := (DnD.append k47.1 (k36.new (Ge.box hl2)) dj83)
        have dj91 : DnD de94 (hs_out ++ ([(t33_Tool, ⟨A_t33_Args, t33_Args.length, c_t33_Args⟩, ⟨A_t33_Inputs, t33_Inputs.length, c_t33_Inputs⟩, t33_Output)] : List (Int × Hdr × Hdr × List UInt8))) (out ++ ([(t33_Tool, t33_Args, t33_Inputs, t33_Output)] : List (Int × List (List UInt8) × List (List UInt8) × List UInt8))) (blk A_out2) := (DnD.append k47.1 (RelD.app k47 dj74 hk1) (RelD.app hr1 dj82 hk1))
        refine WL.y rfl (Yld.pure tab_ok rfl) ?_
        refine WL.nil (WX.block_normal (WX.then_normal ?_))
        refine WC.region ?_
        obtain ⟨h5, H⟩ := H
        refine WL.y rfl (Yld.add rfl rfl h5) ?_
        refine WL.y rfl (Yld.pure tab_ok rfl) ?_
        refine WL.nil ?_
        exact WX.roundF _ ⟨out ++ ([(t33_Tool, t33_Args, t33_Inputs, t33_Output)] : List (Int × List (List UInt8) × List (List UInt8) × List UInt8)), A_out2, c_out2, (out ++ ([(t33_Tool, t33_Args, t33_Inputs, t33_Output)] : List (Int × List (List UInt8) × List (List UInt8) × List UInt8))).length, hs_out ++ ([(t33_Tool, ⟨A_t33_Args, t33_Args.length, c_t33_Args⟩, ⟨A_t33_Inputs, t33_Inputs.length, c_t33_Inputs⟩, t33_Output)] : List (Int × Hdr × Hdr × List UInt8)), t21 + (1 : Int), rfl, rfl, H.1, rfl, gr7, k50, k51, k52, k53, k54, k55, k56, k57, k58, hO3, hr2, dj26, dj27, dj28, dj29, dj30, (Dj.app dj31.symm k37.lt' hk1).symm, dj32, dj33, dj34, dj35, dj36, dj37, (RelD.app k38 dj38 hk1), dj39, dj40, dj41, (Dj.app dj42.symm k39.lt' hk1).symm, dj43, dj44, dj45, dj46, dj47, dj48, (RelD.app k40 dj49 hk1), dj50, dj51, (Dj.app dj52.symm k41.lt' hk1).symm, dj53, dj54, dj55, dj56, dj57, dj58, (RelD.app k42 dj59 hk1), dj60, dj61, dj62, dj63, (Dj.app dj64.symm k43.lt' hk1).symm, dj65, (Dj.app dj66.symm k44.lt' hk1).symm, (Dj.app dj67.symm k45.lt' hk1).symm, dj84, dj85, dj86, dj87, dj88, dj89, dj91, nd2⟩ (by repeat (first | exact Sub.nil | refine Sub.cons rfl ?_)) H.2
      · replace H := H.2 (of_decide_eq_false b3)
        refine WC.exit (WX.then_exit (WX.then_exit (WX.block_same (WX.then_normal ?_))))
        refine WC.seq ?_
        refine WC.region ?_
        refine WL.y rfl (Yld.pure tab_ok rfl) ?_
        refine WL.y rfl (Yld.pure tab_ok rfl) ?_
        refine WL.nil (WX.then_normal ?_)
        refine WC.ret ?_
        exact WX.ret1 rfl rfl ⟨gr4, out, A_out, c_out, hs_out, (by rw [k23.1.symm]), k22, k23, H⟩

set_option maxHeartbeats 8000000 in
theorem W_smithyref_Among {w : World} {l : List Int} {A_l : Option Addr} {c_l : Nat} {n : Int} {n_l : Nat} {K : Bool → Prop} (hl : Rd vi w A_l c_l l) (hn_l : n_l = l.length) (H : M_smithyref_Among l n K) : Fn Tryz.prog 64 ⟨[.slice A_l n_l c_l, .int .i64 n]⟩ w (fun v w' => w = w' ∧ ∃ (r : Bool), v = .bool r ∧ K r) := by
  subst hn_l
  unfold M_smithyref_Among at H
  refine Fn.enter (by kernel_rfl) Tryz.func64 rfl Tryz.ntmps64 rfl ?_
  replace H := H (Nat.le_trans hl.cap hl.max)
  refine WC.seq ?_
  refine WC.region ?_
  refine WL.y rfl (Yld.pure tab_ok rfl) ?_
  refine WL.nil (WX.then_normal ?_)
  refine WC.seq ?_
  refine WC.seq ?_
  refine WC.region ?_
  refine WL.y rfl (Yld.pure tab_ok rfl) ?_
  refine WL.nil (WX.then_normal ?_)
  refine WC.block ?_
  obtain ⟨I1, mu1, h0_1, HR1⟩ := H
  refine WC.loopF (fun n' L' w' => ∃ (i : Int), n' = mu1 i ∧ L' = [(0, .slice A_l l.length c_l), (1, .int .i64 n), (5, .int .i64 i)] ∧ I1 i ∧ w = w') _ _ ⟨(0 : Int), rfl, rfl, h0_1, rfl⟩ (by repeat (first | exact Sub.nil | refine Sub.cons rfl ?_)) ?_
  clear h0_1
  rintro _ _ _ ⟨i, rfl, rfl, hI1, rfl⟩
  have H := HR1 i hI1
  refine WC.seq ?_
  refine WC.seq ?_
  refine WC.region ?_
  refine WL.y rfl (Yld.pure tab_ok rfl) ?_
  refine WL.y rfl (Yld.pure tab_ok rfl) ?_
  refine WL.y rfl (Yld.pure tab_ok rfl) ?_
  refine WL.y rfl (Yld.pure tab_ok rfl) ?_
  refine WL.nil (WX.then_normal ?_)
  refine WC.cond rfl (fun b1 => ?_) (fun b1 => ?_)
  · replace H := H.1 (of_decide_eq_true b1)
    refine WC.skip (WX.then_normal ?_)
    refine WC.seq ?_
    refine WC.block ?_
    refine WC.seq ?_
    refine WC.region ?_
    refine WL.y rfl (Yld.pure tab_ok rfl) ?_
    refine WL.y rfl (Yld.pure tab_ok rfl) ?_
    obtain ⟨h1, H⟩ := H
    refine WL.y rfl (Yld.iaddrW tab_ok hl rfl rfl rfl rfl h1.1 h1.2) ?_
    refine WL.y rfl (Yld.iload 0 tab_ok hl rfl rfl (iltN h1 rfl)) ?_
    refine WL.y rfl (Yld.pure tab_ok rfl) ?_
    refine WL.y rfl (Yld.pure tab_ok rfl) ?_
    refine WL.nil (WX.then_normal ?_)
    refine WC.cond rfl (fun b2 => ?_) (fun b2 => ?_)
    · replace H := H.1 (of_decide_eq_true b2)
      refine WC.seq ?_
      refine WC.region ?_
      refine WL.y rfl (Yld.pure tab_ok rfl) ?_
      refine WL.nil (WX.then_normal ?_)
      refine WC.ret (WX.block_ret (WX.then_ret (WX.then_ret (WX.block_ret (WX.then_ret ?_)))))
      exact WX.ret1 rfl rfl ⟨rfl, true, rfl, H⟩
    · replace H := H.2 (of_decide_eq_false b2)
      refine WC.skip (WX.block_normal (WX.then_normal ?_))
      refine WC.region ?_
      refine WL.y rfl (Yld.pure tab_ok rfl) ?_
      obtain ⟨h2, H⟩ := H
      refine WL.y rfl (Yld.add rfl rfl h2) ?_
      refine WL.y rfl (Yld.pure tab_ok rfl) ?_
      refine WL.nil ?_
      exact WX.roundF _ ⟨i + (1 : Int), rfl, rfl, H.1, rfl⟩ (by repeat (first | exact Sub.nil | refine Sub.cons rfl ?_)) H.2
  · replace H := H.2 (of_decide_eq_false b1)
    refine WC.exit (WX.then_exit (WX.then_exit (WX.block_same (WX.then_normal ?_))))
    refine WC.seq ?_
    refine WC.region ?_
    refine WL.y rfl (Yld.pure tab_ok rfl) ?_
    refine WL.nil (WX.then_normal ?_)
    refine WC.ret ?_
    exact WX.ret1 rfl rfl ⟨rfl, false, rfl, H⟩

set_option maxHeartbeats 8000000 in
theorem W_smithyref_Sorted {w : World} {l : List Int} {A_l : Option Addr} {c_l : Nat} {n_l : Nat} {K : (List Int) → Prop} (hl : Rd vi w A_l c_l l) (hn_l : n_l = l.length) (H : M_smithyref_Sorted l K) : Fn Tryz.prog 113 ⟨[.slice A_l n_l c_l]⟩ w (fun v w' => w.grownBy w' none ∧ ∃ (r : List Int), ∃ (A_r : Option Addr), ∃ (c_r : Nat), v = .slice A_r r.length c_r ∧ Own vi w' w.heap.size 3 A_r c_r r ∧ K r) := by
  subst hn_l
  unfold M_smithyref_Sorted at H
  refine Fn.enter (by kernel_rfl) Tryz.func113 rfl Tryz.ntmps113 rfl ?_
  replace H := H (Nat.le_trans hl.cap hl.max)
  refine WC.seq ?_
  refine WC.region ?_
  refine WL.y rfl (Yld.pure tab_ok rfl) ?_
  refine WL.nil (WX.then_normal ?_)
  refine WC.seq ?_
  refine WC.region ?_
  refine WL.y rfl (Yld.pure tab_ok rfl) ?_
  refine WL.nil (WX.then_normal ?_)
  refine WC.seq ?_
  refine WC.seq ?_
  refine WC.region ?_
  refine WL.y rfl (Yld.pure tab_ok rfl) ?_
  refine WL.nil (WX.then_normal ?_)
  refine WC.block ?_
  obtain ⟨I1, mu1, h0_1, HR1⟩ := H
  refine WC.loopF (fun n' L' w' => ∃ (out : List Int), ∃ (A_out : Option Addr), ∃ (c_out : Nat), ∃ (n_out : Nat), ∃ (i : Int), n' = mu1 out i ∧ L' = [(0, .slice A_l l.length c_l), (3, .slice A_out n_out c_out), (4, .int .i64 i)] ∧ I1 out i ∧ n_out = out.length ∧ w.grownBy w' none ∧ Own vi w' w.heap.size 3 A_out c_out out) _ _ ⟨[], none, 0, 0, (0 : Int), rfl, rfl, h0_1, rfl, (gr_refl _ _), (Own.nil vi w w.heap.size 3)⟩ (by repeat (first | exact Sub.nil | refine Sub.cons rfl ?_)) ?_
  clear h0_1
  rintro _ _ w1 ⟨out, A_out, c_out, n_out, i, rfl, rfl, hI1, rfl, gr1, k1⟩
  have H := HR1 out i hI1
  refine WC.seq ?_
  refine WC.seq ?_
  refine WC.region ?_
  refine WL.y rfl (Yld.pure tab_ok rfl) ?_
  refine WL.y rfl (Yld.pure tab_ok rfl) ?_
  refine WL.y rfl (Yld.pure tab_ok rfl) ?_
  refine WL.y rfl (Yld.pure tab_ok rfl) ?_
  refine WL.nil (WX.then_normal ?_)
  refine WC.cond rfl (fun b1 => ?_) (fun b1 => ?_)
  · replace H := H.1 (of_decide_eq_true b1)
    refine WC.skip (WX.then_normal ?_)
    refine WC.seq ?_
    obtain ⟨J1, H, hJ1⟩ := H
    refine WC.midF (fun L' w' => ∃ (out2 : List Int), ∃ (A_out2 : Option Addr), ∃ (c_out2 : Nat), ∃ (n_out2 : Nat), L' = [(0, .slice A_l l.length c_l), (3, .slice A_out2 n_out2 c_out2), (4, .int .i64 i)] ∧ J1 out2 ∧ n_out2 = out2.length ∧ w.grownBy w' none ∧ Own vi w' w.heap.size 3 A_out2 c_out2 out2) ?_ (fun hQ => ?_)
    · clear H
      rintro _ w2 ⟨out2, A_out2, c_out2, n_out2, rfl, H, rfl, gr2, k2⟩
      replace H := hJ1 out2 H
      refine WX.then_normal ?_
      refine WC.region ?_
      refine WL.y rfl (Yld.pure tab_ok rfl) ?_
      obtain ⟨h1, H⟩ := H
      refine WL.y rfl (Yld.add rfl rfl h1) ?_
      refine WL.y rfl (Yld.pure tab_ok rfl) ?_
      refine WL.nil ?_
      exact WX.roundF _ ⟨out2, A_out2, c_out2, out2.length, i + (1 : Int), rfl, rfl, H.1, rfl, gr2, k2⟩ (by repeat (first | exact Sub.nil | refine Sub.cons rfl ?_)) H.2
    · clear hJ1
      refine WC.block ?_
      refine WC.seq ?_
      refine WC.region ?_
      refine WL.y rfl (Yld.pure tab_ok rfl) ?_
      refine WL.nil (WX.then_normal ?_)
      refine WC.seq ?_
      refine WC.block ?_
      obtain ⟨I2, mu2, h0_2, HR2⟩ := H
      refine WC.loopF (fun n' L' w' => ∃ (k : Int), n' = mu2 k ∧ L' = [(0, .slice A_l l.length c_l), (3, .slice A_out out.length c_out), (4, .int .i64 i), (5, .int .i64 k)] ∧ I2 k ∧ w1 = w') _ _ ⟨(0 : Int), rfl, rfl, h0_2, rfl⟩ (by repeat (first | exact Sub.nil | refine Sub.cons rfl ?_)) ?_
      clear h0_2
      rintro _ _ _ ⟨k, rfl, rfl, hI2, rfl⟩
      have H := HR2 k hI2
      refine WC.seq ?_
      refine WC.seq ?_
      refine WC.quiet mixed (by kernel_rfl) ?_
      refine WQ.y rfl (Yld.pure tab_ok rfl) ?_
      refine WQ.y rfl (Yld.pure tab_ok rfl) ?_
      refine WQ.y rfl (Yld.pure tab_ok rfl) ?_
      refine WQ.y rfl (Yld.pure tab_ok rfl) ?_
      refine WQ.y rfl (Yld.pure tab_ok rfl) ?_
      obtain ⟨h2, H⟩ := H
      obtain ⟨h3, H⟩ := H
      refine WQ.midF 10 (fun L' w' => ∃ q1 : Bool, L' = [(27, .bool q1), (0, .slice A_l l.length c_l), (3, .slice A_out out.length c_out), (4, .int .i64 i), (5, .int .i64 k)] ∧ ((decide (k < (out.length : Int))) && (decide ((out.getD k.toNat 0) < (l.getD i.toNat 0)))) = q1 ∧ w1 = w') ?_ (fun hQ => ?_)
      · rintro _ _ ⟨q1, rfl, rfl, rfl⟩
        refine WQ.nil (WX.then_normal ?_)
        refine WC.cond rfl (fun b2 => ?_) (fun b2 => ?_)
        · replace H := H.1 (b2)
          refine WC.skip (WX.then_normal ?_)
          refine WC.block ?_
          refine WC.region ?_
          refine WL.y rfl (Yld.pure tab_ok rfl) ?_
          obtain ⟨h4, H⟩ := H
          refine WL.y rfl (Yld.add rfl rfl h4) ?_
          refine WL.y rfl (Yld.pure tab_ok rfl) ?_
          refine WL.nil (WX.block_normal ?_)
          exact WX.roundF _ ⟨k + (1 : Int), rfl, rfl, H.1, rfl⟩ (by repeat (first | exact Sub.nil | refine Sub.cons rfl ?_)) H.2
        · replace H := H.2 (b2)
          refine WC.exit (WX.then_exit (WX.then_exit (WX.block_same (WX.then_normal ?_))))
          refine WC.seq ?_
          refine WC.seq ?_
          refine WC.quiet mixed (by kernel_rfl) ?_
          refine WQ.y rfl (Yld.pure tab_ok rfl) ?_
          refine WQ.y rfl (Yld.pure tab_ok rfl) ?_
          refine WQ.y rfl (Yld.pure tab_ok rfl) ?_
          refine WQ.y rfl (Yld.pure tab_ok rfl) ?_
          refine WQ.y rfl (Yld.pure tab_ok rfl) ?_
          obtain ⟨h5, H⟩ := H
          obtain ⟨h6, H⟩ := H
          refine WQ.midF 10 (fun L' w' => ∃ q2 : Bool, L' = [(44, .bool q2), (0, .slice A_l l.length c_l), (3, .slice A_out out.length c_out), (4, .int .i64 i), (5, .int .i64 k)] ∧ ((decide (k < (out.length : Int))) && (decide ((out.getD k.toNat 0) = (l.getD i.toNat 0)))) = q2 ∧ w1 = w') ?_ (fun hQ => ?_)
          · rintro _ _ ⟨q2, rfl, rfl, rfl⟩
            refine WQ.nil (WX.then_normal ?_)
            refine WC.cond rfl (fun b3 => ?_) (fun b3 => ?_)
            · replace H := H.1 (b3)
              refine WC.exit (WX.then_exit (WX.block_same ?_))
              exact WX.weaken (by repeat (first | exact Sub.nil | refine Sub.cons rfl ?_)) (hQ _ _ ⟨out, A_out, c_out, out.length, rfl, H, rfl, gr1, k1⟩)
            · replace H := H.2 (b3)
              refine WC.skip (WX.then_normal ?_)
              refine WC.seq ?_
              refine WC.chainF (fun k => !(Nat.beq k 3 || Nat.beq k 7)) (LD [] (fun w' => True)) mixed (by kernel_rfl) (fun k w' h _ => trivial) ?_
              refine WJ.y rfl rfl (fun w' hw' => Yld.pure tab_ok rfl) ?_
              refine WJ.y rfl rfl (fun w' hw' => Yld.pure tab_ok rfl) ?_
              obtain ⟨h7, H⟩ := H
              refine WJ.y rfl rfl (fun w' hw' => Yld.add rfl rfl h7) ?_
              obtain ⟨h8, H⟩ := H
              refine WJ.putw rfl (wants_none) rfl (Eff.makeCI (f := vi) (B := w.heap.size) tab_ok rfl rfl rfl h8.1 h8.2.1 h8.2.2 (size_le gr1)) (fun v w' ⟨_, _, h⟩ => DD.keep trivial) ?_
              rintro _ w3 ⟨rfl, hB1, hg1⟩
              obtain ⟨g_t48, hl1⟩ : ∃ g, g = w1.heap.size := ⟨_, rfl⟩
              rw [← hl1] at hB1
              rw [← hl1]
              have hO1 : Own vi w3 w.heap.size 3 (some ⟨g_t48, 0, none⟩) (((out.length : Int) + (1 : Int)).toNat) ([] : List Int) := hB1.base (fun g hg => by cases hg; exact Nat.le_trans (size_le gr1) (Nat.le_of_eq hl1.symm))
              have gr3 := gr_trans gr1 hg1
              have k3 := k1.grown hg1
              refine WJ.y rfl rfl (fun w' hw' => Yld.pure tab_ok rfl) ?_
              refine WJ.y rfl rfl (fun w' hw' => Yld.pure tab_ok rfl) ?_
              obtain ⟨h9, H⟩ := H
              refine WJ.y rfl rfl (fun w' hw' => Yld.ocutY tab_ok k3.rd rfl rfl rfl rfl rfl h9.1 h9.2) ?_
              obtain ⟨h10, H⟩ := H
              refine WJ.putw rfl (wants_none) rfl (Eff.append tab_ok rfl One.i hO1 rfl rfl (k3.rd.take k.toNat) rfl rfl h10 (applen h10) (size_le gr3)) (fun v w' ⟨_, _, _, _, h, _⟩ => DD.keep trivial) ?_
              rintro _ w4 ⟨A_next, c_next, rfl, hO2, hg2, hk1⟩
              have gr4 := gr_mod gr3 hg2 hO1.ge'
              have k4 := k3.go hg2 (Dj.new k1.lt' (Ge.box (Nat.le_of_eq hl1.symm)))
              refine WJ.y rfl rfl (fun w' hw' => Yld.pure tab_ok rfl) ?_
              refine WJ.nil (WX.then_normal ?_)
              refine WC.seq ?_
              refine WC.region ?_
              refine WL.y rfl (Yld.pure tab_ok rfl) ?_
              refine WL.y rfl (Yld.pure tab_ok rfl) ?_
              refine WL.y rfl (Yld.pure tab_ok rfl) ?_
              obtain ⟨h11, H⟩ := H
              refine WL.y rfl (Yld.iaddrW tab_ok (hl.grown gr4) rfl rfl rfl rfl h11.1 h11.2) ?_
              refine WL.y rfl (Yld.iload 0 tab_ok (hl.grown gr4) rfl rfl (iltN h11 rfl)) ?_
              refine WL.lit tab_ok rfl rfl rfl (all1c rfl all1n) rfl (by omega) (fun g1 w5 hB2 hg3 hl2 => ?_)
              have hO3 : Own vi w5 w.heap.size 3 (some ⟨g1, 0, none⟩) 1 ([l.getD i.toNat 0] : List Int) := Own.ofBl hB2 (Nat.le_trans (size_le gr4) hl2) (by simp [maxLen]) rfl
              have gr5 := gr_trans gr4 hg3
              have k5 := k4.grown hg3
              have k6 := hO2.grown hg3
              obtain ⟨h12, H⟩ := H
              refine WL.append tab_ok rfl rfl One.i k6 rfl rfl hO3.rd rfl rfl h12 (applen h12) (size_le gr5) (fun A_next2 c_next2 w6 hO4 hg4 hk2 => ?_)
              have gr6 := gr_mod gr5 hg4 k6.ge'
              have k7 := k5.go hg4 ((Dj.app (Dj.new k1.lt' (Ge.box (Nat.le_of_eq hl1.symm))).symm k3.lt' hk1).symm)
              refine WL.y rfl (Yld.pure tab_ok rfl) ?_
              refine WL.nil (WX.then_normal ?_)
              refine WC.region ?_
              refine WL.y rfl (Yld.pure tab_ok rfl) ?_
              refine WL.y rfl (Yld.pure tab_ok rfl) ?_
              refine WL.y rfl (Yld.pure tab_ok rfl) ?_
              obtain ⟨h13, H⟩ := H
              refine WL.cutF tab_ok k7.rd rfl rfl rfl rfl rfl h13.1 h13.2.1 (fun A_t63 c_t63 hR1 hb1 => ?_)
              obtain ⟨h14, H⟩ := H
              refine WL.append tab_ok rfl rfl One.i hO4 rfl rfl hR1 rfl rfl h14 (applen h14) (size_le gr6) (fun A_out3 c_out3 w7 hO5 hg5 hk3 => ?_)
              have gr7 := gr_mod gr6 hg5 hO4.ge'
              refine WL.y rfl (Yld.pure tab_ok rfl) ?_
              refine WL.nil (WX.block_normal ?_)
              exact WX.weaken (by repeat (first | exact Sub.nil | refine Sub.cons rfl ?_)) (hQ _ _ ⟨((([] : List Int) ++ (out.take k.toNat)) ++ ([l.getD i.toNat 0] : List Int)) ++ (out.drop k.toNat), A_out3, c_out3, (((([] : List Int) ++ (out.take k.toNat)) ++ ([l.getD i.toNat 0] : List Int)) ++ (out.drop k.toNat)).length, rfl, H, rfl, gr7, hO5⟩)
          · clear H
            rcases Bool.eq_false_or_eq_true (decide (k < (out.length : Int))) with b4 | b4
            · refine WQ.gyes rfl rfl (okb b4) rfl (Yld.pure tab_ok rfl) ?_
              refine WQ.gyes rfl rfl (okb b4) rfl (Yld.pure tab_ok rfl) ?_
              refine WQ.gyes rfl rfl (okb b4) rfl (Yld.iaddrW tab_ok k1.rd rfl rfl rfl rfl (h5 b4).1 (h5 b4).2) ?_
              refine WQ.gyes rfl rfl (okb b4) rfl (Yld.iload 0 tab_ok k1.rd rfl rfl (iltN (h5 b4) rfl)) ?_
              refine WQ.gyes rfl rfl (okb b4) rfl (Yld.pure tab_ok rfl) ?_
              refine WQ.gyes rfl rfl (okb b4) rfl (Yld.pure tab_ok rfl) ?_
              refine WQ.gyes rfl rfl (okb b4) rfl (Yld.iaddrW tab_ok (hl.grown gr1) rfl rfl rfl rfl (h6 b4).1 (h6 b4).2) ?_
              refine WQ.gyes rfl rfl (okb b4) rfl (Yld.iload 0 tab_ok (hl.grown gr1) rfl rfl (iltN (h6 b4) rfl)) ?_
              refine WQ.gyes rfl rfl (okb b4) rfl (Yld.pure tab_ok rfl) ?_
              refine WQ.y rfl (Yld.pickT (okb b4) rfl) ?_
              exact WQ.weaken (by repeat (first | exact Sub.nil | refine Sub.cons rfl ?_)) (hQ _ _ ⟨decide ((out.getD k.toNat 0) = (l.getD i.toNat 0)), rfl, by rw [b4] <;> rfl, rfl⟩)
            · refine WQ.gno rfl rfl (okb b4) rfl ?_
              refine WQ.gno rfl rfl (okb b4) rfl ?_
              refine WQ.gno rfl rfl (okb b4) rfl ?_
              refine WQ.gno rfl rfl (okb b4) rfl ?_
              refine WQ.gno rfl rfl (okb b4) rfl ?_
              refine WQ.gno rfl rfl (okb b4) rfl ?_
              refine WQ.gno rfl rfl (okb b4) rfl ?_
              refine WQ.gno rfl rfl (okb b4) rfl ?_
              refine WQ.gno rfl rfl (okb b4) rfl ?_
              refine WQ.y rfl (Yld.pickF (okb b4) rfl) ?_
              exact WQ.weaken (by repeat (first | exact Sub.nil | refine Sub.cons rfl ?_)) (hQ _ _ ⟨false, rfl, by rw [b4] <;> rfl, rfl⟩)
      · clear H
        rcases Bool.eq_false_or_eq_true (decide (k < (out.length : Int))) with b5 | b5
        · refine WQ.gyes rfl rfl (okb b5) rfl (Yld.pure tab_ok rfl) ?_
          refine WQ.gyes rfl rfl (okb b5) rfl (Yld.pure tab_ok rfl) ?_
          refine WQ.gyes rfl rfl (okb b5) rfl (Yld.iaddrW tab_ok k1.rd rfl rfl rfl rfl (h2 b5).1 (h2 b5).2) ?_
          refine WQ.gyes rfl rfl (okb b5) rfl (Yld.iload 0 tab_ok k1.rd rfl rfl (iltN (h2 b5) rfl)) ?_
          refine WQ.gyes rfl rfl (okb b5) rfl (Yld.pure tab_ok rfl) ?_
          refine WQ.gyes rfl rfl (okb b5) rfl (Yld.pure tab_ok rfl) ?_
          refine WQ.gyes rfl rfl (okb b5) rfl (Yld.iaddrW tab_ok (hl.grown gr1) rfl rfl rfl rfl (h3 b5).1 (h3 b5).2) ?_
          refine WQ.gyes rfl rfl (okb b5) rfl (Yld.iload 0 tab_ok (hl.grown gr1) rfl rfl (iltN (h3 b5) rfl)) ?_
          refine WQ.gyes rfl rfl (okb b5) rfl (Yld.pure tab_ok rfl) ?_
          refine WQ.y rfl (Yld.pickT (okb b5) rfl) ?_
          exact WQ.weaken (by repeat (first | exact Sub.nil | refine Sub.cons rfl ?_)) (hQ _ _ ⟨decide ((out.getD k.toNat 0) < (l.getD i.toNat 0)), rfl, by rw [b5] <;> rfl, rfl⟩)
        · refine WQ.gno rfl rfl (okb b5) rfl ?_
          refine WQ.gno rfl rfl (okb b5) rfl ?_
          refine WQ.gno rfl rfl (okb b5) rfl ?_
          refine WQ.gno rfl rfl (okb b5) rfl ?_
          refine WQ.gno rfl rfl (okb b5) rfl ?_
          refine WQ.gno rfl rfl (okb b5) rfl ?_
          refine WQ.gno rfl rfl (okb b5) rfl ?_
          refine WQ.gno rfl rfl (okb b5) rfl ?_
          refine WQ.gno rfl rfl (okb b5) rfl ?_
          refine WQ.y rfl (Yld.pickF (okb b5) rfl) ?_
          exact WQ.weaken (by repeat (first | exact Sub.nil | refine Sub.cons rfl ?_)) (hQ _ _ ⟨false, rfl, by rw [b5] <;> rfl, rfl⟩)
  · replace H := H.2 (of_decide_eq_false b1)
    refine WC.exit (WX.then_exit (WX.then_exit (WX.block_same (WX.then_normal ?_))))
    refine WC.seq ?_
    refine WC.region ?_
    refine WL.y rfl (Yld.pure tab_ok rfl) ?_
    refine WL.y rfl (Yld.pure tab_ok rfl) ?_
    refine WL.nil (WX.then_normal ?_)
    refine WC.ret ?_
    exact WX.ret1 rfl rfl ⟨gr1, out, A_out, c_out, rfl, k1, H⟩

set_option maxHeartbeats 8000000 in
theorem W_smithyref_Action {w : World} {a_Tool : Int} {a_Args : List (List UInt8)} {A_a_Args : Option Addr} {c_a_Args : Nat} {a_Inputs : List (List UInt8)} {A_a_Inputs : Option Addr} {c_a_Inputs : Nat} {a_Output : List UInt8} {n_a_Args : Nat} {n_a_Inputs : Nat} {K : Int → (List (List UInt8)) → (List (List UInt8)) → (List UInt8) → Prop} (ha_Args : Rd vs w A_a_Args c_a_Args a_Args) (hn_a_Args : n_a_Args = a_Args.length) (ha_Inputs : Rd vs w A_a_Inputs c_a_Inputs a_Inputs) (hn_a_Inputs : n_a_Inputs = a_Inputs.length) (H : M_smithyref_Action a_Tool a_Args a_Inputs a_Output K) : Fn Tryz.prog 145 ⟨[.agg ⟨[.int .i64 a_Tool, .slice A_a_Args n_a_Args c_a_Args, .slice A_a_Inputs n_a_Inputs c_a_Inputs, vs a_Output]⟩]⟩ w (fun v w' => w.grownBy w' none ∧ ∃ (r_Tool : Int), ∃ (r_Args : List (List UInt8)), ∃ (A_r_Args : Option Addr), ∃ (c_r_Args : Nat), ∃ (r_Inputs : List (List UInt8)), ∃ (A_r_Inputs : Option Addr), ∃ (c_r_Inputs : Nat), ∃ (r_Output : List UInt8), v = .agg ⟨[.int .i64 r_Tool, .slice A_r_Args r_Args.length c_r_Args, .slice A_r_Inputs r_Inputs.length c_r_Inputs, vs r_Output]⟩ ∧ Own vs w' w.heap.size 9 A_r_Args c_r_Args r_Args ∧ Own vs w' w.heap.size 9 A_r_Inputs c_r_Inputs r_Inputs ∧ K r_Tool r_Args r_Inputs r_Output) := by
  subst hn_a_Args
  subst hn_a_Inputs
  unfold M_smithyref_Action at H
  refine Fn.enter (by kernel_rfl) Tryz.func145 rfl Tryz.ntmps145 rfl ?_
  replace H := H (Nat.le_trans ha_Args.cap ha_Args.max)
  replace H := H (Nat.le_trans ha_Inputs.cap ha_Inputs.max)
  refine WC.seq ?_
  refine WC.region ?_
  refine WL.box (us := [.int .i64 a_Tool, .slice A_a_Args a_Args.length c_a_Args, .slice A_a_Inputs a_Inputs.length c_a_Inputs, vs a_Output]) rfl rfl rfl (fun g1 w1 hB1 hg1 hl1 => ?_)
  have gr1 := hg1
  refine WL.alloc rfl zero94 (fun g2 w2 hB2 hg2 hl2 => ?_)
  have gr2 := gr_trans gr1 hg2
  have k1 := hB1.g0 hg2
  refine WL.nil (WX.then_normal ?_)
  refine WC.seq ?_
  refine WC.chainF (fun k => !(Nat.beq k 4 || Nat.beq k 7 || Nat.beq k 11)) (LD [1, 3, 6, 9] (fun w' => Bl w' g1 94 [.int .i64 a_Tool, .slice A_a_Args a_Args.length c_a_Args, .slice A_a_Inputs a_Inputs.length c_a_Inputs, vs a_Output])) mixed (by kernel_rfl) (fun k w' h _ => (bl_eqv h k1)) ?_
  refine WJ.y rfl rfl (fun w' hw' => Yld.pure tab_ok rfl) ?_
  refine WJ.y rfl rfl (fun w' hw' => Yld.bload tab_ok (hw' rfl) rfl rfl rfl) ?_
  refine WJ.y rfl rfl (fun w' hw' => Yld.pure tab_ok rfl) ?_
  refine WJ.y rfl rfl (fun w' hw' => Yld.bload tab_ok (hw' rfl) rfl rfl rfl) ?_
  refine WJ.call rfl (wants_none) rfl rfl (W_smithyref_Texts (ha_Args.grown gr2) rfl H) (fun v w' h w2 e => DD.keep (Bl.g0 k1 (gr_eqv h.1 e))) ?_
  rintro _ w3 ⟨hg3, t7, A_t7, c_t7, rfl, ht7, H⟩
  have hb1 := ht7.ge'
  have k2 := ht7.base (fun g hg => Nat.le_trans (size_le gr2) (hb1 g hg))
  have gr3 := gr_trans gr2 hg3
  have k3 := k1.g0 hg3
  have k4 := hB2.g0 hg3
  refine WJ.y rfl rfl (fun w' hw' => Yld.pure tab_ok rfl) ?_
  refine WJ.y rfl rfl (fun w' hw' => Yld.bload tab_ok (hw' rfl) rfl rfl rfl) ?_
  refine WJ.call rfl (wants_none) rfl rfl (W_smithyref_Texts (ha_Inputs.grown gr3) rfl H) (fun v w' h w2 e => DD.keep (Bl.g0 k3 (gr_eqv h.1 e))) ?_
  rintro _ w4 ⟨hg4, t10, A_t10, c_t10, rfl, ht10, H⟩
  have hb2 := ht10.ge'
  have k5 := ht10.base (fun g hg => Nat.le_trans (size_le gr3) (hb2 g hg))
  have gr4 := gr_trans gr3 hg4
  have k6 := k3.g0 hg4
  have k7 := k4.g0 hg4
  have k8 := k2.grown hg4
  refine WJ.y rfl rfl (fun w' hw' => Yld.pure tab_ok rfl) ?_
  refine WJ.y rfl rfl (fun w' hw' => Yld.bload tab_ok (hw' rfl) rfl rfl rfl) ?_
  refine WJ.y rfl rfl (fun w' hw' => Yld.struct (us := [.int .i64 a_Tool, .slice A_t7 t7.length c_t7, .slice A_t10 t10.length c_t10, vs a_Output]) zero94 places94 rfl rfl) ?_
  refine WJ.eff rfl (Ef0.storeW (vs := [.int .i64 a_Tool, .slice A_t7 t7.length c_t7, .slice A_t10 t10.length c_t10, vs a_Output]) tab_ok rfl rfl rfl (all1c rfl (all1c rfl (all1c rfl (all1c rfl all1n)))) k7 rfl rfl) (fun w' h => DD.keep (Bl.go k6 (gr_eqv h.2 (Eqv.refl _)) (Dj.new hB1.lt' (Ge.box hl2)))) ?_
  rintro w5 ⟨hB3, hg5⟩
  have gr5 := gr_mod gr4 hg5 (Ge.le (Ge.box hl2) (size_le gr1))
  have k9 := k6.go hg5 (Dj.new hB1.lt' (Ge.box hl2))
  have k10 := k8.go hg5 ((Dj.new hB2.lt' hb1).symm)
  have k11 := k5.go hg5 ((Dj.new k4.lt' hb2).symm)
  refine WJ.nil (WX.then_normal ?_)
  refine WC.ret ?_
  exact WX.retc tab_ok rfl rfl rfl hB3 rfl ⟨gr5, a_Tool, t7, A_t7, c_t7, t10, A_t10, c_t10, a_Output, rfl, k10, k11, H⟩

set_option maxHeartbeats 8000000 in
theorem W_smithyref_Actions {w : World} {a : List (Int × List (List UInt8) × List (List UInt8) × List UInt8)} {A_a : Option Addr} {c_a : Nat} {hs_a : List (Int × Hdr × Hdr × List UInt8)} {n_a : Nat} {K : (List (Int × List (List UInt8) × List (List UInt8) × List UInt8)) → Prop} (ha : RdK 4 encH94 w A_a c_a hs_a) (hn_a : n_a = a.length) (hr_a : RelD de94 w hs_a a) (H : M_smithyref_Actions a K) : Fn Tryz.prog 106 ⟨[.slice A_a n_a c_a]⟩ w (fun v w' => w.grownBy w' none ∧ ∃ (r : List (Int × List (List UInt8) × List (List UInt8) × List UInt8)), ∃ (A_r : Option Addr), ∃ (c_r : Nat), ∃ (hs_r : List (Int × Hdr × Hdr × List UInt8)), v = .slice A_r r.length c_r ∧ OwnK 4 encH94 w' w.heap.size 94 A_r c_r hs_r ∧ RelD de94 w' hs_r r ∧ NewD de94 hs_r r w.heap.size ∧ DnD de94 hs_r r (blk A_r) ∧ K r) := by
  subst hn_a
  unfold M_smithyref_Actions at H
  refine Fn.enter (by kernel_rfl) Tryz.func106 rfl Tryz.ntmps106 rfl ?_
  replace H := H (by rw [← hr_a.1]; exact Nat.le_trans ha.cap ha.max)
  refine WC.seq ?_
  refine WC.region ?_
  refine WL.y rfl (Yld.pure tab_ok rfl) ?_
  refine WL.nil (WX.then_normal ?_)
  refine WC.seq ?_
  refine WC.region ?_
  refine WL.y rfl (Yld.pure tab_ok rfl) ?_
  refine WL.y rfl (Yld.pure tab_ok rfl) ?_
  obtain ⟨h1, H⟩ := H
  refine WL.makeCK (f := encH94) (B := w.heap.size) encH94_ok rfl ow77 rfl rfl h1.1 h1.2.1 h1.2.2 (Nat.le_refl _) (fun g1 w1 hO1 hg1 hl1 => ?_)
  have gr1 := hg1
  have hr1 : RelD de94 w1 ([] : List (Int × Hdr × Hdr × List UInt8)) ([] : List (Int × List (List UInt8) × List (List UInt8) × List UInt8)) := RelD.nil
  refine WL.y rfl (Yld.pure tab_ok rfl) ?_
  refine WL.nil (WX.then_normal ?_)
  refine WC.seq ?_
  refine WC.seq ?_
  refine WC.region ?_
  refine WL.y rfl (Yld.pure tab_ok rfl) ?_
  refine WL.nil (WX.then_normal ?_)
  refine WC.block ?_
  obtain ⟨I1, mu1, h0_1, HR1⟩ := H
  refine WC.loopF (fun n' L' w' => ∃ (out : List (Int × List (List UInt8) × List (List UInt8) × List UInt8)), ∃ (A_out : Option Addr), ∃ (c_out : Nat), ∃ (n_out : Nat), ∃ (hs_out : List (Int × Hdr × Hdr × List UInt8)), ∃ (i : Int), n' = mu1 out i ∧ L' = [(0, .slice A_a a.length c_a), (3, .slice A_out n_out c_out), (4, .int .i64 i)] ∧ I1 out i ∧ n_out = out.length ∧ w.grownBy w' none ∧ OwnK 4 encH94 w' w.heap.size 94 A_out c_out hs_out ∧ RelD de94 w' hs_out out ∧ DnD de94 hs_out out (blk A_out) ∧ NewD de94 hs_out out w.heap.size) _ _ ⟨([] : List (Int × List (List UInt8) × List (List UInt8) × List UInt8)), (some ⟨g1, 0, none⟩), (a.length : Int).toNat, 0, ([] : List (Int × Hdr × Hdr × List UInt8)), (0 : Int), rfl, rfl, h0_1, (rfl.trans hr1.1), gr1, hO1, hr1, (DnD.nil (d := de94)), (NewD.nil (d := de94))⟩ (by repeat (first | exact Sub.nil | refine Sub.cons rfl ?_)) ?_
  clear h0_1
  rintro _ _ w2 ⟨out, A_out, c_out, n_out, hs_out, i, rfl, rfl, hI1, rfl, gr2, k1, k2, dj1, or1⟩
  have H := HR1 out i hI1
  refine WC.seq ?_
  refine WC.seq ?_
  refine WC.region ?_
  refine WL.y rfl (Yld.pure tab_ok rfl) ?_
  refine WL.y rfl (Yld.pure tab_ok rfl) ?_
  refine WL.y rfl (Yld.pure tab_ok rfl) ?_
  refine WL.y rfl (Yld.pure tab_ok rfl) ?_
  refine WL.nil (WX.then_normal ?_)
  refine WC.cond rfl (fun b1 => ?_) (fun b1 => ?_)
  · replace H := H.1 (of_decide_eq_true b1)
    refine WC.skip (WX.then_normal ?_)
    refine WC.seq ?_
    refine WC.block ?_
    refine WC.region ?_
    refine WL.y rfl (Yld.pure tab_ok rfl) ?_
    refine WL.y rfl (Yld.pure tab_ok rfl) ?_
    refine WL.y rfl (Yld.pure tab_ok rfl) ?_
    obtain ⟨h2, H⟩ := H
    refine WL.y rfl (Yld.iaddrK tab_ok (ha.grown gr2) rfl rfl hr_a.1.symm rfl h2.1 h2.2) ?_
    obtain ⟨⟨f1, ⟨A_el, n1, c_el⟩, ⟨A_el2, n2, c_el2⟩, f2⟩, eh1, ⟨en1, ⟨en2, hR1⟩, ⟨en3, hR2⟩, en4⟩⟩ := RelD.at hr_a (0, hd0, hd0, []) (0, [], [], []) (j := i.toNat) (Nat.lt_of_lt_of_eq (iltN h2 hr_a.1.symm) hr_a.1)
    have en1 : f1 = (a.getD i.toNat (0, [], [], [])).1 := en1
    subst en1
    have en2 : n1 = ((a.getD i.toNat (0, [], [], [])).2.1).length := en2
    subst en2
    have en3 : n2 = ((a.getD i.toNat (0, [], [], [])).2.2.1).length := en3
    subst en3
    have en4 : f2 = (a.getD i.toNat (0, [], [], [])).2.2.2 := en4
    subst en4
    refine WL.y rfl (Yld.to (v := .agg ⟨[.int .i64 ((a.getD i.toNat (0, [], [], [])).1), .slice A_el (((a.getD i.toNat (0, [], [], [])).2.1).length) c_el, .slice A_el2 (((a.getD i.toNat (0, [], [], [])).2.2.1).length) c_el2, vs ((a.getD i.toNat (0, [], [], [])).2.2.2)]⟩) (Yld.iloadK (0, hd0, hd0, []) tab_ok (ha.grown gr2) rfl rfl (iltN h2 hr_a.1.symm)) (by rw [eh1]; rfl)) ?_
    refine WL.call rfl rfl (W_smithyref_Action (hR1.grown gr2) rfl (hR2.grown gr2) rfl H) ?_
    rintro _ w3 ⟨hg2, t19_Tool, t19_Args, A_t19_Args, c_t19_Args, t19_Inputs, A_t19_Inputs, c_t19_Inputs, t19_Output, rfl, ht19_Args, ht19_Inputs, H⟩
    have hb1 := ht19_Args.ge'
    have k3 := ht19_Args.base (fun g hg => Nat.le_trans (size_le gr2) (hb1 g hg))
    have hb2 := ht19_Inputs.ge'
    have k4 := ht19_Inputs.base (fun g hg => Nat.le_trans (size_le gr2) (hb2 g hg))
    have gr3 := gr_trans gr2 hg2
    have k5 := k1.grown hg2
    have k6 := k2.grown hg2
    refine WL.litK (f := encH94) ([(t19_Tool, ⟨A_t19_Args, t19_Args.length, c_t19_Args⟩, ⟨A_t19_Inputs, t19_Inputs.length, c_t19_Inputs⟩, t19_Output)] : List (Int × Hdr × Hdr × List UInt8)) encH94_ok rfl ow77 rfl rfl rfl (fun g3 w5 hB2 hg4 hl3 => ?_)
    have hO3 : OwnK 4 encH94 w5 w.heap.size 94 (some ⟨g3, 0, none⟩) 1 ([(t19_Tool, ⟨A_t19_Args, t19_Args.length, c_t19_Args⟩, ⟨A_t19_Inputs, t19_Inputs.length, c_t19_Inputs⟩, t19_Output)] : List (Int × Hdr × Hdr × List UInt8)) := OwnK.ofBl encH94_ok hB2 (Nat.le_trans (size_le gr3) hl3) (by simp [maxLen]) rfl
    have gr4 := gr_trans gr3 hg4
    have k7 := k5.grown hg4
    have k8 := k6.grown hg4
    have k9 := k3.grown hg4
    have k10 := k4.grown hg4
    have hr2 : RelD de94 w5 ([(t19_Tool, ⟨A_t19_Args, t19_Args.length, c_t19_Args⟩, ⟨A_t19_Inputs, t19_Inputs.length, c_t19_Inputs⟩, t19_Output)] : List (Int × Hdr × Hdr × List UInt8)) ([(t19_Tool, t19_Args, t19_Inputs, t19_Output)] : List (Int × List (List UInt8) × List (List UInt8) × List UInt8)) := (RelD.cons ⟨rfl, ⟨rfl, k9.rd⟩, ⟨rfl, k10.rd⟩, rfl⟩ RelD.nil)
    have nd1 : NewD de94 ([(t19_Tool, ⟨A_t19_Args, t19_Args.length, c_t19_Args⟩, ⟨A_t19_Inputs, t19_Inputs.length, c_t19_Inputs⟩, t19_Output)] : List (Int × Hdr × Hdr × List UInt8)) ([(t19_Tool, t19_Args, t19_Inputs, t19_Output)] : List (Int × List (List UInt8) × List (List UInt8) × List UInt8)) w.heap.size := (NewD.cons (d := de94) (fun p_ hp_ => ⟨trivial, (Dn.of (Dj.new hp_ k9.ge').symm), (Dn.of (Dj.new hp_ k10.ge').symm), trivial⟩) NewD.nil)
    have dj2 : DnD de94 ([(t19_Tool, ⟨A_t19_Args, t19_Args.length, c_t19_Args⟩, ⟨A_t19_Inputs, t19_Inputs.length, c_t19_Inputs⟩, t19_Output)] : List (Int × Hdr × Hdr × List UInt8)) ([(t19_Tool, t19_Args, t19_Inputs, t19_Output)] : List (Int × List (List UInt8) × List (List UInt8) × List UInt8)) (blk A_out) := (DnD.cons (d := de94) ⟨trivial, (Dn.of (Dj.new k1.lt' hb1).symm), (Dn.of (Dj.new k1.lt' hb2).symm), trivial⟩ DnD.nil)
    have dj3 : DnD de94 ([(t19_Tool, ⟨A_t19_Args, t19_Args.length, c_t19_Args⟩, ⟨A_t19_Inputs, t19_Inputs.length, c_t19_Inputs⟩, t19_Output)] : List (Int × Hdr × Hdr × List UInt8)) ([(t19_Tool, t19_Args, t19_Inputs, t19_Output)] : List (Int × List (List UInt8) × List (List UInt8) × List UInt8)) (blk (some ⟨g3, 0, none⟩)) := (DnD.cons (d := de94) ⟨trivial, (Dn.of (Dj.new k3.lt' (Ge.box hl3))), (Dn.of (Dj.new k4.lt' (Ge.box hl3))), trivial⟩ DnD.nil)
    obtain ⟨h3, H⟩ := H
    have h4 : ((hs_out : List (Int × Hdr × Hdr × List UInt8)).length + ([(t19_Tool, ⟨A_t19_Args, t19_Args.length, c_t19_Args⟩, ⟨A_t19_Inputs, t19_Inputs.length, c_t19_Inputs⟩, t19_Output)] : List (Int × Hdr × Hdr × List UInt8)).length) * 72 ≤ 140737488355328 := by rw [k8.1, hr2.1]; exact h3
    refine WL.appendK rfl ow77 k7 rfl k2.1.symm hO3.rd rfl rfl h4 (applen h4) (size_le gr4) (fun A_out2 c_out2 w6 hO4 hg5 hk1 => ?_)
    have el1 : (hs_out ++ ([(t19_Tool, ⟨A_t19_Args, t19_Args.length, c_t19_Args⟩, ⟨A_t19_Inputs, t19_Inputs.length, c_t19_Inputs⟩, t19_Output)] : List (Int × Hdr × Hdr × List UInt8))).length = (out ++ ([(t19_Tool, t19_Args, t19_Inputs, t19_Output)] : List (Int × List (List UInt8) × List (List UInt8) × List UInt8))).length := by rw [List.length_append, List.length_append, k8.1, hr2.1]
    rw [el1]
    have gr5 := gr_mod gr4 hg5 k7.ge'
    have k11 := k8.go hg5 dj1
    have k12 := hr2.go hg5 dj2
    have hr3 : RelD de94 w6 (hs_out ++ ([(t19_Tool, ⟨A_t19_Args, t19_Args.length, c_t19_Args⟩, ⟨A_t19_Inputs, t19_Inputs.length, c_t19_Inputs⟩, t19_Output)] : List (Int × Hdr × Hdr × List UInt8))) (out ++ ([(t19_Tool, t19_Args, t19_Inputs, t19_Output)] : List (Int × List (List UInt8) × List (List UInt8) × List UInt8))) := RelD.append k11 k12
    have nd2 : NewD de94 (hs_out ++ ([(t19_Tool, ⟨A_t19_Args, t19_Args.length, c_t19_Args⟩, ⟨A_t19_Inputs, t19_Inputs.length, c_t19_Inputs⟩, t19_Output)] : List (Int × Hdr × Hdr × List UInt8))) (out ++ ([(t19_Tool, t19_Args, t19_Inputs, t19_Output)] : List (Int × List (List UInt8) × List (List UInt8) × List UInt8))) w.heap.size := NewD.append k8.1 or1 nd1
    have dj4 : DnD de94 (hs_out ++ ([(t19_Tool, ⟨A_t19_Args, t19_Args.length, c_t19_Args⟩, ⟨A_t19_Inputs, t19_Inputs.length, c_t19_Inputs⟩, t19_Output)] : List (Int × Hdr × Hdr × List UInt8))) (out ++ ([(t19_Tool, t19_Args, t19_Inputs, t19_Output)] : List (Int × List (List UInt8) × List (List UInt8) × List UInt8))) (blk (some ⟨g3, 0, none⟩)) := (DnD.append k8.1 (k6.new (Ge.box hl3)) dj3)
    have dj5 : DnD de94 (hs_out ++ ([(t19_Tool, ⟨A_t19_Args, t19_Args.length, c_t19_Args⟩, ⟨A_t19_Inputs, t19_Inputs.length, c_t19_Inputs⟩, t19_Output)] : List (Int × Hdr × Hdr × List UInt8))) (out ++ ([(t19_Tool, t19_Args, t19_Inputs, t19_Output)] : List (Int × List (List UInt8) × List (List UInt8) × List UInt8))) (blk A_out2) := (DnD.append k8.1 (RelD.app k8 dj1 hk1) (RelD.app hr2 dj2 hk1))
    refine WL.y rfl (Yld.pure tab_ok rfl) ?_
    refine WL.nil (WX.block_normal (WX.then_normal ?_))
    refine WC.region ?_
    refine WL.y rfl (Yld.pure tab_ok rfl) ?_
    obtain ⟨h5, H⟩ := H
    refine WL.y rfl (Yld.add rfl rfl h5) ?_
    refine WL.y rfl (Yld.pure tab_ok rfl) ?_
    refine WL.nil ?_
    exact WX.roundF _ ⟨out ++ ([(t19_Tool, t19_Args, t19_Inputs, t19_Output)] : List (Int × List (List UInt8) × List (List UInt8) × List UInt8)), A_out2, c_out2, (out ++ ([(t19_Tool, t19_Args, t19_Inputs, t19_Output)] : List (Int × List (List UInt8) × List (List UInt8) × List UInt8))).length, hs_out ++ ([(t19_Tool, ⟨A_t19_Args, t19_Args.length, c_t19_Args⟩, ⟨A_t19_Inputs, t19_Inputs.length, c_t19_Inputs⟩, t19_Output)] : List (Int × Hdr × Hdr × List UInt8)), i + (1 : Int), rfl, rfl, H.1, rfl, gr5, hO4, hr3, dj5, nd2⟩ (by repeat (first | exact Sub.nil | refine Sub.cons rfl ?_)) H.2
  · replace H := H.2 (of_decide_eq_false b1)
    refine WC.exit (WX.then_exit (WX.then_exit (WX.block_same (WX.then_normal ?_))))
    refine WC.seq ?_
    refine WC.region ?_
    refine WL.y rfl (Yld.pure tab_ok rfl) ?_
    refine WL.y rfl (Yld.pure tab_ok rfl) ?_
    refine WL.nil (WX.then_normal ?_)
    refine WC.ret ?_
    exact WX.ret1 rfl rfl ⟨gr2, out, A_out, c_out, hs_out, (by rw [k2.1.symm]), k1, k2, or1, dj1, H⟩

set_option maxHeartbeats 8000000 in
theorem W_smithyref_SameAction {w : World} {a_Tool : Int} {a_Args : List (List UInt8)} {A_a_Args : Option Addr} {c_a_Args : Nat} {a_Inputs : List (List UInt8)} {A_a_Inputs : Option Addr} {c_a_Inputs : Nat} {a_Output : List UInt8} {b_Tool : Int} {b_Args : List (List UInt8)} {A_b_Args : Option Addr} {c_b_Args : Nat} {b_Inputs : List (List UInt8)} {A_b_Inputs : Option Addr} {c_b_Inputs : Nat} {b_Output : List UInt8} {n_a_Args : Nat} {n_a_Inputs : Nat} {n_b_Args : Nat} {n_b_Inputs : Nat} {K : Bool → Prop} (ha_Args : Rd vs w A_a_Args c_a_Args a_Args) (hn_a_Args : n_a_Args = a_Args.length) (ha_Inputs : Rd vs w A_a_Inputs c_a_Inputs a_Inputs) (hn_a_Inputs : n_a_Inputs = a_Inputs.length) (hb_Args : Rd vs w A_b_Args c_b_Args b_Args) (hn_b_Args : n_b_Args = b_Args.length) (hb_Inputs : Rd vs w A_b_Inputs c_b_Inputs b_Inputs) (hn_b_Inputs : n_b_Inputs = b_Inputs.length) (H : M_smithyref_SameAction a_Tool a_Args a_Inputs a_Output b_Tool b_Args b_Inputs b_Output K) : Fn Tryz.prog 48 ⟨[.agg ⟨[.int .i64 a_Tool, .slice A_a_Args n_a_Args c_a_Args, .slice A_a_Inputs n_a_Inputs c_a_Inputs, vs a_Output]⟩, .agg ⟨[.int .i64 b_Tool, .slice A_b_Args n_b_Args c_b_Args, .slice A_b_Inputs n_b_Inputs c_b_Inputs, vs b_Output]⟩]⟩ w (fun v w' => w.grownBy w' none ∧ ∃ (r : Bool), v = .bool r ∧ K r) := by
  subst hn_a_Args
  subst hn_a_Inputs
  subst hn_b_Args
  subst hn_b_Inputs
  unfold M_smithyref_SameAction at H
  refine Fn.enter (by kernel_rfl) Tryz.func48 rfl Tryz.ntmps48 rfl ?_
  replace H := H (Nat.le_trans ha_Args.cap ha_Args.max)
  replace H := H (Nat.le_trans ha_Inputs.cap ha_Inputs.max)
  replace H := H (Nat.le_trans hb_Args.cap hb_Args.max)
  replace H := H (Nat.le_trans hb_Inputs.cap hb_Inputs.max)
  refine WC.seq ?_
  refine WC.region ?_
  refine WL.box (us := [.int .i64 a_Tool, .slice A_a_Args a_Args.length c_a_Args, .slice A_a_Inputs a_Inputs.length c_a_Inputs, vs a_Output]) rfl rfl rfl (fun g1 w1 hB1 hg1 hl1 => ?_)
  have gr1 := hg1
  refine WL.box (us := [.int .i64 b_Tool, .slice A_b_Args b_Args.length c_b_Args, .slice A_b_Inputs b_Inputs.length c_b_Inputs, vs b_Output]) rfl rfl rfl (fun g2 w2 hB2 hg2 hl2 => ?_)
  have gr2 := gr_trans gr1 hg2
  have k1 := hB1.g0 hg2
  refine WL.y rfl (Yld.pure tab_ok rfl) ?_
  refine WL.nil (WX.then_normal ?_)
  refine WC.seq ?_
  refine WC.region ?_
  refine WL.y rfl (Yld.pure tab_ok rfl) ?_
  refine WL.y rfl (Yld.bload tab_ok k1 rfl rfl rfl) ?_
  refine WL.y rfl (Yld.pure tab_ok rfl) ?_
  refine WL.y rfl (Yld.bload tab_ok hB2 rfl rfl rfl) ?_
  refine WL.call rfl rfl (W_smithyref_SameTexts (ha_Args.grown gr2) rfl (hb_Args.grown gr2) rfl H) ?_
  rintro _ _ ⟨rfl, x, rfl, H⟩
  refine WL.y rfl (Yld.pure tab_ok rfl) ?_
  refine WL.nil (WX.then_normal ?_)
  refine WC.seq ?_
  refine WC.region ?_
  refine WL.y rfl (Yld.pure tab_ok rfl) ?_
  refine WL.y rfl (Yld.bload tab_ok k1 rfl rfl rfl) ?_
  refine WL.y rfl (Yld.pure tab_ok rfl) ?_
  refine WL.y rfl (Yld.bload tab_ok hB2 rfl rfl rfl) ?_
  refine WL.call rfl rfl (W_smithyref_SameTexts (ha_Inputs.grown gr2) rfl (hb_Inputs.grown gr2) rfl H) ?_
  rintro _ _ ⟨rfl, y, rfl, H⟩
  refine WL.y rfl (Yld.pure tab_ok rfl) ?_
  refine WL.nil (WX.then_normal ?_)
  refine WC.seq ?_
  refine WC.region ?_
  refine WL.y rfl (Yld.pure tab_ok rfl) ?_
  refine WL.y rfl (Yld.pure tab_ok rfl) ?_
  refine WL.midF 2 (fun L' w' => ∃ q1 : Bool, L' = [(20, .bool q1), (2, .pointer (some ⟨g1, 0, none⟩)), (3, .pointer (some ⟨g2, 0, none⟩))] ∧ (x && y) = q1 ∧ w2 = w') ?_ (fun hQ => ?_)
  · rintro _ _ ⟨q1, rfl, rfl, rfl⟩
    refine WL.y rfl (Yld.pure tab_ok rfl) ?_
    refine WL.midF 6 (fun L' w' => ∃ q2 : Bool, L' = [(27, .bool q2), (2, .pointer (some ⟨g1, 0, none⟩)), (3, .pointer (some ⟨g2, 0, none⟩))] ∧ ((x && y) && (decide (a_Tool = b_Tool))) = q2 ∧ w2 = w') ?_ (fun hQ => ?_)
    · rintro _ _ ⟨q2, rfl, rfl, rfl⟩
      refine WL.y rfl (Yld.pure tab_ok rfl) ?_
      refine WL.midF 6 (fun L' w' => ∃ q3 : Bool, L' = [(34, .bool q3)] ∧ (((x && y) && (decide (a_Tool = b_Tool))) && (decide (a_Output = b_Output))) = q3 ∧ w2 = w') ?_ (fun hQ => ?_)
      · rintro _ _ ⟨q3, rfl, rfl, rfl⟩
        refine WL.y rfl (Yld.pure tab_ok rfl) ?_
        refine WL.nil (WX.then_normal ?_)
        refine WC.ret ?_
        exact WX.ret1 rfl rfl ⟨gr2, ((x && y) && (decide (a_Tool = b_Tool))) && (decide (a_Output = b_Output)), rfl, H⟩
      · clear H
        rcases Bool.eq_false_or_eq_true ((x && y) && (decide (a_Tool = b_Tool))) with b1 | b1
        · refine WL.gyes rfl rfl (okb b1) rfl (Yld.pure tab_ok rfl) ?_
          refine WL.gyes rfl rfl (okb b1) rfl (Yld.bload tab_ok k1 rfl rfl rfl) ?_
          refine WL.gyes rfl rfl (okb b1) rfl (Yld.pure tab_ok rfl) ?_
          refine WL.gyes rfl rfl (okb b1) rfl (Yld.bload tab_ok hB2 rfl rfl rfl) ?_
          refine WL.gyes rfl rfl (okb b1) rfl (Yld.pure tab_ok rfl) ?_
          refine WL.y rfl (Yld.pickT (okb b1) rfl) ?_
          exact WL.weaken (by repeat (first | exact Sub.nil | refine Sub.cons rfl ?_)) (hQ _ _ ⟨decide (a_Output = b_Output), rfl, by rw [b1] <;> rfl, rfl⟩)
        · refine WL.gno rfl rfl (okb b1) rfl ?_
          refine WL.gno rfl rfl (okb b1) rfl ?_
          refine WL.gno rfl rfl (okb b1) rfl ?_
          refine WL.gno rfl rfl (okb b1) rfl ?_
          refine WL.gno rfl rfl (okb b1) rfl ?_
          refine WL.y rfl (Yld.pickF (okb b1) rfl) ?_
          exact WL.weaken (by repeat (first | exact Sub.nil | refine Sub.cons rfl ?_)) (hQ _ _ ⟨false, rfl, by rw [b1] <;> rfl, rfl⟩)
    · clear H
      rcases Bool.eq_false_or_eq_true (x && y) with b2 | b2
      · refine WL.gyes rfl rfl (okb b2) rfl (Yld.pure tab_ok rfl) ?_
        refine WL.gyes rfl rfl (okb b2) rfl (Yld.bload tab_ok k1 rfl rfl rfl) ?_
        refine WL.gyes rfl rfl (okb b2) rfl (Yld.pure tab_ok rfl) ?_
        refine WL.gyes rfl rfl (okb b2) rfl (Yld.bload tab_ok hB2 rfl rfl rfl) ?_
        refine WL.gyes rfl rfl (okb b2) rfl (Yld.pure tab_ok rfl) ?_
        refine WL.y rfl (Yld.pickT (okb b2) rfl) ?_
        exact WL.weaken (by repeat (first | exact Sub.nil | refine Sub.cons rfl ?_)) (hQ _ _ ⟨decide (a_Tool = b_Tool), rfl, by rw [b2] <;> rfl, rfl⟩)
      · refine WL.gno rfl rfl (okb b2) rfl ?_
        refine WL.gno rfl rfl (okb b2) rfl ?_
        refine WL.gno rfl rfl (okb b2) rfl ?_
        refine WL.gno rfl rfl (okb b2) rfl ?_
        refine WL.gno rfl rfl (okb b2) rfl ?_
        refine WL.y rfl (Yld.pickF (okb b2) rfl) ?_
        exact WL.weaken (by repeat (first | exact Sub.nil | refine Sub.cons rfl ?_)) (hQ _ _ ⟨false, rfl, by rw [b2] <;> rfl, rfl⟩)
  · clear H
    rcases Bool.eq_false_or_eq_true (x) with b3 | b3
    · refine WL.gyes rfl rfl (okb b3) rfl (Yld.pure tab_ok rfl) ?_
      refine WL.y rfl (Yld.pickT (okb b3) rfl) ?_
      exact WL.weaken (by repeat (first | exact Sub.nil | refine Sub.cons rfl ?_)) (hQ _ _ ⟨y, rfl, by rw [b3] <;> rfl, rfl⟩)
    · refine WL.gno rfl rfl (okb b3) rfl ?_
      refine WL.y rfl (Yld.pickF (okb b3) rfl) ?_
      exact WL.weaken (by repeat (first | exact Sub.nil | refine Sub.cons rfl ?_)) (hQ _ _ ⟨false, rfl, by rw [b3] <;> rfl, rfl⟩)

set_option maxHeartbeats 8000000 in
theorem W_smithyref_SameActions {w : World} {a : List (Int × List (List UInt8) × List (List UInt8) × List UInt8)} {A_a : Option Addr} {c_a : Nat} {hs_a : List (Int × Hdr × Hdr × List UInt8)} {b : List (Int × List (List UInt8) × List (List UInt8) × List UInt8)} {A_b : Option Addr} {c_b : Nat} {hs_b : List (Int × Hdr × Hdr × List UInt8)} {n_a : Nat} {n_b : Nat} {K : Bool → Prop} (ha : RdK 4 encH94 w A_a c_a hs_a) (hn_a : n_a = a.length) (hr_a : RelD de94 w hs_a a) (hb : RdK 4 encH94 w A_b c_b hs_b) (hn_b : n_b = b.length) (hr_b : RelD de94 w hs_b b) (H : M_smithyref_SameActions a b K) : Fn Tryz.prog 44 ⟨[.slice A_a n_a c_a, .slice A_b n_b c_b]⟩ w (fun v w' => w.grownBy w' none ∧ ∃ (r : Bool), v = .bool r ∧ K r) := by
  subst hn_a
  subst hn_b
  unfold M_smithyref_SameActions at H
  refine Fn.enter (by kernel_rfl) Tryz.func44 rfl Tryz.ntmps44 rfl ?_
  replace H := H (by rw [← hr_a.1]; exact Nat.le_trans ha.cap ha.max)
  replace H := H (by rw [← hr_b.1]; exact Nat.le_trans hb.cap hb.max)
  refine WC.seq ?_
  refine WC.region ?_
  refine WL.y rfl (Yld.pure tab_ok rfl) ?_
  refine WL.nil (WX.then_normal ?_)
  refine WC.seq ?_
  refine WC.seq ?_
  refine WC.region ?_
  refine WL.y rfl (Yld.pure tab_ok rfl) ?_
  refine WL.y rfl (Yld.pure tab_ok rfl) ?_
  refine WL.y rfl (Yld.pure tab_ok rfl) ?_
  refine WL.y rfl (Yld.pure tab_ok rfl) ?_
  refine WL.y rfl (Yld.pure tab_ok rfl) ?_
  refine WL.nil (WX.then_normal ?_)
  refine WC.cond rfl (fun b1 => ?_) (fun b1 => ?_)
  · replace H := H.1 (nd_true b1)
    refine WC.seq ?_
    refine WC.region ?_
    refine WL.y rfl (Yld.pure tab_ok rfl) ?_
    refine WL.nil (WX.then_normal ?_)
    refine WC.ret (WX.then_ret ?_)
    exact WX.ret1 rfl rfl ⟨(gr_refl _ _), false, rfl, H⟩
  · replace H := H.2 (nd_false b1)
    refine WC.skip (WX.then_normal ?_)
    refine WC.seq ?_
    refine WC.seq ?_
    refine WC.region ?_
    refine WL.y rfl (Yld.pure tab_ok rfl) ?_
    refine WL.nil (WX.then_normal ?_)
    refine WC.block ?_
    obtain ⟨I1, mu1, h0_1, HR1⟩ := H
    refine WC.loopF (fun n' L' w' => ∃ (i : Int), n' = mu1 i ∧ L' = [(0, .slice A_a a.length c_a), (1, .slice A_b b.length c_b), (5, .int .i64 i)] ∧ I1 i ∧ w.grownBy w' none) _ _ ⟨(0 : Int), rfl, rfl, h0_1, (gr_refl _ _)⟩ (by repeat (first | exact Sub.nil | refine Sub.cons rfl ?_)) ?_
    clear h0_1
    rintro _ _ w1 ⟨i, rfl, rfl, hI1, gr1⟩
    have H := HR1 i hI1
    refine WC.seq ?_
    refine WC.seq ?_
    refine WC.region ?_
    refine WL.y rfl (Yld.pure tab_ok rfl) ?_
    refine WL.y rfl (Yld.pure tab_ok rfl) ?_
    refine WL.y rfl (Yld.pure tab_ok rfl) ?_
    refine WL.y rfl (Yld.pure tab_ok rfl) ?_
    refine WL.nil (WX.then_normal ?_)
    refine WC.cond rfl (fun b2 => ?_) (fun b2 => ?_)
    · replace H := H.1 (of_decide_eq_true b2)
      refine WC.skip (WX.then_normal ?_)
      refine WC.seq ?_
      refine WC.block ?_
      refine WC.seq ?_
      refine WC.chainF (fun k => !(Nat.beq k 8)) (LD [3, 7] (fun w' => RdK 4 encH94 w' A_a c_a hs_a ∧ RdK 4 encH94 w' A_b c_b hs_b)) mixed (by kernel_rfl) (fun k w' h _ => ⟨(RdK.eqv h (ha.grown gr1)), (RdK.eqv h (hb.grown gr1))⟩) ?_
      refine WJ.y rfl rfl (fun w' hw' => Yld.pure tab_ok rfl) ?_
      refine WJ.y rfl rfl (fun w' hw' => Yld.pure tab_ok rfl) ?_
      obtain ⟨h1, H⟩ := H
      refine WJ.y rfl rfl (fun w' hw' => Yld.iaddrK tab_ok (ha.grown gr1) rfl rfl hr_a.1.symm rfl h1.1 h1.2) ?_
      obtain ⟨⟨f1, ⟨A_el, n1, c_el⟩, ⟨A_el2, n2, c_el2⟩, f2⟩, eh1, ⟨en1, ⟨en2, hR1⟩, ⟨en3, hR2⟩, en4⟩⟩ := RelD.at hr_a (0, hd0, hd0, []) (0, [], [], []) (j := i.toNat) (Nat.lt_of_lt_of_eq (iltN h1 hr_a.1.symm) hr_a.1)
      have en1 : f1 = (a.getD i.toNat (0, [], [], [])).1 := en1
      subst en1
      have en2 : n1 = ((a.getD i.toNat (0, [], [], [])).2.1).length := en2
      subst en2
      have en3 : n2 = ((a.getD i.toNat (0, [], [], [])).2.2.1).length := en3
      subst en3
      have en4 : f2 = (a.getD i.toNat (0, [], [], [])).2.2.2 := en4
      subst en4
      refine WJ.y rfl rfl (fun w' hw' => Yld.to (v := .agg ⟨[.int .i64 ((a.getD i.toNat (0, [], [], [])).1), .slice A_el (((a.getD i.toNat (0, [], [], [])).2.1).length) c_el, .slice A_el2 (((a.getD i.toNat (0, [], [], [])).2.2.1).length) c_el2, vs ((a.getD i.toNat (0, [], [], [])).2.2.2)]⟩) (Yld.iloadK (0, hd0, hd0, []) tab_ok (hw' rfl).1 rfl rfl (iltN h1 hr_a.1.symm)) (by rw [eh1]; rfl)) ?_
      refine WJ.y rfl rfl (fun w' hw' => Yld.pure tab_ok rfl) ?_
      refine WJ.y rfl rfl (fun w' hw' => Yld.pure tab_ok rfl) ?_
      obtain ⟨h2, H⟩ := H
      refine WJ.y rfl rfl (fun w' hw' => Yld.iaddrK tab_ok (hb.grown gr1) rfl rfl hr_b.1.symm rfl h2.1 h2.2) ?_
      obtain ⟨⟨f3, ⟨A_el3, n3, c_el3⟩, ⟨A_el4, n4, c_el4⟩, f4⟩, eh2, ⟨en5, ⟨en6, hR3⟩, ⟨en7, hR4⟩, en8⟩⟩ := RelD.at hr_b (0, hd0, hd0, []) (0, [], [], []) (j := i.toNat) (Nat.lt_of_lt_of_eq (iltN h2 hr_b.1.symm) hr_b.1)
      have en5 : f3 = (b.getD i.toNat (0, [], [], [])).1 := en5
      subst en5
      have en6 : n3 = ((b.getD i.toNat (0, [], [], [])).2.1).length := en6
      subst en6
      have en7 : n4 = ((b.getD i.toNat (0, [], [], [])).2.2.1).length := en7
      subst en7
      have en8 : f4 = (b.getD i.toNat (0, [], [], [])).2.2.2 := en8
      subst en8
      refine WJ.y rfl rfl (fun w' hw' => Yld.to (v := .agg ⟨[.int .i64 ((b.getD i.toNat (0, [], [], [])).1), .slice A_el3 (((b.getD i.toNat (0, [], [], [])).2.1).length) c_el3, .slice A_el4 (((b.getD i.toNat (0, [], [], [])).2.2.1).length) c_el4, vs ((b.getD i.toNat (0, [], [], [])).2.2.2)]⟩) (Yld.iloadK (0, hd0, hd0, []) tab_ok (hw' rfl).2 rfl rfl (iltN h2 hr_b.1.symm)) (by rw [eh2]; rfl)) ?_
      refine WJ.call rfl (wants_none) rfl rfl (W_smithyref_SameAction (hR1.grown gr1) rfl (hR2.grown gr1) rfl (hR3.grown gr1) rfl (hR4.grown gr1) rfl H) (fun v w' h w2 e => DD.keep (⟨(RdK.grown (ha.grown gr1) (gr_eqv h.1 e)), (RdK.grown (hb.grown gr1) (gr_eqv h.1 e))⟩)) ?_
      rintro _ w2 ⟨hg1, same, rfl, H⟩
      have gr2 := gr_trans gr1 hg1
      refine WJ.y rfl rfl (fun w' hw' => Yld.pure tab_ok rfl) ?_
      refine WJ.nil (WX.then_normal ?_)
      refine WC.seq ?_
      refine WC.region ?_
      refine WL.y rfl (Yld.pure tab_ok rfl) ?_
      refine WL.y rfl (Yld.pure tab_ok rfl) ?_
      refine WL.nil (WX.then_normal ?_)
      refine WC.cond rfl (fun b3 => ?_) (fun b3 => ?_)
      · replace H := H.1 (b3)
        refine WC.seq ?_
        refine WC.region ?_
        refine WL.y rfl (Yld.pure tab_ok rfl) ?_
        refine WL.nil (WX.then_normal ?_)
        refine WC.ret (WX.block_ret (WX.then_ret (WX.then_ret (WX.block_ret (WX.then_ret ?_)))))
        exact WX.ret1 rfl rfl ⟨gr2, false, rfl, H⟩
      · replace H := H.2 (b3)
        refine WC.skip (WX.block_normal (WX.then_normal ?_))
        refine WC.region ?_
        refine WL.y rfl (Yld.pure tab_ok rfl) ?_
        obtain ⟨h3, H⟩ := H
        refine WL.y rfl (Yld.add rfl rfl h3) ?_
        refine WL.y rfl (Yld.pure tab_ok rfl) ?_
        refine WL.nil ?_
        exact WX.roundF _ ⟨i + (1 : Int), rfl, rfl, H.1, gr2⟩ (by repeat (first | exact Sub.nil | refine Sub.cons rfl ?_)) H.2
    · replace H := H.2 (of_decide_eq_false b2)
      refine WC.exit (WX.then_exit (WX.then_exit (WX.block_same (WX.then_normal ?_))))
      refine WC.seq ?_
      refine WC.region ?_
      refine WL.y rfl (Yld.pure tab_ok rfl) ?_
      refine WL.nil (WX.then_normal ?_)
      refine WC.ret ?_
      exact WX.ret1 rfl rfl ⟨gr1, true, rfl, H⟩

set_option maxHeartbeats 8000000 in
theorem W_smithyworld_Actions {w : World} {l : List (Int × List (List UInt8) × List (List UInt8) × List UInt8)} {A_l : Option Addr} {c_l : Nat} {hs_l : List (Int × Hdr × Hdr × List UInt8)} {n_l : Nat} {K : Bool → Prop} (hl : RdK 4 encH94 w A_l c_l hs_l) (hn_l : n_l = l.length) (hr_l : RelD de94 w hs_l l) (H : M_smithyworld_Actions l K) : Fn Tryz.prog 39 ⟨[.slice A_l n_l c_l]⟩ w (fun v w' => w = w' ∧ ∃ (r : Bool), v = .bool r ∧ K r) := by
  subst hn_l
  unfold M_smithyworld_Actions at H
  refine Fn.enter (by kernel_rfl) Tryz.func39 rfl Tryz.ntmps39 rfl ?_
  replace H := H (by rw [← hr_l.1]; exact Nat.le_trans hl.cap hl.max)
  refine WC.seq ?_
  refine WC.region ?_
  refine WL.y rfl (Yld.pure tab_ok rfl) ?_
  refine WL.nil (WX.then_normal ?_)
  refine WC.seq ?_
  refine WC.seq ?_
  refine WC.region ?_
  refine WL.y rfl (Yld.pure tab_ok rfl) ?_
  refine WL.y rfl (Yld.pure tab_ok rfl) ?_
  refine WL.y rfl (Yld.pure tab_ok rfl) ?_
  refine WL.nil (WX.then_normal ?_)
  refine WC.cond rfl (fun b1 => ?_) (fun b1 => ?_)
  · replace H := H.1 (of_decide_eq_true b1)
    refine WC.seq ?_
    refine WC.region ?_
    refine WL.y rfl (Yld.pure tab_ok rfl) ?_
    refine WL.nil (WX.then_normal ?_)
    refine WC.ret (WX.then_ret ?_)
    exact WX.ret1 rfl rfl ⟨rfl, false, rfl, H⟩
  · replace H := H.2 (of_decide_eq_false b1)
    refine WC.skip (WX.then_normal ?_)
    refine WC.seq ?_
    refine WC.seq ?_
    refine WC.region ?_
    refine WL.y rfl (Yld.pure tab_ok rfl) ?_
    refine WL.nil (WX.then_normal ?_)
    refine WC.block ?_
    obtain ⟨I1, mu1, h0_1, HR1⟩ := H
    refine WC.loopF (fun n' L' w' => ∃ (i : Int), n' = mu1 i ∧ L' = [(0, .slice A_l l.length c_l), (3, .int .i64 i)] ∧ I1 i ∧ w = w') _ _ ⟨(0 : Int), rfl, rfl, h0_1, rfl⟩ (by repeat (first | exact Sub.nil | refine Sub.cons rfl ?_)) ?_
    clear h0_1
    rintro _ _ _ ⟨i, rfl, rfl, hI1, rfl⟩
    have H := HR1 i hI1
    refine WC.seq ?_
    refine WC.seq ?_
    refine WC.region ?_
    refine WL.y rfl (Yld.pure tab_ok rfl) ?_
    refine WL.y rfl (Yld.pure tab_ok rfl) ?_
    refine WL.y rfl (Yld.pure tab_ok rfl) ?_
    refine WL.y rfl (Yld.pure tab_ok rfl) ?_
    refine WL.nil (WX.then_normal ?_)
    refine WC.cond rfl (fun b2 => ?_) (fun b2 => ?_)
    · replace H := H.1 (of_decide_eq_true b2)
      refine WC.skip (WX.then_normal ?_)
      refine WC.seq ?_
      refine WC.block ?_
      refine WC.seq ?_
      refine WC.region ?_
      refine WL.y rfl (Yld.pure tab_ok rfl) ?_
      refine WL.y rfl (Yld.pure tab_ok rfl) ?_
      obtain ⟨h1, H⟩ := H
      refine WL.y rfl (Yld.iaddrK tab_ok hl rfl rfl hr_l.1.symm rfl h1.1 h1.2) ?_
      refine WL.y rfl (Yld.faddrK tab_ok hl (iltN h1 hr_l.1.symm) rfl rfl rfl) ?_
      obtain ⟨⟨f1, ⟨A_el, n1, c_el⟩, ⟨A_el2, n2, c_el2⟩, f2⟩, eh1, ⟨en1, ⟨en2, hR1⟩, ⟨en3, hR2⟩, en4⟩⟩ := RelD.at hr_l (0, hd0, hd0, []) (0, [], [], []) (j := i.toNat) (Nat.lt_of_lt_of_eq (iltN h1 hr_l.1.symm) hr_l.1)
      have en1 : f1 = (l.getD i.toNat (0, [], [], [])).1 := en1
      subst en1
      have en2 : n1 = ((l.getD i.toNat (0, [], [], [])).2.1).length := en2
      subst en2
      have en3 : n2 = ((l.getD i.toNat (0, [], [], [])).2.2.1).length := en3
      subst en3
      have en4 : f2 = (l.getD i.toNat (0, [], [], [])).2.2.2 := en4
      subst en4
      refine WL.y rfl (Yld.iloadF (v := .slice A_el (((l.getD i.toNat (0, [], [], [])).2.1).length) c_el) (0, hd0, hd0, []) tab_ok hl rfl rfl (iltN h1 hr_l.1.symm) (by rw [eh1]; rfl)) ?_
      refine WL.call rfl rfl (W_smithyworld_Texts hR1 rfl H) ?_
      rintro _ _ ⟨rfl, t18, rfl, H⟩
      refine WL.y rfl (Yld.pure tab_ok rfl) ?_
      refine WL.y rfl (Yld.pure tab_ok rfl) ?_
      obtain ⟨J1, H, hJ1⟩ := H
      refine WL.midF 8 (fun L' w' => ∃ q1 : Bool, L' = [(28, .bool q1), (0, .slice A_l l.length c_l), (3, .int .i64 i)] ∧ J1 q1 ∧ w = w') ?_ (fun hQ => ?_)
      · clear H
        rintro _ _ ⟨q1, rfl, H, rfl⟩
        replace H := hJ1 q1 H
        refine WL.y rfl (Yld.pure tab_ok rfl) ?_
        obtain ⟨h2, H⟩ := H
        refine WL.midF 8 (fun L' w' => ∃ q2 : Bool, L' = [(37, .bool q2), (0, .slice A_l l.length c_l), (3, .int .i64 i)] ∧ (q1 || (decide ((250 : Int) < (((l.getD i.toNat (0, [], [], [])).2.2.2).length : Int)))) = q2 ∧ w = w') ?_ (fun hQ => ?_)
        · rintro _ _ ⟨q2, rfl, rfl, rfl⟩
          refine WL.nil (WX.then_normal ?_)
          refine WC.cond rfl (fun b3 => ?_) (fun b3 => ?_)
          · replace H := H.1 (b3)
            refine WC.seq ?_
            refine WC.region ?_
            refine WL.y rfl (Yld.pure tab_ok rfl) ?_
            refine WL.nil (WX.then_normal ?_)
            refine WC.ret (WX.block_ret (WX.then_ret (WX.then_ret (WX.block_ret (WX.then_ret ?_)))))
            exact WX.ret1 rfl rfl ⟨rfl, false, rfl, H⟩
          · replace H := H.2 (b3)
            refine WC.skip (WX.block_normal (WX.then_normal ?_))
            refine WC.region ?_
            refine WL.y rfl (Yld.pure tab_ok rfl) ?_
            obtain ⟨h3, H⟩ := H
            refine WL.y rfl (Yld.add rfl rfl h3) ?_
            refine WL.y rfl (Yld.pure tab_ok rfl) ?_
            refine WL.nil ?_
            exact WX.roundF _ ⟨i + (1 : Int), rfl, rfl, H.1, rfl⟩ (by repeat (first | exact Sub.nil | refine Sub.cons rfl ?_)) H.2
        · clear H
          rcases Bool.eq_false_or_eq_true (q1) with b4 | b4
          · refine WL.gno rfl rfl (okb b4) rfl ?_
            refine WL.gno rfl rfl (okb b4) rfl ?_
            refine WL.gno rfl rfl (okb b4) rfl ?_
            refine WL.gno rfl rfl (okb b4) rfl ?_
            refine WL.gno rfl rfl (okb b4) rfl ?_
            refine WL.gno rfl rfl (okb b4) rfl ?_
            refine WL.gno rfl rfl (okb b4) rfl ?_
            refine WL.y rfl (Yld.pickT (okb b4) rfl) ?_
            exact WL.weaken (by repeat (first | exact Sub.nil | refine Sub.cons rfl ?_)) (hQ _ _ ⟨true, rfl, by rw [b4] <;> rfl, rfl⟩)
          · refine WL.gyes rfl rfl (okb b4) rfl (Yld.pure tab_ok rfl) ?_
            refine WL.gyes rfl rfl (okb b4) rfl (Yld.pure tab_ok rfl) ?_
            refine WL.gyes rfl rfl (okb b4) rfl (Yld.iaddrK tab_ok hl rfl rfl hr_l.1.symm rfl (h2 b4).1 (h2 b4).2) ?_
            refine WL.gyes rfl rfl (okb b4) rfl (Yld.faddrK tab_ok hl (iltN (h2 b4) hr_l.1.symm) rfl rfl rfl) ?_
            refine WL.gyes rfl rfl (okb b4) rfl (Yld.iloadF (v := vs ((l.getD i.toNat (0, [], [], [])).2.2.2)) (0, hd0, hd0, []) tab_ok hl rfl rfl (iltN (h2 b4) hr_l.1.symm) (by rw [eh1]; rfl)) ?_
            refine WL.gyes rfl rfl (okb b4) rfl (Yld.pure tab_ok rfl) ?_
            refine WL.gyes rfl rfl (okb b4) rfl (Yld.pure tab_ok rfl) ?_
            refine WL.y rfl (Yld.pickF (okb b4) rfl) ?_
            exact WL.weaken (by repeat (first | exact Sub.nil | refine Sub.cons rfl ?_)) (hQ _ _ ⟨decide ((250 : Int) < (((l.getD i.toNat (0, [], [], [])).2.2.2).length : Int)), rfl, by rw [b4] <;> rfl, rfl⟩)
      · clear hJ1
        rcases Bool.eq_false_or_eq_true (!t18) with b5 | b5
        · replace H := H.1 b5
          refine WL.gno rfl rfl (okb b5) rfl ?_
          refine WL.gno rfl rfl (okb b5) rfl ?_
          refine WL.gno rfl rfl (okb b5) rfl ?_
          refine WL.gno rfl rfl (okb b5) rfl ?_
          refine WL.gno rfl rfl (okb b5) rfl ?_
          refine WL.gno rfl rfl (okb b5) rfl ?_
          refine WL.gno rfl rfl (okb b5) rfl ?_
          refine WL.y rfl (Yld.pickT (okb b5) rfl) ?_
          exact WL.weaken (by repeat (first | exact Sub.nil | refine Sub.cons rfl ?_)) (hQ _ _ ⟨true, rfl, H, rfl⟩)
        · replace H := H.2 b5
          refine WL.gyes rfl rfl (okb b5) rfl (Yld.pure tab_ok rfl) ?_
          refine WL.gyes rfl rfl (okb b5) rfl (Yld.pure tab_ok rfl) ?_
          obtain ⟨h4, H⟩ := H
          refine WL.gyes rfl rfl (okb b5) rfl (Yld.iaddrK tab_ok hl rfl rfl hr_l.1.symm rfl h4.1 h4.2) ?_
          refine WL.gyes rfl rfl (okb b5) rfl (Yld.faddrK tab_ok hl (iltN h4 hr_l.1.symm) rfl rfl rfl) ?_
          refine WL.gyes rfl rfl (okb b5) rfl (Yld.iloadF (v := .slice A_el2 (((l.getD i.toNat (0, [], [], [])).2.2.1).length) c_el2) (0, hd0, hd0, []) tab_ok hl rfl rfl (iltN h4 hr_l.1.symm) (by rw [eh1]; rfl)) ?_
          refine WL.callw (wants_some rfl rfl (okb b5)) rfl rfl (W_smithyworld_Texts hR2 rfl H) ?_
          rintro _ _ ⟨rfl, t26, rfl, H⟩
          refine WL.gyes rfl rfl (okb b5) rfl (Yld.pure tab_ok rfl) ?_
          refine WL.y rfl (Yld.pickF (okb b5) rfl) ?_
          exact WL.weaken (by repeat (first | exact Sub.nil | refine Sub.cons rfl ?_)) (hQ _ _ ⟨!t26, rfl, H, rfl⟩)
    · replace H := H.2 (of_decide_eq_false b2)
      refine WC.exit (WX.then_exit (WX.then_exit (WX.block_same (WX.then_normal ?_))))
      refine WC.seq ?_
      refine WC.region ?_
      refine WL.y rfl (Yld.pure tab_ok rfl) ?_
      refine WL.nil (WX.then_normal ?_)
      refine WC.ret ?_
      exact WX.ret1 rfl rfl ⟨rfl, true, rfl, H⟩

end Go.Proofs.YtlonpmajnglmoaaGreatDoor

 /- Printed by a program (wip/vg): what the functions mean, plainly, and their walks. -/
namespace Go.Proofs.YtlonpmajnglmoaaGreatDoor
open Go Go.RowKit
attribute [local irreducible] WL WC WX WQ WK WJ Yld Eff Ef0 Fn
def M_psmithyref17_Graph_Maker (g_L : List (Int × List (List UInt8) × List (List UInt8) × List UInt8)) (p : List UInt8) (K : Int → Prop) : Prop :=
 (g_L.length ≤ maxLen →
 Lp1 (fun (i : Int) kont1 => ((i < (g_L.length : Int) → (0 ≤ i ∧ i < (g_L.length : Nat)) ∧
 ((((g_L.getD i.toNat (0, [], [], [])).2.2.2) = p → K i) ∧
 (¬ (((g_L.getD i.toNat (0, [], [], [])).2.2.2) = p) → (In .i64 (i + (1 : Int))) ∧
 kont1 (i + (1 : Int))))) ∧
 (¬ (i < (g_L.length : Int)) → K (-1 : Int)))) (0 : Int))

def M_psmithyref17_Graph_Before (g_L : List (Int × List (List UInt8) × List (List UInt8) × List UInt8)) (i : Int) (K : (List Int) → Prop) : Prop :=
 (g_L.length ≤ maxLen →
 ((((decide (i < (0 : Int))) || (decide ((g_L.length : Int) ≤ i))) = true → K []) ∧
 (((decide (i < (0 : Int))) || (decide ((g_L.length : Int) ≤ i))) = false → Lp2 (fun (l : List Int) (k : Int) kont1 => (0 ≤ i ∧ i < (g_L.length : Nat)) ∧
 ((k < (((g_L.getD i.toNat (0, [], [], [])).2.2.1).length : Int) → ∃ J1 : (List Int) → Prop, ((0 ≤ i ∧ i < (g_L.length : Nat)) ∧
 (0 ≤ k ∧ k < (((g_L.getD i.toNat (0, [], [], [])).2.2.1).length : Nat)) ∧
 M_psmithyref17_Graph_Maker g_L (((g_L.getD i.toNat (0, [], [], [])).2.2.1).getD k.toNat []) (fun (m : Int) =>
 (((0 : Int) ≤ m → ((l.length + (([m] : List Int)).length) * 8 ≤ 140737488355328) ∧
 J1 (l ++ ([m] : List Int))) ∧
 (¬ ((0 : Int) ≤ m) → J1 l)))) ∧
 (∀ l2 : List Int, J1 l2 → (In .i64 (k + (1 : Int))) ∧
 kont1 l2 (k + (1 : Int)))) ∧
 (¬ (k < (((g_L.getD i.toNat (0, [], [], [])).2.2.1).length : Int)) → M_smithyref_Sorted l (fun (t4 : List Int) =>
 K t4)))) [] (0 : Int))))

def M_psmithyref17_Graph_After (g_L : List (Int × List (List UInt8) × List (List UInt8) × List UInt8)) (i : Int) (K : (List Int) → Prop) : Prop :=
 (g_L.length ≤ maxLen →
 Lp2 (fun (l : List Int) (k : Int) kont1 => (((((decide (k < (g_L.length : Int))) && (decide ((0 : Int) ≤ i))) && (decide (i < (g_L.length : Int)))) = true → ∃ J1 : (List Int) → Prop, (M_psmithyref17_Graph_Before g_L k (fun (t31 : List Int) =>
 M_smithyref_Among t31 i (fun (t33 : Bool) =>
 ((t33 = true → ((l.length + (([k] : List Int)).length) * 8 ≤ 140737488355328) ∧
 J1 (l ++ ([k] : List Int))) ∧
 (t33 = false → J1 l))))) ∧
 (∀ l2 : List Int, J1 l2 → (In .i64 (k + (1 : Int))) ∧
 kont1 l2 (k + (1 : Int)))) ∧
 ((((decide (k < (g_L.length : Int))) && (decide ((0 : Int) ≤ i))) && (decide (i < (g_L.length : Int)))) = false → K l))) [] (0 : Int))

def M_psmithyref17_Graph_reach (g_L : List (Int × List (List UInt8) × List (List UInt8) × List UInt8)) (l : List Int) (K : (List Int) → Prop) : Prop :=
 (g_L.length ≤ maxLen →
 (l.length ≤ maxLen →
 (0 ≤ (g_L.length : Int) ∧ (g_L.length : Int) * 1 ≤ 140737488355328 ∧ (g_L.length : Int) ≤ 140737488355328) ∧
 Lp2 (fun (l2 : List Int) (seen : List Bool) kont1 => (g_L.length : Int).toNat = seen.length → (((0 : Int) < (l2.length : Int) → (In .i64 ((l2.length : Int) - (1 : Int))) ∧
 (0 ≤ (l2.length : Int) - (1 : Int) ∧ (l2.length : Int) - (1 : Int) < (l2.length : Nat)) ∧
 (In .i64 ((l2.length : Int) - (1 : Int))) ∧
 (0 ≤ (l2.length : Int) - (1 : Int) ∧ (l2.length : Int) - (1 : Int) ≤ (l2.length : Nat)) ∧
 (0 ≤ l2.getD (((l2.length : Int) - (1 : Int)).toNat) 0 ∧ l2.getD (((l2.length : Int) - (1 : Int)).toNat) 0 < ((g_L.length : Int).toNat : Nat)) ∧
 (((seen.getD ((l2.getD (((l2.length : Int) - (1 : Int)).toNat) 0).toNat) false) = true → kont1 (l2.take ((l2.length : Int) - (1 : Int)).toNat) seen) ∧
 ((seen.getD ((l2.getD (((l2.length : Int) - (1 : Int)).toNat) 0).toNat) false) = false → (0 ≤ l2.getD (((l2.length : Int) - (1 : Int)).toNat) 0 ∧ l2.getD (((l2.length : Int) - (1 : Int)).toNat) 0 < ((g_L.length : Int).toNat : Nat)) ∧
 M_psmithyref17_Graph_Before g_L (l2.getD (((l2.length : Int) - (1 : Int)).toNat) 0) (fun (t39 : List Int) =>
 (((l2.take ((l2.length : Int) - (1 : Int)).toNat).length + t39.length) * 8 ≤ 140737488355328) ∧
 kont1 ((l2.take ((l2.length : Int) - (1 : Int)).toNat) ++ t39) (seen.set ((l2.getD (((l2.length : Int) - (1 : Int)).toNat) 0).toNat) true))))) ∧
 (¬ ((0 : Int) < (l2.length : Int)) → Lp2 (fun (out : List Int) (i : Int) kont2 => ((i < ((g_L.length : Int).toNat : Int) → ∃ J1 : (List Int) → Prop, ((0 ≤ i ∧ i < ((g_L.length : Int).toNat : Nat)) ∧
 (((seen.getD i.toNat false) = true → ((out.length + (([i] : List Int)).length) * 8 ≤ 140737488355328) ∧
 J1 (out ++ ([i] : List Int))) ∧
 ((seen.getD i.toNat false) = false → J1 out))) ∧
 (∀ out2 : List Int, J1 out2 → (In .i64 (i + (1 : Int))) ∧
 kont2 out2 (i + (1 : Int)))) ∧
 (¬ (i < ((g_L.length : Int).toNat : Int)) → K out))) [] (0 : Int)))) l (List.replicate (g_L.length : Int).toNat false)))

def M_psmithyref17_Graph_Order (g_L : List (Int × List (List UInt8) × List (List UInt8) × List UInt8)) (K : (List Int) → Prop) : Prop :=
 (g_L.length ≤ maxLen →
 Lp1 (fun (out : List Int) kont1 => (((out.length : Int) < (g_L.length : Int) → Lp2 (fun (best : Int) (i : Int) kont2 => ((((decide (i < (g_L.length : Int))) && (decide (best < (0 : Int)))) = true → ∃ J1 : Int → Prop, (M_smithyref_Among out i (fun (t32 : Bool) =>
 ((t32 = true → J1 best) ∧
 (t32 = false → M_psmithyref17_Graph_Before g_L i (fun (b : List Int) =>
 Lp2 (fun (free : Bool) (k : Int) kont3 => ((k < (b.length : Int) → ∃ J2 : Bool → Prop, (((free = true → (0 ≤ k ∧ k < (b.length : Nat)) ∧
 M_smithyref_Among out (b.getD k.toNat 0) (fun (t49 : Bool) =>
 J2 t49)) ∧
 (free = false → J2 false))) ∧
 (∀ q2 : Bool, J2 q2 → (In .i64 (k + (1 : Int))) ∧
 kont3 q2 (k + (1 : Int)))) ∧
 (¬ (k < (b.length : Int)) → ((free = true → J1 i) ∧
 (free = false → J1 best))))) true (0 : Int)))))) ∧
 (∀ best2 : Int, J1 best2 → (In .i64 (i + (1 : Int))) ∧
 kont2 best2 (i + (1 : Int)))) ∧
 (((decide (i < (g_L.length : Int))) && (decide (best < (0 : Int)))) = false → ((best < (0 : Int) → K out) ∧
 (¬ (best < (0 : Int)) → ((out.length + (([best] : List Int)).length) * 8 ≤ 140737488355328) ∧
 kont1 (out ++ ([best] : List Int))))))) (-1 : Int) (0 : Int)) ∧
 (¬ ((out.length : Int) < (g_L.length : Int)) → K out))) [])

def M_psmithyref17_Graph_Needs (g_L : List (Int × List (List UInt8) × List (List UInt8) × List UInt8)) (outputs : List (List UInt8)) (K : (List Int) → Prop) : Prop :=
 (g_L.length ≤ maxLen →
 (outputs.length ≤ maxLen →
 Lp2 (fun (l : List Int) (i : Int) kont1 => ((i < (outputs.length : Int) → ∃ J1 : (List Int) → Prop, ((0 ≤ i ∧ i < (outputs.length : Nat)) ∧
 M_psmithyref17_Graph_Maker g_L (outputs.getD i.toNat []) (fun (m : Int) =>
 (((0 : Int) ≤ m → ((l.length + (([m] : List Int)).length) * 8 ≤ 140737488355328) ∧
 J1 (l ++ ([m] : List Int))) ∧
 (¬ ((0 : Int) ≤ m) → J1 l)))) ∧
 (∀ l2 : List Int, J1 l2 → (In .i64 (i + (1 : Int))) ∧
 kont1 l2 (i + (1 : Int)))) ∧
 (¬ (i < (outputs.length : Int)) → M_psmithyref17_Graph_reach g_L l (fun (t4 : List Int) =>
 K t4)))) [] (0 : Int)))

def M_psmithyref17_Graph_Sources (g_L : List (Int × List (List UInt8) × List (List UInt8) × List UInt8)) (K : (List (List UInt8)) → Prop) : Prop :=
 (g_L.length ≤ maxLen →
 Lp2 (fun (out : List (List UInt8)) (i : Int) kont1 => ((i < (g_L.length : Int) → Lp2 (fun (out2 : List (List UInt8)) (k : Int) kont2 => (0 ≤ i ∧ i < (g_L.length : Nat)) ∧
 ((k < (((g_L.getD i.toNat (0, [], [], [])).2.2.1).length : Int) → ∃ J1 : (List (List UInt8)) → Prop, ((0 ≤ i ∧ i < (g_L.length : Nat)) ∧
 (0 ≤ k ∧ k < (((g_L.getD i.toNat (0, [], [], [])).2.2.1).length : Nat)) ∧
 M_psmithyref17_Graph_Maker g_L (((g_L.getD i.toNat (0, [], [], [])).2.2.1).getD k.toNat []) (fun (t40 : Int) =>
 ((t40 < (0 : Int) → (0 ≤ i ∧ i < (g_L.length : Nat)) ∧
 (0 ≤ k ∧ k < (((g_L.getD i.toNat (0, [], [], [])).2.2.1).length : Nat)) ∧
 ((out2.length + (([((g_L.getD i.toNat (0, [], [], [])).2.2.1).getD k.toNat []] : List (List UInt8))).length) * 16 ≤ 140737488355328) ∧
 J1 (out2 ++ ([((g_L.getD i.toNat (0, [], [], [])).2.2.1).getD k.toNat []] : List (List UInt8)))) ∧
 (¬ (t40 < (0 : Int)) → J1 out2)))) ∧
 (∀ out3 : List (List UInt8), J1 out3 → (In .i64 (k + (1 : Int))) ∧
 kont2 out3 (k + (1 : Int)))) ∧
 (¬ (k < (((g_L.getD i.toNat (0, [], [], [])).2.2.1).length : Int)) → (In .i64 (i + (1 : Int))) ∧
 kont1 out2 (i + (1 : Int))))) out (0 : Int)) ∧
 (¬ (i < (g_L.length : Int)) → M_smithyref_SortedTexts out (fun (t2 : List (List UInt8)) =>
 K t2)))) [] (0 : Int))

def M_smithyref17_NewGraph (l : List (Int × List (List UInt8) × List (List UInt8) × List UInt8)) (K0 : Int → Bool → Int → Bool → (List UInt8) → Prop) (K : (List (Int × List (List UInt8) × List (List UInt8) × List UInt8)) → Int → Bool → Int → Bool → (List UInt8) → Prop) : Prop :=
 (l.length ≤ maxLen →
 (((1000 : Int) < (l.length : Int) → M_smithyref_Bare (110 : Int) (fun (t15_Code : Int) (t15_Placed : Bool) (t15_Pos : Int) (t15_Filed : Bool) (t15_File : List UInt8) =>
 K0 t15_Code t15_Placed t15_Pos t15_Filed t15_File)) ∧
 (¬ ((1000 : Int) < (l.length : Int)) → Lp6 (fun (i : Int) (t30 : Int) (t31 : Bool) (t32 : Int) (t33 : Bool) (t34 : List UInt8) kont1 => ((i < (l.length : Int) → (0 ≤ i ∧ i < (l.length : Nat)) ∧
 ((decide ((1000 : Int) < (((l.getD i.toNat (0, [], [], [])).2.2.1).length : Int))) = false → (0 ≤ i ∧ i < (l.length : Nat))) ∧
 ((((decide ((1000 : Int) < (((l.getD i.toNat (0, [], [], [])).2.2.1).length : Int))) || (decide ((1000 : Int) < (((l.getD i.toNat (0, [], [], [])).2.1).length : Int)))) = true → M_smithyref_Bare (110 : Int) (fun (t38_Code : Int) (t38_Placed : Bool) (t38_Pos : Int) (t38_Filed : Bool) (t38_File : List UInt8) =>
 K0 t38_Code t38_Placed t38_Pos t38_Filed t38_File)) ∧
 (((decide ((1000 : Int) < (((l.getD i.toNat (0, [], [], [])).2.2.1).length : Int))) || (decide ((1000 : Int) < (((l.getD i.toNat (0, [], [], [])).2.1).length : Int)))) = false → (In .i64 (i + (1 : Int))) ∧
 kont1 (i + (1 : Int)) t30 t31 t32 t33 t34))) ∧
 (¬ (i < (l.length : Int)) → Lp6 (fun (i2 : Int) (t302 : Int) (t312 : Bool) (t322 : Int) (t332 : Bool) (t342 : List UInt8) kont2 => ((i2 < (l.length : Int) → (0 ≤ i2 ∧ i2 < (l.length : Nat)) ∧
 ((((decide (((l.getD i2.toNat (0, [], [], [])).1) < (1 : Int))) || (decide ((5 : Int) < ((l.getD i2.toNat (0, [], [], [])).1)))) = true → M_smithyref_Placed (111 : Int) i2 (fun (t58_Code : Int) (t58_Placed : Bool) (t58_Pos : Int) (t58_Filed : Bool) (t58_File : List UInt8) =>
 K0 t58_Code t58_Placed t58_Pos t58_Filed t58_File)) ∧
 (((decide (((l.getD i2.toNat (0, [], [], [])).1) < (1 : Int))) || (decide ((5 : Int) < ((l.getD i2.toNat (0, [], [], [])).1)))) = false → M_smithyref1_Valid ((l.getD i2.toNat (0, [], [], [])).2.2.2) (fun (good : Bool) =>
 Lp2 (fun (good2 : Bool) (k : Int) kont3 => ((k < (((l.getD i2.toNat (0, [], [], [])).2.2.1).length : Int) → ∃ J1 : Bool → Prop, (((good2 = true → (0 ≤ k ∧ k < (((l.getD i2.toNat (0, [], [], [])).2.2.1).length : Nat)) ∧
 M_smithyref1_Valid (((l.getD i2.toNat (0, [], [], [])).2.2.1).getD k.toNat []) (fun (t76 : Bool) =>
 J1 t76)) ∧
 (good2 = false → J1 false))) ∧
 (∀ q3 : Bool, J1 q3 → (In .i64 (k + (1 : Int))) ∧
 kont3 q3 (k + (1 : Int)))) ∧
 (¬ (k < (((l.getD i2.toNat (0, [], [], [])).2.2.1).length : Int)) → (((!good2) = true → M_smithyref_Placed (112 : Int) i2 (fun (t81_Code : Int) (t81_Placed : Bool) (t81_Pos : Int) (t81_Filed : Bool) (t81_File : List UInt8) =>
 K0 t81_Code t81_Placed t81_Pos t81_Filed t81_File)) ∧
 ((!good2) = false → Lp6 (fun (k_2 : Int) (t303 : Int) (t313 : Bool) (t323 : Int) (t333 : Bool) (t343 : List UInt8) kont4 => ((k_2 < i2 → (0 ≤ k_2 ∧ k_2 < (l.length : Nat)) ∧
 ((((l.getD k_2.toNat (0, [], [], [])).2.2.2) = ((l.getD i2.toNat (0, [], [], [])).2.2.2) → M_smithyref_Placed (107 : Int) i2 (fun (t96_Code : Int) (t96_Placed : Bool) (t96_Pos : Int) (t96_Filed : Bool) (t96_File : List UInt8) =>
 K0 t96_Code t96_Placed t96_Pos t96_Filed t96_File)) ∧
 (¬ (((l.getD k_2.toNat (0, [], [], [])).2.2.2) = ((l.getD i2.toNat (0, [], [], [])).2.2.2)) → (In .i64 (k_2 + (1 : Int))) ∧
 kont4 (k_2 + (1 : Int)) t303 t313 t323 t333 t343))) ∧
 (¬ (k_2 < i2) → (In .i64 (i2 + (1 : Int))) ∧
 kont2 (i2 + (1 : Int)) t303 t313 t323 t333 t343))) (0 : Int) t302 t312 t322 t332 t342))))) good (0 : Int))))) ∧
 (¬ (i2 < (l.length : Int)) → M_smithyref_Actions l (fun (t98 : List (Int × List (List UInt8) × List (List UInt8) × List UInt8)) =>
 Lp6 (fun (i3 : Int) (t304 : Int) (t314 : Bool) (t324 : Int) (t334 : Bool) (t344 : List UInt8) kont5 => ((i3 < (l.length : Int) → M_psmithyref17_Graph_Before t98 i3 (fun (t110 : List Int) =>
 M_psmithyref17_Graph_reach t98 t110 (fun (t111 : List Int) =>
 M_smithyref_Among t111 i3 (fun (t113 : Bool) =>
 ((t113 = true → M_smithyref_Placed (105 : Int) i3 (fun (t115_Code : Int) (t115_Placed : Bool) (t115_Pos : Int) (t115_Filed : Bool) (t115_File : List UInt8) =>
 K0 t115_Code t115_Placed t115_Pos t115_Filed t115_File)) ∧
 (t113 = false → (In .i64 (i3 + (1 : Int))) ∧
 kont5 (i3 + (1 : Int)) t304 t314 t324 t334 t344)))))) ∧
 (¬ (i3 < (l.length : Int)) → M_smithyref_None (fun (t117_Code : Int) (t117_Placed : Bool) (t117_Pos : Int) (t117_Filed : Bool) (t117_File : List UInt8) =>
 K t98 t117_Code t117_Placed t117_Pos t117_Filed t117_File)))) (0 : Int) t302 t312 t322 t332 t342)))) (0 : Int) t30 t31 t32 t33 t34))) (0 : Int) (0 : Int) false (0 : Int) false ([] : List UInt8))))

def M_smithyref17_Only (l : List (Int × List (List UInt8) × List (List UInt8) × List UInt8)) (outputs : List (List UInt8)) (K : (List (Int × List (List UInt8) × List (List UInt8) × List UInt8)) → Prop) : Prop :=
 (l.length ≤ maxLen →
 (outputs.length ≤ maxLen →
 M_smithyref17_NewGraph l (fun (t121_Code : Int) (t121_Placed : Bool) (t121_Pos : Int) (t121_Filed : Bool) (t121_File : List UInt8) =>
 ((¬ (t121_Code = (0 : Int)) → K []) ∧
 (t121_Code = (0 : Int) → False))) (fun (t120_L : List (Int × List (List UInt8) × List (List UInt8) × List UInt8)) (t121_Code2 : Int) (t121_Placed2 : Bool) (t121_Pos2 : Int) (t121_Filed2 : Bool) (t121_File2 : List UInt8) =>
 ((¬ (t121_Code2 = (0 : Int)) → K []) ∧
 (t121_Code2 = (0 : Int) → M_psmithyref17_Graph_Needs t120_L outputs (fun (n : List Int) =>
 Lp2 (fun (out : List (Int × List (List UInt8) × List (List UInt8) × List UInt8)) (i : Int) kont1 => ((i < (n.length : Int) → (0 ≤ i ∧ i < (n.length : Nat)) ∧
 (0 ≤ n.getD i.toNat 0 ∧ n.getD i.toNat 0 < (t120_L.length : Nat)) ∧
 ((out.length + (([((t120_L.getD ((n.getD i.toNat 0).toNat) (0, [], [], [])).1, (t120_L.getD ((n.getD i.toNat 0).toNat) (0, [], [], [])).2.1, (t120_L.getD ((n.getD i.toNat 0).toNat) (0, [], [], [])).2.2.1, (t120_L.getD ((n.getD i.toNat 0).toNat) (0, [], [], [])).2.2.2)] : List (Int × List (List UInt8) × List (List UInt8) × List UInt8))).length) * 72 ≤ 140737488355328) ∧
 (In .i64 (i + (1 : Int))) ∧
 kont1 (out ++ ([((t120_L.getD ((n.getD i.toNat 0).toNat) (0, [], [], [])).1, (t120_L.getD ((n.getD i.toNat 0).toNat) (0, [], [], [])).2.1, (t120_L.getD ((n.getD i.toNat 0).toNat) (0, [], [], [])).2.2.1, (t120_L.getD ((n.getD i.toNat 0).toNat) (0, [], [], [])).2.2.2)] : List (Int × List (List UInt8) × List (List UInt8) × List UInt8))) (i + (1 : Int))) ∧
 (¬ (i < (n.length : Int)) → K out))) [] (0 : Int)))))))

set_option maxHeartbeats 8000000 in
theorem W_psmithyref17_Graph_Maker {w : World} {g_g : Nat} {g_L : List (Int × List (List UInt8) × List (List UInt8) × List UInt8)} {A_g_L : Option Addr} {c_g_L : Nat} {hs_g_L : List (Int × Hdr × Hdr × List UInt8)} {p : List UInt8} {n_g_L : Nat} {K : Int → Prop} (hg_L : RdK 4 encH94 w A_g_L c_g_L hs_g_L) (hn_g_L : n_g_L = g_L.length) (hr_g_L : RelD de94 w hs_g_L g_L) (hg : Bl w g_g 185 [.slice A_g_L n_g_L c_g_L]) (H : M_psmithyref17_Graph_Maker g_L p K) : Fn Tryz.prog 54 ⟨[.pointer (some ⟨g_g, 0, none⟩), vs p]⟩ w (fun v w' => w = w' ∧ ∃ (r : Int), v = .int .i64 r ∧ K r) := by
  subst hn_g_L
  unfold M_psmithyref17_Graph_Maker at H
  refine Fn.enter (by kernel_rfl) Tryz.func54 rfl Tryz.ntmps54 rfl ?_
  replace H := H (by rw [← hr_g_L.1]; exact Nat.le_trans hg_L.cap hg_L.max)
  refine WC.seq ?_
  refine WC.region ?_
  refine WL.y rfl (Yld.pure tab_ok rfl) ?_
  refine WL.nil (WX.then_normal ?_)
  refine WC.seq ?_
  refine WC.seq ?_
  refine WC.region ?_
  refine WL.y rfl (Yld.pure tab_ok rfl) ?_
  refine WL.nil (WX.then_normal ?_)
  refine WC.block ?_
  obtain ⟨I1, mu1, h0_1, HR1⟩ := H
  refine WC.loopF (fun n' L' w' => ∃ (i : Int), n' = mu1 i ∧ L' = [(0, .pointer (some ⟨g_g, 0, none⟩)), (1, vs p), (5, .int .i64 i)] ∧ I1 i ∧ w = w') _ _ ⟨(0 : Int), rfl, rfl, h0_1, rfl⟩ (by repeat (first | exact Sub.nil | refine Sub.cons rfl ?_)) ?_
  clear h0_1
  rintro _ _ _ ⟨i, rfl, rfl, hI1, rfl⟩
  have H := HR1 i hI1
  refine WC.seq ?_
  refine WC.seq ?_
  refine WC.region ?_
  refine WL.y rfl (Yld.pure tab_ok rfl) ?_
  refine WL.y rfl (Yld.pure tab_ok rfl) ?_
  refine WL.y rfl (Yld.pure tab_ok rfl) ?_
  refine WL.y rfl (Yld.pure tab_ok rfl) ?_
  refine WL.y rfl (Yld.bload tab_ok hg rfl rfl rfl) ?_
  refine WL.y rfl (Yld.pure tab_ok rfl) ?_
  refine WL.y rfl (Yld.pure tab_ok rfl) ?_
  refine WL.nil (WX.then_normal ?_)
  refine WC.cond rfl (fun b1 => ?_) (fun b1 => ?_)
  · replace H := H.1 (of_decide_eq_true b1)
    refine WC.skip (WX.then_normal ?_)
    refine WC.seq ?_
    refine WC.block ?_
    refine WC.seq ?_
    refine WC.region ?_
    refine WL.y rfl (Yld.pure tab_ok rfl) ?_
    refine WL.y rfl (Yld.pure tab_ok rfl) ?_
    refine WL.y rfl (Yld.pure tab_ok rfl) ?_
    refine WL.y rfl (Yld.bload tab_ok hg rfl rfl rfl) ?_
    refine WL.y rfl (Yld.pure tab_ok rfl) ?_
    obtain ⟨h1, H⟩ := H
    refine WL.y rfl (Yld.iaddrK tab_ok hg_L rfl rfl hr_g_L.1.symm rfl h1.1 h1.2) ?_
    refine WL.y rfl (Yld.faddrK tab_ok hg_L (iltN h1 hr_g_L.1.symm) rfl rfl rfl) ?_
    obtain ⟨⟨f1, ⟨A_el, n1, c_el⟩, ⟨A_el2, n2, c_el2⟩, f2⟩, eh1, ⟨en1, ⟨en2, hR1⟩, ⟨en3, hR2⟩, en4⟩⟩ := RelD.at hr_g_L (0, hd0, hd0, []) (0, [], [], []) (j := i.toNat) (Nat.lt_of_lt_of_eq (iltN h1 hr_g_L.1.symm) hr_g_L.1)
    have en1 : f1 = (g_L.getD i.toNat (0, [], [], [])).1 := en1
    subst en1
    have en2 : n1 = ((g_L.getD i.toNat (0, [], [], [])).2.1).length := en2
    subst en2
    have en3 : n2 = ((g_L.getD i.toNat (0, [], [], [])).2.2.1).length := en3
    subst en3
    have en4 : f2 = (g_L.getD i.toNat (0, [], [], [])).2.2.2 := en4
    subst en4
    refine WL.y rfl (Yld.iloadF (v := vs ((g_L.getD i.toNat (0, [], [], [])).2.2.2)) (0, hd0, hd0, []) tab_ok hg_L rfl rfl (iltN h1 hr_g_L.1.symm) (by rw [eh1]; rfl)) ?_
    refine WL.y rfl (Yld.pure tab_ok rfl) ?_
    refine WL.y rfl (Yld.pure tab_ok rfl) ?_
    refine WL.nil (WX.then_normal ?_)
    refine WC.cond rfl (fun b2 => ?_) (fun b2 => ?_)
    · replace H := H.1 (of_decide_eq_true b2)
      refine WC.seq ?_
      refine WC.region ?_
      refine WL.y rfl (Yld.pure tab_ok rfl) ?_
      refine WL.y rfl (Yld.pure tab_ok rfl) ?_
      refine WL.nil (WX.then_normal ?_)
      refine WC.ret (WX.block_ret (WX.then_ret (WX.then_ret (WX.block_ret (WX.then_ret ?_)))))
      exact WX.ret1 rfl rfl ⟨rfl, i, rfl, H⟩
    · replace H := H.2 (of_decide_eq_false b2)
      refine WC.skip (WX.block_normal (WX.then_normal ?_))
      refine WC.region ?_
      refine WL.y rfl (Yld.pure tab_ok rfl) ?_
      obtain ⟨h2, H⟩ := H
      refine WL.y rfl (Yld.add rfl rfl h2) ?_
      refine WL.y rfl (Yld.pure tab_ok rfl) ?_
      refine WL.nil ?_
      exact WX.roundF _ ⟨i + (1 : Int), rfl, rfl, H.1, rfl⟩ (by repeat (first | exact Sub.nil | refine Sub.cons rfl ?_)) H.2
  · replace H := H.2 (of_decide_eq_false b1)
    refine WC.exit (WX.then_exit (WX.then_exit (WX.block_same (WX.then_normal ?_))))
    refine WC.seq ?_
    refine WC.region ?_
    refine WL.y rfl (Yld.pure tab_ok rfl) ?_
    refine WL.nil (WX.then_normal ?_)
    refine WC.ret ?_
    exact WX.ret1 rfl rfl ⟨rfl, (-1 : Int), rfl, H⟩

set_option maxHeartbeats 8000000 in
theorem W_psmithyref17_Graph_Before {w : World} {g_g : Nat} {g_L : List (Int × List (List UInt8) × List (List UInt8) × List UInt8)} {A_g_L : Option Addr} {c_g_L : Nat} {hs_g_L : List (Int × Hdr × Hdr × List UInt8)} {i : Int} {n_g_L : Nat} {K : (List Int) → Prop} (hg_L : RdK 4 encH94 w A_g_L c_g_L hs_g_L) (hn_g_L : n_g_L = g_L.length) (hr_g_L : RelD de94 w hs_g_L g_L) (hg : Bl w g_g 185 [.slice A_g_L n_g_L c_g_L]) (H : M_psmithyref17_Graph_Before g_L i K) : Fn Tryz.prog 56 ⟨[.pointer (some ⟨g_g, 0, none⟩), .int .i64 i]⟩ w (fun v w' => w.grownBy w' none ∧ ∃ (r : List Int), ∃ (A_r : Option Addr), ∃ (c_r : Nat), v = .slice A_r r.length c_r ∧ Own vi w' w.heap.size 3 A_r c_r r ∧ K r) := by
  subst hn_g_L
  unfold M_psmithyref17_Graph_Before at H
  refine Fn.enter (by kernel_rfl) Tryz.func56 rfl Tryz.ntmps56 rfl ?_
  replace H := H (by rw [← hr_g_L.1]; exact Nat.le_trans hg_L.cap hg_L.max)
  refine WC.seq ?_
  refine WC.region ?_
  refine WL.y rfl (Yld.pure tab_ok rfl) ?_
  refine WL.nil (WX.then_normal ?_)
  refine WC.seq ?_
  refine WC.region ?_
  refine WL.y rfl (Yld.pure tab_ok rfl) ?_
  refine WL.nil (WX.then_normal ?_)
  refine WC.seq ?_
  refine WC.seq ?_
  refine WC.region ?_
  refine WL.y rfl (Yld.pure tab_ok rfl) ?_
  refine WL.y rfl (Yld.pure tab_ok rfl) ?_
  refine WL.y rfl (Yld.pure tab_ok rfl) ?_
  refine WL.midF 8 (fun L' w' => ∃ q1 : Bool, L' = [(18, .bool q1), (0, .pointer (some ⟨g_g, 0, none⟩)), (1, .int .i64 i), (5, .slice none 0 0)] ∧ ((decide (i < (0 : Int))) || (decide ((g_L.length : Int) ≤ i))) = q1 ∧ w = w') ?_ (fun hQ => ?_)
  · rintro _ _ ⟨q1, rfl, rfl, rfl⟩
    refine WL.nil (WX.then_normal ?_)
    refine WC.cond rfl (fun b1 => ?_) (fun b1 => ?_)
    · replace H := H.1 (b1)
      refine WC.seq ?_
      refine WC.region ?_
      refine WL.y rfl (Yld.pure tab_ok rfl) ?_
      refine WL.y rfl (Yld.pure tab_ok rfl) ?_
      refine WL.nil (WX.then_normal ?_)
      refine WC.ret (WX.then_ret ?_)
      exact WX.ret1 rfl rfl ⟨(gr_refl _ _), [], none, 0, rfl, (Own.nil vi w w.heap.size 3), H⟩
    · replace H := H.2 (b1)
      refine WC.skip (WX.then_normal ?_)
      refine WC.seq ?_
      refine WC.seq ?_
      refine WC.region ?_
      refine WL.y rfl (Yld.pure tab_ok rfl) ?_
      refine WL.nil (WX.then_normal ?_)
      refine WC.block ?_
      obtain ⟨I1, mu1, h0_1, HR1⟩ := H
      refine WC.loopF (fun n' L' w' => ∃ (l : List Int), ∃ (A_l : Option Addr), ∃ (c_l : Nat), ∃ (n_l : Nat), ∃ (k : Int), n' = mu1 l k ∧ L' = [(0, .pointer (some ⟨g_g, 0, none⟩)), (1, .int .i64 i), (5, .slice A_l n_l c_l), (6, .int .i64 k)] ∧ I1 l k ∧ n_l = l.length ∧ w.grownBy w' none ∧ Own vi w' w.heap.size 3 A_l c_l l) _ _ ⟨[], none, 0, 0, (0 : Int), rfl, rfl, h0_1, rfl, (gr_refl _ _), (Own.nil vi w w.heap.size 3)⟩ (by repeat (first | exact Sub.nil | refine Sub.cons rfl ?_)) ?_
      clear h0_1
      rintro _ _ w1 ⟨l, A_l, c_l, n_l, k, rfl, rfl, hI1, rfl, gr1, k1⟩
      have H := HR1 l k hI1
      refine WC.seq ?_
      refine WC.seq ?_
      refine WC.region ?_
      refine WL.y rfl (Yld.pure tab_ok rfl) ?_
      refine WL.y rfl (Yld.pure tab_ok rfl) ?_
      refine WL.y rfl (Yld.pure tab_ok rfl) ?_
      refine WL.y rfl (Yld.pure tab_ok rfl) ?_
      refine WL.y rfl (Yld.bload tab_ok (hg.g0 gr1) rfl rfl rfl) ?_
      refine WL.y rfl (Yld.pure tab_ok rfl) ?_
      obtain ⟨h1, H⟩ := H
      refine WL.y rfl (Yld.iaddrK tab_ok (hg_L.grown gr1) rfl rfl hr_g_L.1.symm rfl h1.1 h1.2) ?_
      refine WL.y rfl (Yld.faddrK tab_ok (hg_L.grown gr1) (iltN h1 hr_g_L.1.symm) rfl rfl rfl) ?_
      obtain ⟨⟨f1, ⟨A_el, n1, c_el⟩, ⟨A_el2, n2, c_el2⟩, f2⟩, eh1, ⟨en1, ⟨en2, hR1⟩, ⟨en3, hR2⟩, en4⟩⟩ := RelD.at hr_g_L (0, hd0, hd0, []) (0, [], [], []) (j := i.toNat) (Nat.lt_of_lt_of_eq (iltN h1 hr_g_L.1.symm) hr_g_L.1)
      have en1 : f1 = (g_L.getD i.toNat (0, [], [], [])).1 := en1
      subst en1
      have en2 : n1 = ((g_L.getD i.toNat (0, [], [], [])).2.1).length := en2
      subst en2
      have en3 : n2 = ((g_L.getD i.toNat (0, [], [], [])).2.2.1).length := en3
      subst en3
      have en4 : f2 = (g_L.getD i.toNat (0, [], [], [])).2.2.2 := en4
      subst en4
      refine WL.y rfl (Yld.iloadF (v := .slice A_el2 (((g_L.getD i.toNat (0, [], [], [])).2.2.1).length) c_el2) (0, hd0, hd0, []) tab_ok (hg_L.grown gr1) rfl rfl (iltN h1 hr_g_L.1.symm) (by rw [eh1]; rfl)) ?_
      refine WL.y rfl (Yld.pure tab_ok rfl) ?_
      refine WL.y rfl (Yld.pure tab_ok rfl) ?_
      refine WL.nil (WX.then_normal ?_)
      refine WC.cond rfl (fun b2 => ?_) (fun b2 => ?_)
      · replace H := H.1 (of_decide_eq_true b2)
        refine WC.skip (WX.then_normal ?_)
        refine WC.seq ?_
        obtain ⟨J1, H, hJ1⟩ := H
        refine WC.midF (fun L' w' => ∃ (l2 : List Int), ∃ (A_l2 : Option Addr), ∃ (c_l2 : Nat), ∃ (n_l2 : Nat), L' = [(0, .pointer (some ⟨g_g, 0, none⟩)), (1, .int .i64 i), (5, .slice A_l2 n_l2 c_l2), (6, .int .i64 k)] ∧ J1 l2 ∧ n_l2 = l2.length ∧ w.grownBy w' none ∧ Own vi w' w.heap.size 3 A_l2 c_l2 l2) ?_ (fun hQ => ?_)
        · clear H
          rintro _ w2 ⟨l2, A_l2, c_l2, n_l2, rfl, H, rfl, gr2, k2⟩
          replace H := hJ1 l2 H
          refine WX.then_normal ?_
          refine WC.region ?_
          refine WL.y rfl (Yld.pure tab_ok rfl) ?_
          obtain ⟨h2, H⟩ := H
          refine WL.y rfl (Yld.add rfl rfl h2) ?_
          refine WL.y rfl (Yld.pure tab_ok rfl) ?_
          refine WL.nil ?_
          exact WX.roundF _ ⟨l2, A_l2, c_l2, l2.length, k + (1 : Int), rfl, rfl, H.1, rfl, gr2, k2⟩ (by repeat (first | exact Sub.nil | refine Sub.cons rfl ?_)) H.2
        · clear hJ1
          refine WC.block ?_
          refine WC.seq ?_
          refine WC.region ?_
          refine WL.y rfl (Yld.pure tab_ok rfl) ?_
          refine WL.y rfl (Yld.pure tab_ok rfl) ?_
          refine WL.y rfl (Yld.pure tab_ok rfl) ?_
          refine WL.y rfl (Yld.pure tab_ok rfl) ?_
          refine WL.y rfl (Yld.bload tab_ok (hg.g0 gr1) rfl rfl rfl) ?_
          refine WL.y rfl (Yld.pure tab_ok rfl) ?_
          obtain ⟨h3, H⟩ := H
          refine WL.y rfl (Yld.iaddrK tab_ok (hg_L.grown gr1) rfl rfl hr_g_L.1.symm rfl h3.1 h3.2) ?_
          refine WL.y rfl (Yld.faddrK tab_ok (hg_L.grown gr1) (iltN h3 hr_g_L.1.symm) rfl rfl rfl) ?_
          refine WL.y rfl (Yld.iloadF (v := .slice A_el2 (((g_L.getD i.toNat (0, [], [], [])).2.2.1).length) c_el2) (0, hd0, hd0, []) tab_ok (hg_L.grown gr1) rfl rfl (iltN h3 hr_g_L.1.symm) (by rw [eh1]; rfl)) ?_
          refine WL.y rfl (Yld.pure tab_ok rfl) ?_
          obtain ⟨h4, H⟩ := H
          refine WL.y rfl (Yld.iaddrW tab_ok (hR2.grown gr1) rfl rfl rfl rfl h4.1 h4.2) ?_
          refine WL.y rfl (Yld.iload [] tab_ok (hR2.grown gr1) rfl rfl (iltN h4 rfl)) ?_
          refine WL.call rfl rfl (W_psmithyref17_Graph_Maker (hg_L.grown gr1) rfl (hr_g_L.grown gr1) (hg.g0 gr1) H) ?_
          rintro _ _ ⟨rfl, m, rfl, H⟩
          refine WL.y rfl (Yld.pure tab_ok rfl) ?_
          refine WL.nil (WX.then_normal ?_)
          refine WC.seq ?_
          refine WC.region ?_
          refine WL.y rfl (Yld.pure tab_ok rfl) ?_
          refine WL.y rfl (Yld.pure tab_ok rfl) ?_
          refine WL.nil (WX.then_normal ?_)
          refine WC.cond rfl (fun b3 => ?_) (fun b3 => ?_)
          · replace H := H.1 (of_decide_eq_true b3)
            refine WC.region ?_
            refine WL.y rfl (Yld.pure tab_ok rfl) ?_
            refine WL.y rfl (Yld.pure tab_ok rfl) ?_
            refine WL.lit tab_ok rfl rfl rfl (all1c rfl all1n) rfl (by omega) (fun g1 w3 hB1 hg1 hl1 => ?_)
            have hO1 : Own vi w3 w.heap.size 3 (some ⟨g1, 0, none⟩) 1 ([m] : List Int) := Own.ofBl hB1 (Nat.le_trans (size_le gr1) hl1) (by simp [maxLen]) rfl
            have gr3 := gr_trans gr1 hg1
            have k3 := k1.grown hg1
            obtain ⟨h5, H⟩ := H
            refine WL.append tab_ok rfl rfl One.i k3 rfl rfl hO1.rd rfl rfl h5 (applen h5) (size_le gr3) (fun A_l3 c_l3 w4 hO2 hg2 hk1 => ?_)
            have gr4 := gr_mod gr3 hg2 k3.ge'
            refine WL.y rfl (Yld.pure tab_ok rfl) ?_
            refine WL.nil (WX.block_normal ?_)
            exact WX.weaken (by repeat (first | exact Sub.nil | refine Sub.cons rfl ?_)) (hQ _ _ ⟨l ++ ([m] : List Int), A_l3, c_l3, (l ++ ([m] : List Int)).length, rfl, H, rfl, gr4, hO2⟩)
          · replace H := H.2 (of_decide_eq_false b3)
            refine WC.skip (WX.block_normal ?_)
            exact WX.weaken (by repeat (first | exact Sub.nil | refine Sub.cons rfl ?_)) (hQ _ _ ⟨l, A_l, c_l, l.length, rfl, H, rfl, gr1, k1⟩)
      · replace H := H.2 (of_decide_eq_false b2)
        refine WC.exit (WX.then_exit (WX.then_exit (WX.block_same (WX.then_normal ?_))))
        refine WC.seq ?_
        refine WC.region ?_
        refine WL.y rfl (Yld.pure tab_ok rfl) ?_
        refine WL.call rfl rfl (W_smithyref_Sorted k1.rd rfl H) ?_
        rintro _ w5 ⟨hg3, t4, A_t4, c_t4, rfl, ht4, H⟩
        have hb1 := ht4.ge'
        have k4 := ht4.base (fun g hg => Nat.le_trans (size_le gr1) (hb1 g hg))
        have gr5 := gr_trans gr1 hg3
        refine WL.y rfl (Yld.pure tab_ok rfl) ?_
        refine WL.nil (WX.then_normal ?_)
        refine WC.ret ?_
        exact WX.ret1 rfl rfl ⟨gr5, t4, A_t4, c_t4, rfl, k4, H⟩
  · clear H
    rcases Bool.eq_false_or_eq_true (decide (i < (0 : Int))) with b4 | b4
    · refine WL.gno rfl rfl (okb b4) rfl ?_
      refine WL.gno rfl rfl (okb b4) rfl ?_
      refine WL.gno rfl rfl (okb b4) rfl ?_
      refine WL.gno rfl rfl (okb b4) rfl ?_
      refine WL.gno rfl rfl (okb b4) rfl ?_
      refine WL.gno rfl rfl (okb b4) rfl ?_
      refine WL.gno rfl rfl (okb b4) rfl ?_
      refine WL.y rfl (Yld.pickT (okb b4) rfl) ?_
      exact WL.weaken (by repeat (first | exact Sub.nil | refine Sub.cons rfl ?_)) (hQ _ _ ⟨true, rfl, by rw [b4] <;> rfl, rfl⟩)
    · refine WL.gyes rfl rfl (okb b4) rfl (Yld.pure tab_ok rfl) ?_
      refine WL.gyes rfl rfl (okb b4) rfl (Yld.pure tab_ok rfl) ?_
      refine WL.gyes rfl rfl (okb b4) rfl (Yld.pure tab_ok rfl) ?_
      refine WL.gyes rfl rfl (okb b4) rfl (Yld.pure tab_ok rfl) ?_
      refine WL.gyes rfl rfl (okb b4) rfl (Yld.bload tab_ok hg rfl rfl rfl) ?_
      refine WL.gyes rfl rfl (okb b4) rfl (Yld.pure tab_ok rfl) ?_
      refine WL.gyes rfl rfl (okb b4) rfl (Yld.pure tab_ok rfl) ?_
      refine WL.y rfl (Yld.pickF (okb b4) rfl) ?_
      exact WL.weaken (by repeat (first | exact Sub.nil | refine Sub.cons rfl ?_)) (hQ _ _ ⟨decide ((g_L.length : Int) ≤ i), rfl, by rw [b4] <;> rfl, rfl⟩)

set_option maxHeartbeats 8000000 in
theorem W_psmithyref17_Graph_After {w : World} {g_g : Nat} {g_L : List (Int × List (List UInt8) × List (List UInt8) × List UInt8)} {A_g_L : Option Addr} {c_g_L : Nat} {hs_g_L : List (Int × Hdr × Hdr × List UInt8)} {i : Int} {n_g_L : Nat} {K : (List Int) → Prop} (hg_L : RdK 4 encH94 w A_g_L c_g_L hs_g_L) (hn_g_L : n_g_L = g_L.length) (hr_g_L : RelD de94 w hs_g_L g_L) (hg : Bl w g_g 185 [.slice A_g_L n_g_L c_g_L]) (H : M_psmithyref17_Graph_After g_L i K) : Fn Tryz.prog 58 ⟨[.pointer (some ⟨g_g, 0, none⟩), .int .i64 i]⟩ w (fun v w' => w.grownBy w' none ∧ ∃ (r : List Int), ∃ (A_r : Option Addr), ∃ (c_r : Nat), v = .slice A_r r.length c_r ∧ Own vi w' w.heap.size 3 A_r c_r r ∧ K r) := by
  subst hn_g_L
  unfold M_psmithyref17_Graph_After at H
  refine Fn.enter (by kernel_rfl) Tryz.func58 rfl Tryz.ntmps58 rfl ?_
  replace H := H (by rw [← hr_g_L.1]; exact Nat.le_trans hg_L.cap hg_L.max)
  refine WC.seq ?_
  refine WC.region ?_
  refine WL.y rfl (Yld.pure tab_ok rfl) ?_
  refine WL.nil (WX.then_normal ?_)
  refine WC.seq ?_
  refine WC.region ?_
  refine WL.y rfl (Yld.pure tab_ok rfl) ?_
  refine WL.nil (WX.then_normal ?_)
  refine WC.seq ?_
  refine WC.seq ?_
  refine WC.region ?_
  refine WL.y rfl (Yld.pure tab_ok rfl) ?_
  refine WL.nil (WX.then_normal ?_)
  refine WC.block ?_
  obtain ⟨I1, mu1, h0_1, HR1⟩ := H
  refine WC.loopF (fun n' L' w' => ∃ (l : List Int), ∃ (A_l : Option Addr), ∃ (c_l : Nat), ∃ (n_l : Nat), ∃ (k : Int), n' = mu1 l k ∧ L' = [(0, .pointer (some ⟨g_g, 0, none⟩)), (1, .int .i64 i), (5, .slice A_l n_l c_l), (6, .int .i64 k)] ∧ I1 l k ∧ n_l = l.length ∧ w.grownBy w' none ∧ Own vi w' w.heap.size 3 A_l c_l l) _ _ ⟨[], none, 0, 0, (0 : Int), rfl, rfl, h0_1, rfl, (gr_refl _ _), (Own.nil vi w w.heap.size 3)⟩ (by repeat (first | exact Sub.nil | refine Sub.cons rfl ?_)) ?_
  clear h0_1
  rintro _ _ w1 ⟨l, A_l, c_l, n_l, k, rfl, rfl, hI1, rfl, gr1, k1⟩
  have H := HR1 l k hI1
  refine WC.seq ?_
  refine WC.seq ?_
  refine WC.region ?_
  refine WL.y rfl (Yld.pure tab_ok rfl) ?_
  refine WL.y rfl (Yld.pure tab_ok rfl) ?_
  refine WL.y rfl (Yld.pure tab_ok rfl) ?_
  refine WL.y rfl (Yld.pure tab_ok rfl) ?_
  refine WL.y rfl (Yld.bload tab_ok (hg.g0 gr1) rfl rfl rfl) ?_
  refine WL.y rfl (Yld.pure tab_ok rfl) ?_
  refine WL.y rfl (Yld.pure tab_ok rfl) ?_
  refine WL.y rfl (Yld.pure tab_ok rfl) ?_
  refine WL.midF 3 (fun L' w' => ∃ q1 : Bool, L' = [(17, .bool q1), (0, .pointer (some ⟨g_g, 0, none⟩)), (1, .int .i64 i), (5, .slice A_l l.length c_l), (6, .int .i64 k)] ∧ ((decide (k < (g_L.length : Int))) && (decide ((0 : Int) ≤ i))) = q1 ∧ w1 = w') ?_ (fun hQ => ?_)
  · rintro _ _ ⟨q1, rfl, rfl, rfl⟩
    refine WL.y rfl (Yld.pure tab_ok rfl) ?_
    refine WL.midF 8 (fun L' w' => ∃ q2 : Bool, L' = [(26, .bool q2), (0, .pointer (some ⟨g_g, 0, none⟩)), (1, .int .i64 i), (5, .slice A_l l.length c_l), (6, .int .i64 k)] ∧ (((decide (k < (g_L.length : Int))) && (decide ((0 : Int) ≤ i))) && (decide (i < (g_L.length : Int)))) = q2 ∧ w1 = w') ?_ (fun hQ => ?_)
    · rintro _ _ ⟨q2, rfl, rfl, rfl⟩
      refine WL.nil (WX.then_normal ?_)
      refine WC.cond rfl (fun b1 => ?_) (fun b1 => ?_)
      · replace H := H.1 (b1)
        refine WC.skip (WX.then_normal ?_)
        refine WC.seq ?_
        obtain ⟨J1, H, hJ1⟩ := H
        refine WC.midF (fun L' w' => ∃ (l2 : List Int), ∃ (A_l2 : Option Addr), ∃ (c_l2 : Nat), ∃ (n_l2 : Nat), L' = [(0, .pointer (some ⟨g_g, 0, none⟩)), (1, .int .i64 i), (5, .slice A_l2 n_l2 c_l2), (6, .int .i64 k)] ∧ J1 l2 ∧ n_l2 = l2.length ∧ w.grownBy w' none ∧ Own vi w' w.heap.size 3 A_l2 c_l2 l2) ?_ (fun hQ => ?_)
        · clear H
          rintro _ w2 ⟨l2, A_l2, c_l2, n_l2, rfl, H, rfl, gr2, k2⟩
          replace H := hJ1 l2 H
          refine WX.then_normal ?_
          refine WC.region ?_
          refine WL.y rfl (Yld.pure tab_ok rfl) ?_
          obtain ⟨h1, H⟩ := H
          refine WL.y rfl (Yld.add rfl rfl h1) ?_
          refine WL.y rfl (Yld.pure tab_ok rfl) ?_
          refine WL.nil ?_
          exact WX.roundF _ ⟨l2, A_l2, c_l2, l2.length, k + (1 : Int), rfl, rfl, H.1, rfl, gr2, k2⟩ (by repeat (first | exact Sub.nil | refine Sub.cons rfl ?_)) H.2
        · clear hJ1
          refine WC.block ?_
          refine WC.seq ?_
          refine WC.region ?_
          refine WL.y rfl (Yld.pure tab_ok rfl) ?_
          refine WL.y rfl (Yld.pure tab_ok rfl) ?_
          refine WL.call rfl rfl (W_psmithyref17_Graph_Before (hg_L.grown gr1) rfl (hr_g_L.grown gr1) (hg.g0 gr1) H) ?_
          rintro _ w3 ⟨hg1, t31, A_t31, c_t31, rfl, ht31, H⟩
          have hb1 := ht31.ge'
          have k3 := ht31.base (fun g hg => Nat.le_trans (size_le gr1) (hb1 g hg))
          have gr3 := gr_trans gr1 hg1
          have k4 := k1.grown hg1
          refine WL.y rfl (Yld.pure tab_ok rfl) ?_
          refine WL.call rfl rfl (W_smithyref_Among k3.rd rfl H) ?_
          rintro _ _ ⟨rfl, t33, rfl, H⟩
          refine WL.nil (WX.then_normal ?_)
          refine WC.cond rfl (fun b2 => ?_) (fun b2 => ?_)
          · replace H := H.1 (b2)
            refine WC.region ?_
            refine WL.y rfl (Yld.pure tab_ok rfl) ?_
            refine WL.y rfl (Yld.pure tab_ok rfl) ?_
            refine WL.lit tab_ok rfl rfl rfl (all1c rfl all1n) rfl (by omega) (fun g1 w4 hB1 hg2 hl1 => ?_)
            have hO1 : Own vi w4 w.heap.size 3 (some ⟨g1, 0, none⟩) 1 ([k] : List Int) := Own.ofBl hB1 (Nat.le_trans (size_le gr3) hl1) (by simp [maxLen]) rfl
            have gr4 := gr_trans gr3 hg2
            have k5 := k4.grown hg2
            obtain ⟨h2, H⟩ := H
            refine WL.append tab_ok rfl rfl One.i k5 rfl rfl hO1.rd rfl rfl h2 (applen h2) (size_le gr4) (fun A_l3 c_l3 w5 hO2 hg3 hk1 => ?_)
            have gr5 := gr_mod gr4 hg3 k5.ge'
            refine WL.y rfl (Yld.pure tab_ok rfl) ?_
            refine WL.nil (WX.block_normal ?_)
            exact WX.weaken (by repeat (first | exact Sub.nil | refine Sub.cons rfl ?_)) (hQ _ _ ⟨l ++ ([k] : List Int), A_l3, c_l3, (l ++ ([k] : List Int)).length, rfl, H, rfl, gr5, hO2⟩)
          · replace H := H.2 (b2)
            refine WC.skip (WX.block_normal ?_)
            exact WX.weaken (by repeat (first | exact Sub.nil | refine Sub.cons rfl ?_)) (hQ _ _ ⟨l, A_l, c_l, l.length, rfl, H, rfl, gr3, k4⟩)
      · replace H := H.2 (b1)
        refine WC.exit (WX.then_exit (WX.then_exit (WX.block_same (WX.then_normal ?_))))
        refine WC.seq ?_
        refine WC.region ?_
        refine WL.y rfl (Yld.pure tab_ok rfl) ?_
        refine WL.y rfl (Yld.pure tab_ok rfl) ?_
        refine WL.nil (WX.then_normal ?_)
        refine WC.ret ?_
        exact WX.ret1 rfl rfl ⟨gr1, l, A_l, c_l, rfl, k1, H⟩
    · clear H
      rcases Bool.eq_false_or_eq_true ((decide (k < (g_L.length : Int))) && (decide ((0 : Int) ≤ i))) with b3 | b3
      · refine WL.gyes rfl rfl (okb b3) rfl (Yld.pure tab_ok rfl) ?_
        refine WL.gyes rfl rfl (okb b3) rfl (Yld.pure tab_ok rfl) ?_
        refine WL.gyes rfl rfl (okb b3) rfl (Yld.pure tab_ok rfl) ?_
        refine WL.gyes rfl rfl (okb b3) rfl (Yld.pure tab_ok rfl) ?_
        refine WL.gyes rfl rfl (okb b3) rfl (Yld.bload tab_ok (hg.g0 gr1) rfl rfl rfl) ?_
        refine WL.gyes rfl rfl (okb b3) rfl (Yld.pure tab_ok rfl) ?_
        refine WL.gyes rfl rfl (okb b3) rfl (Yld.pure tab_ok rfl) ?_
        refine WL.y rfl (Yld.pickT (okb b3) rfl) ?_
        exact WL.weaken (by repeat (first | exact Sub.nil | refine Sub.cons rfl ?_)) (hQ _ _ ⟨decide (i < (g_L.length : Int)), rfl, by rw [b3] <;> rfl, rfl⟩)
      · refine WL.gno rfl rfl (okb b3) rfl ?_
        refine WL.gno rfl rfl (okb b3) rfl ?_
        refine WL.gno rfl rfl (okb b3) rfl ?_
        refine WL.gno rfl rfl (okb b3) rfl ?_
        refine WL.gno rfl rfl (okb b3) rfl ?_
        refine WL.gno rfl rfl (okb b3) rfl ?_
        refine WL.gno rfl rfl (okb b3) rfl ?_
        refine WL.y rfl (Yld.pickF (okb b3) rfl) ?_
        exact WL.weaken (by repeat (first | exact Sub.nil | refine Sub.cons rfl ?_)) (hQ _ _ ⟨false, rfl, by rw [b3] <;> rfl, rfl⟩)
  · clear H
    rcases Bool.eq_false_or_eq_true (decide (k < (g_L.length : Int))) with b4 | b4
    · refine WL.gyes rfl rfl (okb b4) rfl (Yld.pure tab_ok rfl) ?_
      refine WL.gyes rfl rfl (okb b4) rfl (Yld.pure tab_ok rfl) ?_
      refine WL.y rfl (Yld.pickT (okb b4) rfl) ?_
      exact WL.weaken (by repeat (first | exact Sub.nil | refine Sub.cons rfl ?_)) (hQ _ _ ⟨decide ((0 : Int) ≤ i), rfl, by rw [b4] <;> rfl, rfl⟩)
    · refine WL.gno rfl rfl (okb b4) rfl ?_
      refine WL.gno rfl rfl (okb b4) rfl ?_
      refine WL.y rfl (Yld.pickF (okb b4) rfl) ?_
      exact WL.weaken (by repeat (first | exact Sub.nil | refine Sub.cons rfl ?_)) (hQ _ _ ⟨false, rfl, by rw [b4] <;> rfl, rfl⟩)

set_option maxHeartbeats 8000000 in
theorem W_psmithyref17_Graph_reach {w : World} {g_g : Nat} {g_L : List (Int × List (List UInt8) × List (List UInt8) × List UInt8)} {A_g_L : Option Addr} {c_g_L : Nat} {hs_g_L : List (Int × Hdr × Hdr × List UInt8)} {l : List Int} {A_l : Option Addr} {c_l : Nat} {n_g_L : Nat} {n_l : Nat} {K : (List Int) → Prop} (hg_L : RdK 4 encH94 w A_g_L c_g_L hs_g_L) (hn_g_L : n_g_L = g_L.length) (hr_g_L : RelD de94 w hs_g_L g_L) (hg : Bl w g_g 185 [.slice A_g_L n_g_L c_g_L]) (hl : Own vi w 0 3 A_l c_l l) (hn_l : n_l = l.length) (hap0 : AllP (Dn hs_g_L (blk A_g_L)) [(blk A_l)]) (hap1 : AllP (DnD de94 hs_g_L g_L) [(blk A_l)]) (hap2 : AllP (Dj (some g_g)) [(blk A_l)]) (H : M_psmithyref17_Graph_reach g_L l K) : Fn Tryz.prog 107 ⟨[.pointer (some ⟨g_g, 0, none⟩), .slice A_l n_l c_l]⟩ w (fun v w' => GrL [(blk A_l)] w w' ∧ ∃ (r : List Int), ∃ (A_r : Option Addr), ∃ (c_r : Nat), v = .slice A_r r.length c_r ∧ Own vi w' w.heap.size 3 A_r c_r r ∧ K r) := by
  subst hn_g_L
  subst hn_l
  unfold M_psmithyref17_Graph_reach at H
  refine Fn.enter (by kernel_rfl) Tryz.func107 rfl Tryz.ntmps107 rfl ?_
  replace H := H (by rw [← hr_g_L.1]; exact Nat.le_trans hg_L.cap hg_L.max)
  replace H := H (Nat.le_trans hl.rd.cap hl.rd.max)
  have hNoAt : AllP (NoAt w) [(blk A_l)] := (apC (NoAt.own hl rfl) apN)
  refine WC.seq ?_
  refine WC.region ?_
  refine WL.y rfl (Yld.pure tab_ok rfl) ?_
  refine WL.nil (WX.then_normal ?_)
  refine WC.seq ?_
  refine WC.region ?_
  refine WL.y rfl (Yld.pure tab_ok rfl) ?_
  refine WL.y rfl (Yld.pure tab_ok rfl) ?_
  refine WL.y rfl (Yld.pure tab_ok rfl) ?_
  refine WL.y rfl (Yld.bload tab_ok hg rfl rfl rfl) ?_
  refine WL.y rfl (Yld.pure tab_ok rfl) ?_
  obtain ⟨h1, H⟩ := H
  refine WL.makeZI (f := vB) (z := false) (B := w.heap.size) tab_ok rfl rfl zero4 rfl rfl h1.1 h1.2.1 h1.2.2 (Nat.le_refl _) (fun g1 w1 hO1 hg1 hl1 => ?_)
  have gr1 := (GrL.of0 (ps := [(blk A_l)]) hg1)
  have k1 := hl.grown hg1
  refine WL.y rfl (Yld.pure tab_ok rfl) ?_
  refine WL.nil (WX.then_normal ?_)
  refine WC.seq ?_
  refine WC.block ?_
  obtain ⟨I1, mu1, h0_1, HR1⟩ := H
  refine WC.loopF (fun n' L' w' => ∃ (l2 : List Int), ∃ (A_l2 : Option Addr), ∃ (c_l2 : Nat), ∃ (n_l : Nat), ∃ (seen : List Bool), n' = mu1 l2 seen ∧ L' = [(0, .pointer (some ⟨g_g, 0, none⟩)), (1, .slice A_l2 n_l c_l2), (5, .slice (some ⟨g1, 0, none⟩) ((g_L.length : Int).toNat) ((g_L.length : Int).toNat))] ∧ I1 l2 seen ∧ (g_L.length : Int).toNat = seen.length ∧ n_l = l2.length ∧ GrL [(blk A_l)] w w' ∧ Own vB w' w.heap.size 4 (some ⟨g1, 0, none⟩) ((g_L.length : Int).toNat) seen ∧ Own vi w' 0 3 A_l2 c_l2 l2 ∧ Dj (blk (some ⟨g1, 0, none⟩)) (blk A_l2) ∧ InP [(blk A_l)] w.heap.size (blk A_l2)) _ _ ⟨l, A_l, c_l, l.length, (List.replicate (g_L.length : Int).toNat false), rfl, rfl, h0_1, (List.length_replicate).symm, rfl, gr1, hO1, k1, (Dj.new hl.lt' (Ge.box hl1)).symm, (InP.mem (List.Mem.head _))⟩ (by repeat (first | exact Sub.nil | refine Sub.cons rfl ?_)) ?_
  clear h0_1
  rintro _ _ w2 ⟨l2, A_l2, c_l2, n_l, seen, rfl, rfl, hI1, hn_seen, rfl, gr2, k2, k3, dj1, hi1⟩
  have H := HR1 l2 seen hI1
  replace H := H hn_seen
  refine WC.seq ?_
  refine WC.seq ?_
  refine WC.region ?_
  refine WL.y rfl (Yld.pure tab_ok rfl) ?_
  refine WL.y rfl (Yld.pure tab_ok rfl) ?_
  refine WL.y rfl (Yld.pure tab_ok rfl) ?_
  refine WL.nil (WX.then_normal ?_)
  refine WC.cond rfl (fun b1 => ?_) (fun b1 => ?_)
  · replace H := H.1 (of_decide_eq_true b1)
    refine WC.skip (WX.then_normal ?_)
    refine WC.block ?_
    refine WC.seq ?_
    refine WC.region ?_
    refine WL.y rfl (Yld.pure tab_ok rfl) ?_
    refine WL.y rfl (Yld.pure tab_ok rfl) ?_
    refine WL.y rfl (Yld.pure tab_ok rfl) ?_
    obtain ⟨h2, H⟩ := H
    refine WL.y rfl (Yld.sub rfl rfl h2) ?_
    obtain ⟨h3, H⟩ := H
    refine WL.y rfl (Yld.iaddrW tab_ok k3.rd rfl rfl rfl rfl h3.1 h3.2) ?_
    refine WL.y rfl (Yld.iload 0 tab_ok k3.rd rfl rfl (iltN h3 rfl)) ?_
    refine WL.y rfl (Yld.pure tab_ok rfl) ?_
    refine WL.nil (WX.then_normal ?_)
    refine WC.seq ?_
    refine WC.region ?_
    refine WL.y rfl (Yld.pure tab_ok rfl) ?_
    refine WL.y rfl (Yld.pure tab_ok rfl) ?_
    refine WL.y rfl (Yld.pure tab_ok rfl) ?_
    obtain ⟨h4, H⟩ := H
    refine WL.y rfl (Yld.sub rfl rfl h4) ?_
    obtain ⟨h5, H⟩ := H
    refine WL.ocut tab_ok rfl rfl k3 rfl rfl rfl rfl h5.1 h5.2 (fun hO2 => ?_)
    refine WL.y rfl (Yld.pure tab_ok rfl) ?_
    refine WL.nil (WX.then_normal ?_)
    refine WC.seq ?_
    refine WC.seq ?_
    refine WC.region ?_
    refine WL.y rfl (Yld.pure tab_ok rfl) ?_
    refine WL.y rfl (Yld.pure tab_ok rfl) ?_
    obtain ⟨h6, H⟩ := H
    refine WL.y rfl (Yld.iaddrW tab_ok k2.rd rfl rfl hn_seen rfl h6.1 h6.2) ?_
    refine WL.y rfl (Yld.iload false tab_ok k2.rd rfl rfl (iltN h6 hn_seen)) ?_
    refine WL.nil (WX.then_normal ?_)
    refine WC.cond rfl (fun b2 => ?_) (fun b2 => ?_)
    · replace H := H.1 (b2)
      refine WC.exit (WX.then_exit (WX.block_same ?_))
      exact WX.roundF _ ⟨l2.take ((l2.length : Int) - (1 : Int)).toNat, A_l2, c_l2, (l2.take ((l2.length : Int) - (1 : Int)).toNat).length, seen, rfl, rfl, H.1, hn_seen, rfl, gr2, k2, hO2, dj1, hi1⟩ (by repeat (first | exact Sub.nil | refine Sub.cons rfl ?_)) H.2
    · replace H := H.2 (b2)
      refine WC.skip (WX.then_normal ?_)
      refine WC.seq ?_
      refine WC.region ?_
      refine WL.y rfl (Yld.pure tab_ok rfl) ?_
      refine WL.y rfl (Yld.pure tab_ok rfl) ?_
      obtain ⟨h7, H⟩ := H
      refine WL.y rfl (Yld.iaddrW tab_ok k2.rd rfl rfl hn_seen rfl h7.1 h7.2) ?_
      refine WL.ostore (v := true) one4 One.B k2 rfl rfl (iltN h7 hn_seen) (fun w3 hO3 hg2 => ?_)
      have gr3 : GrL [(blk A_l)] w w3 := GrL.mod gr2 hg2 (InP.ge k2.ge')
      have k4 := hO2.go hg2 dj1.symm
      refine WL.nil (WX.then_normal ?_)
      refine WC.region ?_
      refine WL.y rfl (Yld.pure tab_ok rfl) ?_
      refine WL.y rfl (Yld.pure tab_ok rfl) ?_
      refine WL.y rfl (Yld.pure tab_ok rfl) ?_
      refine WL.call rfl rfl (W_psmithyref17_Graph_Before (hg_L.goL gr3 hap0) rfl (hr_g_L.goL gr3 hap1) (hg.goL gr3 hap2) H) ?_
      rintro _ w4 ⟨hg3, t39, A_t39, c_t39, rfl, ht39, H⟩
      have hb1 := ht39.ge'
      have k5 := ht39.base (fun g hg => Nat.le_trans (GrL.sizeL gr3) (hb1 g hg))
      have gr4 := GrL.add0 gr3 hg3
      have k6 := hO3.grown hg3
      have k7 := k4.grown hg3
      obtain ⟨h8, H⟩ := H
      refine WL.append tab_ok rfl rfl One.i k7 rfl rfl k5.rd rfl rfl h8 (applen h8) (Nat.zero_le _) (fun A_l3 c_l3 w5 hO4 hg4 hk1 => ?_)
      have gr5 : GrL [(blk A_l)] w w5 := GrL.mod gr4 hg4 hi1
      have k8 := k6.go hg4 dj1
      refine WL.y rfl (Yld.pure tab_ok rfl) ?_
      refine WL.nil (WX.block_normal ?_)
      exact WX.roundF _ ⟨(l2.take ((l2.length : Int) - (1 : Int)).toNat) ++ t39, A_l3, c_l3, ((l2.take ((l2.length : Int) - (1 : Int)).toNat) ++ t39).length, seen.set ((l2.getD (((l2.length : Int) - (1 : Int)).toNat) 0).toNat) true, rfl, rfl, H.1, (hn_seen.trans List.length_set.symm), rfl, gr5, k8, hO4, (Dj.app dj1.symm k6.lt' hk1).symm, (InP.app hi1 hk1 (GrL.sizeL gr4))⟩ (by repeat (first | exact Sub.nil | refine Sub.cons rfl ?_)) H.2
  · replace H := H.2 (of_decide_eq_false b1)
    refine WC.exit (WX.then_exit (WX.then_exit (WX.block_same (WX.then_normal ?_))))
    refine WC.seq ?_
    refine WC.region ?_
    refine WL.y rfl (Yld.pure tab_ok rfl) ?_
    refine WL.nil (WX.then_normal ?_)
    refine WC.seq ?_
    refine WC.seq ?_
    refine WC.region ?_
    refine WL.y rfl (Yld.pure tab_ok rfl) ?_
    refine WL.nil (WX.then_normal ?_)
    refine WC.block ?_
    obtain ⟨I2, mu2, h0_2, HR2⟩ := H
    refine WC.loopF (fun n' L' w' => ∃ (out : List Int), ∃ (A_out : Option Addr), ∃ (c_out : Nat), ∃ (n_out : Nat), ∃ (i : Int), n' = mu2 out i ∧ L' = [(5, .slice (some ⟨g1, 0, none⟩) ((g_L.length : Int).toNat) ((g_L.length : Int).toNat)), (7, .slice A_out n_out c_out), (8, .int .i64 i)] ∧ I2 out i ∧ n_out = out.length ∧ GrL [(blk A_l)] w w' ∧ Own vB w' w.heap.size 4 (some ⟨g1, 0, none⟩) ((g_L.length : Int).toNat) seen ∧ Own vi w' w.heap.size 3 A_out c_out out ∧ Dj (blk (some ⟨g1, 0, none⟩)) (blk A_out)) _ _ ⟨[], none, 0, 0, (0 : Int), rfl, rfl, h0_2, rfl, gr2, k2, (Own.nil vi w2 w.heap.size 3), Dj.nr⟩ (by repeat (first | exact Sub.nil | refine Sub.cons rfl ?_)) ?_
    clear h0_2
    rintro _ _ w6 ⟨out, A_out, c_out, n_out, i, rfl, rfl, hI2, rfl, gr6, k9, k10, dj2⟩
    have H := HR2 out i hI2
    refine WC.seq ?_
    refine WC.seq ?_
    refine WC.region ?_
    refine WL.y rfl (Yld.pure tab_ok rfl) ?_
    refine WL.y rfl (Yld.pure tab_ok rfl) ?_
    refine WL.y rfl (Yld.pure tab_ok rfl) ?_
    refine WL.y rfl (Yld.pure tab_ok rfl) ?_
    refine WL.nil (WX.then_normal ?_)
    refine WC.cond rfl (fun b3 => ?_) (fun b3 => ?_)
    · replace H := H.1 (of_decide_eq_true b3)
      refine WC.skip (WX.then_normal ?_)
      refine WC.seq ?_
      obtain ⟨J1, H, hJ1⟩ := H
      refine WC.midF (fun L' w' => ∃ (out2 : List Int), ∃ (A_out2 : Option Addr), ∃ (c_out2 : Nat), ∃ (n_out2 : Nat), L' = [(5, .slice (some ⟨g1, 0, none⟩) ((g_L.length : Int).toNat) ((g_L.length : Int).toNat)), (7, .slice A_out2 n_out2 c_out2), (8, .int .i64 i)] ∧ J1 out2 ∧ n_out2 = out2.length ∧ GrL [(blk A_l)] w w' ∧ Own vB w' w.heap.size 4 (some ⟨g1, 0, none⟩) ((g_L.length : Int).toNat) seen ∧ Own vi w' w.heap.size 3 A_out2 c_out2 out2 ∧ Dj (blk (some ⟨g1, 0, none⟩)) (blk A_out2)) ?_ (fun hQ => ?_)
      · clear H
        rintro _ w7 ⟨out2, A_out2, c_out2, n_out2, rfl, H, rfl, gr7, k11, k12, dj3⟩
        replace H := hJ1 out2 H
        refine WX.then_normal ?_
        refine WC.region ?_
        refine WL.y rfl (Yld.pure tab_ok rfl) ?_
        obtain ⟨h9, H⟩ := H
        refine WL.y rfl (Yld.add rfl rfl h9) ?_
        refine WL.y rfl (Yld.pure tab_ok rfl) ?_
        refine WL.nil ?_
        exact WX.roundF _ ⟨out2, A_out2, c_out2, out2.length, i + (1 : Int), rfl, rfl, H.1, rfl, gr7, k11, k12, dj3⟩ (by repeat (first | exact Sub.nil | refine Sub.cons rfl ?_)) H.2
      · clear hJ1
        refine WC.block ?_
        refine WC.seq ?_
        refine WC.region ?_
        refine WL.y rfl (Yld.pure tab_ok rfl) ?_
        refine WL.y rfl (Yld.pure tab_ok rfl) ?_
        obtain ⟨h10, H⟩ := H
        refine WL.y rfl (Yld.iaddrW tab_ok k9.rd rfl rfl hn_seen rfl h10.1 h10.2) ?_
        refine WL.y rfl (Yld.iload false tab_ok k9.rd rfl rfl (iltN h10 hn_seen)) ?_
        refine WL.nil (WX.then_normal ?_)
        refine WC.cond rfl (fun b4 => ?_) (fun b4 => ?_)
        · replace H := H.1 (b4)
          refine WC.region ?_
          refine WL.y rfl (Yld.pure tab_ok rfl) ?_
          refine WL.y rfl (Yld.pure tab_ok rfl) ?_
          refine WL.lit tab_ok rfl rfl rfl (all1c rfl all1n) rfl (by omega) (fun g2 w8 hB1 hg5 hl2 => ?_)
          have hO5 : Own vi w8 w.heap.size 3 (some ⟨g2, 0, none⟩) 1 ([i] : List Int) := Own.ofBl hB1 (Nat.le_trans (GrL.sizeL gr6) hl2) (by simp [maxLen]) rfl
          have gr8 := GrL.add0 gr6 hg5
          have k13 := k9.grown hg5
          have k14 := k10.grown hg5
          obtain ⟨h11, H⟩ := H
          refine WL.append tab_ok rfl rfl One.i k14 rfl rfl hO5.rd rfl rfl h11 (applen h11) (GrL.sizeL gr8) (fun A_out3 c_out3 w9 hO6 hg6 hk2 => ?_)
          have gr9 : GrL [(blk A_l)] w w9 := GrL.mod gr8 hg6 (InP.ge k14.ge')
          have k15 := k13.go hg6 dj2
          refine WL.y rfl (Yld.pure tab_ok rfl) ?_
          refine WL.nil (WX.block_normal ?_)
          exact WX.weaken (by repeat (first | exact Sub.nil | refine Sub.cons rfl ?_)) (hQ _ _ ⟨out ++ ([i] : List Int), A_out3, c_out3, (out ++ ([i] : List Int)).length, rfl, H, rfl, gr9, k15, hO6, (Dj.app dj2.symm k13.lt' hk2).symm⟩)
        · replace H := H.2 (b4)
          refine WC.skip (WX.block_normal ?_)
          exact WX.weaken (by repeat (first | exact Sub.nil | refine Sub.cons rfl ?_)) (hQ _ _ ⟨out, A_out, c_out, out.length, rfl, H, rfl, gr6, k9, k10, dj2⟩)
    · replace H := H.2 (of_decide_eq_false b3)
      refine WC.exit (WX.then_exit (WX.then_exit (WX.block_same (WX.then_normal ?_))))
      refine WC.seq ?_
      refine WC.region ?_
      refine WL.y rfl (Yld.pure tab_ok rfl) ?_
      refine WL.y rfl (Yld.pure tab_ok rfl) ?_
      refine WL.nil (WX.then_normal ?_)
      refine WC.ret ?_
      exact WX.ret1 rfl rfl ⟨gr6, out, A_out, c_out, rfl, k10, H⟩

set_option maxHeartbeats 8000000 in
theorem W_psmithyref17_Graph_Order {w : World} {g_g : Nat} {g_L : List (Int × List (List UInt8) × List (List UInt8) × List UInt8)} {A_g_L : Option Addr} {c_g_L : Nat} {hs_g_L : List (Int × Hdr × Hdr × List UInt8)} {n_g_L : Nat} {K : (List Int) → Prop} (hg_L : RdK 4 encH94 w A_g_L c_g_L hs_g_L) (hn_g_L : n_g_L = g_L.length) (hr_g_L : RelD de94 w hs_g_L g_L) (hg : Bl w g_g 185 [.slice A_g_L n_g_L c_g_L]) (H : M_psmithyref17_Graph_Order g_L K) : Fn Tryz.prog 51 ⟨[.pointer (some ⟨g_g, 0, none⟩)]⟩ w (fun v w' => w.grownBy w' none ∧ ∃ (r : List Int), ∃ (A_r : Option Addr), ∃ (c_r : Nat), v = .slice A_r r.length c_r ∧ Own vi w' w.heap.size 3 A_r c_r r ∧ K r) := by
  subst hn_g_L
  unfold M_psmithyref17_Graph_Order at H
  refine Fn.enter (by kernel_rfl) Tryz.func51 rfl Tryz.ntmps51 rfl ?_
  replace H := H (by rw [← hr_g_L.1]; exact Nat.le_trans hg_L.cap hg_L.max)
  refine WC.seq ?_
  refine WC.region ?_
  refine WL.y rfl (Yld.pure tab_ok rfl) ?_
  refine WL.nil (WX.then_normal ?_)
  refine WC.seq ?_
  refine WC.region ?_
  refine WL.y rfl (Yld.pure tab_ok rfl) ?_
  refine WL.nil (WX.then_normal ?_)
  refine WC.seq ?_
  refine WC.block ?_
  obtain ⟨I1, mu1, h0_1, HR1⟩ := H
  refine WC.loopF (fun n' L' w' => ∃ (out : List Int), ∃ (A_out : Option Addr), ∃ (c_out : Nat), ∃ (n_out : Nat), n' = mu1 out ∧ L' = [(0, .pointer (some ⟨g_g, 0, none⟩)), (3, .slice A_out n_out c_out)] ∧ I1 out ∧ n_out = out.length ∧ w.grownBy w' none ∧ Own vi w' w.heap.size 3 A_out c_out out) _ _ ⟨[], none, 0, 0, rfl, rfl, h0_1, rfl, (gr_refl _ _), (Own.nil vi w w.heap.size 3)⟩ (by repeat (first | exact Sub.nil | refine Sub.cons rfl ?_)) ?_
  clear h0_1
  rintro _ _ w1 ⟨out, A_out, c_out, n_out, rfl, rfl, hI1, rfl, gr1, k1⟩
  have H := HR1 out hI1
  refine WC.seq ?_
  refine WC.seq ?_
  refine WC.region ?_
  refine WL.y rfl (Yld.pure tab_ok rfl) ?_
  refine WL.y rfl (Yld.pure tab_ok rfl) ?_
  refine WL.y rfl (Yld.pure tab_ok rfl) ?_
  refine WL.y rfl (Yld.pure tab_ok rfl) ?_
  refine WL.y rfl (Yld.pure tab_ok rfl) ?_
  refine WL.y rfl (Yld.bload tab_ok (hg.g0 gr1) rfl rfl rfl) ?_
  refine WL.y rfl (Yld.pure tab_ok rfl) ?_
  refine WL.y rfl (Yld.pure tab_ok rfl) ?_
  refine WL.nil (WX.then_normal ?_)
  refine WC.cond rfl (fun b1 => ?_) (fun b1 => ?_)
  · replace H := H.1 (of_decide_eq_true b1)
    refine WC.skip (WX.then_normal ?_)
    refine WC.block ?_
    refine WC.seq ?_
    refine WC.region ?_
    refine WL.y rfl (Yld.pure tab_ok rfl) ?_
    refine WL.nil (WX.then_normal ?_)
    refine WC.seq ?_
    refine WC.seq ?_
    refine WC.region ?_
    refine WL.y rfl (Yld.pure tab_ok rfl) ?_
    refine WL.nil (WX.then_normal ?_)
    refine WC.block ?_
    obtain ⟨I2, mu2, h0_2, HR2⟩ := H
    refine WC.loopF (fun n' L' w' => ∃ (best : Int), ∃ (i : Int), n' = mu2 best i ∧ L' = [(0, .pointer (some ⟨g_g, 0, none⟩)), (3, .slice A_out out.length c_out), (4, .int .i64 best), (5, .int .i64 i)] ∧ I2 best i ∧ w.grownBy w' none ∧ Own vi w' w.heap.size 3 A_out c_out out) _ _ ⟨(-1 : Int), (0 : Int), rfl, rfl, h0_2, gr1, k1⟩ (by repeat (first | exact Sub.nil | refine Sub.cons rfl ?_)) ?_
    clear h0_2
    rintro _ _ w2 ⟨best, i, rfl, rfl, hI2, gr2, k2⟩
    have H := HR2 best i hI2
    refine WC.seq ?_
    refine WC.seq ?_
    refine WC.region ?_
    refine WL.y rfl (Yld.pure tab_ok rfl) ?_
    refine WL.y rfl (Yld.pure tab_ok rfl) ?_
    refine WL.y rfl (Yld.pure tab_ok rfl) ?_
    refine WL.y rfl (Yld.pure tab_ok rfl) ?_
    refine WL.y rfl (Yld.bload tab_ok (hg.g0 gr2) rfl rfl rfl) ?_
    refine WL.y rfl (Yld.pure tab_ok rfl) ?_
    refine WL.y rfl (Yld.pure tab_ok rfl) ?_
    refine WL.y rfl (Yld.pure tab_ok rfl) ?_
    refine WL.midF 3 (fun L' w' => ∃ q1 : Bool, L' = [(27, .bool q1), (0, .pointer (some ⟨g_g, 0, none⟩)), (3, .slice A_out out.length c_out), (4, .int .i64 best), (5, .int .i64 i)] ∧ ((decide (i < (g_L.length : Int))) && (decide (best < (0 : Int)))) = q1 ∧ w2 = w') ?_ (fun hQ => ?_)
    · rintro _ _ ⟨q1, rfl, rfl, rfl⟩
      refine WL.nil (WX.then_normal ?_)
      refine WC.cond rfl (fun b2 => ?_) (fun b2 => ?_)
      · replace H := H.1 (b2)
        refine WC.skip (WX.then_normal ?_)
        refine WC.seq ?_
        obtain ⟨J1, H, hJ1⟩ := H
        refine WC.midF (fun L' w' => ∃ (best2 : Int), L' = [(0, .pointer (some ⟨g_g, 0, none⟩)), (3, .slice A_out out.length c_out), (4, .int .i64 best2), (5, .int .i64 i)] ∧ J1 best2 ∧ w.grownBy w' none ∧ Own vi w' w.heap.size 3 A_out c_out out) ?_ (fun hQ => ?_)
        · clear H
          rintro _ w3 ⟨best2, rfl, H, gr3, k3⟩
          replace H := hJ1 best2 H
          refine WX.then_normal ?_
          refine WC.region ?_
          refine WL.y rfl (Yld.pure tab_ok rfl) ?_
          obtain ⟨h1, H⟩ := H
          refine WL.y rfl (Yld.add rfl rfl h1) ?_
          refine WL.y rfl (Yld.pure tab_ok rfl) ?_
          refine WL.nil ?_
          exact WX.roundF _ ⟨best2, i + (1 : Int), rfl, rfl, H.1, gr3, k3⟩ (by repeat (first | exact Sub.nil | refine Sub.cons rfl ?_)) H.2
        · clear hJ1
          refine WC.block ?_
          refine WC.seq ?_
          refine WC.seq ?_
          refine WC.region ?_
          refine WL.y rfl (Yld.pure tab_ok rfl) ?_
          refine WL.y rfl (Yld.pure tab_ok rfl) ?_
          refine WL.call rfl rfl (W_smithyref_Among k2.rd rfl H) ?_
          rintro _ _ ⟨rfl, t32, rfl, H⟩
          refine WL.nil (WX.then_normal ?_)
          refine WC.cond rfl (fun b3 => ?_) (fun b3 => ?_)
          · replace H := H.1 (b3)
            refine WC.exit (WX.then_exit (WX.block_same ?_))
            exact WX.weaken (by repeat (first | exact Sub.nil | refine Sub.cons rfl ?_)) (hQ _ _ ⟨best, rfl, H, gr2, k2⟩)
          · replace H := H.2 (b3)
            refine WC.skip (WX.then_normal ?_)
            refine WC.seq ?_
            refine WC.region ?_
            refine WL.y rfl (Yld.pure tab_ok rfl) ?_
            refine WL.nil (WX.then_normal ?_)
            refine WC.seq ?_
            refine WC.region ?_
            refine WL.y rfl (Yld.pure tab_ok rfl) ?_
            refine WL.y rfl (Yld.pure tab_ok rfl) ?_
            refine WL.call rfl rfl (W_psmithyref17_Graph_Before (hg_L.grown gr2) rfl (hr_g_L.grown gr2) (hg.g0 gr2) H) ?_
            rintro _ w4 ⟨hg1, b, A_b, c_b, rfl, hb, H⟩
            have hb1 := hb.ge'
            have k4 := hb.base (fun g hg => Nat.le_trans (size_le gr2) (hb1 g hg))
            have gr4 := gr_trans gr2 hg1
            have k5 := k2.grown hg1
            refine WL.y rfl (Yld.pure tab_ok rfl) ?_
            refine WL.nil (WX.then_normal ?_)
            refine WC.seq ?_
            refine WC.seq ?_
            refine WC.region ?_
            refine WL.y rfl (Yld.pure tab_ok rfl) ?_
            refine WL.nil (WX.then_normal ?_)
            refine WC.block ?_
            obtain ⟨I3, mu3, h0_3, HR3⟩ := H
            refine WC.loopF (fun n' L' w' => ∃ (free : Bool), ∃ (k : Int), n' = mu3 free k ∧ L' = [(0, .pointer (some ⟨g_g, 0, none⟩)), (3, .slice A_out out.length c_out), (4, .int .i64 best), (5, .int .i64 i), (6, .bool free), (7, .slice A_b b.length c_b), (8, .int .i64 k)] ∧ I3 free k ∧ w4 = w') _ _ ⟨true, (0 : Int), rfl, rfl, h0_3, rfl⟩ (by repeat (first | exact Sub.nil | refine Sub.cons rfl ?_)) ?_
            clear h0_3
            rintro _ _ _ ⟨free, k, rfl, rfl, hI3, rfl⟩
            have H := HR3 free k hI3
            refine WC.seq ?_
            refine WC.seq ?_
            refine WC.region ?_
            refine WL.y rfl (Yld.pure tab_ok rfl) ?_
            refine WL.y rfl (Yld.pure tab_ok rfl) ?_
            refine WL.y rfl (Yld.pure tab_ok rfl) ?_
            refine WL.y rfl (Yld.pure tab_ok rfl) ?_
            refine WL.nil (WX.then_normal ?_)
            refine WC.cond rfl (fun b4 => ?_) (fun b4 => ?_)
            · replace H := H.1 (of_decide_eq_true b4)
              refine WC.skip (WX.then_normal ?_)
              refine WC.seq ?_
              refine WC.block ?_
              refine WC.region ?_
              refine WL.y rfl (Yld.pure tab_ok rfl) ?_
              refine WL.y rfl (Yld.pure tab_ok rfl) ?_
              obtain ⟨J2, H, hJ2⟩ := H
              refine WL.midF 7 (fun L' w' => ∃ q2 : Bool, L' = [(50, .bool q2), (0, .pointer (some ⟨g_g, 0, none⟩)), (3, .slice A_out out.length c_out), (4, .int .i64 best), (5, .int .i64 i), (7, .slice A_b b.length c_b), (8, .int .i64 k)] ∧ J2 q2 ∧ w4 = w') ?_ (fun hQ => ?_)
              · clear H
                rintro _ _ ⟨q2, rfl, H, rfl⟩
                replace H := hJ2 q2 H
                refine WL.y rfl (Yld.pure tab_ok rfl) ?_
                refine WL.nil (WX.block_normal (WX.then_normal ?_))
                refine WC.region ?_
                refine WL.y rfl (Yld.pure tab_ok rfl) ?_
                obtain ⟨h2, H⟩ := H
                refine WL.y rfl (Yld.add rfl rfl h2) ?_
                refine WL.y rfl (Yld.pure tab_ok rfl) ?_
                refine WL.nil ?_
                exact WX.roundF _ ⟨q2, k + (1 : Int), rfl, rfl, H.1, rfl⟩ (by repeat (first | exact Sub.nil | refine Sub.cons rfl ?_)) H.2
              · clear hJ2
                rcases Bool.eq_false_or_eq_true (free) with b5 | b5
                · replace H := H.1 b5
                  refine WL.gyes rfl rfl (okb b5) rfl (Yld.pure tab_ok rfl) ?_
                  refine WL.gyes rfl rfl (okb b5) rfl (Yld.pure tab_ok rfl) ?_
                  refine WL.gyes rfl rfl (okb b5) rfl (Yld.pure tab_ok rfl) ?_
                  obtain ⟨h3, H⟩ := H
                  refine WL.gyes rfl rfl (okb b5) rfl (Yld.iaddrW tab_ok k4.rd rfl rfl rfl rfl h3.1 h3.2) ?_
                  refine WL.gyes rfl rfl (okb b5) rfl (Yld.iload 0 tab_ok k4.rd rfl rfl (iltN h3 rfl)) ?_
                  refine WL.callw (wants_some rfl rfl (okb b5)) rfl rfl (W_smithyref_Among k5.rd rfl H) ?_
                  rintro _ _ ⟨rfl, t49, rfl, H⟩
                  refine WL.y rfl (Yld.pickT (okb b5) rfl) ?_
                  exact WL.weaken (by repeat (first | exact Sub.nil | refine Sub.cons rfl ?_)) (hQ _ _ ⟨t49, rfl, H, rfl⟩)
                · replace H := H.2 b5
                  refine WL.gno rfl rfl (okb b5) rfl ?_
                  refine WL.gno rfl rfl (okb b5) rfl ?_
                  refine WL.gno rfl rfl (okb b5) rfl ?_
                  refine WL.gno rfl rfl (okb b5) rfl ?_
                  refine WL.gno rfl rfl (okb b5) rfl ?_
                  refine WL.gno rfl rfl (okb b5) rfl ?_
                  refine WL.y rfl (Yld.pickF (okb b5) rfl) ?_
                  exact WL.weaken (by repeat (first | exact Sub.nil | refine Sub.cons rfl ?_)) (hQ _ _ ⟨false, rfl, H, rfl⟩)
            · replace H := H.2 (of_decide_eq_false b4)
              refine WC.exit (WX.then_exit (WX.then_exit (WX.block_same (WX.then_normal ?_))))
              refine WC.seq ?_
              refine WC.region ?_
              refine WL.y rfl (Yld.pure tab_ok rfl) ?_
              refine WL.nil (WX.then_normal ?_)
              refine WC.cond rfl (fun b6 => ?_) (fun b6 => ?_)
              · replace H := H.1 (b6)
                refine WC.region ?_
                refine WL.y rfl (Yld.pure tab_ok rfl) ?_
                refine WL.y rfl (Yld.pure tab_ok rfl) ?_
                refine WL.nil (WX.block_normal ?_)
                exact WX.weaken (by repeat (first | exact Sub.nil | refine Sub.cons rfl ?_)) (hQ _ _ ⟨i, rfl, H, gr4, k5⟩)
              · replace H := H.2 (b6)
                refine WC.skip (WX.block_normal ?_)
                exact WX.weaken (by repeat (first | exact Sub.nil | refine Sub.cons rfl ?_)) (hQ _ _ ⟨best, rfl, H, gr4, k5⟩)
      · replace H := H.2 (b2)
        refine WC.exit (WX.then_exit (WX.then_exit (WX.block_same (WX.then_normal ?_))))
        refine WC.seq ?_
        refine WC.seq ?_
        refine WC.region ?_
        refine WL.y rfl (Yld.pure tab_ok rfl) ?_
        refine WL.y rfl (Yld.pure tab_ok rfl) ?_
        refine WL.nil (WX.then_normal ?_)
        refine WC.cond rfl (fun b7 => ?_) (fun b7 => ?_)
        · replace H := H.1 (of_decide_eq_true b7)
          refine WC.seq ?_
          refine WC.region ?_
          refine WL.y rfl (Yld.pure tab_ok rfl) ?_
          refine WL.y rfl (Yld.pure tab_ok rfl) ?_
          refine WL.nil (WX.then_normal ?_)
          refine WC.ret (WX.then_ret (WX.block_ret (WX.then_ret (WX.block_ret (WX.then_ret ?_)))))
          exact WX.ret1 rfl rfl ⟨gr2, out, A_out, c_out, rfl, k2, H⟩
        · replace H := H.2 (of_decide_eq_false b7)
          refine WC.skip (WX.then_normal ?_)
          refine WC.region ?_
          refine WL.y rfl (Yld.pure tab_ok rfl) ?_
          refine WL.y rfl (Yld.pure tab_ok rfl) ?_
          refine WL.lit tab_ok rfl rfl rfl (all1c rfl all1n) rfl (by omega) (fun g1 w5 hB1 hg2 hl1 => ?_)
          have hO1 : Own vi w5 w.heap.size 3 (some ⟨g1, 0, none⟩) 1 ([best] : List Int) := Own.ofBl hB1 (Nat.le_trans (size_le gr2) hl1) (by simp [maxLen]) rfl
          have gr5 := gr_trans gr2 hg2
          have k6 := k2.grown hg2
          obtain ⟨h4, H⟩ := H
          refine WL.append tab_ok rfl rfl One.i k6 rfl rfl hO1.rd rfl rfl h4 (applen h4) (size_le gr5) (fun A_out2 c_out2 w6 hO2 hg3 hk1 => ?_)
          have gr6 := gr_mod gr5 hg3 k6.ge'
          refine WL.y rfl (Yld.pure tab_ok rfl) ?_
          refine WL.nil (WX.block_normal ?_)
          exact WX.roundF _ ⟨out ++ ([best] : List Int), A_out2, c_out2, (out ++ ([best] : List Int)).length, rfl, rfl, H.1, rfl, gr6, hO2⟩ (by repeat (first | exact Sub.nil | refine Sub.cons rfl ?_)) H.2
    · clear H
      rcases Bool.eq_false_or_eq_true (decide (i < (g_L.length : Int))) with b8 | b8
      · refine WL.gyes rfl rfl (okb b8) rfl (Yld.pure tab_ok rfl) ?_
        refine WL.gyes rfl rfl (okb b8) rfl (Yld.pure tab_ok rfl) ?_
        refine WL.y rfl (Yld.pickT (okb b8) rfl) ?_
        exact WL.weaken (by repeat (first | exact Sub.nil | refine Sub.cons rfl ?_)) (hQ _ _ ⟨decide (best < (0 : Int)), rfl, by rw [b8] <;> rfl, rfl⟩)
      · refine WL.gno rfl rfl (okb b8) rfl ?_
        refine WL.gno rfl rfl (okb b8) rfl ?_
        refine WL.y rfl (Yld.pickF (okb b8) rfl) ?_
        exact WL.weaken (by repeat (first | exact Sub.nil | refine Sub.cons rfl ?_)) (hQ _ _ ⟨false, rfl, by rw [b8] <;> rfl, rfl⟩)
  · replace H := H.2 (of_decide_eq_false b1)
    refine WC.exit (WX.then_exit (WX.then_exit (WX.block_same (WX.then_normal ?_))))
    refine WC.seq ?_
    refine WC.region ?_
    refine WL.y rfl (Yld.pure tab_ok rfl) ?_
    refine WL.y rfl (Yld.pure tab_ok rfl) ?_
    refine WL.nil (WX.then_normal ?_)
    refine WC.ret ?_
    exact WX.ret1 rfl rfl ⟨gr1, out, A_out, c_out, rfl, k1, H⟩

set_option maxHeartbeats 8000000 in
theorem W_psmithyref17_Graph_Needs {w : World} {g_g : Nat} {g_L : List (Int × List (List UInt8) × List (List UInt8) × List UInt8)} {A_g_L : Option Addr} {c_g_L : Nat} {hs_g_L : List (Int × Hdr × Hdr × List UInt8)} {outputs : List (List UInt8)} {A_outputs : Option Addr} {c_outputs : Nat} {n_g_L : Nat} {n_outputs : Nat} {K : (List Int) → Prop} (hg_L : RdK 4 encH94 w A_g_L c_g_L hs_g_L) (hn_g_L : n_g_L = g_L.length) (hr_g_L : RelD de94 w hs_g_L g_L) (hg : Bl w g_g 185 [.slice A_g_L n_g_L c_g_L]) (houtputs : Rd vs w A_outputs c_outputs outputs) (hn_outputs : n_outputs = outputs.length) (H : M_psmithyref17_Graph_Needs g_L outputs K) : Fn Tryz.prog 60 ⟨[.pointer (some ⟨g_g, 0, none⟩), .slice A_outputs n_outputs c_outputs]⟩ w (fun v w' => w.grownBy w' none ∧ ∃ (r : List Int), ∃ (A_r : Option Addr), ∃ (c_r : Nat), v = .slice A_r r.length c_r ∧ Own vi w' w.heap.size 3 A_r c_r r ∧ K r) := by
  subst hn_g_L
  subst hn_outputs
  unfold M_psmithyref17_Graph_Needs at H
  refine Fn.enter (by kernel_rfl) Tryz.func60 rfl Tryz.ntmps60 rfl ?_
  replace H := H (by rw [← hr_g_L.1]; exact Nat.le_trans hg_L.cap hg_L.max)
  replace H := H (Nat.le_trans houtputs.cap houtputs.max)
  refine WC.seq ?_
  refine WC.region ?_
  refine WL.y rfl (Yld.pure tab_ok rfl) ?_
  refine WL.nil (WX.then_normal ?_)
  refine WC.seq ?_
  refine WC.region ?_
  refine WL.y rfl (Yld.pure tab_ok rfl) ?_
  refine WL.nil (WX.then_normal ?_)
  refine WC.seq ?_
  refine WC.seq ?_
  refine WC.region ?_
  refine WL.y rfl (Yld.pure tab_ok rfl) ?_
  refine WL.nil (WX.then_normal ?_)
  refine WC.block ?_
  obtain ⟨I1, mu1, h0_1, HR1⟩ := H
  refine WC.loopF (fun n' L' w' => ∃ (l : List Int), ∃ (A_l : Option Addr), ∃ (c_l : Nat), ∃ (n_l : Nat), ∃ (i : Int), n' = mu1 l i ∧ L' = [(0, .pointer (some ⟨g_g, 0, none⟩)), (1, .slice A_outputs outputs.length c_outputs), (5, .slice A_l n_l c_l), (6, .int .i64 i)] ∧ I1 l i ∧ n_l = l.length ∧ w.grownBy w' none ∧ Own vi w' w.heap.size 3 A_l c_l l) _ _ ⟨[], none, 0, 0, (0 : Int), rfl, rfl, h0_1, rfl, (gr_refl _ _), (Own.nil vi w w.heap.size 3)⟩ (by repeat (first | exact Sub.nil | refine Sub.cons rfl ?_)) ?_
  clear h0_1
  rintro _ _ w1 ⟨l, A_l, c_l, n_l, i, rfl, rfl, hI1, rfl, gr1, k1⟩
  have H := HR1 l i hI1
  refine WC.seq ?_
  refine WC.seq ?_
  refine WC.region ?_
  refine WL.y rfl (Yld.pure tab_ok rfl) ?_
  refine WL.y rfl (Yld.pure tab_ok rfl) ?_
  refine WL.y rfl (Yld.pure tab_ok rfl) ?_
  refine WL.y rfl (Yld.pure tab_ok rfl) ?_
  refine WL.nil (WX.then_normal ?_)
  refine WC.cond rfl (fun b1 => ?_) (fun b1 => ?_)
  · replace H := H.1 (of_decide_eq_true b1)
    refine WC.skip (WX.then_normal ?_)
    refine WC.seq ?_
    obtain ⟨J1, H, hJ1⟩ := H
    refine WC.midF (fun L' w' => ∃ (l2 : List Int), ∃ (A_l2 : Option Addr), ∃ (c_l2 : Nat), ∃ (n_l2 : Nat), L' = [(0, .pointer (some ⟨g_g, 0, none⟩)), (1, .slice A_outputs outputs.length c_outputs), (5, .slice A_l2 n_l2 c_l2), (6, .int .i64 i)] ∧ J1 l2 ∧ n_l2 = l2.length ∧ w.grownBy w' none ∧ Own vi w' w.heap.size 3 A_l2 c_l2 l2) ?_ (fun hQ => ?_)
    · clear H
      rintro _ w2 ⟨l2, A_l2, c_l2, n_l2, rfl, H, rfl, gr2, k2⟩
      replace H := hJ1 l2 H
      refine WX.then_normal ?_
      refine WC.region ?_
      refine WL.y rfl (Yld.pure tab_ok rfl) ?_
      obtain ⟨h1, H⟩ := H
      refine WL.y rfl (Yld.add rfl rfl h1) ?_
      refine WL.y rfl (Yld.pure tab_ok rfl) ?_
      refine WL.nil ?_
      exact WX.roundF _ ⟨l2, A_l2, c_l2, l2.length, i + (1 : Int), rfl, rfl, H.1, rfl, gr2, k2⟩ (by repeat (first | exact Sub.nil | refine Sub.cons rfl ?_)) H.2
    · clear hJ1
      refine WC.block ?_
      refine WC.seq ?_
      refine WC.region ?_
      refine WL.y rfl (Yld.pure tab_ok rfl) ?_
      refine WL.y rfl (Yld.pure tab_ok rfl) ?_
      refine WL.y rfl (Yld.pure tab_ok rfl) ?_
      obtain ⟨h2, H⟩ := H
      refine WL.y rfl (Yld.iaddrW tab_ok (houtputs.grown gr1) rfl rfl rfl rfl h2.1 h2.2) ?_
      refine WL.y rfl (Yld.iload [] tab_ok (houtputs.grown gr1) rfl rfl (iltN h2 rfl)) ?_
      refine WL.call rfl rfl (W_psmithyref17_Graph_Maker (hg_L.grown gr1) rfl (hr_g_L.grown gr1) (hg.g0 gr1) H) ?_
      rintro _ _ ⟨rfl, m, rfl, H⟩
      refine WL.y rfl (Yld.pure tab_ok rfl) ?_
      refine WL.nil (WX.then_normal ?_)
      refine WC.seq ?_
      refine WC.region ?_
      refine WL.y rfl (Yld.pure tab_ok rfl) ?_
      refine WL.y rfl (Yld.pure tab_ok rfl) ?_
      refine WL.nil (WX.then_normal ?_)
      refine WC.cond rfl (fun b2 => ?_) (fun b2 => ?_)
      · replace H := H.1 (of_decide_eq_true b2)
        refine WC.region ?_
        refine WL.y rfl (Yld.pure tab_ok rfl) ?_
        refine WL.y rfl (Yld.pure tab_ok rfl) ?_
        refine WL.lit tab_ok rfl rfl rfl (all1c rfl all1n) rfl (by omega) (fun g1 w3 hB1 hg1 hl1 => ?_)
        have hO1 : Own vi w3 w.heap.size 3 (some ⟨g1, 0, none⟩) 1 ([m] : List Int) := Own.ofBl hB1 (Nat.le_trans (size_le gr1) hl1) (by simp [maxLen]) rfl
        have gr3 := gr_trans gr1 hg1
        have k3 := k1.grown hg1
        obtain ⟨h3, H⟩ := H
        refine WL.append tab_ok rfl rfl One.i k3 rfl rfl hO1.rd rfl rfl h3 (applen h3) (size_le gr3) (fun A_l3 c_l3 w4 hO2 hg2 hk1 => ?_)
        have gr4 := gr_mod gr3 hg2 k3.ge'
        refine WL.y rfl (Yld.pure tab_ok rfl) ?_
        refine WL.nil (WX.block_normal ?_)
        exact WX.weaken (by repeat (first | exact Sub.nil | refine Sub.cons rfl ?_)) (hQ _ _ ⟨l ++ ([m] : List Int), A_l3, c_l3, (l ++ ([m] : List Int)).length, rfl, H, rfl, gr4, hO2⟩)
      · replace H := H.2 (of_decide_eq_false b2)
        refine WC.skip (WX.block_normal ?_)
        exact WX.weaken (by repeat (first | exact Sub.nil | refine Sub.cons rfl ?_)) (hQ _ _ ⟨l, A_l, c_l, l.length, rfl, H, rfl, gr1, k1⟩)
  · replace H := H.2 (of_decide_eq_false b1)
    refine WC.exit (WX.then_exit (WX.then_exit (WX.block_same (WX.then_normal ?_))))
    refine WC.seq ?_
    refine WC.region ?_
    refine WL.y rfl (Yld.pure tab_ok rfl) ?_
    refine WL.y rfl (Yld.pure tab_ok rfl) ?_
    refine WL.call rfl rfl (W_psmithyref17_Graph_reach (hg_L.grown gr1) rfl (hr_g_L.grown gr1) (hg.g0 gr1) (k1.base (fun _ _ => Nat.zero_le _)) rfl (apC (Dn.new (fun hx => hg_L.lt' hx) k1.ge') apN) (apC (hr_g_L.new k1.ge') apN) (apC (Dj.new hg.lt' k1.ge') apN) H) ?_
    rintro _ w5 ⟨hgl1, t4, A_t4, c_t4, rfl, ht4, H⟩
    have hb1 := ht4.ge'
    have k4 := ht4.base (fun g hg => Nat.le_trans (size_le gr1) (hb1 g hg))
    have gr5 := gr_modL gr1 hgl1 (apC k1.ge' apN)
    refine WL.y rfl (Yld.pure tab_ok rfl) ?_
    refine WL.nil (WX.then_normal ?_)
    refine WC.ret ?_
    exact WX.ret1 rfl rfl ⟨gr5, t4, A_t4, c_t4, rfl, k4, H⟩

set_option maxHeartbeats 8000000 in
theorem W_psmithyref17_Graph_Sources {w : World} {g_g : Nat} {g_L : List (Int × List (List UInt8) × List (List UInt8) × List UInt8)} {A_g_L : Option Addr} {c_g_L : Nat} {hs_g_L : List (Int × Hdr × Hdr × List UInt8)} {n_g_L : Nat} {K : (List (List UInt8)) → Prop} (hg_L : RdK 4 encH94 w A_g_L c_g_L hs_g_L) (hn_g_L : n_g_L = g_L.length) (hr_g_L : RelD de94 w hs_g_L g_L) (hg : Bl w g_g 185 [.slice A_g_L n_g_L c_g_L]) (H : M_psmithyref17_Graph_Sources g_L K) : Fn Tryz.prog 63 ⟨[.pointer (some ⟨g_g, 0, none⟩)]⟩ w (fun v w' => w.grownBy w' none ∧ ∃ (r : List (List UInt8)), ∃ (A_r : Option Addr), ∃ (c_r : Nat), v = .slice A_r r.length c_r ∧ Own vs w' w.heap.size 9 A_r c_r r ∧ K r) := by
  subst hn_g_L
  unfold M_psmithyref17_Graph_Sources at H
  refine Fn.enter (by kernel_rfl) Tryz.func63 rfl Tryz.ntmps63 rfl ?_
  replace H := H (by rw [← hr_g_L.1]; exact Nat.le_trans hg_L.cap hg_L.max)
  refine WC.seq ?_
  refine WC.region ?_
  refine WL.y rfl (Yld.pure tab_ok rfl) ?_
  refine WL.nil (WX.then_normal ?_)
  refine WC.seq ?_
  refine WC.region ?_
  refine WL.y rfl (Yld.pure tab_ok rfl) ?_
  refine WL.nil (WX.then_normal ?_)
  refine WC.seq ?_
  refine WC.seq ?_
  refine WC.region ?_
  refine WL.y rfl (Yld.pure tab_ok rfl) ?_
  refine WL.nil (WX.then_normal ?_)
  refine WC.block ?_
  obtain ⟨I1, mu1, h0_1, HR1⟩ := H
  refine WC.loopF (fun n' L' w' => ∃ (out : List (List UInt8)), ∃ (A_out : Option Addr), ∃ (c_out : Nat), ∃ (n_out : Nat), ∃ (i : Int), n' = mu1 out i ∧ L' = [(0, .pointer (some ⟨g_g, 0, none⟩)), (3, .slice A_out n_out c_out), (4, .int .i64 i)] ∧ I1 out i ∧ n_out = out.length ∧ w.grownBy w' none ∧ Own vs w' w.heap.size 9 A_out c_out out) _ _ ⟨[], none, 0, 0, (0 : Int), rfl, rfl, h0_1, rfl, (gr_refl _ _), (Own.nil vs w w.heap.size 9)⟩ (by repeat (first | exact Sub.nil | refine Sub.cons rfl ?_)) ?_
  clear h0_1
  rintro _ _ w1 ⟨out, A_out, c_out, n_out, i, rfl, rfl, hI1, rfl, gr1, k1⟩
  have H := HR1 out i hI1
  refine WC.seq ?_
  refine WC.seq ?_
  refine WC.region ?_
  refine WL.y rfl (Yld.pure tab_ok rfl) ?_
  refine WL.y rfl (Yld.pure tab_ok rfl) ?_
  refine WL.y rfl (Yld.pure tab_ok rfl) ?_
  refine WL.y rfl (Yld.pure tab_ok rfl) ?_
  refine WL.y rfl (Yld.bload tab_ok (hg.g0 gr1) rfl rfl rfl) ?_
  refine WL.y rfl (Yld.pure tab_ok rfl) ?_
  refine WL.y rfl (Yld.pure tab_ok rfl) ?_
  refine WL.nil (WX.then_normal ?_)
  refine WC.cond rfl (fun b1 => ?_) (fun b1 => ?_)
  · replace H := H.1 (of_decide_eq_true b1)
    refine WC.skip (WX.then_normal ?_)
    refine WC.seq ?_
    refine WC.block ?_
    refine WC.seq ?_
    refine WC.region ?_
    refine WL.y rfl (Yld.pure tab_ok rfl) ?_
    refine WL.nil (WX.then_normal ?_)
    refine WC.block ?_
    obtain ⟨I2, mu2, h0_2, HR2⟩ := H
    refine WC.loopF (fun n' L' w' => ∃ (out2 : List (List UInt8)), ∃ (A_out2 : Option Addr), ∃ (c_out2 : Nat), ∃ (n_out2 : Nat), ∃ (k : Int), n' = mu2 out2 k ∧ L' = [(0, .pointer (some ⟨g_g, 0, none⟩)), (3, .slice A_out2 n_out2 c_out2), (4, .int .i64 i), (5, .int .i64 k)] ∧ I2 out2 k ∧ n_out2 = out2.length ∧ w.grownBy w' none ∧ Own vs w' w.heap.size 9 A_out2 c_out2 out2) _ _ ⟨out, A_out, c_out, out.length, (0 : Int), rfl, rfl, h0_2, rfl, gr1, k1⟩ (by repeat (first | exact Sub.nil | refine Sub.cons rfl ?_)) ?_
    clear h0_2
    rintro _ _ w2 ⟨out2, A_out2, c_out2, n_out2, k, rfl, rfl, hI2, rfl, gr2, k2⟩
    have H := HR2 out2 k hI2
    refine WC.seq ?_
    refine WC.seq ?_
    refine WC.region ?_
    refine WL.y rfl (Yld.pure tab_ok rfl) ?_
    refine WL.y rfl (Yld.pure tab_ok rfl) ?_
    refine WL.y rfl (Yld.pure tab_ok rfl) ?_
    refine WL.y rfl (Yld.pure tab_ok rfl) ?_
    refine WL.y rfl (Yld.bload tab_ok (hg.g0 gr2) rfl rfl rfl) ?_
    refine WL.y rfl (Yld.pure tab_ok rfl) ?_
    obtain ⟨h1, H⟩ := H
    refine WL.y rfl (Yld.iaddrK tab_ok (hg_L.grown gr2) rfl rfl hr_g_L.1.symm rfl h1.1 h1.2) ?_
    refine WL.y rfl (Yld.faddrK tab_ok (hg_L.grown gr2) (iltN h1 hr_g_L.1.symm) rfl rfl rfl) ?_
    obtain ⟨⟨f1, ⟨A_el, n1, c_el⟩, ⟨A_el2, n2, c_el2⟩, f2⟩, eh1, ⟨en1, ⟨en2, hR1⟩, ⟨en3, hR2⟩, en4⟩⟩ := RelD.at hr_g_L (0, hd0, hd0, []) (0, [], [], []) (j := i.toNat) (Nat.lt_of_lt_of_eq (iltN h1 hr_g_L.1.symm) hr_g_L.1)
    have en1 : f1 = (g_L.getD i.toNat (0, [], [], [])).1 := en1
    subst en1
    have en2 : n1 = ((g_L.getD i.toNat (0, [], [], [])).2.1).length := en2
    subst en2
    have en3 : n2 = ((g_L.getD i.toNat (0, [], [], [])).2.2.1).length := en3
    subst en3
    have en4 : f2 = (g_L.getD i.toNat (0, [], [], [])).2.2.2 := en4
    subst en4
    refine WL.y rfl (Yld.iloadF (v := .slice A_el2 (((g_L.getD i.toNat (0, [], [], [])).2.2.1).length) c_el2) (0, hd0, hd0, []) tab_ok (hg_L.grown gr2) rfl rfl (iltN h1 hr_g_L.1.symm) (by rw [eh1]; rfl)) ?_
    refine WL.y rfl (Yld.pure tab_ok rfl) ?_
    refine WL.y rfl (Yld.pure tab_ok rfl) ?_
    refine WL.nil (WX.then_normal ?_)
    refine WC.cond rfl (fun b2 => ?_) (fun b2 => ?_)
    · replace H := H.1 (of_decide_eq_true b2)
      refine WC.skip (WX.then_normal ?_)
      refine WC.seq ?_
      obtain ⟨J1, H, hJ1⟩ := H
      refine WC.midF (fun L' w' => ∃ (out3 : List (List UInt8)), ∃ (A_out3 : Option Addr), ∃ (c_out3 : Nat), ∃ (n_out3 : Nat), L' = [(0, .pointer (some ⟨g_g, 0, none⟩)), (3, .slice A_out3 n_out3 c_out3), (4, .int .i64 i), (5, .int .i64 k)] ∧ J1 out3 ∧ n_out3 = out3.length ∧ w.grownBy w' none ∧ Own vs w' w.heap.size 9 A_out3 c_out3 out3) ?_ (fun hQ => ?_)
      · clear H
        rintro _ w3 ⟨out3, A_out3, c_out3, n_out3, rfl, H, rfl, gr3, k3⟩
        replace H := hJ1 out3 H
        refine WX.then_normal ?_
        refine WC.region ?_
        refine WL.y rfl (Yld.pure tab_ok rfl) ?_
        obtain ⟨h2, H⟩ := H
        refine WL.y rfl (Yld.add rfl rfl h2) ?_
        refine WL.y rfl (Yld.pure tab_ok rfl) ?_
        refine WL.nil ?_
        exact WX.roundF _ ⟨out3, A_out3, c_out3, out3.length, k + (1 : Int), rfl, rfl, H.1, rfl, gr3, k3⟩ (by repeat (first | exact Sub.nil | refine Sub.cons rfl ?_)) H.2
      · clear hJ1
        refine WC.block ?_
        refine WC.seq ?_
        refine WC.region ?_
        refine WL.y rfl (Yld.pure tab_ok rfl) ?_
        refine WL.y rfl (Yld.pure tab_ok rfl) ?_
        refine WL.y rfl (Yld.pure tab_ok rfl) ?_
        refine WL.y rfl (Yld.pure tab_ok rfl) ?_
        refine WL.y rfl (Yld.bload tab_ok (hg.g0 gr2) rfl rfl rfl) ?_
        refine WL.y rfl (Yld.pure tab_ok rfl) ?_
        obtain ⟨h3, H⟩ := H
        refine WL.y rfl (Yld.iaddrK tab_ok (hg_L.grown gr2) rfl rfl hr_g_L.1.symm rfl h3.1 h3.2) ?_
        refine WL.y rfl (Yld.faddrK tab_ok (hg_L.grown gr2) (iltN h3 hr_g_L.1.symm) rfl rfl rfl) ?_
        refine WL.y rfl (Yld.iloadF (v := .slice A_el2 (((g_L.getD i.toNat (0, [], [], [])).2.2.1).length) c_el2) (0, hd0, hd0, []) tab_ok (hg_L.grown gr2) rfl rfl (iltN h3 hr_g_L.1.symm) (by rw [eh1]; rfl)) ?_
        refine WL.y rfl (Yld.pure tab_ok rfl) ?_
        obtain ⟨h4, H⟩ := H
        refine WL.y rfl (Yld.iaddrW tab_ok (hR2.grown gr2) rfl rfl rfl rfl h4.1 h4.2) ?_
        refine WL.y rfl (Yld.iload [] tab_ok (hR2.grown gr2) rfl rfl (iltN h4 rfl)) ?_
        refine WL.call rfl rfl (W_psmithyref17_Graph_Maker (hg_L.grown gr2) rfl (hr_g_L.grown gr2) (hg.g0 gr2) H) ?_
        rintro _ _ ⟨rfl, t40, rfl, H⟩
        refine WL.y rfl (Yld.pure tab_ok rfl) ?_
        refine WL.nil (WX.then_normal ?_)
        refine WC.cond rfl (fun b3 => ?_) (fun b3 => ?_)
        · replace H := H.1 (of_decide_eq_true b3)
          refine WC.region ?_
          refine WL.y rfl (Yld.pure tab_ok rfl) ?_
          refine WL.y rfl (Yld.pure tab_ok rfl) ?_
          refine WL.y rfl (Yld.pure tab_ok rfl) ?_
          refine WL.y rfl (Yld.pure tab_ok rfl) ?_
          refine WL.y rfl (Yld.bload tab_ok (hg.g0 gr2) rfl rfl rfl) ?_
          refine WL.y rfl (Yld.pure tab_ok rfl) ?_
          obtain ⟨h5, H⟩ := H
          refine WL.y rfl (Yld.iaddrK tab_ok (hg_L.grown gr2) rfl rfl hr_g_L.1.symm rfl h5.1 h5.2) ?_
          refine WL.y rfl (Yld.faddrK tab_ok (hg_L.grown gr2) (iltN h5 hr_g_L.1.symm) rfl rfl rfl) ?_
          refine WL.y rfl (Yld.iloadF (v := .slice A_el2 (((g_L.getD i.toNat (0, [], [], [])).2.2.1).length) c_el2) (0, hd0, hd0, []) tab_ok (hg_L.grown gr2) rfl rfl (iltN h5 hr_g_L.1.symm) (by rw [eh1]; rfl)) ?_
          refine WL.y rfl (Yld.pure tab_ok rfl) ?_
          obtain ⟨h6, H⟩ := H
          refine WL.y rfl (Yld.iaddrW tab_ok (hR2.grown gr2) rfl rfl rfl rfl h6.1 h6.2) ?_
          refine WL.y rfl (Yld.iload [] tab_ok (hR2.grown gr2) rfl rfl (iltN h6 rfl)) ?_
          refine WL.lit tab_ok rfl rfl rfl (all1c rfl all1n) rfl (by omega) (fun g1 w4 hB1 hg1 hl1 => ?_)
          have hO1 : Own vs w4 w.heap.size 9 (some ⟨g1, 0, none⟩) 1 ([((g_L.getD i.toNat (0, [], [], [])).2.2.1).getD k.toNat []] : List (List UInt8)) := Own.ofBl hB1 (Nat.le_trans (size_le gr2) hl1) (by simp [maxLen]) rfl
          have gr4 := gr_trans gr2 hg1
          have k4 := k2.grown hg1
          obtain ⟨h7, H⟩ := H
          refine WL.append tab_ok rfl rfl One.s k4 rfl rfl hO1.rd rfl rfl h7 (applen h7) (size_le gr4) (fun A_out4 c_out4 w5 hO2 hg2 hk1 => ?_)
          have gr5 := gr_mod gr4 hg2 k4.ge'
          refine WL.y rfl (Yld.pure tab_ok rfl) ?_
          refine WL.nil (WX.block_normal ?_)
          exact WX.weaken (by repeat (first | exact Sub.nil | refine Sub.cons rfl ?_)) (hQ _ _ ⟨out2 ++ ([((g_L.getD i.toNat (0, [], [], [])).2.2.1).getD k.toNat []] : List (List UInt8)), A_out4, c_out4, (out2 ++ ([((g_L.getD i.toNat (0, [], [], [])).2.2.1).getD k.toNat []] : List (List UInt8))).length, rfl, H, rfl, gr5, hO2⟩)
        · replace H := H.2 (of_decide_eq_false b3)
          refine WC.skip (WX.block_normal ?_)
          exact WX.weaken (by repeat (first | exact Sub.nil | refine Sub.cons rfl ?_)) (hQ _ _ ⟨out2, A_out2, c_out2, out2.length, rfl, H, rfl, gr2, k2⟩)
    · replace H := H.2 (of_decide_eq_false b2)
      refine WC.exit (WX.then_exit (WX.then_exit (WX.block_same (WX.block_normal (WX.then_normal ?_)))))
      refine WC.region ?_
      refine WL.y rfl (Yld.pure tab_ok rfl) ?_
      obtain ⟨h8, H⟩ := H
      refine WL.y rfl (Yld.add rfl rfl h8) ?_
      refine WL.y rfl (Yld.pure tab_ok rfl) ?_
      refine WL.nil ?_
      exact WX.roundF _ ⟨out2, A_out2, c_out2, out2.length, i + (1 : Int), rfl, rfl, H.1, rfl, gr2, k2⟩ (by repeat (first | exact Sub.nil | refine Sub.cons rfl ?_)) H.2
  · replace H := H.2 (of_decide_eq_false b1)
    refine WC.exit (WX.then_exit (WX.then_exit (WX.block_same (WX.then_normal ?_))))
    refine WC.seq ?_
    refine WC.region ?_
    refine WL.y rfl (Yld.pure tab_ok rfl) ?_
    refine WL.call rfl rfl (W_smithyref_SortedTexts k1.rd rfl H) ?_
    rintro _ w6 ⟨hg3, t2, A_t2, c_t2, rfl, ht2, H⟩
    have hb1 := ht2.ge'
    have k5 := ht2.base (fun g hg => Nat.le_trans (size_le gr1) (hb1 g hg))
    have gr6 := gr_trans gr1 hg3
    refine WL.y rfl (Yld.pure tab_ok rfl) ?_
    refine WL.nil (WX.then_normal ?_)
    refine WC.ret ?_
    exact WX.ret1 rfl rfl ⟨gr6, t2, A_t2, c_t2, rfl, k5, H⟩

set_option maxHeartbeats 8000000 in
theorem W_smithyref17_NewGraph {w : World} {l : List (Int × List (List UInt8) × List (List UInt8) × List UInt8)} {A_l : Option Addr} {c_l : Nat} {hs_l : List (Int × Hdr × Hdr × List UInt8)} {n_l : Nat} {K0 : Int → Bool → Int → Bool → (List UInt8) → Prop} {K : (List (Int × List (List UInt8) × List (List UInt8) × List UInt8)) → Int → Bool → Int → Bool → (List UInt8) → Prop} (hl : RdK 4 encH94 w A_l c_l hs_l) (hn_l : n_l = l.length) (hr_l : RelD de94 w hs_l l) (H : M_smithyref17_NewGraph l K0 K) : Fn Tryz.prog 42 ⟨[.slice A_l n_l c_l]⟩ w (fun v w' => w.grownBy w' none ∧ ((∃ (r1_Code2 : Int), ∃ (r1_Placed2 : Bool), ∃ (r1_Pos2 : Int), ∃ (r1_Filed2 : Bool), ∃ (r1_File2 : List UInt8), v = .tuple #[.pointer none, .agg ⟨[.int .i64 r1_Code2, .bool r1_Placed2, .int .i64 r1_Pos2, .bool r1_Filed2, vs r1_File2]⟩] ∧ K0 r1_Code2 r1_Placed2 r1_Pos2 r1_Filed2 r1_File2) ∨ (∃ (g_r0 : Nat), ∃ (r0_L : List (Int × List (List UInt8) × List (List UInt8) × List UInt8)), ∃ (A_r0_L : Option Addr), ∃ (c_r0_L : Nat), ∃ (hs_r0_L : List (Int × Hdr × Hdr × List UInt8)), ∃ (r1_Code : Int), ∃ (r1_Placed : Bool), ∃ (r1_Pos : Int), ∃ (r1_Filed : Bool), ∃ (r1_File : List UInt8), v = .tuple #[.pointer (some ⟨g_r0, 0, none⟩), .agg ⟨[.int .i64 r1_Code, .bool r1_Placed, .int .i64 r1_Pos, .bool r1_Filed, vs r1_File]⟩] ∧ OwnK 4 encH94 w' w.heap.size 94 A_r0_L c_r0_L hs_r0_L ∧ RelD de94 w' hs_r0_L r0_L ∧ Bl w' g_r0 185 [.slice A_r0_L r0_L.length c_r0_L] ∧ Ge (some g_r0) w.heap.size ∧ DnD de94 hs_r0_L r0_L (blk A_r0_L) ∧ DnD de94 hs_r0_L r0_L (some g_r0) ∧ Dj (blk A_r0_L) (some g_r0) ∧ K r0_L r1_Code r1_Placed r1_Pos r1_Filed r1_File))) := by
  subst hn_l
  unfold M_smithyref17_NewGraph at H
  refine Fn.enter (by kernel_rfl) Tryz.func42 rfl Tryz.ntmps42 rfl ?_
  replace H := H (by rw [← hr_l.1]; exact Nat.le_trans hl.cap hl.max)
  refine WC.seq ?_
  refine WC.region ?_
  refine WL.y rfl (Yld.pure tab_ok rfl) ?_
  refine WL.alloc rfl zero86 (fun g1 w1 hB1 hg1 hl1 => ?_)
  have gr1 := hg1
  refine WL.nil (WX.then_normal ?_)
  refine WC.seq ?_
  refine WC.seq ?_
  refine WC.region ?_
  refine WL.y rfl (Yld.pure tab_ok rfl) ?_
  refine WL.y rfl (Yld.pure tab_ok rfl) ?_
  refine WL.y rfl (Yld.pure tab_ok rfl) ?_
  refine WL.nil (WX.then_normal ?_)
  refine WC.cond rfl (fun b1 => ?_) (fun b1 => ?_)
  · replace H := H.1 (of_decide_eq_true b1)
    refine WC.seq ?_
    refine WC.region ?_
    refine WL.call rfl rfl (W_smithyref_Bare H) ?_
    rintro _ w2 ⟨hg2, t15_Code, t15_Placed, t15_Pos, t15_Filed, t15_File, rfl, H⟩
    have gr2 := gr_trans gr1 hg2
    have k1 := hB1.g0 hg2
    refine WL.y rfl (Yld.pure tab_ok rfl) ?_
    refine WL.storeW (vs := [.int .i64 t15_Code, .bool t15_Placed, .int .i64 t15_Pos, .bool t15_Filed, vs t15_File]) tab_ok rfl rfl rfl (all1c rfl (all1c rfl (all1c rfl (all1c rfl (all1c rfl all1n))))) k1 rfl rfl (fun w3 hB2 hg3 => ?_)
    have gr3 := gr_mod gr2 hg3 (Ge.le (Ge.box hl1) (Nat.le_refl _))
    refine WL.nil (WX.then_normal ?_)
    refine WC.ret (WX.then_ret ?_)
    exact WX.rettc tab_ok rfl rfl rfl rfl hB2 rfl ⟨gr3, Or.inl ⟨t15_Code, t15_Placed, t15_Pos, t15_Filed, t15_File, rfl, H⟩⟩
  · replace H := H.2 (of_decide_eq_false b1)
    refine WC.skip (WX.then_normal ?_)
    refine WC.seq ?_
    refine WC.seq ?_
    refine WC.region ?_
    refine WL.y rfl (Yld.pure tab_ok rfl) ?_
    refine WL.nil (WX.then_normal ?_)
    refine WC.block ?_
    obtain ⟨I1, mu1, h0_1, HR1⟩ := H
    refine WC.loopF (fun n' L' w' => ∃ (i : Int), ∃ (t30 : Int), ∃ (t31 : Bool), ∃ (t32 : Int), ∃ (t33 : Bool), ∃ (t34 : List UInt8), n' = mu1 i t30 t31 t32 t33 t34 ∧ L' = [(0, .slice A_l l.length c_l), (3, .pointer (some ⟨g1, 0, none⟩)), (4, .int .i64 i)] ∧ I1 i t30 t31 t32 t33 t34 ∧ w.grownBy w' none ∧ Bl w' g1 86 [.int .i64 t30, .bool t31, .int .i64 t32, .bool t33, vs t34]) _ _ ⟨(0 : Int), (0 : Int), false, (0 : Int), false, ([] : List UInt8), rfl, rfl, h0_1, gr1, hB1⟩ (by repeat (first | exact Sub.nil | refine Sub.cons rfl ?_)) ?_
    clear h0_1
    rintro _ _ w4 ⟨i, t30, t31, t32, t33, t34, rfl, rfl, hI1, gr4, k2⟩
    have H := HR1 i t30 t31 t32 t33 t34 hI1
    refine WC.seq ?_
    refine WC.seq ?_
    refine WC.region ?_
    refine WL.y rfl (Yld.pure tab_ok rfl) ?_
    refine WL.y rfl (Yld.pure tab_ok rfl) ?_
    refine WL.y rfl (Yld.pure tab_ok rfl) ?_
    refine WL.y rfl (Yld.pure tab_ok rfl) ?_
    refine WL.nil (WX.then_normal ?_)
    refine WC.cond rfl (fun b2 => ?_) (fun b2 => ?_)
    · replace H := H.1 (of_decide_eq_true b2)
      refine WC.skip (WX.then_normal ?_)
      refine WC.seq ?_
      refine WC.block ?_
      refine WC.seq ?_
      refine WC.region ?_
      refine WL.y rfl (Yld.pure tab_ok rfl) ?_
      refine WL.y rfl (Yld.pure tab_ok rfl) ?_
      obtain ⟨h1, H⟩ := H
      refine WL.y rfl (Yld.iaddrK tab_ok (hl.grown gr4) rfl rfl hr_l.1.symm rfl h1.1 h1.2) ?_
      refine WL.y rfl (Yld.faddrK tab_ok (hl.grown gr4) (iltN h1 hr_l.1.symm) rfl rfl rfl) ?_
      obtain ⟨⟨f1, ⟨A_el, n1, c_el⟩, ⟨A_el2, n2, c_el2⟩, f2⟩, eh1, ⟨en1, ⟨en2, hR1⟩, ⟨en3, hR2⟩, en4⟩⟩ := RelD.at hr_l (0, hd0, hd0, []) (0, [], [], []) (j := i.toNat) (Nat.lt_of_lt_of_eq (iltN h1 hr_l.1.symm) hr_l.1)
      have en1 : f1 = (l.getD i.toNat (0, [], [], [])).1 := en1
      subst en1
      have en2 : n1 = ((l.getD i.toNat (0, [], [], [])).2.1).length := en2
      subst en2
      have en3 : n2 = ((l.getD i.toNat (0, [], [], [])).2.2.1).length := en3
      subst en3
      have en4 : f2 = (l.getD i.toNat (0, [], [], [])).2.2.2 := en4
      subst en4
      refine WL.y rfl (Yld.iloadF (v := .slice A_el2 (((l.getD i.toNat (0, [], [], [])).2.2.1).length) c_el2) (0, hd0, hd0, []) tab_ok (hl.grown gr4) rfl rfl (iltN h1 hr_l.1.symm) (by rw [eh1]; rfl)) ?_
      refine WL.y rfl (Yld.pure tab_ok rfl) ?_
      refine WL.y rfl (Yld.pure tab_ok rfl) ?_
      refine WL.y rfl (Yld.pure tab_ok rfl) ?_
      obtain ⟨h2, H⟩ := H
      refine WL.midF 8 (fun L' w' => ∃ q1 : Bool, L' = [(37, .bool q1), (0, .slice A_l l.length c_l), (3, .pointer (some ⟨g1, 0, none⟩)), (4, .int .i64 i)] ∧ ((decide ((1000 : Int) < (((l.getD i.toNat (0, [], [], [])).2.2.1).length : Int))) || (decide ((1000 : Int) < (((l.getD i.toNat (0, [], [], [])).2.1).length : Int)))) = q1 ∧ w4 = w') ?_ (fun hQ => ?_)
      · rintro _ _ ⟨q1, rfl, rfl, rfl⟩
        refine WL.nil (WX.then_normal ?_)
        refine WC.cond rfl (fun b3 => ?_) (fun b3 => ?_)
        · replace H := H.1 (b3)
          refine WC.seq ?_
          refine WC.region ?_
          refine WL.call rfl rfl (W_smithyref_Bare H) ?_
          rintro _ w5 ⟨hg4, t38_Code, t38_Placed, t38_Pos, t38_Filed, t38_File, rfl, H⟩
          have gr5 := gr_trans gr4 hg4
          have k3 := k2.g0 hg4
          refine WL.y rfl (Yld.pure tab_ok rfl) ?_
          refine WL.storeW (vs := [.int .i64 t38_Code, .bool t38_Placed, .int .i64 t38_Pos, .bool t38_Filed, vs t38_File]) tab_ok rfl rfl rfl (all1c rfl (all1c rfl (all1c rfl (all1c rfl (all1c rfl all1n))))) k3 rfl rfl (fun w6 hB3 hg5 => ?_)
          have gr6 := gr_mod gr5 hg5 (Ge.le (Ge.box hl1) (Nat.le_refl _))
          refine WL.nil (WX.then_normal ?_)
          refine WC.ret (WX.block_ret (WX.then_ret (WX.then_ret (WX.block_ret (WX.then_ret ?_)))))
          exact WX.rettc tab_ok rfl rfl rfl rfl hB3 rfl ⟨gr6, Or.inl ⟨t38_Code, t38_Placed, t38_Pos, t38_Filed, t38_File, rfl, H⟩⟩
        · replace H := H.2 (b3)
          refine WC.skip (WX.block_normal (WX.then_normal ?_))
          refine WC.region ?_
          refine WL.y rfl (Yld.pure tab_ok rfl) ?_
          obtain ⟨h3, H⟩ := H
          refine WL.y rfl (Yld.add rfl rfl h3) ?_
          refine WL.y rfl (Yld.pure tab_ok rfl) ?_
          refine WL.nil ?_
          exact WX.roundF _ ⟨i + (1 : Int), t30, t31, t32, t33, t34, rfl, rfl, H.1, gr4, k2⟩ (by repeat (first | exact Sub.nil | refine Sub.cons rfl ?_)) H.2
      · clear H
        rcases Bool.eq_false_or_eq_true (decide ((1000 : Int) < (((l.getD i.toNat (0, [], [], [])).2.2.1).length : Int))) with b4 | b4
        · refine WL.gno rfl rfl (okb b4) rfl ?_
          refine WL.gno rfl rfl (okb b4) rfl ?_
          refine WL.gno rfl rfl (okb b4) rfl ?_
          refine WL.gno rfl rfl (okb b4) rfl ?_
          refine WL.gno rfl rfl (okb b4) rfl ?_
          refine WL.gno rfl rfl (okb b4) rfl ?_
          refine WL.gno rfl rfl (okb b4) rfl ?_
          refine WL.y rfl (Yld.pickT (okb b4) rfl) ?_
          exact WL.weaken (by repeat (first | exact Sub.nil | refine Sub.cons rfl ?_)) (hQ _ _ ⟨true, rfl, by rw [b4] <;> rfl, rfl⟩)
        · refine WL.gyes rfl rfl (okb b4) rfl (Yld.pure tab_ok rfl) ?_
          refine WL.gyes rfl rfl (okb b4) rfl (Yld.pure tab_ok rfl) ?_
          refine WL.gyes rfl rfl (okb b4) rfl (Yld.iaddrK tab_ok (hl.grown gr4) rfl rfl hr_l.1.symm rfl (h2 b4).1 (h2 b4).2) ?_
          refine WL.gyes rfl rfl (okb b4) rfl (Yld.faddrK tab_ok (hl.grown gr4) (iltN (h2 b4) hr_l.1.symm) rfl rfl rfl) ?_
          refine WL.gyes rfl rfl (okb b4) rfl (Yld.iloadF (v := .slice A_el (((l.getD i.toNat (0, [], [], [])).2.1).length) c_el) (0, hd0, hd0, []) tab_ok (hl.grown gr4) rfl rfl (iltN (h2 b4) hr_l.1.symm) (by rw [eh1]; rfl)) ?_
          refine WL.gyes rfl rfl (okb b4) rfl (Yld.pure tab_ok rfl) ?_
          refine WL.gyes rfl rfl (okb b4) rfl (Yld.pure tab_ok rfl) ?_
          refine WL.y rfl (Yld.pickF (okb b4) rfl) ?_
          exact WL.weaken (by repeat (first | exact Sub.nil | refine Sub.cons rfl ?_)) (hQ _ _ ⟨decide ((1000 : Int) < (((l.getD i.toNat (0, [], [], [])).2.1).length : Int)), rfl, by rw [b4] <;> rfl, rfl⟩)
    · replace H := H.2 (of_decide_eq_false b2)
      refine WC.exit (WX.then_exit (WX.then_exit (WX.block_same (WX.then_normal ?_))))
      refine WC.seq ?_
      refine WC.seq ?_
      refine WC.region ?_
      refine WL.y rfl (Yld.pure tab_ok rfl) ?_
      refine WL.nil (WX.then_normal ?_)
      refine WC.block ?_
      obtain ⟨I2, mu2, h0_2, HR2⟩ := H
      refine WC.loopF (fun n' L' w' => ∃ (i2 : Int), ∃ (t302 : Int), ∃ (t312 : Bool), ∃ (t322 : Int), ∃ (t332 : Bool), ∃ (t342 : List UInt8), n' = mu2 i2 t302 t312 t322 t332 t342 ∧ L' = [(0, .slice A_l l.length c_l), (3, .pointer (some ⟨g1, 0, none⟩)), (5, .int .i64 i2)] ∧ I2 i2 t302 t312 t322 t332 t342 ∧ w.grownBy w' none ∧ Bl w' g1 86 [.int .i64 t302, .bool t312, .int .i64 t322, .bool t332, vs t342]) _ _ ⟨(0 : Int), t30, t31, t32, t33, t34, rfl, rfl, h0_2, gr4, k2⟩ (by repeat (first | exact Sub.nil | refine Sub.cons rfl ?_)) ?_
      clear h0_2
      rintro _ _ w7 ⟨i2, t302, t312, t322, t332, t342, rfl, rfl, hI2, gr7, k4⟩
      have H := HR2 i2 t302 t312 t322 t332 t342 hI2
      refine WC.seq ?_
      refine WC.seq ?_
      refine WC.region ?_
      refine WL.y rfl (Yld.pure tab_ok rfl) ?_
      refine WL.y rfl (Yld.pure tab_ok rfl) ?_
      refine WL.y rfl (Yld.pure tab_ok rfl) ?_
      refine WL.y rfl (Yld.pure tab_ok rfl) ?_
      refine WL.nil (WX.then_normal ?_)
      refine WC.cond rfl (fun b5 => ?_) (fun b5 => ?_)
      · replace H := H.1 (of_decide_eq_true b5)
        refine WC.skip (WX.then_normal ?_)
        refine WC.seq ?_
        refine WC.block ?_
        refine WC.seq ?_
        refine WC.region ?_
        refine WL.y rfl (Yld.pure tab_ok rfl) ?_
        refine WL.y rfl (Yld.pure tab_ok rfl) ?_
        obtain ⟨h4, H⟩ := H
        refine WL.y rfl (Yld.iaddrK tab_ok (hl.grown gr7) rfl rfl hr_l.1.symm rfl h4.1 h4.2) ?_
        obtain ⟨⟨f3, ⟨A_el3, n3, c_el3⟩, ⟨A_el4, n4, c_el4⟩, f4⟩, eh2, ⟨en5, ⟨en6, hR3⟩, ⟨en7, hR4⟩, en8⟩⟩ := RelD.at hr_l (0, hd0, hd0, []) (0, [], [], []) (j := i2.toNat) (Nat.lt_of_lt_of_eq (iltN h4 hr_l.1.symm) hr_l.1)
        have en5 : f3 = (l.getD i2.toNat (0, [], [], [])).1 := en5
        subst en5
        have en6 : n3 = ((l.getD i2.toNat (0, [], [], [])).2.1).length := en6
        subst en6
        have en7 : n4 = ((l.getD i2.toNat (0, [], [], [])).2.2.1).length := en7
        subst en7
        have en8 : f4 = (l.getD i2.toNat (0, [], [], [])).2.2.2 := en8
        subst en8
        refine WL.y rfl (Yld.to (v := .agg ⟨[.int .i64 ((l.getD i2.toNat (0, [], [], [])).1), .slice A_el3 (((l.getD i2.toNat (0, [], [], [])).2.1).length) c_el3, .slice A_el4 (((l.getD i2.toNat (0, [], [], [])).2.2.1).length) c_el4, vs ((l.getD i2.toNat (0, [], [], [])).2.2.2)]⟩) (Yld.iloadK (0, hd0, hd0, []) tab_ok (hl.grown gr7) rfl rfl (iltN h4 hr_l.1.symm)) (by rw [eh2]; rfl)) ?_
        refine WL.alloc rfl zero94 (fun g2 w8 hB4 hg6 hl2 => ?_)
        have gr8 := gr_trans gr7 hg6
        have k5 := k4.g0 hg6
        refine WL.storeW (vs := [.int .i64 ((l.getD i2.toNat (0, [], [], [])).1), .slice A_el3 (((l.getD i2.toNat (0, [], [], [])).2.1).length) c_el3, .slice A_el4 (((l.getD i2.toNat (0, [], [], [])).2.2.1).length) c_el4, vs ((l.getD i2.toNat (0, [], [], [])).2.2.2)]) tab_ok rfl rfl rfl (all1c rfl (all1c rfl (all1c rfl (all1c rfl all1n)))) hB4 rfl rfl (fun w9 hB5 hg7 => ?_)
        have gr9 := gr_mod gr8 hg7 (Ge.le (Ge.box hl2) (size_le gr7))
        have k6 := k5.go hg7 (Dj.new k4.lt' (Ge.box hl2))
        refine WL.nil (WX.then_normal ?_)
        refine WC.seq ?_
        refine WC.seq ?_
        refine WC.region ?_
        refine WL.y rfl (Yld.pure tab_ok rfl) ?_
        refine WL.y rfl (Yld.bload tab_ok hB5 rfl rfl rfl) ?_
        refine WL.y rfl (Yld.pure tab_ok rfl) ?_
        refine WL.y rfl (Yld.pure tab_ok rfl) ?_
        refine WL.midF 4 (fun L' w' => ∃ q2 : Bool, L' = [(56, .bool q2), (0, .slice A_l l.length c_l), (3, .pointer (some ⟨g1, 0, none⟩)), (5, .int .i64 i2), (6, .pointer (some ⟨g2, 0, none⟩))] ∧ ((decide (((l.getD i2.toNat (0, [], [], [])).1) < (1 : Int))) || (decide ((5 : Int) < ((l.getD i2.toNat (0, [], [], [])).1)))) = q2 ∧ w9 = w') ?_ (fun hQ => ?_)
        · rintro _ _ ⟨q2, rfl, rfl, rfl⟩
          refine WL.nil (WX.then_normal ?_)
          refine WC.cond rfl (fun b6 => ?_) (fun b6 => ?_)
          · replace H := H.1 (b6)
            refine WC.seq ?_
            refine WC.region ?_
            refine WL.y rfl (Yld.pure tab_ok rfl) ?_
            refine WL.call rfl rfl (W_smithyref_Placed H) ?_
            rintro _ w10 ⟨hg8, t58_Code, t58_Placed, t58_Pos, t58_Filed, t58_File, rfl, H⟩
            have gr10 := gr_trans gr9 hg8
            have k7 := k6.g0 hg8
            refine WL.y rfl (Yld.pure tab_ok rfl) ?_
            refine WL.storeW (vs := [.int .i64 t58_Code, .bool t58_Placed, .int .i64 t58_Pos, .bool t58_Filed, vs t58_File]) tab_ok rfl rfl rfl (all1c rfl (all1c rfl (all1c rfl (all1c rfl (all1c rfl all1n))))) k7 rfl rfl (fun w11 hB6 hg9 => ?_)
            have gr11 := gr_mod gr10 hg9 (Ge.le (Ge.box hl1) (Nat.le_refl _))
            refine WL.nil (WX.then_normal ?_)
            refine WC.ret (WX.then_ret (WX.block_ret (WX.then_ret (WX.then_ret (WX.block_ret (WX.then_ret ?_))))))
            exact WX.rettc tab_ok rfl rfl rfl rfl hB6 rfl ⟨gr11, Or.inl ⟨t58_Code, t58_Placed, t58_Pos, t58_Filed, t58_File, rfl, H⟩⟩
          · replace H := H.2 (b6)
            refine WC.skip (WX.then_normal ?_)
            refine WC.seq ?_
            refine WC.region ?_
            refine WL.y rfl (Yld.pure tab_ok rfl) ?_
            refine WL.y rfl (Yld.bload tab_ok hB5 rfl rfl rfl) ?_
            refine WL.call rfl rfl (W_smithyref1_Valid H) ?_
            rintro _ w12 ⟨hg10, good, rfl, H⟩
            have gr12 := gr_trans gr9 hg10
            have k8 := k6.g0 hg10
            have k9 := hB5.g0 hg10
            refine WL.y rfl (Yld.pure tab_ok rfl) ?_
            refine WL.nil (WX.then_normal ?_)
            refine WC.seq ?_
            refine WC.seq ?_
            refine WC.region ?_
            refine WL.y rfl (Yld.pure tab_ok rfl) ?_
            refine WL.nil (WX.then_normal ?_)
            refine WC.block ?_
            obtain ⟨I3, mu3, h0_3, HR3⟩ := H
            refine WC.loopF (fun n' L' w' => ∃ (good2 : Bool), ∃ (k : Int), n' = mu3 good2 k ∧ L' = [(0, .slice A_l l.length c_l), (3, .pointer (some ⟨g1, 0, none⟩)), (5, .int .i64 i2), (6, .pointer (some ⟨g2, 0, none⟩)), (7, .bool good2), (8, .int .i64 k)] ∧ I3 good2 k ∧ w.grownBy w' none ∧ Bl w' g1 86 [.int .i64 t302, .bool t312, .int .i64 t322, .bool t332, vs t342] ∧ Bl w' g2 94 [.int .i64 ((l.getD i2.toNat (0, [], [], [])).1), .slice A_el3 (((l.getD i2.toNat (0, [], [], [])).2.1).length) c_el3, .slice A_el4 (((l.getD i2.toNat (0, [], [], [])).2.2.1).length) c_el4, vs ((l.getD i2.toNat (0, [], [], [])).2.2.2)] ∧ Dj (some g1) (some g2)) _ _ ⟨good, (0 : Int), rfl, rfl, h0_3, gr12, k8, k9, (Dj.new k4.lt' (Ge.box hl2))⟩ (by repeat (first | exact Sub.nil | refine Sub.cons rfl ?_)) ?_
            clear h0_3
            rintro _ _ w13 ⟨good2, k, rfl, rfl, hI3, gr13, k10, k11, dj1⟩
            have H := HR3 good2 k hI3
            refine WC.seq ?_
            refine WC.seq ?_
            refine WC.region ?_
            refine WL.y rfl (Yld.pure tab_ok rfl) ?_
            refine WL.y rfl (Yld.pure tab_ok rfl) ?_
            refine WL.y rfl (Yld.bload tab_ok k11 rfl rfl rfl) ?_
            refine WL.y rfl (Yld.pure tab_ok rfl) ?_
            refine WL.y rfl (Yld.pure tab_ok rfl) ?_
            refine WL.nil (WX.then_normal ?_)
            refine WC.cond rfl (fun b7 => ?_) (fun b7 => ?_)
            · replace H := H.1 (of_decide_eq_true b7)
              refine WC.skip (WX.then_normal ?_)
              refine WC.seq ?_
              refine WC.block ?_
              refine WC.region ?_
              refine WL.y rfl (Yld.pure tab_ok rfl) ?_
              refine WL.y rfl (Yld.pure tab_ok rfl) ?_
              obtain ⟨J1, H, hJ1⟩ := H
              refine WL.midF 7 (fun L' w' => ∃ q3 : Bool, L' = [(77, .bool q3), (0, .slice A_l l.length c_l), (3, .pointer (some ⟨g1, 0, none⟩)), (5, .int .i64 i2), (6, .pointer (some ⟨g2, 0, none⟩)), (8, .int .i64 k)] ∧ J1 q3 ∧ w.grownBy w' none ∧ Bl w' g1 86 [.int .i64 t302, .bool t312, .int .i64 t322, .bool t332, vs t342] ∧ Bl w' g2 94 [.int .i64 ((l.getD i2.toNat (0, [], [], [])).1), .slice A_el3 (((l.getD i2.toNat (0, [], [], [])).2.1).length) c_el3, .slice A_el4 (((l.getD i2.toNat (0, [], [], [])).2.2.1).length) c_el4, vs ((l.getD i2.toNat (0, [], [], [])).2.2.2)]) ?_ (fun hQ => ?_)
              · clear H
                rintro _ w14 ⟨q3, rfl, H, gr14, k12, k13⟩
                replace H := hJ1 q3 H
                refine WL.y rfl (Yld.pure tab_ok rfl) ?_
                refine WL.nil (WX.block_normal (WX.then_normal ?_))
                refine WC.region ?_
                refine WL.y rfl (Yld.pure tab_ok rfl) ?_
                obtain ⟨h5, H⟩ := H
                refine WL.y rfl (Yld.add rfl rfl h5) ?_
                refine WL.y rfl (Yld.pure tab_ok rfl) ?_
                refine WL.nil ?_
                exact WX.roundF _ ⟨q3, k + (1 : Int), rfl, rfl, H.1, gr14, k12, k13, dj1⟩ (by repeat (first | exact Sub.nil | refine Sub.cons rfl ?_)) H.2
              · clear hJ1
                rcases Bool.eq_false_or_eq_true (good2) with b8 | b8
                · replace H := H.1 b8
                  refine WL.gyes rfl rfl (okb b8) rfl (Yld.pure tab_ok rfl) ?_
                  refine WL.gyes rfl rfl (okb b8) rfl (Yld.bload tab_ok k11 rfl rfl rfl) ?_
                  refine WL.gyes rfl rfl (okb b8) rfl (Yld.pure tab_ok rfl) ?_
                  obtain ⟨h6, H⟩ := H
                  refine WL.gyes rfl rfl (okb b8) rfl (Yld.iaddrW tab_ok (hR4.grown gr13) rfl rfl rfl rfl h6.1 h6.2) ?_
                  refine WL.gyes rfl rfl (okb b8) rfl (Yld.iload [] tab_ok (hR4.grown gr13) rfl rfl (iltN h6 rfl)) ?_
                  refine WL.callw (wants_some rfl rfl (okb b8)) rfl rfl (W_smithyref1_Valid H) ?_
                  rintro _ w15 ⟨hg11, t76, rfl, H⟩
                  have gr15 := gr_trans gr13 hg11
                  have k14 := k10.g0 hg11
                  have k15 := k11.g0 hg11
                  refine WL.y rfl (Yld.pickT (okb b8) rfl) ?_
                  exact WL.weaken (by repeat (first | exact Sub.nil | refine Sub.cons rfl ?_)) (hQ _ _ ⟨t76, rfl, H, gr15, k14, k15⟩)
                · replace H := H.2 b8
                  refine WL.gno rfl rfl (okb b8) rfl ?_
                  refine WL.gno rfl rfl (okb b8) rfl ?_
                  refine WL.gno rfl rfl (okb b8) rfl ?_
                  refine WL.gno rfl rfl (okb b8) rfl ?_
                  refine WL.gno rfl rfl (okb b8) rfl ?_
                  refine WL.gno rfl rfl (okb b8) rfl ?_
                  refine WL.y rfl (Yld.pickF (okb b8) rfl) ?_
                  exact WL.weaken (by repeat (first | exact Sub.nil | refine Sub.cons rfl ?_)) (hQ _ _ ⟨false, rfl, H, gr13, k10, k11⟩)
            · replace H := H.2 (of_decide_eq_false b7)
              refine WC.exit (WX.then_exit (WX.then_exit (WX.block_same (WX.then_normal ?_))))
              refine WC.seq ?_
              refine WC.seq ?_
              refine WC.region ?_
              refine WL.y rfl (Yld.pure tab_ok rfl) ?_
              refine WL.y rfl (Yld.pure tab_ok rfl) ?_
              refine WL.nil (WX.then_normal ?_)
              refine WC.cond rfl (fun b9 => ?_) (fun b9 => ?_)
              · replace H := H.1 (b9)
                refine WC.seq ?_
                refine WC.region ?_
                refine WL.y rfl (Yld.pure tab_ok rfl) ?_
                refine WL.call rfl rfl (W_smithyref_Placed H) ?_
                rintro _ w16 ⟨hg12, t81_Code, t81_Placed, t81_Pos, t81_Filed, t81_File, rfl, H⟩
                have gr16 := gr_trans gr13 hg12
                have k16 := k10.g0 hg12
                refine WL.y rfl (Yld.pure tab_ok rfl) ?_
                refine WL.storeW (vs := [.int .i64 t81_Code, .bool t81_Placed, .int .i64 t81_Pos, .bool t81_Filed, vs t81_File]) tab_ok rfl rfl rfl (all1c rfl (all1c rfl (all1c rfl (all1c rfl (all1c rfl all1n))))) k16 rfl rfl (fun w17 hB7 hg13 => ?_)
                have gr17 := gr_mod gr16 hg13 (Ge.le (Ge.box hl1) (Nat.le_refl _))
                refine WL.nil (WX.then_normal ?_)
                refine WC.ret (WX.then_ret (WX.block_ret (WX.then_ret (WX.then_ret (WX.block_ret (WX.then_ret ?_))))))
                exact WX.rettc tab_ok rfl rfl rfl rfl hB7 rfl ⟨gr17, Or.inl ⟨t81_Code, t81_Placed, t81_Pos, t81_Filed, t81_File, rfl, H⟩⟩
              · replace H := H.2 (b9)
                refine WC.skip (WX.then_normal ?_)
                refine WC.seq ?_
                refine WC.region ?_
                refine WL.y rfl (Yld.pure tab_ok rfl) ?_
                refine WL.nil (WX.then_normal ?_)
                refine WC.block ?_
                obtain ⟨I4, mu4, h0_4, HR4⟩ := H
                refine WC.loopF (fun n' L' w' => ∃ (k_2 : Int), ∃ (t303 : Int), ∃ (t313 : Bool), ∃ (t323 : Int), ∃ (t333 : Bool), ∃ (t343 : List UInt8), n' = mu4 k_2 t303 t313 t323 t333 t343 ∧ L' = [(0, .slice A_l l.length c_l), (3, .pointer (some ⟨g1, 0, none⟩)), (5, .int .i64 i2), (6, .pointer (some ⟨g2, 0, none⟩)), (9, .int .i64 k_2)] ∧ I4 k_2 t303 t313 t323 t333 t343 ∧ w.grownBy w' none ∧ Bl w' g1 86 [.int .i64 t303, .bool t313, .int .i64 t323, .bool t333, vs t343] ∧ Bl w' g2 94 [.int .i64 ((l.getD i2.toNat (0, [], [], [])).1), .slice A_el3 (((l.getD i2.toNat (0, [], [], [])).2.1).length) c_el3, .slice A_el4 (((l.getD i2.toNat (0, [], [], [])).2.2.1).length) c_el4, vs ((l.getD i2.toNat (0, [], [], [])).2.2.2)] ∧ Dj (some g1) (some g2)) _ _ ⟨(0 : Int), t302, t312, t322, t332, t342, rfl, rfl, h0_4, gr13, k10, k11, dj1⟩ (by repeat (first | exact Sub.nil | refine Sub.cons rfl ?_)) ?_
                clear h0_4
                rintro _ _ w18 ⟨k_2, t303, t313, t323, t333, t343, rfl, rfl, hI4, gr18, k17, k18, dj2⟩
                have H := HR4 k_2 t303 t313 t323 t333 t343 hI4
                refine WC.seq ?_
                refine WC.seq ?_
                refine WC.region ?_
                refine WL.y rfl (Yld.pure tab_ok rfl) ?_
                refine WL.y rfl (Yld.pure tab_ok rfl) ?_
                refine WL.y rfl (Yld.pure tab_ok rfl) ?_
                refine WL.nil (WX.then_normal ?_)
                refine WC.cond rfl (fun b10 => ?_) (fun b10 => ?_)
                · replace H := H.1 (of_decide_eq_true b10)
                  refine WC.skip (WX.then_normal ?_)
                  refine WC.seq ?_
                  refine WC.block ?_
                  refine WC.seq ?_
                  refine WC.quiet mixed (by kernel_rfl) ?_
                  refine WQ.y rfl (Yld.pure tab_ok rfl) ?_
                  refine WQ.y rfl (Yld.pure tab_ok rfl) ?_
                  obtain ⟨h7, H⟩ := H
                  refine WQ.y rfl (Yld.iaddrK tab_ok (hl.grown gr18) rfl rfl hr_l.1.symm rfl h7.1 h7.2) ?_
                  refine WQ.y rfl (Yld.faddrK tab_ok (hl.grown gr18) (iltN h7 hr_l.1.symm) rfl rfl rfl) ?_
                  obtain ⟨⟨f5, ⟨A_el5, n5, c_el5⟩, ⟨A_el6, n6, c_el6⟩, f6⟩, eh3, ⟨en9, ⟨en10, hR5⟩, ⟨en11, hR6⟩, en12⟩⟩ := RelD.at hr_l (0, hd0, hd0, []) (0, [], [], []) (j := k_2.toNat) (Nat.lt_of_lt_of_eq (iltN h7 hr_l.1.symm) hr_l.1)
                  have en9 : f5 = (l.getD k_2.toNat (0, [], [], [])).1 := en9
                  subst en9
                  have en10 : n5 = ((l.getD k_2.toNat (0, [], [], [])).2.1).length := en10
                  subst en10
                  have en11 : n6 = ((l.getD k_2.toNat (0, [], [], [])).2.2.1).length := en11
                  subst en11
                  have en12 : f6 = (l.getD k_2.toNat (0, [], [], [])).2.2.2 := en12
                  subst en12
                  refine WQ.y rfl (Yld.iloadF (v := vs ((l.getD k_2.toNat (0, [], [], [])).2.2.2)) (0, hd0, hd0, []) tab_ok (hl.grown gr18) rfl rfl (iltN h7 hr_l.1.symm) (by rw [eh3]; rfl)) ?_
                  refine WQ.y rfl (Yld.pure tab_ok rfl) ?_
                  refine WQ.y rfl (Yld.bload tab_ok k18 rfl rfl rfl) ?_
                  refine WQ.y rfl (Yld.pure tab_ok rfl) ?_
                  refine WQ.nil (WX.then_normal ?_)
                  refine WC.cond rfl (fun b11 => ?_) (fun b11 => ?_)
                  · replace H := H.1 (of_decide_eq_true b11)
                    refine WC.seq ?_
                    refine WC.region ?_
                    refine WL.y rfl (Yld.pure tab_ok rfl) ?_
                    refine WL.call rfl rfl (W_smithyref_Placed H) ?_
                    rintro _ w19 ⟨hg14, t96_Code, t96_Placed, t96_Pos, t96_Filed, t96_File, rfl, H⟩
                    have gr19 := gr_trans gr18 hg14
                    have k19 := k17.g0 hg14
                    refine WL.y rfl (Yld.pure tab_ok rfl) ?_
                    refine WL.storeW (vs := [.int .i64 t96_Code, .bool t96_Placed, .int .i64 t96_Pos, .bool t96_Filed, vs t96_File]) tab_ok rfl rfl rfl (all1c rfl (all1c rfl (all1c rfl (all1c rfl (all1c rfl all1n))))) k19 rfl rfl (fun w20 hB8 hg15 => ?_)
                    have gr20 := gr_mod gr19 hg15 (Ge.le (Ge.box hl1) (Nat.le_refl _))
                    refine WL.nil (WX.then_normal ?_)
                    refine WC.ret (WX.block_ret (WX.then_ret (WX.then_ret (WX.block_ret (WX.block_ret (WX.then_ret (WX.then_ret (WX.block_ret (WX.then_ret ?_)))))))))
                    exact WX.rettc tab_ok rfl rfl rfl rfl hB8 rfl ⟨gr20, Or.inl ⟨t96_Code, t96_Placed, t96_Pos, t96_Filed, t96_File, rfl, H⟩⟩
                  · replace H := H.2 (of_decide_eq_false b11)
                    refine WC.skip (WX.block_normal (WX.then_normal ?_))
                    refine WC.region ?_
                    refine WL.y rfl (Yld.pure tab_ok rfl) ?_
                    obtain ⟨h8, H⟩ := H
                    refine WL.y rfl (Yld.add rfl rfl h8) ?_
                    refine WL.y rfl (Yld.pure tab_ok rfl) ?_
                    refine WL.nil ?_
                    exact WX.roundF _ ⟨k_2 + (1 : Int), t303, t313, t323, t333, t343, rfl, rfl, H.1, gr18, k17, k18, dj2⟩ (by repeat (first | exact Sub.nil | refine Sub.cons rfl ?_)) H.2
                · replace H := H.2 (of_decide_eq_false b10)
                  refine WC.exit (WX.then_exit (WX.then_exit (WX.block_same (WX.block_normal (WX.then_normal ?_)))))
                  refine WC.region ?_
                  refine WL.y rfl (Yld.pure tab_ok rfl) ?_
                  obtain ⟨h9, H⟩ := H
                  refine WL.y rfl (Yld.add rfl rfl h9) ?_
                  refine WL.y rfl (Yld.pure tab_ok rfl) ?_
                  refine WL.nil ?_
                  exact WX.roundF _ ⟨i2 + (1 : Int), t303, t313, t323, t333, t343, rfl, rfl, H.1, gr18, k17⟩ (by repeat (first | exact Sub.nil | refine Sub.cons rfl ?_)) H.2
        · clear H
          rcases Bool.eq_false_or_eq_true (decide (((l.getD i2.toNat (0, [], [], [])).1) < (1 : Int))) with b12 | b12
          · refine WL.gno rfl rfl (okb b12) rfl ?_
            refine WL.gno rfl rfl (okb b12) rfl ?_
            refine WL.gno rfl rfl (okb b12) rfl ?_
            refine WL.y rfl (Yld.pickT (okb b12) rfl) ?_
            exact WL.weaken (by repeat (first | exact Sub.nil | refine Sub.cons rfl ?_)) (hQ _ _ ⟨true, rfl, by rw [b12] <;> rfl, rfl⟩)
          · refine WL.gyes rfl rfl (okb b12) rfl (Yld.pure tab_ok rfl) ?_
            refine WL.gyes rfl rfl (okb b12) rfl (Yld.bload tab_ok hB5 rfl rfl rfl) ?_
            refine WL.gyes rfl rfl (okb b12) rfl (Yld.pure tab_ok rfl) ?_
            refine WL.y rfl (Yld.pickF (okb b12) rfl) ?_
            exact WL.weaken (by repeat (first | exact Sub.nil | refine Sub.cons rfl ?_)) (hQ _ _ ⟨decide ((5 : Int) < ((l.getD i2.toNat (0, [], [], [])).1)), rfl, by rw [b12] <;> rfl, rfl⟩)
      · replace H := H.2 (of_decide_eq_false b5)
        refine WC.exit (WX.then_exit (WX.then_exit (WX.block_same (WX.then_normal ?_))))
        refine WC.seq ?_
        refine WC.region ?_
        refine WL.y rfl (Yld.pure tab_ok rfl) ?_
        refine WL.call rfl rfl (W_smithyref_Actions (hl.grown gr7) rfl (hr_l.grown gr7) H) ?_
        rintro _ w21 ⟨hg16, t98, A_t98, c_t98, hs_t98, rfl, ht98, hr_t98, nd1, dj3, H⟩
        have hb1 := ht98.ge'
        have k20 := ht98.base (fun g hg => Nat.le_trans (size_le gr7) (hb1 g hg))
        have gr21 := gr_trans gr7 hg16
        have k21 := k4.g0 hg16
        refine WL.y rfl (Yld.struct (us := [.slice A_t98 t98.length c_t98]) zero185 places185 rfl rfl) ?_
        refine WL.box (us := [.slice A_t98 t98.length c_t98]) rfl rfl rfl (fun g3 w22 hB9 hg17 hl3 => ?_)
        have gr22 := gr_trans gr21 hg17
        have k22 := k21.g0 hg17
        have k23 := k20.grown hg17
        have k24 := hr_t98.grown hg17
        refine WL.y rfl (Yld.pure tab_ok rfl) ?_
        refine WL.nil (WX.then_normal ?_)
        refine WC.seq ?_
        refine WC.seq ?_
        refine WC.region ?_
        refine WL.y rfl (Yld.pure tab_ok rfl) ?_
        refine WL.nil (WX.then_normal ?_)
        refine WC.block ?_
        obtain ⟨I5, mu5, h0_5, HR5⟩ := H
        refine WC.loopF (fun n' L' w' => ∃ (i3 : Int), ∃ (t304 : Int), ∃ (t314 : Bool), ∃ (t324 : Int), ∃ (t334 : Bool), ∃ (t344 : List UInt8), n' = mu5 i3 t304 t314 t324 t334 t344 ∧ L' = [(0, .slice A_l l.length c_l), (3, .pointer (some ⟨g1, 0, none⟩)), (10, .pointer (some ⟨g3, 0, none⟩)), (11, .int .i64 i3)] ∧ I5 i3 t304 t314 t324 t334 t344 ∧ w.grownBy w' none ∧ Bl w' g1 86 [.int .i64 t304, .bool t314, .int .i64 t324, .bool t334, vs t344] ∧ OwnK 4 encH94 w' w.heap.size 94 A_t98 c_t98 hs_t98 ∧ RelD de94 w' hs_t98 t98 ∧ Bl w' g3 185 [.slice A_t98 t98.length c_t98] ∧ Dj (some g1) (blk A_t98) ∧ Dj (some g1) (some g3) ∧ Dj (blk A_t98) (some g3) ∧ DnD de94 hs_t98 t98 (some g1) ∧ DnD de94 hs_t98 t98 (blk A_t98) ∧ DnD de94 hs_t98 t98 (some g3)) _ _ ⟨(0 : Int), t302, t312, t322, t332, t342, rfl, rfl, h0_5, gr22, k22, k23, k24, hB9, (Dj.new k4.lt' hb1), (Dj.new k21.lt' (Ge.box hl3)), (Dj.new k20.lt' (Ge.box hl3)), (nd1 _ k4.lt'), dj3, (hr_t98.new (Ge.box hl3))⟩ (by repeat (first | exact Sub.nil | refine Sub.cons rfl ?_)) ?_
        clear h0_5
        rintro _ _ w23 ⟨i3, t304, t314, t324, t334, t344, rfl, rfl, hI5, gr23, k25, k26, k27, k28, dj4, dj5, dj6, dj7, dj8, dj9⟩
        have H := HR5 i3 t304 t314 t324 t334 t344 hI5
        refine WC.seq ?_
        refine WC.seq ?_
        refine WC.region ?_
        refine WL.y rfl (Yld.pure tab_ok rfl) ?_
        refine WL.y rfl (Yld.pure tab_ok rfl) ?_
        refine WL.y rfl (Yld.pure tab_ok rfl) ?_
        refine WL.y rfl (Yld.pure tab_ok rfl) ?_
        refine WL.nil (WX.then_normal ?_)
        refine WC.cond rfl (fun b13 => ?_) (fun b13 => ?_)
        · replace H := H.1 (of_decide_eq_true b13)
          refine WC.skip (WX.then_normal ?_)
          refine WC.seq ?_
          refine WC.block ?_
          refine WC.seq ?_
          refine WC.region ?_
          refine WL.y rfl (Yld.pure tab_ok rfl) ?_
          refine WL.y rfl (Yld.pure tab_ok rfl) ?_
          refine WL.y rfl (Yld.pure tab_ok rfl) ?_
          refine WL.call rfl rfl (W_psmithyref17_Graph_Before k26.rd rfl k27 k28 H) ?_
          rintro _ w24 ⟨hg18, t110, A_t110, c_t110, rfl, ht110, H⟩
          have hb2 := ht110.ge'
          have k29 := ht110.base (fun g hg => Nat.le_trans (size_le gr23) (hb2 g hg))
          have gr24 := gr_trans gr23 hg18
          have k30 := k25.g0 hg18
          have k31 := k26.grown hg18
          have k32 := k27.grown hg18
          have k33 := k28.g0 hg18
          refine WL.call rfl rfl (W_psmithyref17_Graph_reach k31.rd rfl k32 k33 (k29.base (fun _ _ => Nat.zero_le _)) rfl (apC (Dn.of (Dj.new k26.lt' hb2)) apN) (apC (k27.new hb2) apN) (apC (Dj.new k28.lt' hb2) apN) H) ?_
          rintro _ w25 ⟨hgl1, t111, A_t111, c_t111, rfl, ht111, H⟩
          have hb3 := ht111.ge'
          have k34 := ht111.base (fun g hg => Nat.le_trans (size_le gr24) (hb3 g hg))
          have gr25 := gr_modL gr24 hgl1 (apC k29.ge' apN)
          have k35 := k30.goL hgl1 (apC (Dj.new k25.lt' hb2) apN)
          have k36 := k31.goL hgl1 (apC (Dj.new k26.lt' hb2) apN)
          have k37 := k32.goL hgl1 (apC (k27.new hb2) apN)
          have k38 := k33.goL hgl1 (apC (Dj.new k28.lt' hb2) apN)
          refine WL.y rfl (Yld.pure tab_ok rfl) ?_
          refine WL.call rfl rfl (W_smithyref_Among k34.rd rfl H) ?_
          rintro _ _ ⟨rfl, t113, rfl, H⟩
          refine WL.nil (WX.then_normal ?_)
          refine WC.cond rfl (fun b14 => ?_) (fun b14 => ?_)
          · replace H := H.1 (b14)
            refine WC.seq ?_
            refine WC.region ?_
            refine WL.y rfl (Yld.pure tab_ok rfl) ?_
            refine WL.call rfl rfl (W_smithyref_Placed H) ?_
            rintro _ w26 ⟨hg19, t115_Code, t115_Placed, t115_Pos, t115_Filed, t115_File, rfl, H⟩
            have gr26 := gr_trans gr25 hg19
            have k39 := k35.g0 hg19
            refine WL.y rfl (Yld.pure tab_ok rfl) ?_
            refine WL.storeW (vs := [.int .i64 t115_Code, .bool t115_Placed, .int .i64 t115_Pos, .bool t115_Filed, vs t115_File]) tab_ok rfl rfl rfl (all1c rfl (all1c rfl (all1c rfl (all1c rfl (all1c rfl all1n))))) k39 rfl rfl (fun w27 hB10 hg20 => ?_)
            have gr27 := gr_mod gr26 hg20 (Ge.le (Ge.box hl1) (Nat.le_refl _))
            refine WL.nil (WX.then_normal ?_)
            refine WC.ret (WX.block_ret (WX.then_ret (WX.then_ret (WX.block_ret (WX.then_ret ?_)))))
            exact WX.rettc tab_ok rfl rfl rfl rfl hB10 rfl ⟨gr27, Or.inl ⟨t115_Code, t115_Placed, t115_Pos, t115_Filed, t115_File, rfl, H⟩⟩
          · replace H := H.2 (b14)
            refine WC.skip (WX.block_normal (WX.then_normal ?_))
            refine WC.region ?_
            refine WL.y rfl (Yld.pure tab_ok rfl) ?_
            obtain ⟨h10, H⟩ := H
            refine WL.y rfl (Yld.add rfl rfl h10) ?_
            refine WL.y rfl (Yld.pure tab_ok rfl) ?_
            refine WL.nil ?_
            exact WX.roundF _ ⟨i3 + (1 : Int), t304, t314, t324, t334, t344, rfl, rfl, H.1, gr25, k35, k36, k37, k38, dj4, dj5, dj6, dj7, dj8, dj9⟩ (by repeat (first | exact Sub.nil | refine Sub.cons rfl ?_)) H.2
        · replace H := H.2 (of_decide_eq_false b13)
          refine WC.exit (WX.then_exit (WX.then_exit (WX.block_same (WX.then_normal ?_))))
          refine WC.seq ?_
          refine WC.region ?_
          refine WL.y rfl (Yld.pure tab_ok rfl) ?_
          refine WL.call rfl rfl (W_smithyref_None H) ?_
          rintro _ w28 ⟨hg21, t117_Code, t117_Placed, t117_Pos, t117_Filed, t117_File, rfl, H⟩
          have gr28 := gr_trans gr23 hg21
          have k40 := k25.g0 hg21
          have k41 := k26.grown hg21
          have k42 := k27.grown hg21
          have k43 := k28.g0 hg21
          refine WL.y rfl (Yld.pure tab_ok rfl) ?_
          refine WL.storeW (vs := [.int .i64 t117_Code, .bool t117_Placed, .int .i64 t117_Pos, .bool t117_Filed, vs t117_File]) tab_ok rfl rfl rfl (all1c rfl (all1c rfl (all1c rfl (all1c rfl (all1c rfl all1n))))) k40 rfl rfl (fun w29 hB11 hg22 => ?_)
          have gr29 := gr_mod gr28 hg22 (Ge.le (Ge.box hl1) (Nat.le_refl _))
          have k44 := k41.go hg22 dj4.symm
          have k45 := k42.go hg22 dj7
          have k46 := k43.go hg22 dj5.symm
          refine WL.nil (WX.then_normal ?_)
          refine WC.ret ?_
          exact WX.rettc tab_ok rfl rfl rfl rfl hB11 rfl ⟨gr29, Or.inr ⟨g3, t98, A_t98, c_t98, hs_t98, t117_Code, t117_Placed, t117_Pos, t117_Filed, t117_File, rfl, k44, k45, k46, (Ge.le (Ge.box hl3) (size_le gr21)), dj8, dj9, dj6, H⟩⟩

set_option maxHeartbeats 8000000 in
theorem W_smithyref17_Only {w : World} {l : List (Int × List (List UInt8) × List (List UInt8) × List UInt8)} {A_l : Option Addr} {c_l : Nat} {hs_l : List (Int × Hdr × Hdr × List UInt8)} {outputs : List (List UInt8)} {A_outputs : Option Addr} {c_outputs : Nat} {n_l : Nat} {n_outputs : Nat} {K : (List (Int × List (List UInt8) × List (List UInt8) × List UInt8)) → Prop} (hl : RdK 4 encH94 w A_l c_l hs_l) (hn_l : n_l = l.length) (hr_l : RelD de94 w hs_l l) (houtputs : Rd vs w A_outputs c_outputs outputs) (hn_outputs : n_outputs = outputs.length) (H : M_smithyref17_Only l outputs K) : Fn Tryz.prog 46 ⟨[.slice A_l n_l c_l, .slice A_outputs n_outputs c_outputs]⟩ w (fun v w' => w.grownBy w' none ∧ ∃ (r : List (Int × List (List UInt8) × List (List UInt8) × List UInt8)), ∃ (A_r : Option Addr), ∃ (c_r : Nat), ∃ (hs_r : List (Int × Hdr × Hdr × List UInt8)), v = .slice A_r r.length c_r ∧ OwnK 4 encH94 w' w.heap.size 94 A_r c_r hs_r ∧ RelD de94 w' hs_r r ∧ K r) := by
  subst hn_l
  subst hn_outputs
  unfold M_smithyref17_Only at H
  refine Fn.enter (by kernel_rfl) Tryz.func46 rfl Tryz.ntmps46 rfl ?_
  replace H := H (by rw [← hr_l.1]; exact Nat.le_trans hl.cap hl.max)
  replace H := H (Nat.le_trans houtputs.cap houtputs.max)
  refine WC.seq ?_
  refine WC.region ?_
  refine WL.y rfl (Yld.pure tab_ok rfl) ?_
  refine WL.nil (WX.then_normal ?_)
  refine WC.seq ?_
  refine WC.region ?_
  refine WL.y rfl (Yld.pure tab_ok rfl) ?_
  refine WL.call rfl rfl (W_smithyref17_NewGraph hl rfl hr_l H) ?_
  rintro v_ w1 ⟨hg_, hc_ | hc_⟩
  · obtain ⟨t121_Code, t121_Placed, t121_Pos, t121_Filed, t121_File, rfl, H⟩ := hc_
    have hg1 := hg_
    have gr1 := hg1
    refine WL.y rfl (Yld.pure tab_ok rfl) ?_
    refine WL.y rfl (Yld.pure tab_ok rfl) ?_
    refine WL.y rfl (Yld.pure tab_ok rfl) ?_
    refine WL.alloc rfl zero86 (fun g1 w3 hB1 hg2 hl1 => ?_)
    have gr2 := gr_trans gr1 hg2
    refine WL.y rfl (Yld.pure tab_ok rfl) ?_
    refine WL.storeW (vs := [.int .i64 t121_Code, .bool t121_Placed, .int .i64 t121_Pos, .bool t121_Filed, vs t121_File]) tab_ok rfl rfl rfl (all1c rfl (all1c rfl (all1c rfl (all1c rfl (all1c rfl all1n))))) hB1 rfl rfl (fun w4 hB2 hg3 => ?_)
    have gr3 := gr_mod gr2 hg3 (Ge.le (Ge.box hl1) (size_le gr1))
    refine WL.nil (WX.then_normal ?_)
    refine WC.seq ?_
    refine WC.region ?_
    refine WL.y rfl (Yld.pure tab_ok rfl) ?_
    refine WL.nil (WX.then_normal ?_)
    refine WC.seq ?_
    refine WC.seq ?_
    refine WC.region ?_
    refine WL.y rfl (Yld.pure tab_ok rfl) ?_
    refine WL.y rfl (Yld.bload tab_ok hB2 rfl rfl rfl) ?_
    refine WL.y rfl (Yld.pure tab_ok rfl) ?_
    refine WL.nil (WX.then_normal ?_)
    refine WC.cond rfl (fun b1 => ?_) (fun b1 => ?_)
    · replace H := H.1 (nd_true b1)
      refine WC.seq ?_
      refine WC.region ?_
      refine WL.y rfl (Yld.pure tab_ok rfl) ?_
      refine WL.y rfl (Yld.pure tab_ok rfl) ?_
      refine WL.nil (WX.then_normal ?_)
      refine WC.ret (WX.then_ret ?_)
      exact WX.ret1 rfl rfl ⟨gr3, [], none, 0, [], rfl, (OwnK.nil encH94_ok w4 w.heap.size 94), (RelD.nil (d := de94) (w := w4)), H⟩
    · replace H := H.2 (nd_false b1)
      refine WC.skip (WX.then_normal ?_)
      refine WC.seq ?_
      refine WC.region ?_
      refine WL.y rfl (Yld.pure tab_ok rfl) ?_
      refine WL.y rfl (Yld.pure tab_ok rfl) ?_
      exact False.elim H
  · obtain ⟨g_t120, t120_L, A_t120_L, c_t120_L, hs_t120_L, t121_Code2, t121_Placed2, t121_Pos2, t121_Filed2, t121_File2, rfl, ht120_L, hr_t120_L, ht120, hge1, dj1, dj2, dj3, H⟩ := hc_
    have hg4 := hg_
    have hb1 := ht120_L.ge'
    have k1 := ht120_L.base (fun g hg => Nat.le_trans (Nat.le_refl _) (hb1 g hg))
    have gr4 := hg4
    refine WL.y rfl (Yld.pure tab_ok rfl) ?_
    refine WL.y rfl (Yld.pure tab_ok rfl) ?_
    refine WL.y rfl (Yld.pure tab_ok rfl) ?_
    refine WL.alloc rfl zero86 (fun g2 w6 hB3 hg5 hl2 => ?_)
    have gr5 := gr_trans gr4 hg5
    have k2 := k1.grown hg5
    have k3 := hr_t120_L.grown hg5
    have k4 := ht120.g0 hg5
    refine WL.y rfl (Yld.pure tab_ok rfl) ?_
    refine WL.storeW (vs := [.int .i64 t121_Code2, .bool t121_Placed2, .int .i64 t121_Pos2, .bool t121_Filed2, vs t121_File2]) tab_ok rfl rfl rfl (all1c rfl (all1c rfl (all1c rfl (all1c rfl (all1c rfl all1n))))) hB3 rfl rfl (fun w7 hB4 hg6 => ?_)
    have gr6 := gr_mod gr5 hg6 (Ge.le (Ge.box hl2) (size_le gr4))
    have k5 := k2.go hg6 (Dj.new k1.lt' (Ge.box hl2))
    have k6 := k3.go hg6 (hr_t120_L.new (Ge.box hl2))
    have k7 := k4.go hg6 (Dj.new ht120.lt' (Ge.box hl2))
    refine WL.nil (WX.then_normal ?_)
    refine WC.seq ?_
    refine WC.region ?_
    refine WL.y rfl (Yld.pure tab_ok rfl) ?_
    refine WL.nil (WX.then_normal ?_)
    refine WC.seq ?_
    refine WC.seq ?_
    refine WC.region ?_
    refine WL.y rfl (Yld.pure tab_ok rfl) ?_
    refine WL.y rfl (Yld.bload tab_ok hB4 rfl rfl rfl) ?_
    refine WL.y rfl (Yld.pure tab_ok rfl) ?_
    refine WL.nil (WX.then_normal ?_)
    refine WC.cond rfl (fun b2 => ?_) (fun b2 => ?_)
    · replace H := H.1 (nd_true b2)
      refine WC.seq ?_
      refine WC.region ?_
      refine WL.y rfl (Yld.pure tab_ok rfl) ?_
      refine WL.y rfl (Yld.pure tab_ok rfl) ?_
      refine WL.nil (WX.then_normal ?_)
      refine WC.ret (WX.then_ret ?_)
      exact WX.ret1 rfl rfl ⟨gr6, [], none, 0, [], rfl, (OwnK.nil encH94_ok w7 w.heap.size 94), (RelD.nil (d := de94) (w := w7)), H⟩
    · replace H := H.2 (nd_false b2)
      refine WC.skip (WX.then_normal ?_)
      refine WC.seq ?_
      refine WC.region ?_
      refine WL.y rfl (Yld.pure tab_ok rfl) ?_
      refine WL.y rfl (Yld.pure tab_ok rfl) ?_
      refine WL.call rfl rfl (W_psmithyref17_Graph_Needs k5.rd rfl k6 k7 (houtputs.grown gr6) rfl H) ?_
      rintro _ w8 ⟨hg7, n, A_n, c_n, rfl, hn, H⟩
      have hb2 := hn.ge'
      have k8 := hn.base (fun g hg => Nat.le_trans (size_le gr6) (hb2 g hg))
      have gr7 := gr_trans gr6 hg7
      have k9 := k5.grown hg7
      have k10 := k6.grown hg7
      have k11 := k7.g0 hg7
      refine WL.y rfl (Yld.pure tab_ok rfl) ?_
      refine WL.nil (WX.then_normal ?_)
      refine WC.seq ?_
      refine WC.seq ?_
      refine WC.region ?_
      refine WL.y rfl (Yld.pure tab_ok rfl) ?_
      refine WL.nil (WX.then_normal ?_)
      refine WC.block ?_
      obtain ⟨I1, mu1, h0_1, HR1⟩ := H
      refine WC.loopF (fun n' L' w' => ∃ (out : List (Int × List (List UInt8) × List (List UInt8) × List UInt8)), ∃ (A_out : Option Addr), ∃ (c_out : Nat), ∃ (n_out : Nat), ∃ (hs_out : List (Int × Hdr × Hdr × List UInt8)), ∃ (i : Int), n' = mu1 out i ∧ L' = [(5, .pointer (some ⟨g_t120, 0, none⟩)), (7, .slice A_out n_out c_out), (8, .slice A_n n.length c_n), (9, .int .i64 i)] ∧ I1 out i ∧ n_out = out.length ∧ w.grownBy w' none ∧ OwnK 4 encH94 w' w.heap.size 94 A_t120_L c_t120_L hs_t120_L ∧ RelD de94 w' hs_t120_L t120_L ∧ Bl w' g_t120 185 [.slice A_t120_L t120_L.length c_t120_L] ∧ Own vi w' w.heap.size 3 A_n c_n n ∧ OwnK 4 encH94 w' w.heap.size 94 A_out c_out hs_out ∧ RelD de94 w' hs_out out ∧ Dj (blk A_t120_L) (some g_t120) ∧ Dj (blk A_t120_L) (blk A_n) ∧ Dj (blk A_t120_L) (blk A_out) ∧ DnD de94 hs_t120_L t120_L (blk A_t120_L) ∧ DnD de94 hs_t120_L t120_L (some g_t120) ∧ DnD de94 hs_t120_L t120_L (blk A_n) ∧ DnD de94 hs_t120_L t120_L (blk A_out) ∧ Dj (some g_t120) (blk A_n) ∧ Dj (some g_t120) (blk A_out) ∧ Dj (blk A_n) (blk A_out) ∧ DnD de94 hs_out out (blk A_t120_L) ∧ DnD de94 hs_out out (some g_t120) ∧ DnD de94 hs_out out (blk A_n) ∧ DnD de94 hs_out out (blk A_out)) _ _ ⟨[], none, 0, 0, [], (0 : Int), rfl, rfl, h0_1, rfl, gr7, k9, k10, k11, k8, (OwnK.nil encH94_ok w8 w.heap.size 94), (RelD.nil (d := de94) (w := w8)), dj3, (Dj.new k5.lt' hb2), Dj.nr, dj1, dj2, (k6.new hb2), (DnD.none k10), (Dj.new k7.lt' hb2), Dj.nr, Dj.nr, DnD.nil, DnD.nil, DnD.nil, DnD.nil⟩ (by repeat (first | exact Sub.nil | refine Sub.cons rfl ?_)) ?_
      clear h0_1
      rintro _ _ w9 ⟨out, A_out, c_out, n_out, hs_out, i, rfl, rfl, hI1, rfl, gr8, k12, k13, k14, k15, k16, k17, dj4, dj5, dj6, dj7, dj8, dj9, dj10, dj11, dj12, dj13, dj14, dj15, dj16, dj17⟩
      have H := HR1 out i hI1
      refine WC.seq ?_
      refine WC.seq ?_
      refine WC.region ?_
      refine WL.y rfl (Yld.pure tab_ok rfl) ?_
      refine WL.y rfl (Yld.pure tab_ok rfl) ?_
      refine WL.y rfl (Yld.pure tab_ok rfl) ?_
      refine WL.y rfl (Yld.pure tab_ok rfl) ?_
      refine WL.nil (WX.then_normal ?_)
      refine WC.cond rfl (fun b3 => ?_) (fun b3 => ?_)
      · replace H := H.1 (of_decide_eq_true b3)
        refine WC.skip (WX.then_normal ?_)
        refine WC.seq ?_
        refine WC.block ?_
        refine WC.chainF (fun k => !(Nat.beq k 11 || Nat.beq k 12)) (LD [4, 8, 10] (fun w' => Bl w' g_t120 185 [.slice A_t120_L t120_L.length c_t120_L] ∧ Rd vi w' A_n c_n n ∧ RdK 4 encH94 w' A_t120_L c_t120_L hs_t120_L)) mixed (by kernel_rfl) (fun k w' h _ => ⟨(bl_eqv h k14), (rd_eqv h k15.rd), (RdK.eqv h k12.rd)⟩) ?_
        refine WJ.y rfl rfl (fun w' hw' => Yld.pure tab_ok rfl) ?_
        refine WJ.y rfl rfl (fun w' hw' => Yld.pure tab_ok rfl) ?_
        refine WJ.y rfl rfl (fun w' hw' => Yld.pure tab_ok rfl) ?_
        refine WJ.y rfl rfl (fun w' hw' => Yld.pure tab_ok rfl) ?_
        refine WJ.y rfl rfl (fun w' hw' => Yld.bload tab_ok (hw' rfl).1 rfl rfl rfl) ?_
        refine WJ.y rfl rfl (fun w' hw' => Yld.pure tab_ok rfl) ?_
        refine WJ.y rfl rfl (fun w' hw' => Yld.pure tab_ok rfl) ?_
        obtain ⟨h1, H⟩ := H
        refine WJ.y rfl rfl (fun w' hw' => Yld.iaddrW tab_ok k15.rd rfl rfl rfl rfl h1.1 h1.2) ?_
        refine WJ.y rfl rfl (fun w' hw' => Yld.iload 0 tab_ok (hw' rfl).2.1 rfl rfl (iltN h1 rfl)) ?_
        obtain ⟨h2, H⟩ := H
        refine WJ.y rfl rfl (fun w' hw' => Yld.iaddrK tab_ok k12.rd rfl rfl hr_t120_L.1.symm rfl h2.1 h2.2) ?_
        obtain ⟨⟨f1, ⟨A_el, n1, c_el⟩, ⟨A_el2, n2, c_el2⟩, f2⟩, eh1, ⟨en1, ⟨en2, hR1⟩, ⟨en3, hR2⟩, en4⟩⟩ := RelD.at k13 (0, hd0, hd0, []) (0, [], [], []) (j := (n.getD i.toNat 0).toNat) (Nat.lt_of_lt_of_eq (iltN h2 hr_t120_L.1.symm) k13.1)
        have en1 : f1 = (t120_L.getD ((n.getD i.toNat 0).toNat) (0, [], [], [])).1 := en1
        subst en1
        have en2 : n1 = ((t120_L.getD ((n.getD i.toNat 0).toNat) (0, [], [], [])).2.1).length := en2
        subst en2
        have en3 : n2 = ((t120_L.getD ((n.getD i.toNat 0).toNat) (0, [], [], [])).2.2.1).length := en3
        subst en3
        have en4 : f2 = (t120_L.getD ((n.getD i.toNat 0).toNat) (0, [], [], [])).2.2.2 := en4
        subst en4
        refine WJ.y rfl rfl (fun w' hw' => Yld.to (v := .agg ⟨[.int .i64 ((t120_L.getD ((n.getD i.toNat 0).toNat) (0, [], [], [])).1), .slice A_el (((t120_L.getD ((n.getD i.toNat 0).toNat) (0, [], [], [])).2.1).length) c_el, .slice A_el2 (((t120_L.getD ((n.getD i.toNat 0).toNat) (0, [], [], [])).2.2.1).length) c_el2, vs ((t120_L.getD ((n.getD i.toNat 0).toNat) (0, [], [], [])).2.2.2)]⟩) (Yld.iloadK (0, hd0, hd0, []) tab_ok (hw' rfl).2.2 rfl rfl (iltN h2 hr_t120_L.1.symm)) (by rw [eh1]; rfl)) ?_
        refine WJ.putw rfl (wants_none) rfl (Eff.litK (f := encH94) (xs := ([((t120_L.getD ((n.getD i.toNat 0).toNat) (0, [], [], [])).1, ⟨A_el, ((t120_L.getD ((n.getD i.toNat 0).toNat) (0, [], [], [])).2.1).length, c_el⟩, ⟨A_el2, ((t120_L.getD ((n.getD i.toNat 0).toNat) (0, [], [], [])).2.2.1).length, c_el2⟩, (t120_L.getD ((n.getD i.toNat 0).toNat) (0, [], [], [])).2.2.2)] : List (Int × Hdr × Hdr × List UInt8))) encH94_ok ow77 rfl rfl rfl) (fun v w' ⟨_, _, h⟩ => DD.keep (⟨(Bl.g0 k14 (gr_eqv h (Eqv.refl _))), (Rd.grown k15.rd (gr_eqv h (Eqv.refl _))), (RdK.grown k12.rd (gr_eqv h (Eqv.refl _)))⟩)) ?_
        rintro _ w10 ⟨rfl, hB5, hg8⟩
        obtain ⟨g3, hl3⟩ : ∃ g, g = w9.heap.size := ⟨_, rfl⟩
        rw [← hl3] at hB5
        rw [← hl3]
        have hO1 : OwnK 4 encH94 w10 w.heap.size 94 (some ⟨g3, 0, none⟩) 1 ([((t120_L.getD ((n.getD i.toNat 0).toNat) (0, [], [], [])).1, ⟨A_el, ((t120_L.getD ((n.getD i.toNat 0).toNat) (0, [], [], [])).2.1).length, c_el⟩, ⟨A_el2, ((t120_L.getD ((n.getD i.toNat 0).toNat) (0, [], [], [])).2.2.1).length, c_el2⟩, (t120_L.getD ((n.getD i.toNat 0).toNat) (0, [], [], [])).2.2.2)] : List (Int × Hdr × Hdr × List UInt8)) := OwnK.ofBl encH94_ok hB5 (Nat.le_trans (size_le gr8) (Nat.le_of_eq hl3.symm)) (by simp [maxLen]) rfl
        have gr9 := gr_trans gr8 hg8
        have k18 := k12.grown hg8
        have k19 := k13.grown hg8
        have k20 := k14.g0 hg8
        have k21 := k15.grown hg8
        have k22 := k16.grown hg8
        have k23 := k17.grown hg8
        have k24 := hR1.grown hg8
        have k25 := hR2.grown hg8
        have hr1 : RelD de94 w10 ([((t120_L.getD ((n.getD i.toNat 0).toNat) (0, [], [], [])).1, ⟨A_el, ((t120_L.getD ((n.getD i.toNat 0).toNat) (0, [], [], [])).2.1).length, c_el⟩, ⟨A_el2, ((t120_L.getD ((n.getD i.toNat 0).toNat) (0, [], [], [])).2.2.1).length, c_el2⟩, (t120_L.getD ((n.getD i.toNat 0).toNat) (0, [], [], [])).2.2.2)] : List (Int × Hdr × Hdr × List UInt8)) ([((t120_L.getD ((n.getD i.toNat 0).toNat) (0, [], [], [])).1, (t120_L.getD ((n.getD i.toNat 0).toNat) (0, [], [], [])).2.1, (t120_L.getD ((n.getD i.toNat 0).toNat) (0, [], [], [])).2.2.1, (t120_L.getD ((n.getD i.toNat 0).toNat) (0, [], [], [])).2.2.2)] : List (Int × List (List UInt8) × List (List UInt8) × List UInt8)) := (RelD.cons ⟨rfl, ⟨rfl, k24⟩, ⟨rfl, k25⟩, rfl⟩ RelD.nil)
        have dj18 : DnD de94 ([((t120_L.getD ((n.getD i.toNat 0).toNat) (0, [], [], [])).1, ⟨A_el, ((t120_L.getD ((n.getD i.toNat 0).toNat) (0, [], [], [])).2.1).length, c_el⟩, ⟨A_el2, ((t120_L.getD ((n.getD i.toNat 0).toNat) (0, [], [], [])).2.2.1).length, c_el2⟩, (t120_L.getD ((n.getD i.toNat 0).toNat) (0, [], [], [])).2.2.2)] : List (Int × Hdr × Hdr × List UInt8)) ([((t120_L.getD ((n.getD i.toNat 0).toNat) (0, [], [], [])).1, (t120_L.getD ((n.getD i.toNat 0).toNat) (0, [], [], [])).2.1, (t120_L.getD ((n.getD i.toNat 0).toNat) (0, [], [], [])).2.2.1, (t120_L.getD ((n.getD i.toNat 0).toNat) (0, [], [], [])).2.2.2)] : List (Int × List (List UInt8) × List (List UInt8) × List UInt8)) (blk A_t120_L) := (DnD.cons (d := de94) ⟨trivial, (DnD.at dj7 k13.1 (Nat.lt_of_lt_of_eq (iltN h2 hr_t120_L.1.symm) k13.1) eh1).2.1, (DnD.at dj7 k13.1 (Nat.lt_of_lt_of_eq (iltN h2 hr_t120_L.1.symm) k13.1) eh1).2.2.1, trivial⟩ DnD.nil)
        have dj19 : DnD de94 ([((t120_L.getD ((n.getD i.toNat 0).toNat) (0, [], [], [])).1, ⟨A_el, ((t120_L.getD ((n.getD i.toNat 0).toNat) (0, [], [], [])).2.1).length, c_el⟩, ⟨A_el2, ((t120_L.getD ((n.getD i.toNat 0).toNat) (0, [], [], [])).2.2.1).length, c_el2⟩, (t120_L.getD ((n.getD i.toNat 0).toNat) (0, [], [], [])).2.2.2)] : List (Int × Hdr × Hdr × List UInt8)) ([((t120_L.getD ((n.getD i.toNat 0).toNat) (0, [], [], [])).1, (t120_L.getD ((n.getD i.toNat 0).toNat) (0, [], [], [])).2.1, (t120_L.getD ((n.getD i.toNat 0).toNat) (0, [], [], [])).2.2.1, (t120_L.getD ((n.getD i.toNat 0).toNat) (0, [], [], [])).2.2.2)] : List (Int × List (List UInt8) × List (List UInt8) × List UInt8)) (some g_t120) := (DnD.cons (d := de94) ⟨trivial, (DnD.at dj8 k13.1 (Nat.lt_of_lt_of_eq (iltN h2 hr_t120_L.1.symm) k13.1) eh1).2.1, (DnD.at dj8 k13.1 (Nat.lt_of_lt_of_eq (iltN h2 hr_t120_L.1.symm) k13.1) eh1).2.2.1, trivial⟩ DnD.nil)
        have dj20 : DnD de94 ([((t120_L.getD ((n.getD i.toNat 0).toNat) (0, [], [], [])).1, ⟨A_el, ((t120_L.getD ((n.getD i.toNat 0).toNat) (0, [], [], [])).2.1).length, c_el⟩, ⟨A_el2, ((t120_L.getD ((n.getD i.toNat 0).toNat) (0, [], [], [])).2.2.1).length, c_el2⟩, (t120_L.getD ((n.getD i.toNat 0).toNat) (0, [], [], [])).2.2.2)] : List (Int × Hdr × Hdr × List UInt8)) ([((t120_L.getD ((n.getD i.toNat 0).toNat) (0, [], [], [])).1, (t120_L.getD ((n.getD i.toNat 0).toNat) (0, [], [], [])).2.1, (t120_L.getD ((n.getD i.toNat 0).toNat) (0, [], [], [])).2.2.1, (t120_L.getD ((n.getD i.toNat 0).toNat) (0, [], [], [])).2.2.2)] : List (Int × List (List UInt8) × List (List UInt8) × List UInt8)) (blk A_n) := (DnD.cons (d := de94) ⟨trivial, (DnD.at dj9 k13.1 (Nat.lt_of_lt_of_eq (iltN h2 hr_t120_L.1.symm) k13.1) eh1).2.1, (DnD.at dj9 k13.1 (Nat.lt_of_lt_of_eq (iltN h2 hr_t120_L.1.symm) k13.1) eh1).2.2.1, trivial⟩ DnD.nil)
        have dj21 : DnD de94 ([((t120_L.getD ((n.getD i.toNat 0).toNat) (0, [], [], [])).1, ⟨A_el, ((t120_L.getD ((n.getD i.toNat 0).toNat) (0, [], [], [])).2.1).length, c_el⟩, ⟨A_el2, ((t120_L.getD ((n.getD i.toNat 0).toNat) (0, [], [], [])).2.2.1).length, c_el2⟩, (t120_L.getD ((n.getD i.toNat 0).toNat) (0, [], [], [])).2.2.2)] : List (Int × Hdr × Hdr × List UInt8)) ([((t120_L.getD ((n.getD i.toNat 0).toNat) (0, [], [], [])).1, (t120_L.getD ((n.getD i.toNat 0).toNat) (0, [], [], [])).2.1, (t120_L.getD ((n.getD i.toNat 0).toNat) (0, [], [], [])).2.2.1, (t120_L.getD ((n.getD i.toNat 0).toNat) (0, [], [], [])).2.2.2)] : List (Int × List (List UInt8) × List (List UInt8) × List UInt8)) (blk A_out) := (DnD.cons (d := de94) ⟨trivial, (DnD.at dj10 k13.1 (Nat.lt_of_lt_of_eq (iltN h2 hr_t120_L.1.symm) k13.1) eh1).2.1, (DnD.at dj10 k13.1 (Nat.lt_of_lt_of_eq (iltN h2 hr_t120_L.1.symm) k13.1) eh1).2.2.1, trivial⟩ DnD.nil)
        have dj22 : DnD de94 ([((t120_L.getD ((n.getD i.toNat 0).toNat) (0, [], [], [])).1, ⟨A_el, ((t120_L.getD ((n.getD i.toNat 0).toNat) (0, [], [], [])).2.1).length, c_el⟩, ⟨A_el2, ((t120_L.getD ((n.getD i.toNat 0).toNat) (0, [], [], [])).2.2.1).length, c_el2⟩, (t120_L.getD ((n.getD i.toNat 0).toNat) (0, [], [], [])).2.2.2)] : List (Int × Hdr × Hdr × List UInt8)) ([((t120_L.getD ((n.getD i.toNat 0).toNat) (0, [], [], [])).1, (t120_L.getD ((n.getD i.toNat 0).toNat) (0, [], [], [])).2.1, (t120_L.getD ((n.getD i.toNat 0).toNat) (0, [], [], [])).2.2.1, (t120_L.getD ((n.getD i.toNat 0).toNat) (0, [], [], [])).2.2.2)] : List (Int × List (List UInt8) × List (List UInt8) × List UInt8)) (blk (some ⟨g3, 0, none⟩)) := (DnD.cons (d := de94) ⟨trivial, (Dn.new (fun hx => hR1.lt' hx) (Ge.box (Nat.le_of_eq hl3.symm))), (Dn.new (fun hx => hR2.lt' hx) (Ge.box (Nat.le_of_eq hl3.symm))), trivial⟩ DnD.nil)
        obtain ⟨h3, H⟩ := H
        have h4 : ((hs_out : List (Int × Hdr × Hdr × List UInt8)).length + ([((t120_L.getD ((n.getD i.toNat 0).toNat) (0, [], [], [])).1, ⟨A_el, ((t120_L.getD ((n.getD i.toNat 0).toNat) (0, [], [], [])).2.1).length, c_el⟩, ⟨A_el2, ((t120_L.getD ((n.getD i.toNat 0).toNat) (0, [], [], [])).2.2.1).length, c_el2⟩, (t120_L.getD ((n.getD i.toNat 0).toNat) (0, [], [], [])).2.2.2)] : List (Int × Hdr × Hdr × List UInt8)).length) * 72 ≤ 140737488355328 := by rw [k23.1, hr1.1]; exact h3
        refine WJ.putw rfl (wants_none) rfl (Eff.appendK ow77 k22 rfl k17.1.symm hO1.rd rfl rfl h4 (applen h4) (size_le gr9)) (fun v w' ⟨_, _, _, _, h, _⟩ => DD.keep (⟨(Bl.go k20 (gr_eqv h (Eqv.refl _)) dj12), (Rd.go k21.rd (gr_eqv h (Eqv.refl _)) (Dn.of dj13)), (RdK.go k18.rd (gr_eqv h (Eqv.refl _)) (Dn.of dj6))⟩)) ?_
        rintro _ w11 ⟨A_out2, c_out2, rfl, hO2, hg9, hk1⟩
        have el1 : (hs_out ++ ([((t120_L.getD ((n.getD i.toNat 0).toNat) (0, [], [], [])).1, ⟨A_el, ((t120_L.getD ((n.getD i.toNat 0).toNat) (0, [], [], [])).2.1).length, c_el⟩, ⟨A_el2, ((t120_L.getD ((n.getD i.toNat 0).toNat) (0, [], [], [])).2.2.1).length, c_el2⟩, (t120_L.getD ((n.getD i.toNat 0).toNat) (0, [], [], [])).2.2.2)] : List (Int × Hdr × Hdr × List UInt8))).length = (out ++ ([((t120_L.getD ((n.getD i.toNat 0).toNat) (0, [], [], [])).1, (t120_L.getD ((n.getD i.toNat 0).toNat) (0, [], [], [])).2.1, (t120_L.getD ((n.getD i.toNat 0).toNat) (0, [], [], [])).2.2.1, (t120_L.getD ((n.getD i.toNat 0).toNat) (0, [], [], [])).2.2.2)] : List (Int × List (List UInt8) × List (List UInt8) × List UInt8))).length := by rw [List.length_append, List.length_append, k23.1, hr1.1]
        rw [el1]
        have gr10 := gr_mod gr9 hg9 k22.ge'
        have k26 := k18.go hg9 dj6
        have k27 := k19.go hg9 dj10
        have k28 := k20.go hg9 dj12
        have k29 := k21.go hg9 dj13
        have k30 := k23.go hg9 dj17
        have k31 := hr1.go hg9 dj21
        have hr2 : RelD de94 w11 (hs_out ++ ([((t120_L.getD ((n.getD i.toNat 0).toNat) (0, [], [], [])).1, ⟨A_el, ((t120_L.getD ((n.getD i.toNat 0).toNat) (0, [], [], [])).2.1).length, c_el⟩, ⟨A_el2, ((t120_L.getD ((n.getD i.toNat 0).toNat) (0, [], [], [])).2.2.1).length, c_el2⟩, (t120_L.getD ((n.getD i.toNat 0).toNat) (0, [], [], [])).2.2.2)] : List (Int × Hdr × Hdr × List UInt8))) (out ++ ([((t120_L.getD ((n.getD i.toNat 0).toNat) (0, [], [], [])).1, (t120_L.getD ((n.getD i.toNat 0).toNat) (0, [], [], [])).2.1, (t120_L.getD ((n.getD i.toNat 0).toNat) (0, [], [], [])).2.2.1, (t120_L.getD ((n.getD i.toNat 0).toNat) (0, [], [], [])).2.2.2)] : List (Int × List (List UInt8) × List (List UInt8) × List UInt8))) := RelD.append k30 k31
        have dj23 : DnD de94 (hs_out ++ ([((t120_L.getD ((n.getD i.toNat 0).toNat) (0, [], [], [])).1, ⟨A_el, ((t120_L.getD ((n.getD i.toNat 0).toNat) (0, [], [], [])).2.1).length, c_el⟩, ⟨A_el2, ((t120_L.getD ((n.getD i.toNat 0).toNat) (0, [], [], [])).2.2.1).length, c_el2⟩, (t120_L.getD ((n.getD i.toNat 0).toNat) (0, [], [], [])).2.2.2)] : List (Int × Hdr × Hdr × List UInt8))) (out ++ ([((t120_L.getD ((n.getD i.toNat 0).toNat) (0, [], [], [])).1, (t120_L.getD ((n.getD i.toNat 0).toNat) (0, [], [], [])).2.1, (t120_L.getD ((n.getD i.toNat 0).toNat) (0, [], [], [])).2.2.1, (t120_L.getD ((n.getD i.toNat 0).toNat) (0, [], [], [])).2.2.2)] : List (Int × List (List UInt8) × List (List UInt8) × List UInt8))) (blk A_t120_L) := (DnD.append k23.1 dj14 dj18)
        have dj24 : DnD de94 (hs_out ++ ([((t120_L.getD ((n.getD i.toNat 0).toNat) (0, [], [], [])).1, ⟨A_el, ((t120_L.getD ((n.getD i.toNat 0).toNat) (0, [], [], [])).2.1).length, c_el⟩, ⟨A_el2, ((t120_L.getD ((n.getD i.toNat 0).toNat) (0, [], [], [])).2.2.1).length, c_el2⟩, (t120_L.getD ((n.getD i.toNat 0).toNat) (0, [], [], [])).2.2.2)] : List (Int × Hdr × Hdr × List UInt8))) (out ++ ([((t120_L.getD ((n.getD i.toNat 0).toNat) (0, [], [], [])).1, (t120_L.getD ((n.getD i.toNat 0).toNat) (0, [], [], [])).2.1, (t120_L.getD ((n.getD i.toNat 0).toNat) (0, [], [], [])).2.2.1, (t120_L.getD ((n.getD i.toNat 0).toNat) (0, [], [], [])).2.2.2)] : List (Int × List (List UInt8) × List (List UInt8) × List UInt8))) (some g_t120) := (DnD.append k23.1 dj15 dj19)
        have dj25 : DnD de94 (hs_out ++ ([((t120_L.getD ((n.getD i.toNat 0).toNat) (0, [], [], [])).1, ⟨A_el, ((t120_L.getD ((n.getD i.toNat 0).toNat) (0, [], [], [])).2.1).length, c_el⟩, ⟨A_el2, ((t120_L.getD ((n.getD i.toNat 0).toNat) (0, [], [], [])).2.2.1).length, c_el2⟩, (t120_L.getD ((n.getD i.toNat 0).toNat) (0, [], [], [])).2.2.2)] : List (Int × Hdr × Hdr × List UInt8))) (out ++ ([((t120_L.getD ((n.getD i.toNat 0).toNat) (0, [], [], [])).1, (t120_L.getD ((n.getD i.toNat 0).toNat) (0, [], [], [])).2.1, (t120_L.getD ((n.getD i.toNat 0).toNat) (0, [], [], [])).2.2.1, (t120_L.getD ((n.getD i.toNat 0).toNat) (0, [], [], [])).2.2.2)] : List (Int × List (List UInt8) × List (List UInt8) × List UInt8))) (blk A_n) := (DnD.append k23.1 dj16 dj20)
        have dj26 : DnD de94 (hs_out ++ ([((t120_L.getD ((n.getD i.toNat 0).toNat) (0, [], [], [])).1, ⟨A_el, ((t120_L.getD ((n.getD i.toNat 0).toNat) (0, [], [], [])).2.1).length, c_el⟩, ⟨A_el2, ((t120_L.getD ((n.getD i.toNat 0).toNat) (0, [], [], [])).2.2.1).length, c_el2⟩, (t120_L.getD ((n.getD i.toNat 0).toNat) (0, [], [], [])).2.2.2)] : List (Int × Hdr × Hdr × List UInt8))) (out ++ ([((t120_L.getD ((n.getD i.toNat 0).toNat) (0, [], [], [])).1, (t120_L.getD ((n.getD i.toNat 0).toNat) (0, [], [], [])).2.1, (t120_L.getD ((n.getD i.toNat 0).toNat) (0, [], [], [])).2.2.1, (t120_L.getD ((n.getD i.toNat 0).toNat) (0, [], [], [])).2.2.2)] : List (Int × List (List UInt8) × List (List UInt8) × List UInt8))) (blk (some ⟨g3, 0, none⟩)) := (DnD.append k23.1 (k17.new (Ge.box (Nat.le_of_eq hl3.symm))) dj22)
        have dj27 : DnD de94 (hs_out ++ ([((t120_L.getD ((n.getD i.toNat 0).toNat) (0, [], [], [])).1, ⟨A_el, ((t120_L.getD ((n.getD i.toNat 0).toNat) (0, [], [], [])).2.1).length, c_el⟩, ⟨A_el2, ((t120_L.getD ((n.getD i.toNat 0).toNat) (0, [], [], [])).2.2.1).length, c_el2⟩, (t120_L.getD ((n.getD i.toNat 0).toNat) (0, [], [], [])).2.2.2)] : List (Int × Hdr × Hdr × List UInt8))) (out ++ ([((t120_L.getD ((n.getD i.toNat 0).toNat) (0, [], [], [])).1, (t120_L.getD ((n.getD i.toNat 0).toNat) (0, [], [], [])).2.1, (t120_L.getD ((n.getD i.toNat 0).toNat) (0, [], [], [])).2.2.1, (t120_L.getD ((n.getD i.toNat 0).toNat) (0, [], [], [])).2.2.2)] : List (Int × List (List UInt8) × List (List UInt8) × List UInt8))) (blk A_out2) := (DnD.append k23.1 (RelD.app k23 dj17 hk1) (RelD.app hr1 dj21 hk1))
        refine WJ.y rfl rfl (fun w' hw' => Yld.pure tab_ok rfl) ?_
        refine WJ.nil (WX.block_normal (WX.then_normal ?_))
        refine WC.region ?_
        refine WL.y rfl (Yld.pure tab_ok rfl) ?_
        obtain ⟨h5, H⟩ := H
        refine WL.y rfl (Yld.add rfl rfl h5) ?_
        refine WL.y rfl (Yld.pure tab_ok rfl) ?_
        refine WL.nil ?_
        exact WX.roundF _ ⟨out ++ ([((t120_L.getD ((n.getD i.toNat 0).toNat) (0, [], [], [])).1, (t120_L.getD ((n.getD i.toNat 0).toNat) (0, [], [], [])).2.1, (t120_L.getD ((n.getD i.toNat 0).toNat) (0, [], [], [])).2.2.1, (t120_L.getD ((n.getD i.toNat 0).toNat) (0, [], [], [])).2.2.2)] : List (Int × List (List UInt8) × List (List UInt8) × List UInt8)), A_out2, c_out2, (out ++ ([((t120_L.getD ((n.getD i.toNat 0).toNat) (0, [], [], [])).1, (t120_L.getD ((n.getD i.toNat 0).toNat) (0, [], [], [])).2.1, (t120_L.getD ((n.getD i.toNat 0).toNat) (0, [], [], [])).2.2.1, (t120_L.getD ((n.getD i.toNat 0).toNat) (0, [], [], [])).2.2.2)] : List (Int × List (List UInt8) × List (List UInt8) × List UInt8))).length, hs_out ++ ([((t120_L.getD ((n.getD i.toNat 0).toNat) (0, [], [], [])).1, ⟨A_el, ((t120_L.getD ((n.getD i.toNat 0).toNat) (0, [], [], [])).2.1).length, c_el⟩, ⟨A_el2, ((t120_L.getD ((n.getD i.toNat 0).toNat) (0, [], [], [])).2.2.1).length, c_el2⟩, (t120_L.getD ((n.getD i.toNat 0).toNat) (0, [], [], [])).2.2.2)] : List (Int × Hdr × Hdr × List UInt8)), i + (1 : Int), rfl, rfl, H.1, rfl, gr10, k26, k27, k28, k29, hO2, hr2, dj4, dj5, (Dj.app dj6.symm k18.lt' hk1).symm, dj7, dj8, dj9, (RelD.app k19 dj10 hk1), dj11, (Dj.app dj12.symm k20.lt' hk1).symm, (Dj.app dj13.symm k21.lt' hk1).symm, dj23, dj24, dj25, dj27⟩ (by repeat (first | exact Sub.nil | refine Sub.cons rfl ?_)) H.2
      · replace H := H.2 (of_decide_eq_false b3)
        refine WC.exit (WX.then_exit (WX.then_exit (WX.block_same (WX.then_normal ?_))))
        refine WC.seq ?_
        refine WC.region ?_
        refine WL.y rfl (Yld.pure tab_ok rfl) ?_
        refine WL.y rfl (Yld.pure tab_ok rfl) ?_
        refine WL.nil (WX.then_normal ?_)
        refine WC.ret ?_
        exact WX.ret1 rfl rfl ⟨gr8, out, A_out, c_out, hs_out, (by rw [k17.1.symm]), k16, k17, H⟩

end Go.Proofs.YtlonpmajnglmoaaGreatDoor

 