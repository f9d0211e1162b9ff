/- Texts of this claim, joined by a program: GGa, PathA, PathB, PathC, ToolA, ToolV, ToolW, Sha0, Sha1. -/
import Derived.Test.YtjhipfdbionpoaaGreatDoorJ2
import Derived.Lib.Replace
import Derived.Lib.Join
import Derived.Shelf.SlIter.Sorted
import Derived.Test.YtjhipfdbionpoaaGreatDoorRows
/- Printed by a program (wip/vg): what the functions mean, plainly, and their walks. -/
namespace Go.Proofs.YtjhipfdbionpoaaGreatDoor
open Go Go.RowKit
attribute [local irreducible] WL WC WX WQ WK WJ Yld Eff Ef0 Fn
def M_slices_Clone_string_string (s : List (List UInt8)) (K : (List (List UInt8)) → Prop) : Prop :=
 (s.length ≤ maxLen →
 ((s = [] → K []) ∧
 ((((([] : List (List UInt8))).length + s.length) * 16 ≤ 140737488355328) ∧
 K (([] : List (List UInt8)) ++ s))))

def M_slices_Clone_int_int (s : List Int) (K : (List Int) → Prop) : Prop :=
 (s.length ≤ maxLen →
 ((s = [] → K []) ∧
 ((((([] : List Int)).length + s.length) * 8 ≤ 140737488355328) ∧
 K (([] : List Int) ++ s))))

def M_slices_Index_int_int (s : List Int) (v : Int) (K : Int → Prop) : Prop :=
 (s.length ≤ maxLen →
 Lp1 (fun (t8 : Int) kont1 => ((t8 < (s.length : Int) → (0 ≤ t8 ∧ t8 < (s.length : Nat)) ∧
 ((v = (s.getD t8.toNat 0) → K t8) ∧
 (¬ (v = (s.getD t8.toNat 0)) → (In .i64 (t8 + (1 : Int))) ∧
 kont1 (t8 + (1 : Int))))) ∧
 (¬ (t8 < (s.length : Int)) → K (-1 : Int)))) (0 : Int))

def M_graph_copied (x_Tool : Int) (x_Args : List (List UInt8)) (x_Inputs : List (List UInt8)) (x_Output : List UInt8) (K : Int → (List (List UInt8)) → (List (List UInt8)) → (List UInt8) → Prop) : Prop :=
 (x_Args.length ≤ maxLen →
 (x_Inputs.length ≤ maxLen →
 M_slices_Clone_string_string x_Args (fun (t5 : List (List UInt8)) =>
 M_slices_Clone_string_string x_Inputs (fun (t8 : List (List UInt8)) =>
 K x_Tool t5 t8 x_Output))))

def M_pgraph_Graph_fits_1 (s : List UInt8) (K : Bool → Prop) : Prop :=
 M_path_Valid s (fun (t4 : Bool) =>
 K (!t4))

def M_slices_IndexFunc_string_string_pgraph_Graph_fits_1 (s : List (List UInt8)) (K : Int → Prop) : Prop :=
 (s.length ≤ maxLen →
 Lp1 (fun (t8 : Int) kont1 => ((t8 < (s.length : Int) → (0 ≤ t8 ∧ t8 < (s.length : Nat)) ∧
 M_pgraph_Graph_fits_1 (s.getD t8.toNat []) (fun (t16 : Bool) =>
 ((t16 = true → K t8) ∧
 (t16 = false → (In .i64 (t8 + (1 : Int))) ∧
 kont1 (t8 + (1 : Int)))))) ∧
 (¬ (t8 < (s.length : Int)) → K (-1 : Int)))) (0 : Int))

def M_slices_ContainsFunc_string_string_pgraph_Graph_fits_1 (s : List (List UInt8)) (K : Bool → Prop) : Prop :=
 (s.length ≤ maxLen →
 M_slices_IndexFunc_string_string_pgraph_Graph_fits_1 s (fun (t7 : Int) =>
 K (decide ((0 : Int) ≤ t7))))

def M_pgraph_Graph_fits (g_l : List (Int × List (List UInt8) × List (List UInt8) × List UInt8)) (g_makers : List (List UInt8 × Int)) (g_before : List (List Int)) (g_after : List (List Int)) (x_Tool : Int) (x_Args : List (List UInt8)) (x_Inputs : List (List UInt8)) (x_Output : List UInt8) (K : Er → Prop) : Prop :=
 (g_l.length ≤ maxLen →
 (g_before.length ≤ maxLen →
 (g_after.length ≤ maxLen →
 (x_Args.length ≤ maxLen →
 (x_Inputs.length ≤ maxLen →
 ((((decide (x_Tool < (1 : Int))) || (decide ((5 : Int) < x_Tool))) = true → K (Er.e 10)) ∧
 (((decide (x_Tool < (1 : Int))) || (decide ((5 : Int) < x_Tool))) = false → M_path_Valid x_Output (fun (t18 : Bool) =>
 ∃ J1 : Bool → Prop, ((((!t18) = true → J1 true) ∧
 ((!t18) = false → M_slices_ContainsFunc_string_string_pgraph_Graph_fits_1 x_Inputs (fun (t23 : Bool) =>
 J1 t23)))) ∧
 (∀ q2 : Bool, J1 q2 → ((q2 = true → K (Er.e 11)) ∧
 (q2 = false → (x_Output.length ≤ maxLen) ∧
 ((((mget g_makers x_Output).isSome) = true → K (Er.e 6)) ∧
 (((mget g_makers x_Output).isSome) = false → K Er.ok)))))))))))))

def M_graph_New_1 (x_Tool : Int) (x_Args : List (List UInt8)) (x_Inputs : List (List UInt8)) (x_Output : List UInt8) (K : Bool → Prop) : Prop :=
 (x_Args.length ≤ maxLen →
 (x_Inputs.length ≤ maxLen →
 K ((decide ((1000 : Int) < (x_Inputs.length : Int))) || (decide ((1000 : Int) < (x_Args.length : Int))))))

def M_slices_IndexFunc_api_Action_api_Action_graph_New_1 (s : List (Int × List (List UInt8) × List (List UInt8) × List UInt8)) (K : Int → Prop) : Prop :=
 (s.length ≤ maxLen →
 Lp1 (fun (t8 : Int) kont1 => ((t8 < (s.length : Int) → (0 ≤ t8 ∧ t8 < (s.length : Nat)) ∧
 M_graph_New_1 ((s.getD t8.toNat (0, [], [], [])).1) ((s.getD t8.toNat (0, [], [], [])).2.1) ((s.getD t8.toNat (0, [], [], [])).2.2.1) ((s.getD t8.toNat (0, [], [], [])).2.2.2) (fun (t16 : Bool) =>
 ((t16 = true → K t8) ∧
 (t16 = false → (In .i64 (t8 + (1 : Int))) ∧
 kont1 (t8 + (1 : Int)))))) ∧
 (¬ (t8 < (s.length : Int)) → K (-1 : Int)))) (0 : Int))

def M_slices_ContainsFunc_api_Action_api_Action_graph_New_1 (s : List (Int × List (List UInt8) × List (List UInt8) × List UInt8)) (K : Bool → Prop) : Prop :=
 (s.length ≤ maxLen →
 M_slices_IndexFunc_api_Action_api_Action_graph_New_1 s (fun (t7 : Int) =>
 K (decide ((0 : Int) ≤ t7))))

def M_pgraph_Graph_reach (g_l : List (Int × List (List UInt8) × List (List UInt8) × List UInt8)) (g_makers : List (List UInt8 × Int)) (g_before : List (List Int)) (g_after : List (List Int)) (from_ : List Int) (K : (List Bool) → Prop) : Prop :=
 (g_l.length ≤ maxLen →
 (g_before.length ≤ maxLen →
 (g_after.length ≤ maxLen →
 (from_.length ≤ maxLen →
 (0 ≤ (g_l.length : Int) ∧ (g_l.length : Int) * 1 ≤ 140737488355328 ∧ (g_l.length : Int) ≤ 140737488355328) ∧
 M_slices_Clone_int_int from_ (fun (work : List Int) =>
 Lp2 (fun (work2 : List Int) (met : List Bool) kont1 => (g_l.length : Int).toNat = met.length → (((0 : Int) < (work2.length : Int) → (In .i64 ((work2.length : Int) - (1 : Int))) ∧
 (0 ≤ (work2.length : Int) - (1 : Int) ∧ (work2.length : Int) - (1 : Int) < (work2.length : Nat)) ∧
 (In .i64 ((work2.length : Int) - (1 : Int))) ∧
 (0 ≤ (work2.length : Int) - (1 : Int) ∧ (work2.length : Int) - (1 : Int) ≤ (work2.length : Nat)) ∧
 (0 ≤ work2.getD (((work2.length : Int) - (1 : Int)).toNat) 0 ∧ work2.getD (((work2.length : Int) - (1 : Int)).toNat) 0 < ((g_l.length : Int).toNat : Nat)) ∧
 (((!(met.getD ((work2.getD (((work2.length : Int) - (1 : Int)).toNat) 0).toNat) false)) = true → (0 ≤ work2.getD (((work2.length : Int) - (1 : Int)).toNat) 0 ∧ work2.getD (((work2.length : Int) - (1 : Int)).toNat) 0 < ((g_l.length : Int).toNat : Nat)) ∧
 (0 ≤ work2.getD (((work2.length : Int) - (1 : Int)).toNat) 0 ∧ work2.getD (((work2.length : Int) - (1 : Int)).toNat) 0 < (g_before.length : Nat)) ∧
 (((work2.take ((work2.length : Int) - (1 : Int)).toNat).length + (g_before.getD ((work2.getD (((work2.length : Int) - (1 : Int)).toNat) 0).toNat) []).length) * 8 ≤ 140737488355328) ∧
 kont1 ((work2.take ((work2.length : Int) - (1 : Int)).toNat) ++ (g_before.getD ((work2.getD (((work2.length : Int) - (1 : Int)).toNat) 0).toNat) [])) (met.set ((work2.getD (((work2.length : Int) - (1 : Int)).toNat) 0).toNat) true)) ∧
 ((!(met.getD ((work2.getD (((work2.length : Int) - (1 : Int)).toNat) 0).toNat) false)) = false → kont1 (work2.take ((work2.length : Int) - (1 : Int)).toNat) met))) ∧
 (¬ ((0 : Int) < (work2.length : Int)) → K met))) work (List.replicate (g_l.length : Int).toNat false))))))

def M_pgraph_Graph_Order (g_l : List (Int × List (List UInt8) × List (List UInt8) × List UInt8)) (g_makers : List (List UInt8 × Int)) (g_before : List (List Int)) (g_after : List (List Int)) (K : (List Int) → Prop) : Prop :=
 (g_l.length ≤ maxLen →
 (g_before.length ≤ maxLen →
 (g_after.length ≤ maxLen →
 (0 ≤ (g_l.length : Int) ∧ (g_l.length : Int) * 8 ≤ 140737488355328 ∧ (g_l.length : Int) ≤ 140737488355328) ∧
 Lp2 (fun (t20 : Int) (left : List Int) kont1 => (g_l.length : Int).toNat = left.length → ((t20 < (g_l.length : Int) → (0 ≤ t20 ∧ t20 < (g_before.length : Nat)) ∧
 (0 ≤ t20 ∧ t20 < ((g_l.length : Int).toNat : Nat)) ∧
 (In .i64 (t20 + (1 : Int))) ∧
 kont1 (t20 + (1 : Int)) (left.set t20.toNat ((g_before.getD t20.toNat []).length : Int))) ∧
 (¬ (t20 < (g_l.length : Int)) → Lp3 (fun (out : List Int) (t40 : Int) (left2 : List Int) kont2 => (g_l.length : Int).toNat = left2.length → ((t40 < (g_l.length : Int) → M_slices_Index_int_int left2 (0 : Int) (fun (i : Int) =>
 (0 ≤ i ∧ i < ((g_l.length : Int).toNat : Nat)) ∧
 ((out.length + (([i] : List Int)).length) * 8 ≤ 140737488355328) ∧
 (0 ≤ i ∧ i < (g_after.length : Nat)) ∧
 Lp2 (fun (t59 : Int) (left3 : List Int) kont3 => (g_l.length : Int).toNat = left3.length → ((t59 < ((g_after.getD i.toNat []).length : Int) → (0 ≤ t59 ∧ t59 < ((g_after.getD i.toNat []).length : Nat)) ∧
 (0 ≤ (g_after.getD i.toNat []).getD t59.toNat 0 ∧ (g_after.getD i.toNat []).getD t59.toNat 0 < ((g_l.length : Int).toNat : Nat)) ∧
 (In .i64 ((left3.getD (((g_after.getD i.toNat []).getD t59.toNat 0).toNat) 0) - (1 : Int))) ∧
 (0 ≤ (g_after.getD i.toNat []).getD t59.toNat 0 ∧ (g_after.getD i.toNat []).getD t59.toNat 0 < ((g_l.length : Int).toNat : Nat)) ∧
 (In .i64 (t59 + (1 : Int))) ∧
 kont3 (t59 + (1 : Int)) (left3.set (((g_after.getD i.toNat []).getD t59.toNat 0).toNat) ((left3.getD (((g_after.getD i.toNat []).getD t59.toNat 0).toNat) 0) - (1 : Int)))) ∧
 (¬ (t59 < ((g_after.getD i.toNat []).length : Int)) → (In .i64 (t40 + (1 : Int))) ∧
 kont2 (out ++ ([i] : List Int)) (t40 + (1 : Int)) left3))) (0 : Int) (left2.set i.toNat (-1 : Int)))) ∧
 (¬ (t40 < (g_l.length : Int)) → K out))) [] (0 : Int) left))) (0 : Int) (List.replicate (g_l.length : Int).toNat 0))))

def M_graph_New (l : List (Int × List (List UInt8) × List (List UInt8) × List UInt8)) (K0 : Er → Prop) (K : (List (Int × List (List UInt8) × List (List UInt8) × List UInt8)) → (List (List UInt8 × Int)) → (List (List Int)) → (List (List Int)) → Er → Prop) : Prop :=
 (l.length ≤ maxLen →
 ∃ J1 : Bool → Prop, ((((decide ((1000 : Int) < (l.length : Int))) = true → J1 true) ∧
 ((decide ((1000 : Int) < (l.length : Int))) = false → M_slices_ContainsFunc_api_Action_api_Action_graph_New_1 l (fun (t26 : Bool) =>
 J1 t26)))) ∧
 (∀ q1 : Bool, J1 q1 → ((q1 = true → K0 (Er.e 9)) ∧
 (q1 = false → Lp3 (fun (t31 : Int) (t200 : List (Int × List (List UInt8) × List (List UInt8) × List UInt8)) (t201 : List (List UInt8 × Int)) kont1 => ((t31 < (l.length : Int) → (0 ≤ t31 ∧ t31 < (l.length : Nat)) ∧
 M_pgraph_Graph_fits t200 t201 [] [] ((l.getD t31.toNat (0, [], [], [])).1) ((l.getD t31.toNat (0, [], [], [])).2.1) ((l.getD t31.toNat (0, [], [], [])).2.2.1) ((l.getD t31.toNat (0, [], [], [])).2.2.2) (fun (err : Er) =>
 ((¬ (err = Er.ok) → ∃ n : Nat, err = Er.e n ∧
 K0 (Er.at_ t31 n)) ∧
 (err = Er.ok → (((l.getD t31.toNat (0, [], [], [])).2.2.2).length ≤ maxLen ∧ t201.length < maxLen) ∧
 M_graph_copied ((l.getD t31.toNat (0, [], [], [])).1) ((l.getD t31.toNat (0, [], [], [])).2.1) ((l.getD t31.toNat (0, [], [], [])).2.2.1) ((l.getD t31.toNat (0, [], [], [])).2.2.2) (fun (t59_Tool : Int) (t59_Args : List (List UInt8)) (t59_Inputs : List (List UInt8)) (t59_Output : List UInt8) =>
 ((t200.length + (([(t59_Tool, t59_Args, t59_Inputs, t59_Output)] : List (Int × List (List UInt8) × List (List UInt8) × List UInt8))).length) * 72 ≤ 140737488355328) ∧
 (In .i64 (t31 + (1 : Int))) ∧
 kont1 (t31 + (1 : Int)) (t200 ++ ([(t59_Tool, t59_Args, t59_Inputs, t59_Output)] : List (Int × List (List UInt8) × List (List UInt8) × List UInt8))) (mput t201 ((l.getD t31.toNat (0, [], [], [])).2.2.2) t31)))))) ∧
 (¬ (t31 < (l.length : Int)) → (0 ≤ (l.length : Int) ∧ (l.length : Int) * 24 ≤ 140737488355328 ∧ (l.length : Int) ≤ 140737488355328) ∧
 Lp3 (fun (t76 : Int) (t202 : List (List Int)) (t203 : List (List Int)) kont2 => ((t76 < (t200.length : Int) → (0 ≤ t76 ∧ t76 < (t200.length : Nat)) ∧
 Lp2 (fun (before : List Int) (t84 : Int) kont3 => ((t84 < (((t200.getD t76.toNat (0, [], [], [])).2.2.1).length : Int) → ∃ J2 : (List Int) → Prop, ((0 ≤ t84 ∧ t84 < (((t200.getD t76.toNat (0, [], [], [])).2.2.1).length : Nat)) ∧
 ((((t200.getD t76.toNat (0, [], [], [])).2.2.1).getD t84.toNat []).length ≤ maxLen) ∧
 ((((mget t201 (((t200.getD t76.toNat (0, [], [], [])).2.2.1).getD t84.toNat [])).isSome) = true → ((before.length + (([(mget t201 (((t200.getD t76.toNat (0, [], [], [])).2.2.1).getD t84.toNat [])).getD 0] : List Int)).length) * 8 ≤ 140737488355328) ∧
 J2 (before ++ ([(mget t201 (((t200.getD t76.toNat (0, [], [], [])).2.2.1).getD t84.toNat [])).getD 0] : List Int))) ∧
 (((mget t201 (((t200.getD t76.toNat (0, [], [], [])).2.2.1).getD t84.toNat [])).isSome) = false → J2 before))) ∧
 (∀ before2 : List Int, J2 before2 → (In .i64 (t84 + (1 : Int))) ∧
 kont3 before2 (t84 + (1 : Int)))) ∧
 (¬ (t84 < (((t200.getD t76.toNat (0, [], [], [])).2.2.1).length : Int)) → M_slices_Sort_int_int before (fun (ys : List Int) =>
 M_slices_Compact_int_int ys (fun (before3 : List Int) =>
 ((t202.length + (([before3] : List (List Int))).length) * 24 ≤ 140737488355328) ∧
 Lp2 (fun (t119 : Int) (t2032 : List (List Int)) kont4 => ((t119 < (before3.length : Int) → (0 ≤ t119 ∧ t119 < (before3.length : Nat)) ∧
 (0 ≤ before3.getD t119.toNat 0 ∧ before3.getD t119.toNat 0 < (t2032.length : Nat)) ∧
 (((t2032.getD ((before3.getD t119.toNat 0).toNat) []).length + (([t76] : List Int)).length) * 8 ≤ 140737488355328) ∧
 (0 ≤ before3.getD t119.toNat 0 ∧ before3.getD t119.toNat 0 < (t2032.length : Nat)) ∧
 (In .i64 (t119 + (1 : Int))) ∧
 kont4 (t119 + (1 : Int)) (t2032.set ((before3.getD t119.toNat 0).toNat) ((t2032.getD ((before3.getD t119.toNat 0).toNat) []) ++ ([t76] : List Int)))) ∧
 (¬ (t119 < (before3.length : Int)) → (In .i64 (t76 + (1 : Int))) ∧
 kont2 (t76 + (1 : Int)) (t202 ++ ([before3] : List (List Int))) t2032))) (0 : Int) t203))))) [] (0 : Int)) ∧
 (¬ (t76 < (t200.length : Int)) → Lp1 (fun (t146 : Int) kont5 => ((t146 < (t200.length : Int) → (0 ≤ t146 ∧ t146 < (t202.length : Nat)) ∧
 M_pgraph_Graph_reach t200 t201 t202 t203 (t202.getD t146.toNat []) (fun (t157 : List Bool) =>
 (0 ≤ t146 ∧ t146 < (t157.length : Nat)) ∧
 (((t157.getD t146.toNat false) = true → ∃ n2 : Nat, (Er.e 4) = Er.e n2 ∧
 K0 (Er.at_ t146 n2)) ∧
 ((t157.getD t146.toNat false) = false → (In .i64 (t146 + (1 : Int))) ∧
 kont5 (t146 + (1 : Int)))))) ∧
 (¬ (t146 < (t200.length : Int)) → K t200 t201 t202 t203 Er.ok))) (0 : Int)))) (0 : Int) [] (List.replicate (l.length : Int).toNat ([] : List Int))))) (0 : Int) [] ([] : List (List UInt8 × Int))))))

def M_pgraph_Graph_Len (g_l : List (Int × List (List UInt8) × List (List UInt8) × List UInt8)) (g_makers : List (List UInt8 × Int)) (g_before : List (List Int)) (g_after : List (List Int)) (K : Int → Prop) : Prop :=
 (g_l.length ≤ maxLen →
 (g_before.length ≤ maxLen →
 (g_after.length ≤ maxLen →
 K (g_l.length : Int))))

def M_pgraph_Graph_Action (g_l : List (Int × List (List UInt8) × List (List UInt8) × List UInt8)) (g_makers : List (List UInt8 × Int)) (g_before : List (List Int)) (g_after : List (List Int)) (i : Int) (K : Int → (List (List UInt8)) → (List (List UInt8)) → (List UInt8) → Bool → Prop) : Prop :=
 (g_l.length ≤ maxLen →
 (g_before.length ≤ maxLen →
 (g_after.length ≤ maxLen →
 ((((decide (i < (0 : Int))) || (decide ((g_l.length : Int) ≤ i))) = true → K (0 : Int) [] [] ([] : List UInt8) false) ∧
 (((decide (i < (0 : Int))) || (decide ((g_l.length : Int) ≤ i))) = false → (0 ≤ i ∧ i < (g_l.length : Nat)) ∧
 M_graph_copied ((g_l.getD i.toNat (0, [], [], [])).1) ((g_l.getD i.toNat (0, [], [], [])).2.1) ((g_l.getD i.toNat (0, [], [], [])).2.2.1) ((g_l.getD i.toNat (0, [], [], [])).2.2.2) (fun (t25_Tool : Int) (t25_Args : List (List UInt8)) (t25_Inputs : List (List UInt8)) (t25_Output : List UInt8) =>
 K t25_Tool t25_Args t25_Inputs t25_Output true))))))

def M_pgraph_Graph_Maker (g_l : List (Int × List (List UInt8) × List (List UInt8) × List UInt8)) (g_makers : List (List UInt8 × Int)) (g_before : List (List Int)) (g_after : List (List Int)) (p : List UInt8) (K : Int → Prop) : Prop :=
 (g_l.length ≤ maxLen →
 (g_before.length ≤ maxLen →
 (g_after.length ≤ maxLen →
 (p.length ≤ maxLen) ∧
 ((((mget g_makers p).isSome) = true → K ((mget g_makers p).getD 0)) ∧
 (((mget g_makers p).isSome) = false → K (-1 : Int))))))

def M_pgraph_Graph_Before (g_l : List (Int × List (List UInt8) × List (List UInt8) × List UInt8)) (g_makers : List (List UInt8 × Int)) (g_before : List (List Int)) (g_after : List (List Int)) (i : Int) (K : (List Int) → Prop) : Prop :=
 (g_l.length ≤ maxLen →
 (g_before.length ≤ maxLen →
 (g_after.length ≤ maxLen →
 ((((decide (i < (0 : Int))) || (decide ((g_l.length : Int) ≤ i))) = true → K []) ∧
 (((decide (i < (0 : Int))) || (decide ((g_l.length : Int) ≤ i))) = false → (0 ≤ i ∧ i < (g_before.length : Nat)) ∧
 M_slices_Clone_int_int (g_before.getD i.toNat []) (fun (t4 : List Int) =>
 K t4))))))

set_option maxHeartbeats 8000000 in
theorem W_slices_Clone_string_string {w : World} {s : List (List UInt8)} {A_s : Option Addr} {c_s : Nat} {n_s : Nat} {K : (List (List UInt8)) → Prop} (hs : Rd vs w A_s c_s s) (hn_s : n_s = s.length) (H : M_slices_Clone_string_string s K) : Fn Tryz.prog 65 ⟨[.slice A_s n_s c_s]⟩ w (fun v w' => w.grownBy w' none ∧ ∃ (r : List (List UInt8)), ∃ (A_r : Option Addr), ∃ (c_r : Nat), v = .slice A_r r.length c_r ∧ Own vs w' w.heap.size 9 A_r c_r r ∧ K r) := by
  subst hn_s
  unfold M_slices_Clone_string_string at H
  refine Fn.enter (by kernel_rfl) Tryz.func65 rfl Tryz.ntmps65 rfl ?_
  replace H := H (Nat.le_trans hs.cap hs.max)
  refine WC.seq ?_
  refine WC.region ?_
  refine WL.y rfl (Yld.pure tab_ok rfl) ?_
  refine WL.nil (WX.then_normal ?_)
  refine WC.seq ?_
  refine WC.seq ?_
  refine WC.region ?_
  refine WL.y rfl (Yld.pure tab_ok rfl) ?_
  refine WL.y rfl (Yld.sleqnil Tryz.underlying41 rfl) ?_
  refine WL.nil (WX.then_normal ?_)
  refine WC.cond rfl (fun b1 => ?_) (fun b1 => ?_)
  · replace H := H.1 (hs.nil_of b1)
    refine WC.seq ?_
    refine WC.region ?_
    refine WL.y rfl (Yld.pure tab_ok rfl) ?_
    refine WL.nil (WX.then_normal ?_)
    refine WC.ret (WX.then_ret ?_)
    exact WX.ret1 rfl rfl ⟨(gr_refl _ _), [], none, 0, rfl, (Own.nil vs w w.heap.size 9), H⟩
  · replace H := H.2
    refine WC.skip (WX.then_normal ?_)
    refine WC.seq ?_
    refine WC.region ?_
    refine WL.lit tab_ok rfl rfl rfl all1n rfl (by omega) (fun g1 w1 hB1 hg1 hl1 => ?_)
    have hO1 : Own vs w1 w.heap.size 9 (some ⟨g1, 0, none⟩) 0 ([] : List (List UInt8)) := Own.ofBl hB1 (Nat.le_trans (Nat.le_refl _) hl1) (by simp [maxLen]) rfl
    have gr1 := hg1
    refine WL.y rfl (Yld.pure tab_ok rfl) ?_
    obtain ⟨h1, H⟩ := H
    refine WL.append tab_ok rfl rfl One.s hO1 rfl rfl (hs.grown gr1) rfl rfl h1 (applen h1) (size_le gr1) (fun A_t2 c_t2 w2 hO2 hg2 hk1 => ?_)
    have gr2 := gr_mod gr1 hg2 hO1.ge'
    refine WL.y rfl (Yld.pure tab_ok rfl) ?_
    refine WL.nil (WX.then_normal ?_)
    refine WC.ret ?_
    exact WX.ret1 rfl rfl ⟨gr2, (([] : List (List UInt8)) ++ s), A_t2, c_t2, rfl, hO2, H⟩

set_option maxHeartbeats 8000000 in
theorem W_slices_Clone_int_int {w : World} {s : List Int} {A_s : Option Addr} {c_s : Nat} {n_s : Nat} {K : (List Int) → Prop} (hs : Rd vi w A_s c_s s) (hn_s : n_s = s.length) (H : M_slices_Clone_int_int s K) : Fn Tryz.prog 42 ⟨[.slice A_s n_s c_s]⟩ w (fun v w' => w.grownBy w' none ∧ ∃ (r : List Int), ∃ (A_r : Option Addr), ∃ (c_r : Nat), v = .slice A_r r.length c_r ∧ Own vi w' w.heap.size 3 A_r c_r r ∧ K r) := by
  subst hn_s
  unfold M_slices_Clone_int_int at H
  refine Fn.enter (by kernel_rfl) Tryz.func42 rfl Tryz.ntmps42 rfl ?_
  replace H := H (Nat.le_trans hs.cap hs.max)
  refine WC.seq ?_
  refine WC.region ?_
  refine WL.y rfl (Yld.pure tab_ok rfl) ?_
  refine WL.nil (WX.then_normal ?_)
  refine WC.seq ?_
  refine WC.seq ?_
  refine WC.region ?_
  refine WL.y rfl (Yld.pure tab_ok rfl) ?_
  refine WL.y rfl (Yld.sleqnil Tryz.underlying38 rfl) ?_
  refine WL.nil (WX.then_normal ?_)
  refine WC.cond rfl (fun b1 => ?_) (fun b1 => ?_)
  · replace H := H.1 (hs.nil_of b1)
    refine WC.seq ?_
    refine WC.region ?_
    refine WL.y rfl (Yld.pure tab_ok rfl) ?_
    refine WL.nil (WX.then_normal ?_)
    refine WC.ret (WX.then_ret ?_)
    exact WX.ret1 rfl rfl ⟨(gr_refl _ _), [], none, 0, rfl, (Own.nil vi w w.heap.size 3), H⟩
  · replace H := H.2
    refine WC.skip (WX.then_normal ?_)
    refine WC.seq ?_
    refine WC.region ?_
    refine WL.lit tab_ok rfl rfl rfl all1n rfl (by omega) (fun g1 w1 hB1 hg1 hl1 => ?_)
    have hO1 : Own vi w1 w.heap.size 3 (some ⟨g1, 0, none⟩) 0 ([] : List Int) := Own.ofBl hB1 (Nat.le_trans (Nat.le_refl _) hl1) (by simp [maxLen]) rfl
    have gr1 := hg1
    refine WL.y rfl (Yld.pure tab_ok rfl) ?_
    obtain ⟨h1, H⟩ := H
    refine WL.append tab_ok rfl rfl One.i hO1 rfl rfl (hs.grown gr1) rfl rfl h1 (applen h1) (size_le gr1) (fun A_t2 c_t2 w2 hO2 hg2 hk1 => ?_)
    have gr2 := gr_mod gr1 hg2 hO1.ge'
    refine WL.y rfl (Yld.pure tab_ok rfl) ?_
    refine WL.nil (WX.then_normal ?_)
    refine WC.ret ?_
    exact WX.ret1 rfl rfl ⟨gr2, (([] : List Int) ++ s), A_t2, c_t2, rfl, hO2, H⟩

set_option maxHeartbeats 8000000 in
theorem W_slices_Index_int_int {w : World} {s : List Int} {A_s : Option Addr} {c_s : Nat} {v : Int} {n_s : Nat} {K : Int → Prop} (hs : Rd vi w A_s c_s s) (hn_s : n_s = s.length) (H : M_slices_Index_int_int s v K) : Fn Tryz.prog 41 ⟨[.slice A_s n_s c_s, .int .i64 v]⟩ w (fun v w' => w = w' ∧ ∃ (r : Int), v = .int .i64 r ∧ K r) := by
  subst hn_s
  unfold M_slices_Index_int_int at H
  refine Fn.enter (by kernel_rfl) Tryz.func41 rfl Tryz.ntmps41 rfl ?_
  replace H := H (Nat.le_trans hs.cap hs.max)
  refine WC.seq ?_
  refine WC.region ?_
  refine WL.y rfl (Yld.pure tab_ok rfl) ?_
  refine WL.nil (WX.then_normal ?_)
  refine WC.seq ?_
  refine WC.seq ?_
  refine WC.region ?_
  refine WL.y rfl (Yld.pure tab_ok rfl) ?_
  refine WL.y rfl (Yld.pure tab_ok rfl) ?_
  refine WL.y rfl (Yld.pure tab_ok rfl) ?_
  refine WL.nil (WX.then_normal ?_)
  refine WC.block ?_
  obtain ⟨I1, mu1, h0_1, HR1⟩ := H
  refine WC.loopF (fun n' L' w' => ∃ (t8 : Int), n' = mu1 t8 ∧ L' = [(0, .slice A_s s.length c_s), (1, .int .i64 v), (7, .int .i64 (s.length : Int)), (8, .int .i64 t8)] ∧ I1 t8 ∧ w = w') _ _ ⟨(0 : Int), rfl, rfl, h0_1, rfl⟩ (by repeat (first | exact Sub.nil | refine Sub.cons rfl ?_)) ?_
  clear h0_1
  rintro _ _ _ ⟨t8, rfl, rfl, hI1, rfl⟩
  have H := HR1 t8 hI1
  refine WC.seq ?_
  refine WC.region ?_
  refine WL.y rfl (Yld.pure tab_ok rfl) ?_
  refine WL.nil (WX.then_normal ?_)
  refine WC.seq ?_
  refine WC.cond rfl (fun b1 => ?_) (fun b1 => ?_)
  · replace H := H.1 (of_decide_eq_true b1)
    refine WC.skip (WX.then_normal ?_)
    refine WC.seq ?_
    refine WC.block ?_
    refine WC.seq ?_
    refine WC.region ?_
    refine WL.y rfl (Yld.pure tab_ok rfl) ?_
    refine WL.y rfl (Yld.pure tab_ok rfl) ?_
    refine WL.nil (WX.then_normal ?_)
    refine WC.seq ?_
    refine WC.region ?_
    refine WL.y rfl (Yld.pure tab_ok rfl) ?_
    refine WL.y rfl (Yld.pure tab_ok rfl) ?_
    refine WL.y rfl (Yld.pure tab_ok rfl) ?_
    obtain ⟨h1, H⟩ := H
    refine WL.y rfl (Yld.iaddrW tab_ok hs rfl rfl rfl rfl h1.1 h1.2) ?_
    refine WL.y rfl (Yld.iload 0 tab_ok hs rfl rfl (iltN h1 rfl)) ?_
    refine WL.y rfl (Yld.pure tab_ok rfl) ?_
    refine WL.nil (WX.then_normal ?_)
    refine WC.cond rfl (fun b2 => ?_) (fun b2 => ?_)
    · replace H := H.1 (of_decide_eq_true b2)
      refine WC.seq ?_
      refine WC.region ?_
      refine WL.y rfl (Yld.pure tab_ok rfl) ?_
      refine WL.y rfl (Yld.pure tab_ok rfl) ?_
      refine WL.nil (WX.then_normal ?_)
      refine WC.ret (WX.block_ret (WX.then_ret (WX.then_ret (WX.block_ret (WX.then_ret ?_)))))
      exact WX.ret1 rfl rfl ⟨rfl, t8, rfl, H⟩
    · replace H := H.2 (of_decide_eq_false b2)
      refine WC.skip (WX.block_normal (WX.then_normal ?_))
      refine WC.region ?_
      obtain ⟨h2, H⟩ := H
      refine WL.y rfl (Yld.add rfl rfl h2) ?_
      refine WL.y rfl (Yld.pure tab_ok rfl) ?_
      refine WL.nil ?_
      exact WX.roundF _ ⟨t8 + (1 : Int), rfl, rfl, H.1, rfl⟩ (by repeat (first | exact Sub.nil | refine Sub.cons rfl ?_)) H.2
  · replace H := H.2 (of_decide_eq_false b1)
    refine WC.exit (WX.then_exit (WX.then_exit (WX.block_same (WX.then_normal ?_))))
    refine WC.seq ?_
    refine WC.region ?_
    refine WL.y rfl (Yld.pure tab_ok rfl) ?_
    refine WL.nil (WX.then_normal ?_)
    refine WC.ret ?_
    exact WX.ret1 rfl rfl ⟨rfl, (-1 : Int), rfl, H⟩

set_option maxHeartbeats 8000000 in
theorem W_graph_copied {w : World} {x_Tool : Int} {x_Args : List (List UInt8)} {A_x_Args : Option Addr} {c_x_Args : Nat} {x_Inputs : List (List UInt8)} {A_x_Inputs : Option Addr} {c_x_Inputs : Nat} {x_Output : List UInt8} {n_x_Args : Nat} {n_x_Inputs : Nat} {K : Int → (List (List UInt8)) → (List (List UInt8)) → (List UInt8) → Prop} (hx_Args : Rd vs w A_x_Args c_x_Args x_Args) (hn_x_Args : n_x_Args = x_Args.length) (hx_Inputs : Rd vs w A_x_Inputs c_x_Inputs x_Inputs) (hn_x_Inputs : n_x_Inputs = x_Inputs.length) (H : M_graph_copied x_Tool x_Args x_Inputs x_Output K) : Fn Tryz.prog 35 ⟨[.agg ⟨[.int .i64 x_Tool, .slice A_x_Args n_x_Args c_x_Args, .slice A_x_Inputs n_x_Inputs c_x_Inputs, vs x_Output]⟩]⟩ w (fun v w' => w.grownBy w' none ∧ ∃ (r_Tool : Int), ∃ (r_Args : List (List UInt8)), ∃ (A_r_Args : Option Addr), ∃ (c_r_Args : Nat), ∃ (r_Inputs : List (List UInt8)), ∃ (A_r_Inputs : Option Addr), ∃ (c_r_Inputs : Nat), ∃ (r_Output : List UInt8), v = .agg ⟨[.int .i64 r_Tool, .slice A_r_Args r_Args.length c_r_Args, .slice A_r_Inputs r_Inputs.length c_r_Inputs, vs r_Output]⟩ ∧ Own vs w' w.heap.size 9 A_r_Args c_r_Args r_Args ∧ Own vs w' w.heap.size 9 A_r_Inputs c_r_Inputs r_Inputs ∧ Dj (blk A_r_Args) (blk A_r_Inputs) ∧ K r_Tool r_Args r_Inputs r_Output) := by
  subst hn_x_Args
  subst hn_x_Inputs
  unfold M_graph_copied at H
  refine Fn.enter (by kernel_rfl) Tryz.func35 rfl Tryz.ntmps35 rfl ?_
  replace H := H (Nat.le_trans hx_Args.cap hx_Args.max)
  replace H := H (Nat.le_trans hx_Inputs.cap hx_Inputs.max)
  refine WC.seq ?_
  refine WC.region ?_
  refine WL.box (us := [.int .i64 x_Tool, .slice A_x_Args x_Args.length c_x_Args, .slice A_x_Inputs x_Inputs.length c_x_Inputs, vs x_Output]) rfl rfl rfl (fun g1 w1 hB1 hg1 hl1 => ?_)
  have gr1 := hg1
  refine WL.alloc rfl zero43 (fun g2 w2 hB2 hg2 hl2 => ?_)
  have gr2 := gr_trans gr1 hg2
  have k1 := hB1.g0 hg2
  refine WL.nil (WX.then_normal ?_)
  refine WC.seq ?_
  refine WC.chainF (fun k => !(Nat.beq k 2 || Nat.beq k 5 || Nat.beq k 7 || Nat.beq k 9)) (LD [1, 4] (fun w' => Bl w' g1 43 [.int .i64 x_Tool, .slice A_x_Args x_Args.length c_x_Args, .slice A_x_Inputs x_Inputs.length c_x_Inputs, vs x_Output])) mixed (by kernel_rfl) (fun k w' h _ => (bl_eqv h k1)) ?_
  refine WJ.y rfl rfl (fun w' hw' => Yld.pure tab_ok rfl) ?_
  refine WJ.y rfl rfl (fun w' hw' => Yld.bload tab_ok (hw' rfl) rfl rfl rfl) ?_
  refine WJ.call rfl (wants_none) rfl rfl (W_slices_Clone_string_string (hx_Args.grown gr2) rfl H) (fun v w' h w2 e => DD.keep (Bl.g0 k1 (gr_eqv h.1 e))) ?_
  rintro _ w3 ⟨hg3, t5, A_t5, c_t5, rfl, ht5, H⟩
  have hb1 := ht5.ge'
  have k2 := ht5.base (fun g hg => Nat.le_trans (size_le gr2) (hb1 g hg))
  have gr3 := gr_trans gr2 hg3
  have k3 := k1.g0 hg3
  have k4 := hB2.g0 hg3
  refine WJ.y rfl rfl (fun w' hw' => Yld.pure tab_ok rfl) ?_
  refine WJ.y rfl rfl (fun w' hw' => Yld.bload tab_ok (hw' rfl) rfl rfl rfl) ?_
  refine WJ.call rfl (wants_none) rfl rfl (W_slices_Clone_string_string (hx_Inputs.grown gr3) rfl H) (fun v w' h w2 e => DD.keep (Bl.g0 k3 (gr_eqv h.1 e))) ?_
  rintro _ w4 ⟨hg4, t8, A_t8, c_t8, rfl, ht8, H⟩
  have hb2 := ht8.ge'
  have k5 := ht8.base (fun g hg => Nat.le_trans (size_le gr3) (hb2 g hg))
  have gr4 := gr_trans gr3 hg4
  have k6 := k3.g0 hg4
  have k7 := k4.g0 hg4
  have k8 := k2.grown hg4
  refine WJ.y rfl rfl (fun w' hw' => Yld.pure tab_ok rfl) ?_
  refine WJ.eff rfl (Ef0.store1 one41 rfl rfl rfl k6 (by simp)) (fun w' h => DD.past (by kernel_rfl)) ?_
  rintro w5 ⟨hB4, hg5⟩
  have hB3 : Bl w5 g1 43 [.int .i64 x_Tool, .slice A_t5 t5.length c_t5, .slice A_x_Inputs x_Inputs.length c_x_Inputs, vs x_Output] := hB4
  have gr5 := gr_mod gr4 hg5 (Ge.le (Ge.box hl1) (Nat.le_refl _))
  have k9 := k7.go hg5 ((Dj.new hB1.lt' (Ge.box hl2)).symm)
  have k10 := k8.go hg5 ((Dj.new k1.lt' hb1).symm)
  have k11 := k5.go hg5 ((Dj.new k3.lt' hb2).symm)
  refine WJ.y rfl rfl (fun w' hw' => Yld.pure tab_ok rfl) ?_
  refine WJ.eff rfl (Ef0.store1 one41 rfl rfl rfl hB3 (by simp)) (fun w' h => DD.past (by kernel_rfl)) ?_
  rintro w6 ⟨hB6, hg6⟩
  have hB5 : Bl w6 g1 43 [.int .i64 x_Tool, .slice A_t5 t5.length c_t5, .slice A_t8 t8.length c_t8, vs x_Output] := hB6
  have gr6 := gr_mod gr5 hg6 (Ge.le (Ge.box hl1) (Nat.le_refl _))
  have k12 := k9.go hg6 ((Dj.new hB1.lt' (Ge.box hl2)).symm)
  have k13 := k10.go hg6 ((Dj.new k1.lt' hb1).symm)
  have k14 := k11.go hg6 ((Dj.new k3.lt' hb2).symm)
  refine WJ.nil (WX.then_normal ?_)
  refine WC.seq ?_
  refine WC.region ?_
  refine WL.y rfl (Yld.bagg (vs := [.int .i64 x_Tool, .slice A_t5 t5.length c_t5, .slice A_t8 t8.length c_t8, vs x_Output]) tab_ok hB5 rfl rfl rfl rfl) ?_
  refine WL.storeW (vs := [.int .i64 x_Tool, .slice A_t5 t5.length c_t5, .slice A_t8 t8.length c_t8, vs x_Output]) tab_ok rfl rfl rfl (all1c rfl (all1c rfl (all1c rfl (all1c rfl all1n)))) k12 rfl rfl (fun w7 hB7 hg7 => ?_)
  have gr7 := gr_mod gr6 hg7 (Ge.le (Ge.box hl2) (size_le gr1))
  have k15 := k13.go hg7 ((Dj.new hB2.lt' hb1).symm)
  have k16 := k14.go hg7 ((Dj.new k4.lt' hb2).symm)
  refine WL.nil (WX.then_normal ?_)
  refine WC.ret ?_
  exact WX.retc tab_ok rfl rfl rfl hB7 rfl ⟨gr7, x_Tool, t5, A_t5, c_t5, t8, A_t8, c_t8, x_Output, rfl, k15, k16, (Dj.new k2.lt' hb2), H⟩

set_option maxHeartbeats 8000000 in
theorem W_pgraph_Graph_fits_1 {S : List Nat} {w : World} {s : List UInt8} {K : Bool → Prop} (hG : GOK S w) (hS100 : 100 ∈ S) (H : M_pgraph_Graph_fits_1 s K) : Fn Tryz.prog 64 ⟨[vs s]⟩ w (fun v w' => w.grownBy w' none ∧ ∃ (r : Bool), v = .bool r ∧ K r) := by
  unfold M_pgraph_Graph_fits_1 at H
  refine Fn.enter (by kernel_rfl) Tryz.func64 rfl Tryz.ntmps64 rfl ?_
  refine WC.seq ?_
  refine WC.region ?_
  refine WL.y rfl (Yld.pure tab_ok rfl) ?_
  refine WL.nil (WX.then_normal ?_)
  refine WC.seq ?_
  refine WC.region ?_
  refine WL.y rfl (Yld.pure tab_ok rfl) ?_
  refine WL.call rfl rfl (W_path_Valid hG hS100 H) ?_
  rintro _ w1 ⟨hg1, t4, rfl, H⟩
  have gr1 := hg1
  refine WL.y rfl (Yld.pure tab_ok rfl) ?_
  refine WL.y rfl (Yld.pure tab_ok rfl) ?_
  refine WL.nil (WX.then_normal ?_)
  refine WC.ret ?_
  exact WX.ret1 rfl rfl ⟨gr1, !t4, rfl, H⟩

set_option maxHeartbeats 8000000 in
theorem W_slices_IndexFunc_string_string_pgraph_Graph_fits_1 {S : List Nat} {w : World} {s : List (List UInt8)} {A_s : Option Addr} {c_s : Nat} {n_s : Nat} {K : Int → Prop} (hG : GOK S w) (hS100 : 100 ∈ S) (hs : Rd vs w A_s c_s s) (hn_s : n_s = s.length) (H : M_slices_IndexFunc_string_string_pgraph_Graph_fits_1 s K) : Fn Tryz.prog 83 ⟨[.slice A_s n_s c_s, .func (.func 64) #[] #[]]⟩ w (fun v w' => w.grownBy w' none ∧ ∃ (r : Int), v = .int .i64 r ∧ K r) := by
  subst hn_s
  unfold M_slices_IndexFunc_string_string_pgraph_Graph_fits_1 at H
  refine Fn.enter (by kernel_rfl) Tryz.func83 rfl Tryz.ntmps83 rfl ?_
  replace H := H (Nat.le_trans hs.cap hs.max)
  refine WC.seq ?_
  refine WC.region ?_
  refine WL.y rfl (Yld.pure tab_ok rfl) ?_
  refine WL.nil (WX.then_normal ?_)
  refine WC.seq ?_
  refine WC.seq ?_
  refine WC.region ?_
  refine WL.y rfl (Yld.pure tab_ok rfl) ?_
  refine WL.y rfl (Yld.pure tab_ok rfl) ?_
  refine WL.y rfl (Yld.pure tab_ok rfl) ?_
  refine WL.nil (WX.then_normal ?_)
  refine WC.block ?_
  obtain ⟨I1, mu1, h0_1, HR1⟩ := H
  refine WC.loopF (fun n' L' w' => ∃ (t8 : Int), n' = mu1 t8 ∧ L' = [(0, .slice A_s s.length c_s), (1, .func (.func 64) #[] #[]), (7, .int .i64 (s.length : Int)), (8, .int .i64 t8)] ∧ I1 t8 ∧ w.grownBy w' none) _ _ ⟨(0 : Int), rfl, rfl, h0_1, (gr_refl _ _)⟩ (by repeat (first | exact Sub.nil | refine Sub.cons rfl ?_)) ?_
  clear h0_1
  rintro _ _ w1 ⟨t8, rfl, rfl, hI1, gr1⟩
  have H := HR1 t8 hI1
  refine WC.seq ?_
  refine WC.region ?_
  refine WL.y rfl (Yld.pure tab_ok rfl) ?_
  refine WL.nil (WX.then_normal ?_)
  refine WC.seq ?_
  refine WC.cond rfl (fun b1 => ?_) (fun b1 => ?_)
  · replace H := H.1 (of_decide_eq_true b1)
    refine WC.skip (WX.then_normal ?_)
    refine WC.seq ?_
    refine WC.block ?_
    refine WC.seq ?_
    refine WC.region ?_
    refine WL.y rfl (Yld.pure tab_ok rfl) ?_
    refine WL.y rfl (Yld.pure tab_ok rfl) ?_
    refine WL.nil (WX.then_normal ?_)
    refine WC.seq ?_
    refine WC.region ?_
    refine WL.y rfl (Yld.pure tab_ok rfl) ?_
    refine WL.y rfl (Yld.pure tab_ok rfl) ?_
    refine WL.y rfl (Yld.pure tab_ok rfl) ?_
    obtain ⟨h1, H⟩ := H
    refine WL.y rfl (Yld.iaddrW tab_ok (hs.grown gr1) rfl rfl rfl rfl h1.1 h1.2) ?_
    refine WL.y rfl (Yld.iload [] tab_ok (hs.grown gr1) rfl rfl (iltN h1 rfl)) ?_
    refine WL.callv rfl rfl rfl (W_pgraph_Graph_fits_1 (hG.grown gr1) hS100 H) ?_
    rintro _ w2 ⟨hg1, t16, rfl, H⟩
    have gr2 := gr_trans gr1 hg1
    refine WL.nil (WX.then_normal ?_)
    refine WC.cond rfl (fun b2 => ?_) (fun b2 => ?_)
    · replace H := H.1 (b2)
      refine WC.seq ?_
      refine WC.region ?_
      refine WL.y rfl (Yld.pure tab_ok rfl) ?_
      refine WL.y rfl (Yld.pure tab_ok rfl) ?_
      refine WL.nil (WX.then_normal ?_)
      refine WC.ret (WX.block_ret (WX.then_ret (WX.then_ret (WX.block_ret (WX.then_ret ?_)))))
      exact WX.ret1 rfl rfl ⟨gr2, t8, rfl, H⟩
    · replace H := H.2 (b2)
      refine WC.skip (WX.block_normal (WX.then_normal ?_))
      refine WC.region ?_
      obtain ⟨h2, H⟩ := H
      refine WL.y rfl (Yld.add rfl rfl h2) ?_
      refine WL.y rfl (Yld.pure tab_ok rfl) ?_
      refine WL.nil ?_
      exact WX.roundF _ ⟨t8 + (1 : Int), rfl, rfl, H.1, gr2⟩ (by repeat (first | exact Sub.nil | refine Sub.cons rfl ?_)) H.2
  · replace H := H.2 (of_decide_eq_false b1)
    refine WC.exit (WX.then_exit (WX.then_exit (WX.block_same (WX.then_normal ?_))))
    refine WC.seq ?_
    refine WC.region ?_
    refine WL.y rfl (Yld.pure tab_ok rfl) ?_
    refine WL.nil (WX.then_normal ?_)
    refine WC.ret ?_
    exact WX.ret1 rfl rfl ⟨gr1, (-1 : Int), rfl, H⟩

set_option maxHeartbeats 8000000 in
theorem W_slices_ContainsFunc_string_string_pgraph_Graph_fits_1 {S : List Nat} {w : World} {s : List (List UInt8)} {A_s : Option Addr} {c_s : Nat} {n_s : Nat} {K : Bool → Prop} (hG : GOK S w) (hS100 : 100 ∈ S) (hs : Rd vs w A_s c_s s) (hn_s : n_s = s.length) (H : M_slices_ContainsFunc_string_string_pgraph_Graph_fits_1 s K) : Fn Tryz.prog 63 ⟨[.slice A_s n_s c_s, .func (.func 64) #[] #[]]⟩ w (fun v w' => w.grownBy w' none ∧ ∃ (r : Bool), v = .bool r ∧ K r) := by
  subst hn_s
  unfold M_slices_ContainsFunc_string_string_pgraph_Graph_fits_1 at H
  refine Fn.enter (by kernel_rfl) Tryz.func63 rfl Tryz.ntmps63 rfl ?_
  replace H := H (Nat.le_trans hs.cap hs.max)
  refine WC.seq ?_
  refine WC.region ?_
  refine WL.y rfl (Yld.pure tab_ok rfl) ?_
  refine WL.nil (WX.then_normal ?_)
  refine WC.seq ?_
  refine WC.region ?_
  refine WL.y rfl (Yld.pure tab_ok rfl) ?_
  refine WL.y rfl (Yld.pure tab_ok rfl) ?_
  refine WL.call rfl rfl (W_slices_IndexFunc_string_string_pgraph_Graph_fits_1 hG hS100 hs rfl H) ?_
  rintro _ w1 ⟨hg1, t7, rfl, H⟩
  have gr1 := hg1
  refine WL.y rfl (Yld.pure tab_ok rfl) ?_
  refine WL.y rfl (Yld.pure tab_ok rfl) ?_
  refine WL.nil (WX.then_normal ?_)
  refine WC.ret ?_
  exact WX.ret1 rfl rfl ⟨gr1, decide ((0 : Int) ≤ t7), rfl, H⟩

set_option maxHeartbeats 8000000 in
theorem W_pgraph_Graph_fits {S : List Nat} {w : World} {g_g : Nat} {g_l : List (Int × List (List UInt8) × List (List UInt8) × List UInt8)} {A_g_l : Option Addr} {c_g_l : Nat} {hs_g_l : List (Int × Hdr × Hdr × List UInt8)} {g_g_makers : Nat} {g_makers : List (List UInt8 × Int)} {g_before : List (List Int)} {A_g_before : Option Addr} {c_g_before : Nat} {hs_g_before : List Hdr} {g_after : List (List Int)} {A_g_after : Option Addr} {c_g_after : Nat} {hs_g_after : List Hdr} {x_Tool : Int} {x_Args : List (List UInt8)} {A_x_Args : Option Addr} {c_x_Args : Nat} {x_Inputs : List (List UInt8)} {A_x_Inputs : Option Addr} {c_x_Inputs : Nat} {x_Output : List UInt8} {n_g_l : Nat} {n_g_before : Nat} {n_g_after : Nat} {n_x_Args : Nat} {n_x_Inputs : Nat} {K : Er → Prop} (hG : GOK S w) (hS6 : 6 ∈ S) (hS10 : 10 ∈ S) (hS11 : 11 ∈ S) (hS100 : 100 ∈ S) (hg_l : RdK 4 encH43 w A_g_l c_g_l hs_g_l) (hn_g_l : n_g_l = g_l.length) (hr_g_l : RelD de43 w hs_g_l g_l) (hg_makers : MapB vs okS vi w g_g_makers g_makers) (hg_before : Rd vh w A_g_before c_g_before hs_g_before) (hn_g_before : n_g_before = g_before.length) (hr_g_before : RelD de38 w hs_g_before g_before) (hg_after : Rd vh w A_g_after c_g_after hs_g_after) (hn_g_after : n_g_after = g_after.length) (hr_g_after : RelD de38 w hs_g_after g_after) (hg : Bl w g_g 79 [.slice A_g_l n_g_l c_g_l, .map (some g_g_makers), .slice A_g_before n_g_before c_g_before, .slice A_g_after n_g_after c_g_after]) (hx_Args : Rd vs w A_x_Args c_x_Args x_Args) (hn_x_Args : n_x_Args = x_Args.length) (hx_Inputs : Rd vs w A_x_Inputs c_x_Inputs x_Inputs) (hn_x_Inputs : n_x_Inputs = x_Inputs.length) (H : M_pgraph_Graph_fits g_l g_makers g_before g_after x_Tool x_Args x_Inputs x_Output K) : Fn Tryz.prog 34 ⟨[.pointer (some ⟨g_g, 0, none⟩), .agg ⟨[.int .i64 x_Tool, .slice A_x_Args n_x_Args c_x_Args, .slice A_x_Inputs n_x_Inputs c_x_Inputs, vs x_Output]⟩]⟩ w (fun v w' => w.grownBy w' none ∧ ∃ (v_r : Value), ∃ (r : Er), v = v_r ∧ ErrR S w' v_r r ∧ K r) := by
  subst hn_g_l
  subst hn_g_before
  subst hn_g_after
  subst hn_x_Args
  subst hn_x_Inputs
  unfold M_pgraph_Graph_fits at H
  refine Fn.enter (by kernel_rfl) Tryz.func34 rfl Tryz.ntmps34 rfl ?_
  replace H := H (by rw [← hr_g_l.1]; exact Nat.le_trans hg_l.cap hg_l.max)
  replace H := H (by rw [← hr_g_before.1]; exact Nat.le_trans hg_before.cap hg_before.max)
  replace H := H (by rw [← hr_g_after.1]; exact Nat.le_trans hg_after.cap hg_after.max)
  replace H := H (Nat.le_trans hx_Args.cap hx_Args.max)
  replace H := H (Nat.le_trans hx_Inputs.cap hx_Inputs.max)
  refine WC.seq ?_
  refine WC.region ?_
  refine WL.box (us := [.int .i64 x_Tool, .slice A_x_Args x_Args.length c_x_Args, .slice A_x_Inputs x_Inputs.length c_x_Inputs, vs x_Output]) rfl rfl rfl (fun g1 w1 hB1 hg1 hl1 => ?_)
  have gr1 := hg1
  refine WL.y rfl (Yld.pure tab_ok rfl) ?_
  refine WL.nil (WX.then_normal ?_)
  refine WC.seq ?_
  refine WC.seq ?_
  refine WC.region ?_
  refine WL.y rfl (Yld.pure tab_ok rfl) ?_
  refine WL.y rfl (Yld.bload tab_ok hB1 rfl rfl rfl) ?_
  refine WL.y rfl (Yld.pure tab_ok rfl) ?_
  refine WL.y rfl (Yld.pure tab_ok rfl) ?_
  refine WL.midF 4 (fun L' w' => ∃ q1 : Bool, L' = [(14, .bool q1), (0, .pointer (some ⟨g_g, 0, none⟩)), (3, .pointer (some ⟨g1, 0, none⟩))] ∧ ((decide (x_Tool < (1 : Int))) || (decide ((5 : Int) < x_Tool))) = q1 ∧ w1 = w') ?_ (fun hQ => ?_)
  · rintro _ _ ⟨q1, rfl, rfl, rfl⟩
    refine WL.nil (WX.then_normal ?_)
    refine WC.cond rfl (fun b1 => ?_) (fun b1 => ?_)
    · replace H := H.1 (b1)
      refine WC.seq ?_
      refine WC.region ?_
      obtain ⟨vE1, _, hE1⟩ := GOK.get (hG.grown gr1) 10 2 hS10 rfl rfl
      refine WL.y rfl (Yld.cell tab_ok (ErrR.cell hE1 rfl) rfl rfl) ?_
      refine WL.y rfl (Yld.pure tab_ok rfl) ?_
      refine WL.nil (WX.then_normal ?_)
      refine WC.ret (WX.then_ret ?_)
      exact WX.ret1 rfl rfl ⟨gr1, vE1, (Er.e 10), rfl, hE1, H⟩
    · replace H := H.2 (b1)
      refine WC.skip (WX.then_normal ?_)
      refine WC.seq ?_
      refine WC.seq ?_
      refine WC.region ?_
      refine WL.y rfl (Yld.pure tab_ok rfl) ?_
      refine WL.y rfl (Yld.bload tab_ok hB1 rfl rfl rfl) ?_
      refine WL.call rfl rfl (W_path_Valid (hG.grown gr1) hS100 H) ?_
      rintro _ w2 ⟨hg2, t18, rfl, H⟩
      have gr2 := gr_trans gr1 hg2
      have k1 := hB1.g0 hg2
      refine WL.y rfl (Yld.pure tab_ok rfl) ?_
      refine WL.y rfl (Yld.pure tab_ok rfl) ?_
      obtain ⟨J1, H, hJ1⟩ := H
      refine WL.midF 4 (fun L' w' => ∃ q2 : Bool, L' = [(24, .bool q2), (0, .pointer (some ⟨g_g, 0, none⟩)), (3, .pointer (some ⟨g1, 0, none⟩))] ∧ J1 q2 ∧ w.grownBy w' none ∧ Bl w' g1 43 [.int .i64 x_Tool, .slice A_x_Args x_Args.length c_x_Args, .slice A_x_Inputs x_Inputs.length c_x_Inputs, vs x_Output]) ?_ (fun hQ => ?_)
      · clear H
        rintro _ w3 ⟨q2, rfl, H, gr3, k2⟩
        replace H := hJ1 q2 H
        refine WL.nil (WX.then_normal ?_)
        refine WC.cond rfl (fun b2 => ?_) (fun b2 => ?_)
        · replace H := H.1 (b2)
          refine WC.seq ?_
          refine WC.region ?_
          obtain ⟨vE2, _, hE2⟩ := GOK.get (hG.grown gr3) 11 3 hS11 rfl rfl
          refine WL.y rfl (Yld.cell tab_ok (ErrR.cell hE2 rfl) rfl rfl) ?_
          refine WL.y rfl (Yld.pure tab_ok rfl) ?_
          refine WL.nil (WX.then_normal ?_)
          refine WC.ret (WX.then_ret ?_)
          exact WX.ret1 rfl rfl ⟨gr3, vE2, (Er.e 11), rfl, hE2, H⟩
        · replace H := H.2 (b2)
          refine WC.skip (WX.then_normal ?_)
          refine WC.seq ?_
          refine WC.seq ?_
          refine WC.quiet mixed (by kernel_rfl) ?_
          refine WQ.y rfl (Yld.pure tab_ok rfl) ?_
          refine WQ.y rfl (Yld.pure tab_ok rfl) ?_
          refine WQ.y rfl (Yld.pure tab_ok rfl) ?_
          refine WQ.y rfl (Yld.bload tab_ok (hg.g0 gr3) rfl rfl rfl) ?_
          refine WQ.y rfl (Yld.pure tab_ok rfl) ?_
          refine WQ.y rfl (Yld.bload tab_ok k2 rfl rfl rfl) ?_
          obtain ⟨h1, H⟩ := H
          refine WQ.y rfl (Yld.lookOk (z := 0) (keyF_s Tryz.underlying9) Tryz.underlying76 (fun _ => by kernel_rfl) (hg_makers.g0 gr3) rfl rfl h1) ?_
          refine WQ.y rfl (Yld.pure tab_ok rfl) ?_
          refine WQ.y rfl (Yld.pure tab_ok rfl) ?_
          refine WQ.y rfl (Yld.pure tab_ok rfl) ?_
          refine WQ.y rfl (Yld.pure tab_ok rfl) ?_
          refine WQ.y rfl (Yld.pure tab_ok rfl) ?_
          refine WQ.nil (WX.then_normal ?_)
          refine WC.seq ?_
          refine WC.region ?_
          refine WL.y rfl (Yld.pure tab_ok rfl) ?_
          refine WL.nil (WX.then_normal ?_)
          refine WC.cond rfl (fun b3 => ?_) (fun b3 => ?_)
          · replace H := H.1 (b3)
            refine WC.seq ?_
            refine WC.region ?_
            obtain ⟨vE3, _, hE3⟩ := GOK.get (hG.grown gr3) 6 4 hS6 rfl rfl
            refine WL.y rfl (Yld.cell tab_ok (ErrR.cell hE3 rfl) rfl rfl) ?_
            refine WL.y rfl (Yld.pure tab_ok rfl) ?_
            refine WL.nil (WX.then_normal ?_)
            refine WC.ret (WX.then_ret ?_)
            exact WX.ret1 rfl rfl ⟨gr3, vE3, (Er.e 6), rfl, hE3, H⟩
          · replace H := H.2 (b3)
            refine WC.skip (WX.then_normal ?_)
            refine WC.seq ?_
            refine WC.region ?_
            refine WL.y rfl (Yld.pure tab_ok rfl) ?_
            refine WL.nil (WX.then_normal ?_)
            refine WC.ret ?_
            exact WX.ret1 rfl rfl ⟨gr3, .nilIface, Er.ok, rfl, (ErrR.okR (S := S) (w := w3)), H⟩
      · clear hJ1
        rcases Bool.eq_false_or_eq_true (!t18) with b4 | b4
        · replace H := H.1 b4
          refine WL.gno rfl rfl (okb b4) rfl ?_
          refine WL.gno rfl rfl (okb b4) rfl ?_
          refine WL.gno rfl rfl (okb b4) rfl ?_
          refine WL.y rfl (Yld.pickT (okb b4) rfl) ?_
          exact WL.weaken (by repeat (first | exact Sub.nil | refine Sub.cons rfl ?_)) (hQ _ _ ⟨true, rfl, H, gr2, k1⟩)
        · replace H := H.2 b4
          refine WL.gyes rfl rfl (okb b4) rfl (Yld.pure tab_ok rfl) ?_
          refine WL.gyes rfl rfl (okb b4) rfl (Yld.bload tab_ok k1 rfl rfl rfl) ?_
          refine WL.callw (wants_some rfl rfl (okb b4)) rfl rfl (W_slices_ContainsFunc_string_string_pgraph_Graph_fits_1 (hG.grown gr2) hS100 (hx_Inputs.grown gr2) rfl H) ?_
          rintro _ w4 ⟨hg3, t23, rfl, H⟩
          have gr4 := gr_trans gr2 hg3
          have k3 := k1.g0 hg3
          refine WL.y rfl (Yld.pickF (okb b4) rfl) ?_
          exact WL.weaken (by repeat (first | exact Sub.nil | refine Sub.cons rfl ?_)) (hQ _ _ ⟨t23, rfl, H, gr4, k3⟩)
  · clear H
    rcases Bool.eq_false_or_eq_true (decide (x_Tool < (1 : Int))) with b5 | b5
    · refine WL.gno rfl rfl (okb b5) rfl ?_
      refine WL.gno rfl rfl (okb b5) rfl ?_
      refine WL.gno rfl rfl (okb b5) rfl ?_
      refine WL.y rfl (Yld.pickT (okb b5) rfl) ?_
      exact WL.weaken (by repeat (first | exact Sub.nil | refine Sub.cons rfl ?_)) (hQ _ _ ⟨true, rfl, by rw [b5] <;> rfl, rfl⟩)
    · refine WL.gyes rfl rfl (okb b5) rfl (Yld.pure tab_ok rfl) ?_
      refine WL.gyes rfl rfl (okb b5) rfl (Yld.bload tab_ok hB1 rfl rfl rfl) ?_
      refine WL.gyes rfl rfl (okb b5) rfl (Yld.pure tab_ok rfl) ?_
      refine WL.y rfl (Yld.pickF (okb b5) rfl) ?_
      exact WL.weaken (by repeat (first | exact Sub.nil | refine Sub.cons rfl ?_)) (hQ _ _ ⟨decide ((5 : Int) < x_Tool), rfl, by rw [b5] <;> rfl, rfl⟩)

set_option maxHeartbeats 8000000 in
theorem W_graph_New_1 {w : World} {x_Tool : Int} {x_Args : List (List UInt8)} {A_x_Args : Option Addr} {c_x_Args : Nat} {x_Inputs : List (List UInt8)} {A_x_Inputs : Option Addr} {c_x_Inputs : Nat} {x_Output : List UInt8} {n_x_Args : Nat} {n_x_Inputs : Nat} {K : Bool → Prop} (hx_Args : Rd vs w A_x_Args c_x_Args x_Args) (hn_x_Args : n_x_Args = x_Args.length) (hx_Inputs : Rd vs w A_x_Inputs c_x_Inputs x_Inputs) (hn_x_Inputs : n_x_Inputs = x_Inputs.length) (H : M_graph_New_1 x_Tool x_Args x_Inputs x_Output K) : Fn Tryz.prog 33 ⟨[.agg ⟨[.int .i64 x_Tool, .slice A_x_Args n_x_Args c_x_Args, .slice A_x_Inputs n_x_Inputs c_x_Inputs, vs x_Output]⟩]⟩ w (fun v w' => w.grownBy w' none ∧ ∃ (r : Bool), v = .bool r ∧ K r) := by
  subst hn_x_Args
  subst hn_x_Inputs
  unfold M_graph_New_1 at H
  refine Fn.enter (by kernel_rfl) Tryz.func33 rfl Tryz.ntmps33 rfl ?_
  replace H := H (Nat.le_trans hx_Args.cap hx_Args.max)
  replace H := H (Nat.le_trans hx_Inputs.cap hx_Inputs.max)
  refine WC.seq ?_
  refine WC.region ?_
  refine WL.box (us := [.int .i64 x_Tool, .slice A_x_Args x_Args.length c_x_Args, .slice A_x_Inputs x_Inputs.length c_x_Inputs, vs x_Output]) rfl rfl rfl (fun g1 w1 hB1 hg1 hl1 => ?_)
  have gr1 := hg1
  refine WL.y rfl (Yld.pure tab_ok rfl) ?_
  refine WL.nil (WX.then_normal ?_)
  refine WC.seq ?_
  refine WC.region ?_
  refine WL.y rfl (Yld.pure tab_ok rfl) ?_
  refine WL.y rfl (Yld.bload tab_ok hB1 rfl rfl rfl) ?_
  refine WL.y rfl (Yld.pure tab_ok rfl) ?_
  refine WL.y rfl (Yld.pure tab_ok rfl) ?_
  refine WL.y rfl (Yld.pure tab_ok rfl) ?_
  refine WL.midF 5 (fun L' w' => ∃ q1 : Bool, L' = [(12, .bool q1)] ∧ ((decide ((1000 : Int) < (x_Inputs.length : Int))) || (decide ((1000 : Int) < (x_Args.length : Int)))) = q1 ∧ w1 = w') ?_ (fun hQ => ?_)
  · rintro _ _ ⟨q1, rfl, rfl, rfl⟩
    refine WL.y rfl (Yld.pure tab_ok rfl) ?_
    refine WL.nil (WX.then_normal ?_)
    refine WC.ret ?_
    exact WX.ret1 rfl rfl ⟨gr1, (decide ((1000 : Int) < (x_Inputs.length : Int))) || (decide ((1000 : Int) < (x_Args.length : Int))), rfl, H⟩
  · clear H
    rcases Bool.eq_false_or_eq_true (decide ((1000 : Int) < (x_Inputs.length : Int))) with b1 | b1
    · refine WL.gno rfl rfl (okb b1) rfl ?_
      refine WL.gno rfl rfl (okb b1) rfl ?_
      refine WL.gno rfl rfl (okb b1) rfl ?_
      refine WL.gno rfl rfl (okb b1) rfl ?_
      refine WL.y rfl (Yld.pickT (okb b1) rfl) ?_
      exact WL.weaken (by repeat (first | exact Sub.nil | refine Sub.cons rfl ?_)) (hQ _ _ ⟨true, rfl, by rw [b1] <;> rfl, rfl⟩)
    · refine WL.gyes rfl rfl (okb b1) rfl (Yld.pure tab_ok rfl) ?_
      refine WL.gyes rfl rfl (okb b1) rfl (Yld.bload tab_ok hB1 rfl rfl rfl) ?_
      refine WL.gyes rfl rfl (okb b1) rfl (Yld.pure tab_ok rfl) ?_
      refine WL.gyes rfl rfl (okb b1) rfl (Yld.pure tab_ok rfl) ?_
      refine WL.y rfl (Yld.pickF (okb b1) rfl) ?_
      exact WL.weaken (by repeat (first | exact Sub.nil | refine Sub.cons rfl ?_)) (hQ _ _ ⟨decide ((1000 : Int) < (x_Args.length : Int)), rfl, by rw [b1] <;> rfl, rfl⟩)

set_option maxHeartbeats 8000000 in
theorem W_slices_IndexFunc_api_Action_api_Action_graph_New_1 {w : World} {s : List (Int × List (List UInt8) × List (List UInt8) × List UInt8)} {A_s : Option Addr} {c_s : Nat} {hs_s : List (Int × Hdr × Hdr × List UInt8)} {n_s : Nat} {K : Int → Prop} (hs : RdK 4 encH43 w A_s c_s hs_s) (hn_s : n_s = s.length) (hr_s : RelD de43 w hs_s s) (H : M_slices_IndexFunc_api_Action_api_Action_graph_New_1 s K) : Fn Tryz.prog 61 ⟨[.slice A_s n_s c_s, .func (.func 33) #[] #[]]⟩ w (fun v w' => w.grownBy w' none ∧ ∃ (r : Int), v = .int .i64 r ∧ K r) := by
  subst hn_s
  unfold M_slices_IndexFunc_api_Action_api_Action_graph_New_1 at H
  refine Fn.enter (by kernel_rfl) Tryz.func61 rfl Tryz.ntmps61 rfl ?_
  replace H := H (by rw [← hr_s.1]; exact Nat.le_trans hs.cap hs.max)
  refine WC.seq ?_
  refine WC.region ?_
  refine WL.y rfl (Yld.pure tab_ok rfl) ?_
  refine WL.nil (WX.then_normal ?_)
  refine WC.seq ?_
  refine WC.seq ?_
  refine WC.region ?_
  refine WL.y rfl (Yld.pure tab_ok rfl) ?_
  refine WL.y rfl (Yld.pure tab_ok rfl) ?_
  refine WL.y rfl (Yld.pure tab_ok rfl) ?_
  refine WL.nil (WX.then_normal ?_)
  refine WC.block ?_
  obtain ⟨I1, mu1, h0_1, HR1⟩ := H
  refine WC.loopF (fun n' L' w' => ∃ (t8 : Int), n' = mu1 t8 ∧ L' = [(0, .slice A_s s.length c_s), (1, .func (.func 33) #[] #[]), (7, .int .i64 (s.length : Int)), (8, .int .i64 t8)] ∧ I1 t8 ∧ w.grownBy w' none) _ _ ⟨(0 : Int), rfl, rfl, h0_1, (gr_refl _ _)⟩ (by repeat (first | exact Sub.nil | refine Sub.cons rfl ?_)) ?_
  clear h0_1
  rintro _ _ w1 ⟨t8, rfl, rfl, hI1, gr1⟩
  have H := HR1 t8 hI1
  refine WC.seq ?_
  refine WC.region ?_
  refine WL.y rfl (Yld.pure tab_ok rfl) ?_
  refine WL.nil (WX.then_normal ?_)
  refine WC.seq ?_
  refine WC.cond rfl (fun b1 => ?_) (fun b1 => ?_)
  · replace H := H.1 (of_decide_eq_true b1)
    refine WC.skip (WX.then_normal ?_)
    refine WC.seq ?_
    refine WC.block ?_
    refine WC.seq ?_
    refine WC.region ?_
    refine WL.y rfl (Yld.pure tab_ok rfl) ?_
    refine WL.y rfl (Yld.pure tab_ok rfl) ?_
    refine WL.nil (WX.then_normal ?_)
    refine WC.seq ?_
    refine WC.region ?_
    refine WL.y rfl (Yld.pure tab_ok rfl) ?_
    refine WL.y rfl (Yld.pure tab_ok rfl) ?_
    refine WL.y rfl (Yld.pure tab_ok rfl) ?_
    obtain ⟨h1, H⟩ := H
    refine WL.y rfl (Yld.iaddrK tab_ok (hs.grown gr1) rfl rfl hr_s.1.symm rfl h1.1 h1.2) ?_
    obtain ⟨⟨f1, ⟨A_el, n1, c_el⟩, ⟨A_el2, n2, c_el2⟩, f2⟩, eh1, ⟨en1, ⟨en2, hR1⟩, ⟨en3, hR2⟩, en4⟩⟩ := RelD.at hr_s (0, hd0, hd0, []) (0, [], [], []) (j := t8.toNat) (Nat.lt_of_lt_of_eq (iltN h1 hr_s.1.symm) hr_s.1)
    have en1 : f1 = (s.getD t8.toNat (0, [], [], [])).1 := en1
    subst en1
    have en2 : n1 = ((s.getD t8.toNat (0, [], [], [])).2.1).length := en2
    subst en2
    have en3 : n2 = ((s.getD t8.toNat (0, [], [], [])).2.2.1).length := en3
    subst en3
    have en4 : f2 = (s.getD t8.toNat (0, [], [], [])).2.2.2 := en4
    subst en4
    refine WL.y rfl (Yld.to (v := .agg ⟨[.int .i64 ((s.getD t8.toNat (0, [], [], [])).1), .slice A_el (((s.getD t8.toNat (0, [], [], [])).2.1).length) c_el, .slice A_el2 (((s.getD t8.toNat (0, [], [], [])).2.2.1).length) c_el2, vs ((s.getD t8.toNat (0, [], [], [])).2.2.2)]⟩) (Yld.iloadK (0, hd0, hd0, []) tab_ok (hs.grown gr1) rfl rfl (iltN h1 hr_s.1.symm)) (by rw [eh1]; rfl)) ?_
    refine WL.callv rfl rfl rfl (W_graph_New_1 (hR1.grown gr1) rfl (hR2.grown gr1) rfl H) ?_
    rintro _ w2 ⟨hg1, t16, rfl, H⟩
    have gr2 := gr_trans gr1 hg1
    refine WL.nil (WX.then_normal ?_)
    refine WC.cond rfl (fun b2 => ?_) (fun b2 => ?_)
    · replace H := H.1 (b2)
      refine WC.seq ?_
      refine WC.region ?_
      refine WL.y rfl (Yld.pure tab_ok rfl) ?_
      refine WL.y rfl (Yld.pure tab_ok rfl) ?_
      refine WL.nil (WX.then_normal ?_)
      refine WC.ret (WX.block_ret (WX.then_ret (WX.then_ret (WX.block_ret (WX.then_ret ?_)))))
      exact WX.ret1 rfl rfl ⟨gr2, t8, rfl, H⟩
    · replace H := H.2 (b2)
      refine WC.skip (WX.block_normal (WX.then_normal ?_))
      refine WC.region ?_
      obtain ⟨h2, H⟩ := H
      refine WL.y rfl (Yld.add rfl rfl h2) ?_
      refine WL.y rfl (Yld.pure tab_ok rfl) ?_
      refine WL.nil ?_
      exact WX.roundF _ ⟨t8 + (1 : Int), rfl, rfl, H.1, gr2⟩ (by repeat (first | exact Sub.nil | refine Sub.cons rfl ?_)) H.2
  · replace H := H.2 (of_decide_eq_false b1)
    refine WC.exit (WX.then_exit (WX.then_exit (WX.block_same (WX.then_normal ?_))))
    refine WC.seq ?_
    refine WC.region ?_
    refine WL.y rfl (Yld.pure tab_ok rfl) ?_
    refine WL.nil (WX.then_normal ?_)
    refine WC.ret ?_
    exact WX.ret1 rfl rfl ⟨gr1, (-1 : Int), rfl, H⟩

set_option maxHeartbeats 8000000 in
theorem W_slices_ContainsFunc_api_Action_api_Action_graph_New_1 {w : World} {s : List (Int × List (List UInt8) × List (List UInt8) × List UInt8)} {A_s : Option Addr} {c_s : Nat} {hs_s : List (Int × Hdr × Hdr × List UInt8)} {n_s : Nat} {K : Bool → Prop} (hs : RdK 4 encH43 w A_s c_s hs_s) (hn_s : n_s = s.length) (hr_s : RelD de43 w hs_s s) (H : M_slices_ContainsFunc_api_Action_api_Action_graph_New_1 s K) : Fn Tryz.prog 32 ⟨[.slice A_s n_s c_s, .func (.func 33) #[] #[]]⟩ w (fun v w' => w.grownBy w' none ∧ ∃ (r : Bool), v = .bool r ∧ K r) := by
  subst hn_s
  unfold M_slices_ContainsFunc_api_Action_api_Action_graph_New_1 at H
  refine Fn.enter (by kernel_rfl) Tryz.func32 rfl Tryz.ntmps32 rfl ?_
  replace H := H (by rw [← hr_s.1]; exact Nat.le_trans hs.cap hs.max)
  refine WC.seq ?_
  refine WC.region ?_
  refine WL.y rfl (Yld.pure tab_ok rfl) ?_
  refine WL.nil (WX.then_normal ?_)
  refine WC.seq ?_
  refine WC.region ?_
  refine WL.y rfl (Yld.pure tab_ok rfl) ?_
  refine WL.y rfl (Yld.pure tab_ok rfl) ?_
  refine WL.call rfl rfl (W_slices_IndexFunc_api_Action_api_Action_graph_New_1 hs rfl hr_s H) ?_
  rintro _ w1 ⟨hg1, t7, rfl, H⟩
  have gr1 := hg1
  refine WL.y rfl (Yld.pure tab_ok rfl) ?_
  refine WL.y rfl (Yld.pure tab_ok rfl) ?_
  refine WL.nil (WX.then_normal ?_)
  refine WC.ret ?_
  exact WX.ret1 rfl rfl ⟨gr1, decide ((0 : Int) ≤ t7), rfl, H⟩

set_option maxHeartbeats 8000000 in
theorem W_pgraph_Graph_reach {w : World} {g_g : Nat} {g_l : List (Int × List (List UInt8) × List (List UInt8) × List UInt8)} {A_g_l : Option Addr} {c_g_l : Nat} {hs_g_l : List (Int × Hdr × Hdr × List UInt8)} {g_g_makers : Nat} {g_makers : List (List UInt8 × Int)} {g_before : List (List Int)} {A_g_before : Option Addr} {c_g_before : Nat} {hs_g_before : List Hdr} {g_after : List (List Int)} {A_g_after : Option Addr} {c_g_after : Nat} {hs_g_after : List Hdr} {from_ : List Int} {A_from : Option Addr} {c_from : Nat} {n_g_l : Nat} {n_g_before : Nat} {n_g_after : Nat} {n_from_ : Nat} {K : (List Bool) → Prop} (hg_l : RdK 4 encH43 w A_g_l c_g_l hs_g_l) (hn_g_l : n_g_l = g_l.length) (hr_g_l : RelD de43 w hs_g_l g_l) (hg_makers : MapB vs okS vi w g_g_makers g_makers) (hg_before : Rd vh w A_g_before c_g_before hs_g_before) (hn_g_before : n_g_before = g_before.length) (hr_g_before : RelD de38 w hs_g_before g_before) (hg_after : Rd vh w A_g_after c_g_after hs_g_after) (hn_g_after : n_g_after = g_after.length) (hr_g_after : RelD de38 w hs_g_after g_after) (hg : Bl w g_g 79 [.slice A_g_l n_g_l c_g_l, .map (some g_g_makers), .slice A_g_before n_g_before c_g_before, .slice A_g_after n_g_after c_g_after]) (hfrom_ : Rd vi w A_from c_from from_) (hn_from_ : n_from_ = from_.length) (H : M_pgraph_Graph_reach g_l g_makers g_before g_after from_ K) : Fn Tryz.prog 38 ⟨[.pointer (some ⟨g_g, 0, none⟩), .slice A_from n_from_ c_from]⟩ w (fun v w' => w.grownBy w' none ∧ ∃ (r : List Bool), ∃ (A_r : Option Addr), ∃ (c_r : Nat), v = .slice A_r r.length c_r ∧ Own vB w' w.heap.size 4 A_r c_r r ∧ K r) := by
  subst hn_g_l
  subst hn_g_before
  subst hn_g_after
  subst hn_from_
  unfold M_pgraph_Graph_reach at H
  refine Fn.enter (by kernel_rfl) Tryz.func38 rfl Tryz.ntmps38 rfl ?_
  replace H := H (by rw [← hr_g_l.1]; exact Nat.le_trans hg_l.cap hg_l.max)
  replace H := H (by rw [← hr_g_before.1]; exact Nat.le_trans hg_before.cap hg_before.max)
  replace H := H (by rw [← hr_g_after.1]; exact Nat.le_trans hg_after.cap hg_after.max)
  replace H := H (Nat.le_trans hfrom_.cap hfrom_.max)
  refine WC.seq ?_
  refine WC.region ?_
  refine WL.y rfl (Yld.pure tab_ok rfl) ?_
  refine WL.nil (WX.then_normal ?_)
  refine WC.seq ?_
  refine WC.region ?_
  refine WL.y rfl (Yld.pure tab_ok rfl) ?_
  refine WL.y rfl (Yld.pure tab_ok rfl) ?_
  refine WL.y rfl (Yld.pure tab_ok rfl) ?_
  refine WL.y rfl (Yld.bload tab_ok hg rfl rfl rfl) ?_
  refine WL.y rfl (Yld.pure tab_ok rfl) ?_
  obtain ⟨h1, H⟩ := H
  refine WL.makeZI (f := vB) (z := false) (B := w.heap.size) tab_ok rfl rfl zero4 rfl rfl h1.1 h1.2.1 h1.2.2 (Nat.le_refl _) (fun g1 w1 hO1 hg1 hl1 => ?_)
  have gr1 := hg1
  refine WL.y rfl (Yld.pure tab_ok rfl) ?_
  refine WL.nil (WX.then_normal ?_)
  refine WC.seq ?_
  refine WC.region ?_
  refine WL.y rfl (Yld.pure tab_ok rfl) ?_
  refine WL.call rfl rfl (W_slices_Clone_int_int (hfrom_.grown gr1) rfl H) ?_
  rintro _ w2 ⟨hg2, work, A_work, c_work, rfl, hwork, H⟩
  have hb1 := hwork.ge'
  have k1 := hwork.base (fun g hg => Nat.le_trans (size_le gr1) (hb1 g hg))
  have gr2 := gr_trans gr1 hg2
  have k2 := hO1.grown hg2
  refine WL.y rfl (Yld.pure tab_ok rfl) ?_
  refine WL.nil (WX.then_normal ?_)
  refine WC.seq ?_
  refine WC.block ?_
  obtain ⟨I1, mu1, h0_1, HR1⟩ := H
  refine WC.loopF (fun n' L' w' => ∃ (work2 : List Int), ∃ (A_work2 : Option Addr), ∃ (c_work2 : Nat), ∃ (n_work : Nat), ∃ (met : List Bool), n' = mu1 work2 met ∧ L' = [(0, .pointer (some ⟨g_g, 0, none⟩)), (5, .slice (some ⟨g1, 0, none⟩) ((g_l.length : Int).toNat) ((g_l.length : Int).toNat)), (6, .slice A_work2 n_work c_work2)] ∧ I1 work2 met ∧ (g_l.length : Int).toNat = met.length ∧ n_work = work2.length ∧ w.grownBy w' none ∧ Own vB w' w.heap.size 4 (some ⟨g1, 0, none⟩) ((g_l.length : Int).toNat) met ∧ Own vi w' w.heap.size 3 A_work2 c_work2 work2 ∧ Dj (blk (some ⟨g1, 0, none⟩)) (blk A_work2)) _ _ ⟨work, A_work, c_work, work.length, (List.replicate (g_l.length : Int).toNat false), rfl, rfl, h0_1, (List.length_replicate).symm, rfl, gr2, k2, k1, (Dj.new hO1.lt' hb1)⟩ (by repeat (first | exact Sub.nil | refine Sub.cons rfl ?_)) ?_
  clear h0_1
  rintro _ _ w3 ⟨work2, A_work2, c_work2, n_work, met, rfl, rfl, hI1, hn_met, rfl, gr3, k3, k4, dj1⟩
  have H := HR1 work2 met hI1
  replace H := H hn_met
  refine WC.seq ?_
  refine WC.seq ?_
  refine WC.region ?_
  refine WL.y rfl (Yld.pure tab_ok rfl) ?_
  refine WL.y rfl (Yld.pure tab_ok rfl) ?_
  refine WL.y rfl (Yld.pure tab_ok rfl) ?_
  refine WL.nil (WX.then_normal ?_)
  refine WC.cond rfl (fun b1 => ?_) (fun b1 => ?_)
  · replace H := H.1 (of_decide_eq_true b1)
    refine WC.skip (WX.then_normal ?_)
    refine WC.block ?_
    refine WC.seq ?_
    refine WC.region ?_
    refine WL.y rfl (Yld.pure tab_ok rfl) ?_
    refine WL.y rfl (Yld.pure tab_ok rfl) ?_
    refine WL.y rfl (Yld.pure tab_ok rfl) ?_
    obtain ⟨h2, H⟩ := H
    refine WL.y rfl (Yld.sub rfl rfl h2) ?_
    obtain ⟨h3, H⟩ := H
    refine WL.y rfl (Yld.iaddrW tab_ok k4.rd rfl rfl rfl rfl h3.1 h3.2) ?_
    refine WL.y rfl (Yld.iload 0 tab_ok k4.rd rfl rfl (iltN h3 rfl)) ?_
    refine WL.y rfl (Yld.pure tab_ok rfl) ?_
    refine WL.nil (WX.then_normal ?_)
    refine WC.seq ?_
    refine WC.region ?_
    refine WL.y rfl (Yld.pure tab_ok rfl) ?_
    refine WL.y rfl (Yld.pure tab_ok rfl) ?_
    refine WL.y rfl (Yld.pure tab_ok rfl) ?_
    obtain ⟨h4, H⟩ := H
    refine WL.y rfl (Yld.sub rfl rfl h4) ?_
    obtain ⟨h5, H⟩ := H
    refine WL.ocut tab_ok rfl rfl k4 rfl rfl rfl rfl h5.1 h5.2 (fun hO2 => ?_)
    refine WL.y rfl (Yld.pure tab_ok rfl) ?_
    refine WL.nil (WX.then_normal ?_)
    refine WC.seq ?_
    refine WC.region ?_
    refine WL.y rfl (Yld.pure tab_ok rfl) ?_
    refine WL.y rfl (Yld.pure tab_ok rfl) ?_
    obtain ⟨h6, H⟩ := H
    refine WL.y rfl (Yld.iaddrW tab_ok k3.rd rfl rfl hn_met rfl h6.1 h6.2) ?_
    refine WL.y rfl (Yld.iload false tab_ok k3.rd rfl rfl (iltN h6 hn_met)) ?_
    refine WL.y rfl (Yld.pure tab_ok rfl) ?_
    refine WL.nil (WX.then_normal ?_)
    refine WC.cond rfl (fun b2 => ?_) (fun b2 => ?_)
    · replace H := H.1 (b2)
      refine WC.seq ?_
      refine WC.region ?_
      refine WL.y rfl (Yld.pure tab_ok rfl) ?_
      refine WL.y rfl (Yld.pure tab_ok rfl) ?_
      obtain ⟨h7, H⟩ := H
      refine WL.y rfl (Yld.iaddrW tab_ok k3.rd rfl rfl hn_met rfl h7.1 h7.2) ?_
      refine WL.ostore (v := true) one4 One.B k3 rfl rfl (iltN h7 hn_met) (fun w4 hO3 hg3 => ?_)
      have gr4 := gr_mod gr3 hg3 k3.ge'
      have k5 := hO2.go hg3 dj1.symm
      refine WL.nil (WX.then_normal ?_)
      refine WC.region ?_
      refine WL.y rfl (Yld.pure tab_ok rfl) ?_
      refine WL.y rfl (Yld.pure tab_ok rfl) ?_
      refine WL.y rfl (Yld.pure tab_ok rfl) ?_
      refine WL.y rfl (Yld.pure tab_ok rfl) ?_
      refine WL.y rfl (Yld.bload tab_ok (hg.g0 gr4) rfl rfl rfl) ?_
      refine WL.y rfl (Yld.pure tab_ok rfl) ?_
      obtain ⟨h8, H⟩ := H
      refine WL.y rfl (Yld.iaddrW tab_ok (hg_before.grown gr4) rfl rfl hr_g_before.1.symm rfl h8.1 h8.2) ?_
      obtain ⟨⟨A_el, n1, c_el⟩, eh1, ⟨en1, hR1⟩⟩ := RelD.at hr_g_before hd0 [] (j := (work2.getD (((work2.length : Int) - (1 : Int)).toNat) 0).toNat) (Nat.lt_of_lt_of_eq (iltN h8 hr_g_before.1.symm) hr_g_before.1)
      have en1 : n1 = (g_before.getD ((work2.getD (((work2.length : Int) - (1 : Int)).toNat) 0).toNat) []).length := en1
      subst en1
      refine WL.y rfl (Yld.to (v := .slice A_el ((g_before.getD ((work2.getD (((work2.length : Int) - (1 : Int)).toNat) 0).toNat) []).length) c_el) (Yld.iload hd0 tab_ok (hg_before.grown gr4) rfl rfl (iltN h8 hr_g_before.1.symm)) (by rw [eh1]; rfl)) ?_
      obtain ⟨h9, H⟩ := H
      refine WL.append tab_ok rfl rfl One.i k5 rfl rfl (hR1.grown gr4) rfl rfl h9 (applen h9) (size_le gr4) (fun A_work3 c_work3 w5 hO4 hg4 hk1 => ?_)
      have gr5 := gr_mod gr4 hg4 k5.ge'
      have k6 := hO3.go hg4 dj1
      refine WL.y rfl (Yld.pure tab_ok rfl) ?_
      refine WL.nil (WX.block_normal ?_)
      exact WX.roundF _ ⟨(work2.take ((work2.length : Int) - (1 : Int)).toNat) ++ (g_before.getD ((work2.getD (((work2.length : Int) - (1 : Int)).toNat) 0).toNat) []), A_work3, c_work3, ((work2.take ((work2.length : Int) - (1 : Int)).toNat) ++ (g_before.getD ((work2.getD (((work2.length : Int) - (1 : Int)).toNat) 0).toNat) [])).length, met.set ((work2.getD (((work2.length : Int) - (1 : Int)).toNat) 0).toNat) true, rfl, rfl, H.1, (hn_met.trans List.length_set.symm), rfl, gr5, k6, hO4, (Dj.app dj1.symm hO3.lt' hk1).symm⟩ (by repeat (first | exact Sub.nil | refine Sub.cons rfl ?_)) H.2
    · replace H := H.2 (b2)
      refine WC.skip (WX.block_normal ?_)
      exact WX.roundF _ ⟨work2.take ((work2.length : Int) - (1 : Int)).toNat, A_work2, c_work2, (work2.take ((work2.length : Int) - (1 : Int)).toNat).length, met, rfl, rfl, H.1, hn_met, rfl, gr3, k3, hO2, dj1⟩ (by repeat (first | exact Sub.nil | refine Sub.cons rfl ?_)) H.2
  · replace H := H.2 (of_decide_eq_false b1)
    refine WC.exit (WX.then_exit (WX.then_exit (WX.block_same (WX.then_normal ?_))))
    refine WC.seq ?_
    refine WC.region ?_
    refine WL.y rfl (Yld.pure tab_ok rfl) ?_
    refine WL.y rfl (Yld.pure tab_ok rfl) ?_
    refine WL.nil (WX.then_normal ?_)
    refine WC.ret ?_
    exact WX.ret1 rfl rfl ⟨gr3, met, (some ⟨g1, 0, none⟩), (g_l.length : Int).toNat, (by rw [hn_met]), k3, H⟩

set_option maxHeartbeats 8000000 in
theorem W_pgraph_Graph_Order {w : World} {g_g : Nat} {g_l : List (Int × List (List UInt8) × List (List UInt8) × List UInt8)} {A_g_l : Option Addr} {c_g_l : Nat} {hs_g_l : List (Int × Hdr × Hdr × List UInt8)} {g_g_makers : Nat} {g_makers : List (List UInt8 × Int)} {g_before : List (List Int)} {A_g_before : Option Addr} {c_g_before : Nat} {hs_g_before : List Hdr} {g_after : List (List Int)} {A_g_after : Option Addr} {c_g_after : Nat} {hs_g_after : List Hdr} {n_g_l : Nat} {n_g_before : Nat} {n_g_after : Nat} {K : (List Int) → Prop} (hg_l : RdK 4 encH43 w A_g_l c_g_l hs_g_l) (hn_g_l : n_g_l = g_l.length) (hr_g_l : RelD de43 w hs_g_l g_l) (hg_makers : MapB vs okS vi w g_g_makers g_makers) (hg_before : Rd vh w A_g_before c_g_before hs_g_before) (hn_g_before : n_g_before = g_before.length) (hr_g_before : RelD de38 w hs_g_before g_before) (hg_after : Rd vh w A_g_after c_g_after hs_g_after) (hn_g_after : n_g_after = g_after.length) (hr_g_after : RelD de38 w hs_g_after g_after) (hg : Bl w g_g 79 [.slice A_g_l n_g_l c_g_l, .map (some g_g_makers), .slice A_g_before n_g_before c_g_before, .slice A_g_after n_g_after c_g_after]) (H : M_pgraph_Graph_Order g_l g_makers g_before g_after K) : Fn Tryz.prog 12 ⟨[.pointer (some ⟨g_g, 0, none⟩)]⟩ w (fun v w' => w.grownBy w' none ∧ ∃ (r : List Int), ∃ (A_r : Option Addr), ∃ (c_r : Nat), v = .slice A_r r.length c_r ∧ Own vi w' w.heap.size 3 A_r c_r r ∧ K r) := by
  subst hn_g_l
  subst hn_g_before
  subst hn_g_after
  unfold M_pgraph_Graph_Order at H
  refine Fn.enter (by kernel_rfl) Tryz.func12 rfl Tryz.ntmps12 rfl ?_
  replace H := H (by rw [← hr_g_l.1]; exact Nat.le_trans hg_l.cap hg_l.max)
  replace H := H (by rw [← hr_g_before.1]; exact Nat.le_trans hg_before.cap hg_before.max)
  replace H := H (by rw [← hr_g_after.1]; exact Nat.le_trans hg_after.cap hg_after.max)
  refine WC.seq ?_
  refine WC.region ?_
  refine WL.y rfl (Yld.pure tab_ok rfl) ?_
  refine WL.nil (WX.then_normal ?_)
  refine WC.seq ?_
  refine WC.region ?_
  refine WL.y rfl (Yld.pure tab_ok rfl) ?_
  refine WL.nil (WX.then_normal ?_)
  refine WC.seq ?_
  refine WC.region ?_
  refine WL.y rfl (Yld.pure tab_ok rfl) ?_
  refine WL.y rfl (Yld.pure tab_ok rfl) ?_
  refine WL.y rfl (Yld.pure tab_ok rfl) ?_
  refine WL.y rfl (Yld.bload tab_ok hg rfl rfl rfl) ?_
  refine WL.y rfl (Yld.pure tab_ok rfl) ?_
  obtain ⟨h1, H⟩ := H
  refine WL.makeZI (f := vi) (z := 0) (B := w.heap.size) tab_ok rfl rfl zero3 rfl rfl h1.1 h1.2.1 h1.2.2 (Nat.le_refl _) (fun g1 w1 hO1 hg1 hl1 => ?_)
  have gr1 := hg1
  refine WL.y rfl (Yld.pure tab_ok rfl) ?_
  refine WL.nil (WX.then_normal ?_)
  refine WC.seq ?_
  refine WC.seq ?_
  refine WC.region ?_
  refine WL.y rfl (Yld.pure tab_ok rfl) ?_
  refine WL.y rfl (Yld.pure tab_ok rfl) ?_
  refine WL.y rfl (Yld.pure tab_ok rfl) ?_
  refine WL.y rfl (Yld.bload tab_ok (hg.g0 gr1) rfl rfl rfl) ?_
  refine WL.y rfl (Yld.pure tab_ok rfl) ?_
  refine WL.y rfl (Yld.pure tab_ok rfl) ?_
  refine WL.nil (WX.then_normal ?_)
  refine WC.block ?_
  obtain ⟨I1, mu1, h0_1, HR1⟩ := H
  refine WC.loopF (fun n' L' w' => ∃ (t20 : Int), ∃ (left : List Int), n' = mu1 t20 left ∧ L' = [(0, .pointer (some ⟨g_g, 0, none⟩)), (3, .slice none 0 0), (4, .slice (some ⟨g1, 0, none⟩) ((g_l.length : Int).toNat) ((g_l.length : Int).toNat)), (19, .int .i64 (g_l.length : Int)), (20, .int .i64 t20)] ∧ I1 t20 left ∧ (g_l.length : Int).toNat = left.length ∧ w.grownBy w' none ∧ Own vi w' w.heap.size 3 (some ⟨g1, 0, none⟩) ((g_l.length : Int).toNat) left) _ _ ⟨(0 : Int), (List.replicate (g_l.length : Int).toNat 0), rfl, rfl, h0_1, (List.length_replicate).symm, gr1, hO1⟩ (by repeat (first | exact Sub.nil | refine Sub.cons rfl ?_)) ?_
  clear h0_1
  rintro _ _ w2 ⟨t20, left, rfl, rfl, hI1, hn_left, gr2, k1⟩
  have H := HR1 t20 left hI1
  replace H := H hn_left
  refine WC.seq ?_
  refine WC.region ?_
  refine WL.y rfl (Yld.pure tab_ok rfl) ?_
  refine WL.nil (WX.then_normal ?_)
  refine WC.seq ?_
  refine WC.cond rfl (fun b1 => ?_) (fun b1 => ?_)
  · replace H := H.1 (of_decide_eq_true b1)
    refine WC.skip (WX.then_normal ?_)
    refine WC.seq ?_
    refine WC.block ?_
    refine WC.seq ?_
    refine WC.region ?_
    refine WL.y rfl (Yld.pure tab_ok rfl) ?_
    refine WL.y rfl (Yld.pure tab_ok rfl) ?_
    refine WL.nil (WX.then_normal ?_)
    refine WC.region ?_
    refine WL.y rfl (Yld.pure tab_ok rfl) ?_
    refine WL.y rfl (Yld.pure tab_ok rfl) ?_
    refine WL.y rfl (Yld.pure tab_ok rfl) ?_
    refine WL.y rfl (Yld.pure tab_ok rfl) ?_
    refine WL.y rfl (Yld.pure tab_ok rfl) ?_
    refine WL.y rfl (Yld.bload tab_ok (hg.g0 gr2) rfl rfl rfl) ?_
    refine WL.y rfl (Yld.pure tab_ok rfl) ?_
    obtain ⟨h2, H⟩ := H
    refine WL.y rfl (Yld.iaddrW tab_ok (hg_before.grown gr2) rfl rfl hr_g_before.1.symm rfl h2.1 h2.2) ?_
    obtain ⟨⟨A_el, n1, c_el⟩, eh1, ⟨en1, hR1⟩⟩ := RelD.at hr_g_before hd0 [] (j := t20.toNat) (Nat.lt_of_lt_of_eq (iltN h2 hr_g_before.1.symm) hr_g_before.1)
    have en1 : n1 = (g_before.getD t20.toNat []).length := en1
    subst en1
    refine WL.y rfl (Yld.to (v := .slice A_el ((g_before.getD t20.toNat []).length) c_el) (Yld.iload hd0 tab_ok (hg_before.grown gr2) rfl rfl (iltN h2 hr_g_before.1.symm)) (by rw [eh1]; rfl)) ?_
    refine WL.y rfl (Yld.pure tab_ok rfl) ?_
    obtain ⟨h3, H⟩ := H
    refine WL.y rfl (Yld.iaddrW tab_ok k1.rd rfl rfl hn_left rfl h3.1 h3.2) ?_
    refine WL.ostore (v := ((g_before.getD t20.toNat []).length : Int)) one3 One.i k1 rfl rfl (iltN h3 hn_left) (fun w3 hO2 hg2 => ?_)
    have gr3 := gr_mod gr2 hg2 k1.ge'
    refine WL.nil (WX.block_normal (WX.then_normal ?_))
    refine WC.region ?_
    obtain ⟨h4, H⟩ := H
    refine WL.y rfl (Yld.add rfl rfl h4) ?_
    refine WL.y rfl (Yld.pure tab_ok rfl) ?_
    refine WL.nil ?_
    exact WX.roundF _ ⟨t20 + (1 : Int), left.set t20.toNat ((g_before.getD t20.toNat []).length : Int), rfl, rfl, H.1, (hn_left.trans List.length_set.symm), gr3, hO2⟩ (by repeat (first | exact Sub.nil | refine Sub.cons rfl ?_)) H.2
  · replace H := H.2 (of_decide_eq_false b1)
    refine WC.exit (WX.then_exit (WX.then_exit (WX.block_same (WX.then_normal ?_))))
    refine WC.seq ?_
    refine WC.seq ?_
    refine WC.region ?_
    refine WL.y rfl (Yld.pure tab_ok rfl) ?_
    refine WL.y rfl (Yld.pure tab_ok rfl) ?_
    refine WL.y rfl (Yld.pure tab_ok rfl) ?_
    refine WL.y rfl (Yld.bload tab_ok (hg.g0 gr2) rfl rfl rfl) ?_
    refine WL.y rfl (Yld.pure tab_ok rfl) ?_
    refine WL.y rfl (Yld.pure tab_ok rfl) ?_
    refine WL.nil (WX.then_normal ?_)
    refine WC.block ?_
    obtain ⟨I2, mu2, h0_2, HR2⟩ := H
    refine WC.loopF (fun n' L' w' => ∃ (out : List Int), ∃ (A_out : Option Addr), ∃ (c_out : Nat), ∃ (n_out : Nat), ∃ (t40 : Int), ∃ (left2 : List Int), n' = mu2 out t40 left2 ∧ L' = [(0, .pointer (some ⟨g_g, 0, none⟩)), (3, .slice A_out n_out c_out), (4, .slice (some ⟨g1, 0, none⟩) ((g_l.length : Int).toNat) ((g_l.length : Int).toNat)), (39, .int .i64 (g_l.length : Int)), (40, .int .i64 t40)] ∧ I2 out t40 left2 ∧ (g_l.length : Int).toNat = left2.length ∧ n_out = out.length ∧ w.grownBy w' none ∧ Own vi w' w.heap.size 3 (some ⟨g1, 0, none⟩) ((g_l.length : Int).toNat) left2 ∧ Own vi w' w.heap.size 3 A_out c_out out ∧ Dj (blk (some ⟨g1, 0, none⟩)) (blk A_out)) _ _ ⟨[], none, 0, 0, (0 : Int), left, rfl, rfl, h0_2, hn_left, rfl, gr2, k1, (Own.nil vi w2 w.heap.size 3), Dj.nr⟩ (by repeat (first | exact Sub.nil | refine Sub.cons rfl ?_)) ?_
    clear h0_2
    rintro _ _ w4 ⟨out, A_out, c_out, n_out, t40, left2, rfl, rfl, hI2, hn_left2, rfl, gr4, k2, k3, dj1⟩
    have H := HR2 out t40 left2 hI2
    replace H := H hn_left2
    refine WC.seq ?_
    refine WC.region ?_
    refine WL.y rfl (Yld.pure tab_ok rfl) ?_
    refine WL.nil (WX.then_normal ?_)
    refine WC.seq ?_
    refine WC.cond rfl (fun b2 => ?_) (fun b2 => ?_)
    · replace H := H.1 (of_decide_eq_true b2)
      refine WC.skip (WX.then_normal ?_)
      refine WC.seq ?_
      refine WC.block ?_
      refine WC.seq ?_
      refine WC.region ?_
      refine WL.y rfl (Yld.pure tab_ok rfl) ?_
      refine WL.call rfl rfl (W_slices_Index_int_int k2.rd hn_left2 H) ?_
      rintro _ _ ⟨rfl, i, rfl, H⟩
      refine WL.y rfl (Yld.pure tab_ok rfl) ?_
      refine WL.nil (WX.then_normal ?_)
      refine WC.seq ?_
      refine WC.region ?_
      refine WL.y rfl (Yld.pure tab_ok rfl) ?_
      refine WL.y rfl (Yld.pure tab_ok rfl) ?_
      obtain ⟨h5, H⟩ := H
      refine WL.y rfl (Yld.iaddrW tab_ok k2.rd rfl rfl hn_left2 rfl h5.1 h5.2) ?_
      refine WL.ostore (v := (-1 : Int)) one3 One.i k2 rfl rfl (iltN h5 hn_left2) (fun w5 hO3 hg3 => ?_)
      have gr5 := gr_mod gr4 hg3 k2.ge'
      have k4 := k3.go hg3 dj1.symm
      refine WL.nil (WX.then_normal ?_)
      refine WC.seq ?_
      refine WC.region ?_
      refine WL.y rfl (Yld.pure tab_ok rfl) ?_
      refine WL.y rfl (Yld.pure tab_ok rfl) ?_
      refine WL.lit tab_ok rfl rfl rfl (all1c rfl all1n) rfl (by omega) (fun g2 w6 hB1 hg4 hl2 => ?_)
      have hO4 : Own vi w6 w.heap.size 3 (some ⟨g2, 0, none⟩) 1 ([i] : List Int) := Own.ofBl hB1 (Nat.le_trans (size_le gr5) hl2) (by simp [maxLen]) rfl
      have gr6 := gr_trans gr5 hg4
      have k5 := hO3.grown hg4
      have k6 := k4.grown hg4
      obtain ⟨h6, H⟩ := H
      refine WL.append tab_ok rfl rfl One.i k6 rfl rfl hO4.rd rfl rfl h6 (applen h6) (size_le gr6) (fun A_out2 c_out2 w7 hO5 hg5 hk1 => ?_)
      have gr7 := gr_mod gr6 hg5 k6.ge'
      have k7 := k5.go hg5 dj1
      refine WL.y rfl (Yld.pure tab_ok rfl) ?_
      refine WL.nil (WX.then_normal ?_)
      refine WC.seq ?_
      refine WC.region ?_
      refine WL.y rfl (Yld.pure tab_ok rfl) ?_
      refine WL.y rfl (Yld.pure tab_ok rfl) ?_
      refine WL.y rfl (Yld.pure tab_ok rfl) ?_
      refine WL.y rfl (Yld.bload tab_ok (hg.g0 gr7) rfl rfl rfl) ?_
      refine WL.y rfl (Yld.pure tab_ok rfl) ?_
      obtain ⟨h7, H⟩ := H
      refine WL.y rfl (Yld.iaddrW tab_ok (hg_after.grown gr7) rfl rfl hr_g_after.1.symm rfl h7.1 h7.2) ?_
      obtain ⟨⟨A_el2, n2, c_el2⟩, eh2, ⟨en2, hR2⟩⟩ := RelD.at hr_g_after hd0 [] (j := i.toNat) (Nat.lt_of_lt_of_eq (iltN h7 hr_g_after.1.symm) hr_g_after.1)
      have en2 : n2 = (g_after.getD i.toNat []).length := en2
      subst en2
      refine WL.y rfl (Yld.to (v := .slice A_el2 ((g_after.getD i.toNat []).length) c_el2) (Yld.iload hd0 tab_ok (hg_after.grown gr7) rfl rfl (iltN h7 hr_g_after.1.symm)) (by rw [eh2]; rfl)) ?_
      refine WL.y rfl (Yld.pure tab_ok rfl) ?_
      refine WL.y rfl (Yld.pure tab_ok rfl) ?_
      refine WL.nil (WX.then_normal ?_)
      refine WC.block ?_
      obtain ⟨I3, mu3, h0_3, HR3⟩ := H
      refine WC.loopF (fun n' L' w' => ∃ (t59 : Int), ∃ (left3 : List Int), n' = mu3 t59 left3 ∧ L' = [(0, .pointer (some ⟨g_g, 0, none⟩)), (3, .slice A_out2 ((out ++ ([i] : List Int)).length) c_out2), (4, .slice (some ⟨g1, 0, none⟩) ((g_l.length : Int).toNat) ((g_l.length : Int).toNat)), (39, .int .i64 (g_l.length : Int)), (40, .int .i64 t40), (57, .slice A_el2 ((g_after.getD i.toNat []).length) c_el2), (58, .int .i64 ((g_after.getD i.toNat []).length : Int)), (59, .int .i64 t59)] ∧ I3 t59 left3 ∧ (g_l.length : Int).toNat = left3.length ∧ w.grownBy w' none ∧ Own vi w' w.heap.size 3 (some ⟨g1, 0, none⟩) ((g_l.length : Int).toNat) left3 ∧ Own vi w' w.heap.size 3 A_out2 c_out2 (out ++ ([i] : List Int)) ∧ Dj (blk (some ⟨g1, 0, none⟩)) (blk A_out2)) _ _ ⟨(0 : Int), left2.set i.toNat (-1 : Int), rfl, rfl, h0_3, (hn_left2.trans List.length_set.symm), gr7, k7, hO5, (Dj.app dj1.symm k5.lt' hk1).symm⟩ (by repeat (first | exact Sub.nil | refine Sub.cons rfl ?_)) ?_
      clear h0_3
      rintro _ _ w8 ⟨t59, left3, rfl, rfl, hI3, hn_left3, gr8, k8, k9, dj2⟩
      have H := HR3 t59 left3 hI3
      replace H := H hn_left3
      refine WC.seq ?_
      refine WC.region ?_
      refine WL.y rfl (Yld.pure tab_ok rfl) ?_
      refine WL.nil (WX.then_normal ?_)
      refine WC.seq ?_
      refine WC.cond rfl (fun b3 => ?_) (fun b3 => ?_)
      · replace H := H.1 (of_decide_eq_true b3)
        refine WC.skip (WX.then_normal ?_)
        refine WC.seq ?_
        refine WC.block ?_
        refine WC.seq ?_
        refine WC.region ?_
        obtain ⟨h8, H⟩ := H
        refine WL.y rfl (Yld.iaddrW tab_ok (hR2.grown gr8) rfl rfl rfl rfl h8.1 h8.2) ?_
        refine WL.y rfl (Yld.iload 0 tab_ok (hR2.grown gr8) rfl rfl (iltN h8 rfl)) ?_
        refine WL.y rfl (Yld.pure tab_ok rfl) ?_
        refine WL.nil (WX.then_normal ?_)
        refine WC.region ?_
        refine WL.y rfl (Yld.pure tab_ok rfl) ?_
        refine WL.y rfl (Yld.pure tab_ok rfl) ?_
        obtain ⟨h9, H⟩ := H
        refine WL.y rfl (Yld.iaddrW tab_ok k8.rd rfl rfl hn_left3 rfl h9.1 h9.2) ?_
        refine WL.y rfl (Yld.iload 0 tab_ok k8.rd rfl rfl (iltN h9 hn_left3)) ?_
        obtain ⟨h10, H⟩ := H
        refine WL.y rfl (Yld.sub rfl rfl h10) ?_
        obtain ⟨h11, H⟩ := H
        refine WL.y rfl (Yld.iaddrW tab_ok k8.rd rfl rfl hn_left3 rfl h11.1 h11.2) ?_
        refine WL.ostore (v := (left3.getD (((g_after.getD i.toNat []).getD t59.toNat 0).toNat) 0) - (1 : Int)) one3 One.i k8 rfl rfl (iltN h11 hn_left3) (fun w9 hO6 hg6 => ?_)
        have gr9 := gr_mod gr8 hg6 k8.ge'
        have k10 := k9.go hg6 dj2.symm
        refine WL.nil (WX.block_normal (WX.then_normal ?_))
        refine WC.region ?_
        obtain ⟨h12, H⟩ := H
        refine WL.y rfl (Yld.add rfl rfl h12) ?_
        refine WL.y rfl (Yld.pure tab_ok rfl) ?_
        refine WL.nil ?_
        exact WX.roundF _ ⟨t59 + (1 : Int), left3.set (((g_after.getD i.toNat []).getD t59.toNat 0).toNat) ((left3.getD (((g_after.getD i.toNat []).getD t59.toNat 0).toNat) 0) - (1 : Int)), rfl, rfl, H.1, (hn_left3.trans List.length_set.symm), gr9, hO6, k10, dj2⟩ (by repeat (first | exact Sub.nil | refine Sub.cons rfl ?_)) H.2
      · replace H := H.2 (of_decide_eq_false b3)
        refine WC.exit (WX.then_exit (WX.then_exit (WX.block_same (WX.block_normal (WX.then_normal ?_)))))
        refine WC.region ?_
        obtain ⟨h13, H⟩ := H
        refine WL.y rfl (Yld.add rfl rfl h13) ?_
        refine WL.y rfl (Yld.pure tab_ok rfl) ?_
        refine WL.nil ?_
        exact WX.roundF _ ⟨out ++ ([i] : List Int), A_out2, c_out2, (out ++ ([i] : List Int)).length, t40 + (1 : Int), left3, rfl, rfl, H.1, hn_left3, rfl, gr8, k8, k9, dj2⟩ (by repeat (first | exact Sub.nil | refine Sub.cons rfl ?_)) H.2
    · replace H := H.2 (of_decide_eq_false b2)
      refine WC.exit (WX.then_exit (WX.then_exit (WX.block_same (WX.then_normal ?_))))
      refine WC.seq ?_
      refine WC.region ?_
      refine WL.y rfl (Yld.pure tab_ok rfl) ?_
      refine WL.y rfl (Yld.pure tab_ok rfl) ?_
      refine WL.nil (WX.then_normal ?_)
      refine WC.ret ?_
      exact WX.ret1 rfl rfl ⟨gr4, out, A_out, c_out, rfl, k3, H⟩

set_option maxHeartbeats 8000000 in
theorem W_graph_New {S : List Nat} {w : World} {l : List (Int × List (List UInt8) × List (List UInt8) × List UInt8)} {A_l : Option Addr} {c_l : Nat} {hs_l : List (Int × Hdr × Hdr × List UInt8)} {n_l : Nat} {K0 : Er → Prop} {K : (List (Int × List (List UInt8) × List (List UInt8) × List UInt8)) → (List (List UInt8 × Int)) → (List (List Int)) → (List (List Int)) → Er → Prop} (hG : GOK S w) (hS4 : 4 ∈ S) (hS6 : 6 ∈ S) (hS9 : 9 ∈ S) (hS10 : 10 ∈ S) (hS11 : 11 ∈ S) (hS100 : 100 ∈ S) (hl : RdK 4 encH43 w A_l c_l hs_l) (hn_l : n_l = l.length) (hr_l : RelD de43 w hs_l l) (H : M_graph_New l K0 K) : Fn Tryz.prog 9 ⟨[.slice A_l n_l c_l]⟩ w (fun v w' => w.grownBy w' none ∧ ((∃ (v_r12 : Value), ∃ (r12 : Er), v = .tuple #[.pointer none, v_r12] ∧ ErrR S w' v_r12 r12 ∧ K0 r12) ∨ (∃ (g_r0 : Nat), ∃ (r0_l : List (Int × List (List UInt8) × List (List UInt8) × List UInt8)), ∃ (A_r0_l : Option Addr), ∃ (c_r0_l : Nat), ∃ (hs_r0_l : List (Int × Hdr × Hdr × List UInt8)), ∃ (g_r0_makers : Nat), ∃ (r0_makers : List (List UInt8 × Int)), ∃ (r0_before : List (List Int)), ∃ (A_r0_before : Option Addr), ∃ (c_r0_before : Nat), ∃ (hs_r0_before : List Hdr), ∃ (r0_after : List (List Int)), ∃ (A_r0_after : Option Addr), ∃ (c_r0_after : Nat), ∃ (hs_r0_after : List Hdr), ∃ (v_r1 : Value), ∃ (r1 : Er), v = .tuple #[.pointer (some ⟨g_r0, 0, none⟩), v_r1] ∧ OwnK 4 encH43 w' w.heap.size 43 A_r0_l c_r0_l hs_r0_l ∧ RelD de43 w' hs_r0_l r0_l ∧ NewD de43 hs_r0_l r0_l w.heap.size ∧ DnD de43 hs_r0_l r0_l (blk A_r0_l) ∧ Own vh w' w.heap.size 38 A_r0_before c_r0_before hs_r0_before ∧ RelD de38 w' hs_r0_before r0_before ∧ NewD de38 hs_r0_before r0_before w.heap.size ∧ DnD de38 hs_r0_before r0_before (blk A_r0_before) ∧ Own vh w' w.heap.size 38 A_r0_after c_r0_after hs_r0_after ∧ RelD de38 w' hs_r0_after r0_after ∧ NewD de38 hs_r0_after r0_after w.heap.size ∧ DnD de38 hs_r0_after r0_after (blk A_r0_after) ∧ ErrR S w' v_r1 r1 ∧ MapB vs okS vi w' g_r0_makers r0_makers ∧ Ge (some g_r0_makers) w.heap.size ∧ Bl w' g_r0 79 [.slice A_r0_l r0_l.length c_r0_l, .map (some g_r0_makers), .slice A_r0_before r0_before.length c_r0_before, .slice A_r0_after r0_after.length c_r0_after] ∧ Ge (some g_r0) w.heap.size ∧ DnD de43 hs_r0_l r0_l (blk A_r0_l) ∧ DnD de43 hs_r0_l r0_l (blk A_r0_before) ∧ DnD de43 hs_r0_l r0_l (blk A_r0_after) ∧ DnD de43 hs_r0_l r0_l (some g_r0_makers) ∧ DnD de43 hs_r0_l r0_l (some g_r0) ∧ DnD de38 hs_r0_before r0_before (blk A_r0_l) ∧ DnD de38 hs_r0_before r0_before (blk A_r0_before) ∧ DnD de38 hs_r0_before r0_before (blk A_r0_after) ∧ DnD de38 hs_r0_before r0_before (some g_r0_makers) ∧ DnD de38 hs_r0_before r0_before (some g_r0) ∧ DnD de38 hs_r0_after r0_after (blk A_r0_l) ∧ DnD de38 hs_r0_after r0_after (blk A_r0_before) ∧ DnD de38 hs_r0_after r0_after (blk A_r0_after) ∧ DnD de38 hs_r0_after r0_after (some g_r0_makers) ∧ DnD de38 hs_r0_after r0_after (some g_r0) ∧ Dj (blk A_r0_l) (blk A_r0_before) ∧ Dj (blk A_r0_l) (blk A_r0_after) ∧ Dj (blk A_r0_l) (some g_r0_makers) ∧ Dj (blk A_r0_l) (some g_r0) ∧ Dj (blk A_r0_before) (blk A_r0_after) ∧ Dj (blk A_r0_before) (some g_r0_makers) ∧ Dj (blk A_r0_before) (some g_r0) ∧ Dj (blk A_r0_after) (some g_r0_makers) ∧ Dj (blk A_r0_after) (some g_r0) ∧ Dj (some g_r0_makers) (some g_r0) ∧ K r0_l r0_makers r0_before r0_after r1))) := by
  subst hn_l
  unfold M_graph_New at H
  refine Fn.enter (by kernel_rfl) Tryz.func9 rfl Tryz.ntmps9 rfl ?_
  replace H := H (by rw [← hr_l.1]; exact Nat.le_trans hl.cap hl.max)
  refine WC.seq ?_
  refine WC.region ?_
  refine WL.y rfl (Yld.pure tab_ok rfl) ?_
  refine WL.y rfl (Yld.pure tab_ok rfl) ?_
  refine WL.nil (WX.then_normal ?_)
  refine WC.seq ?_
  refine WC.region ?_
  refine WL.putw wants_none rfl (Eff.makeMap vs okS vi) ?_
  rintro _ w1 ⟨rfl, hB1, hg1⟩
  have gr1 := hg1
  refine WL.y rfl (Yld.struct (us := [.slice none 0 0, .map (some w.heap.size), .slice none 0 0, .slice none 0 0]) zero79 places79 rfl rfl) ?_
  refine WL.box (us := [.slice none 0 0, .map (some w.heap.size), .slice none 0 0, .slice none 0 0]) rfl rfl rfl (fun g1 w2 hB2 hg2 hl2 => ?_)
  have gr2 := gr_trans gr1 hg2
  have k1 := hB1.g0 hg2
  refine WL.y rfl (Yld.pure tab_ok rfl) ?_
  refine WL.nil (WX.then_normal ?_)
  refine WC.seq ?_
  refine WC.seq ?_
  refine WC.region ?_
  refine WL.y rfl (Yld.pure tab_ok rfl) ?_
  refine WL.y rfl (Yld.pure tab_ok rfl) ?_
  refine WL.y rfl (Yld.pure tab_ok rfl) ?_
  refine WL.y rfl (Yld.pure tab_ok rfl) ?_
  obtain ⟨J1, H, hJ1⟩ := H
  refine WL.midF 3 (fun L' w' => ∃ q1 : Bool, L' = [(27, .bool q1), (0, .slice A_l l.length c_l), (4, .pointer (some ⟨g1, 0, none⟩))] ∧ J1 q1 ∧ w.grownBy w' none ∧ MapB vs okS vi w' w.heap.size ([] : List (List UInt8 × Int)) ∧ Bl w' g1 79 [.slice none 0 0, .map (some w.heap.size), .slice none 0 0, .slice none 0 0]) ?_ (fun hQ => ?_)
  · clear H
    rintro _ w3 ⟨q1, rfl, H, gr3, k2, k3⟩
    replace H := hJ1 q1 H
    refine WL.nil (WX.then_normal ?_)
    refine WC.cond rfl (fun b1 => ?_) (fun b1 => ?_)
    · replace H := H.1 (b1)
      refine WC.seq ?_
      refine WC.quiet mixed (by kernel_rfl) ?_
      obtain ⟨vE1, _, hE1⟩ := GOK.get (hG.grown gr3) 9 0 hS9 rfl rfl
      refine WQ.y rfl (Yld.cell tab_ok (ErrR.cell hE1 rfl) rfl rfl) ?_
      refine WQ.y rfl (Yld.pure tab_ok rfl) ?_
      refine WQ.y rfl (Yld.pure tab_ok rfl) ?_
      refine WQ.nil (WX.then_normal ?_)
      refine WC.ret (WX.then_ret ?_)
      exact WX.ret2 rfl rfl rfl ⟨gr3, Or.inl ⟨vE1, (Er.e 9), rfl, hE1, H⟩⟩
    · replace H := H.2 (b1)
      refine WC.skip (WX.then_normal ?_)
      refine WC.seq ?_
      refine WC.seq ?_
      refine WC.region ?_
      refine WL.y rfl (Yld.pure tab_ok rfl) ?_
      refine WL.y rfl (Yld.pure tab_ok rfl) ?_
      refine WL.y rfl (Yld.pure tab_ok rfl) ?_
      refine WL.nil (WX.then_normal ?_)
      refine WC.block ?_
      obtain ⟨I1, mu1, h0_1, HR1⟩ := H
      refine WC.loopF (fun n' L' w' => ∃ (t31 : Int), ∃ (t200 : List (Int × List (List UInt8) × List (List UInt8) × List UInt8)), ∃ (A_t200 : Option Addr), ∃ (c_t200 : Nat), ∃ (n_t200 : Nat), ∃ (hs_t200 : List (Int × Hdr × Hdr × List UInt8)), ∃ (t201 : List (List UInt8 × Int)), n' = mu1 t31 t200 t201 ∧ L' = [(0, .slice A_l l.length c_l), (4, .pointer (some ⟨g1, 0, none⟩)), (29, .slice A_l l.length c_l), (30, .int .i64 (l.length : Int)), (31, .int .i64 t31)] ∧ I1 t31 t200 t201 ∧ n_t200 = t200.length ∧ w.grownBy w' none ∧ Bl w' g1 79 [.slice A_t200 n_t200 c_t200, .map (some w.heap.size), .slice none 0 0, .slice none 0 0] ∧ OwnK 4 encH43 w' w.heap.size 43 A_t200 c_t200 hs_t200 ∧ RelD de43 w' hs_t200 t200 ∧ MapB vs okS vi w' w.heap.size t201 ∧ Dj (some g1) (blk A_t200) ∧ Dj (some g1) (some w.heap.size) ∧ Dj (blk A_t200) (some w.heap.size) ∧ DnD de43 hs_t200 t200 (some g1) ∧ DnD de43 hs_t200 t200 (blk A_t200) ∧ DnD de43 hs_t200 t200 (some w.heap.size) ∧ NewD de43 hs_t200 t200 w.heap.size) _ _ ⟨(0 : Int), [], none, 0, 0, [], ([] : List (List UInt8 × Int)), rfl, rfl, h0_1, rfl, gr3, k3, (OwnK.nil encH43_ok w3 w.heap.size 43), (RelD.nil (d := de43) (w := w3)), k2, Dj.nr, (Dj.new hB1.lt' (Ge.box hl2)).symm, Dj.nl, DnD.nil, DnD.nil, DnD.nil, (NewD.nil (d := de43))⟩ (by repeat (first | exact Sub.nil | refine Sub.cons rfl ?_)) ?_
      clear h0_1
      rintro _ _ w4 ⟨t31, t200, A_t200, c_t200, n_t200, hs_t200, t201, rfl, rfl, hI1, rfl, gr4, k4, k5, k6, k7, dj1, dj2, dj3, dj4, dj5, dj6, or1⟩
      have H := HR1 t31 t200 t201 hI1
      refine WC.seq ?_
      refine WC.region ?_
      refine WL.y rfl (Yld.pure tab_ok rfl) ?_
      refine WL.nil (WX.then_normal ?_)
      refine WC.seq ?_
      refine WC.cond rfl (fun b2 => ?_) (fun b2 => ?_)
      · replace H := H.1 (of_decide_eq_true b2)
        refine WC.skip (WX.then_normal ?_)
        refine WC.seq ?_
        refine WC.block ?_
        refine WC.seq ?_
        refine WC.region ?_
        refine WL.y rfl (Yld.pure tab_ok rfl) ?_
        obtain ⟨h1, H⟩ := H
        refine WL.y rfl (Yld.iaddrK tab_ok (hl.grown gr4) rfl rfl hr_l.1.symm rfl h1.1 h1.2) ?_
        obtain ⟨⟨f1, ⟨A_el, n1, c_el⟩, ⟨A_el2, n2, c_el2⟩, f2⟩, eh1, ⟨en1, ⟨en2, hR1⟩, ⟨en3, hR2⟩, en4⟩⟩ := RelD.at hr_l (0, hd0, hd0, []) (0, [], [], []) (j := t31.toNat) (Nat.lt_of_lt_of_eq (iltN h1 hr_l.1.symm) hr_l.1)
        have en1 : f1 = (l.getD t31.toNat (0, [], [], [])).1 := en1
        subst en1
        have en2 : n1 = ((l.getD t31.toNat (0, [], [], [])).2.1).length := en2
        subst en2
        have en3 : n2 = ((l.getD t31.toNat (0, [], [], [])).2.2.1).length := en3
        subst en3
        have en4 : f2 = (l.getD t31.toNat (0, [], [], [])).2.2.2 := en4
        subst en4
        refine WL.y rfl (Yld.to (v := .agg ⟨[.int .i64 ((l.getD t31.toNat (0, [], [], [])).1), .slice A_el (((l.getD t31.toNat (0, [], [], [])).2.1).length) c_el, .slice A_el2 (((l.getD t31.toNat (0, [], [], [])).2.2.1).length) c_el2, vs ((l.getD t31.toNat (0, [], [], [])).2.2.2)]⟩) (Yld.iloadK (0, hd0, hd0, []) tab_ok (hl.grown gr4) rfl rfl (iltN h1 hr_l.1.symm)) (by rw [eh1]; rfl)) ?_
        refine WL.alloc rfl zero43 (fun g2 w5 hB3 hg3 hl3 => ?_)
        have gr5 := gr_trans gr4 hg3
        have k8 := k4.g0 hg3
        have k9 := k5.grown hg3
        have k10 := k6.grown hg3
        have k11 := k7.g0 hg3
        refine WL.y rfl (Yld.pure tab_ok rfl) ?_
        refine WL.storeW (vs := [.int .i64 ((l.getD t31.toNat (0, [], [], [])).1), .slice A_el (((l.getD t31.toNat (0, [], [], [])).2.1).length) c_el, .slice A_el2 (((l.getD t31.toNat (0, [], [], [])).2.2.1).length) c_el2, vs ((l.getD t31.toNat (0, [], [], [])).2.2.2)]) tab_ok rfl rfl rfl (all1c rfl (all1c rfl (all1c rfl (all1c rfl all1n)))) hB3 rfl rfl (fun w6 hB4 hg4 => ?_)
        have gr6 := gr_mod gr5 hg4 (Ge.le (Ge.box hl3) (size_le gr4))
        have k12 := k8.go hg4 (Dj.new k4.lt' (Ge.box hl3))
        have k13 := k9.go hg4 (Dj.new k5.lt' (Ge.box hl3))
        have k14 := k10.go hg4 (k6.new (Ge.box hl3))
        have k15 := k11.go hg4 (Dj.new k7.lt' (Ge.box hl3))
        refine WL.nil (WX.then_normal ?_)
        refine WC.seq ?_
        refine WC.seq ?_
        refine WC.region ?_
        refine WL.y rfl (Yld.pure tab_ok rfl) ?_
        refine WL.y rfl (Yld.bagg (vs := [.int .i64 ((l.getD t31.toNat (0, [], [], [])).1), .slice A_el (((l.getD t31.toNat (0, [], [], [])).2.1).length) c_el, .slice A_el2 (((l.getD t31.toNat (0, [], [], [])).2.2.1).length) c_el2, vs ((l.getD t31.toNat (0, [], [], [])).2.2.2)]) tab_ok hB4 rfl rfl rfl rfl) ?_
        refine WL.call rfl rfl (W_pgraph_Graph_fits (hG.grown gr6) hS6 hS10 hS11 hS100 k13.rd rfl k14 k15 (Own.nil vh w6 w.heap.size 38).rd rfl (RelD.nil (d := de38) (w := w6)) (Own.nil vh w6 w.heap.size 38).rd rfl (RelD.nil (d := de38) (w := w6)) k12 (hR1.grown gr6) rfl (hR2.grown gr6) rfl H) ?_
        rintro v_err w7 ⟨hg5, _, err, rfl, herr, H⟩
        have gr7 := gr_trans gr6 hg5
        have k16 := k12.g0 hg5
        have k17 := k13.grown hg5
        have k18 := k14.grown hg5
        have k19 := k15.g0 hg5
        have k20 := hB4.g0 hg5
        refine WL.y rfl (Yld.pure tab_ok rfl) ?_
        refine WL.nil (WX.then_normal ?_)
        refine WC.seq ?_
        refine WC.region ?_
        refine WL.y rfl (Yld.pure tab_ok rfl) ?_
        refine WL.y rfl (Yld.errneq Tryz.underlying29 herr rfl) ?_
        refine WL.nil (WX.then_normal ?_)
        refine WC.cond rfl (fun b3 => ?_) (fun b3 => ?_)
        · replace H := H.1 (nd_true b3)
          refine WC.seq ?_
          refine WC.region ?_
          refine WL.y rfl (Yld.pure tab_ok rfl) ?_
          refine WL.y rfl (Yld.pure tab_ok rfl) ?_
          refine WL.y rfl (Yld.struct (us := [.int .i64 t31, v_err]) (vs := [(0, .int .i64 t31), (1, v_err)]) zero85 places85 rfl (by simp only [fillL, cells1 (ErrR.one herr)]; rfl)) ?_
          refine WL.box (us := [.int .i64 t31, v_err]) rfl rfl rfl (fun g3 w8 hB5 hg6 hl4 => ?_)
          have gr8 := gr_trans gr7 hg6
          have k21 := herr.grown hg6
          obtain ⟨n, he1, H⟩ := H
          have hE2 := ErrR.mkAt hB5 (he1 ▸ k21)
          refine WL.y rfl (Yld.mki Tryz.underlying83 rfl rfl) ?_
          refine WL.y rfl (Yld.pure tab_ok rfl) ?_
          refine WL.y rfl (Yld.pure tab_ok rfl) ?_
          refine WL.nil (WX.then_normal ?_)
          refine WC.ret (WX.then_ret (WX.block_ret (WX.then_ret (WX.then_ret (WX.block_ret (WX.then_ret ?_))))))
          exact WX.ret2 rfl rfl rfl ⟨gr8, Or.inl ⟨(.iface 83 (.pointer (some ⟨g3, 0, none⟩))), (Er.at_ t31 n), rfl, hE2, H⟩⟩
        · replace H := H.2 (nd_false b3)
          refine WC.skip (WX.then_normal ?_)
          refine WC.seq ?_
          refine WC.chainF (fun k => !(Nat.beq k 7)) (LD [3, 5] (fun w' => Bl w' g1 79 [.slice A_t200 t200.length c_t200, .map (some w.heap.size), .slice none 0 0, .slice none 0 0] ∧ Bl w' g2 43 [.int .i64 ((l.getD t31.toNat (0, [], [], [])).1), .slice A_el (((l.getD t31.toNat (0, [], [], [])).2.1).length) c_el, .slice A_el2 (((l.getD t31.toNat (0, [], [], [])).2.2.1).length) c_el2, vs ((l.getD t31.toNat (0, [], [], [])).2.2.2)])) mixed (by kernel_rfl) (fun k w' h _ => ⟨(bl_eqv h k16), (bl_eqv h k20)⟩) ?_
          refine WJ.y rfl rfl (fun w' hw' => Yld.pure tab_ok rfl) ?_
          refine WJ.y rfl rfl (fun w' hw' => Yld.pure tab_ok rfl) ?_
          refine WJ.y rfl rfl (fun w' hw' => Yld.pure tab_ok rfl) ?_
          refine WJ.y rfl rfl (fun w' hw' => Yld.bload tab_ok (hw' rfl).1 rfl rfl rfl) ?_
          refine WJ.y rfl rfl (fun w' hw' => Yld.pure tab_ok rfl) ?_
          refine WJ.y rfl rfl (fun w' hw' => Yld.bload tab_ok (hw' rfl).2 rfl rfl rfl) ?_
          refine WJ.y rfl rfl (fun w' hw' => Yld.pure tab_ok rfl) ?_
          obtain ⟨h2, H⟩ := H
          refine WJ.eff rfl (Ef0.mapPut (keyF_s Tryz.underlying9) Tryz.underlying76 k19 h2.2 rfl rfl h2.1 rfl) (fun w' h => DD.keep (⟨(Bl.go k16 (gr_eqv h.2 (Eqv.refl _)) dj2), (Bl.go k20 (gr_eqv h.2 (Eqv.refl _)) (Dj.new k7.lt' (Ge.box hl3)).symm)⟩)) ?_
          rintro w9 ⟨hB6, hg7⟩
          have gr9 := gr_mod gr7 hg7 (Ge.le (Ge.box (Nat.le_refl _)) (Nat.le_refl _))
          have k22 := k16.go hg7 dj2
          have k23 := k17.go hg7 dj3
          have k24 := k18.go hg7 dj6
          have k25 := k20.go hg7 ((Dj.new k7.lt' (Ge.box hl3)).symm)
          refine WJ.nil (WX.then_normal ?_)
          refine WC.chainF (fun k => !(Nat.beq k 6 || Nat.beq k 7 || Nat.beq k 8 || Nat.beq k 11)) (LD [4, 5] (fun w' => Bl w' g1 79 [.slice A_t200 t200.length c_t200, .map (some w.heap.size), .slice none 0 0, .slice none 0 0] ∧ Bl w' g2 43 [.int .i64 ((l.getD t31.toNat (0, [], [], [])).1), .slice A_el (((l.getD t31.toNat (0, [], [], [])).2.1).length) c_el, .slice A_el2 (((l.getD t31.toNat (0, [], [], [])).2.2.1).length) c_el2, vs ((l.getD t31.toNat (0, [], [], [])).2.2.2)])) mixed (by kernel_rfl) (fun k w' h _ => ⟨(bl_eqv h k22), (bl_eqv h k25)⟩) ?_
          refine WJ.y rfl rfl (fun w' hw' => Yld.pure tab_ok rfl) ?_
          refine WJ.y rfl rfl (fun w' hw' => Yld.pure tab_ok rfl) ?_
          refine WJ.y rfl rfl (fun w' hw' => Yld.pure tab_ok rfl) ?_
          refine WJ.y rfl rfl (fun w' hw' => Yld.pure tab_ok rfl) ?_
          refine WJ.y rfl rfl (fun w' hw' => Yld.bload tab_ok (hw' rfl).1 rfl rfl rfl) ?_
          refine WJ.y rfl rfl (fun w' hw' => Yld.bagg (vs := [.int .i64 ((l.getD t31.toNat (0, [], [], [])).1), .slice A_el (((l.getD t31.toNat (0, [], [], [])).2.1).length) c_el, .slice A_el2 (((l.getD t31.toNat (0, [], [], [])).2.2.1).length) c_el2, vs ((l.getD t31.toNat (0, [], [], [])).2.2.2)]) tab_ok (hw' rfl).2 rfl rfl rfl rfl) ?_
          refine WJ.call rfl (wants_none) rfl rfl (W_graph_copied (hR1.grown gr9) rfl (hR2.grown gr9) rfl H) (fun v w' h w2 e => DD.keep (⟨(Bl.g0 k22 (gr_eqv h.1 e)), (Bl.g0 k25 (gr_eqv h.1 e))⟩)) ?_
          rintro _ w10 ⟨hg8, t59_Tool, t59_Args, A_t59_Args, c_t59_Args, t59_Inputs, A_t59_Inputs, c_t59_Inputs, t59_Output, rfl, ht59_Args, ht59_Inputs, dj7, H⟩
          have hb1 := ht59_Args.ge'
          have k26 := ht59_Args.base (fun g hg => Nat.le_trans (size_le gr9) (hb1 g hg))
          have hb2 := ht59_Inputs.ge'
          have k27 := ht59_Inputs.base (fun g hg => Nat.le_trans (size_le gr9) (hb2 g hg))
          have gr10 := gr_trans gr9 hg8
          have k28 := k22.g0 hg8
          have k29 := k23.grown hg8
          have k30 := k24.grown hg8
          have k31 := hB6.g0 hg8
          have k32 := k25.g0 hg8
          refine WJ.putw rfl (wants_none) rfl (Eff.litK (f := encH43) (xs := ([(t59_Tool, ⟨A_t59_Args, t59_Args.length, c_t59_Args⟩, ⟨A_t59_Inputs, t59_Inputs.length, c_t59_Inputs⟩, t59_Output)] : List (Int × Hdr × Hdr × List UInt8))) encH43_ok ow22 rfl rfl rfl) (fun v w' ⟨_, _, h⟩ => DD.keep (⟨(Bl.g0 k28 (gr_eqv h (Eqv.refl _))), (Bl.g0 k32 (gr_eqv h (Eqv.refl _)))⟩)) ?_
          rintro _ w11 ⟨rfl, hB7, hg9⟩
          obtain ⟨g4, hl5⟩ : ∃ g, g = w10.heap.size := ⟨_, rfl⟩
          rw [← hl5] at hB7
          rw [← hl5]
          have hO1 : OwnK 4 encH43 w11 w.heap.size 43 (some ⟨g4, 0, none⟩) 1 ([(t59_Tool, ⟨A_t59_Args, t59_Args.length, c_t59_Args⟩, ⟨A_t59_Inputs, t59_Inputs.length, c_t59_Inputs⟩, t59_Output)] : List (Int × Hdr × Hdr × List UInt8)) := OwnK.ofBl encH43_ok hB7 (Nat.le_trans (size_le gr10) (Nat.le_of_eq hl5.symm)) (by simp [maxLen]) rfl
          have gr11 := gr_trans gr10 hg9
          have k33 := k28.g0 hg9
          have k34 := k29.grown hg9
          have k35 := k30.grown hg9
          have k36 := k31.g0 hg9
          have k37 := k32.g0 hg9
          have k38 := k26.grown hg9
          have k39 := k27.grown hg9
          have hr1 : RelD de43 w11 ([(t59_Tool, ⟨A_t59_Args, t59_Args.length, c_t59_Args⟩, ⟨A_t59_Inputs, t59_Inputs.length, c_t59_Inputs⟩, t59_Output)] : List (Int × Hdr × Hdr × List UInt8)) ([(t59_Tool, t59_Args, t59_Inputs, t59_Output)] : List (Int × List (List UInt8) × List (List UInt8) × List UInt8)) := (RelD.cons ⟨rfl, ⟨rfl, k38.rd⟩, ⟨rfl, k39.rd⟩, rfl⟩ RelD.nil)
          have nd1 : NewD de43 ([(t59_Tool, ⟨A_t59_Args, t59_Args.length, c_t59_Args⟩, ⟨A_t59_Inputs, t59_Inputs.length, c_t59_Inputs⟩, t59_Output)] : List (Int × Hdr × Hdr × List UInt8)) ([(t59_Tool, t59_Args, t59_Inputs, t59_Output)] : List (Int × List (List UInt8) × List (List UInt8) × List UInt8)) w.heap.size := (NewD.cons (d := de43) (fun p_ hp_ => ⟨trivial, (Dn.of (Dj.new hp_ k38.ge').symm), (Dn.of (Dj.new hp_ k39.ge').symm), trivial⟩) NewD.nil)
          have dj8 : DnD de43 ([(t59_Tool, ⟨A_t59_Args, t59_Args.length, c_t59_Args⟩, ⟨A_t59_Inputs, t59_Inputs.length, c_t59_Inputs⟩, t59_Output)] : List (Int × Hdr × Hdr × List UInt8)) ([(t59_Tool, t59_Args, t59_Inputs, t59_Output)] : List (Int × List (List UInt8) × List (List UInt8) × List UInt8)) (some g1) := (DnD.cons (d := de43) ⟨trivial, (Dn.of (Dj.new k22.lt' hb1).symm), (Dn.of (Dj.new k22.lt' hb2).symm), trivial⟩ DnD.nil)
          have dj9 : DnD de43 ([(t59_Tool, ⟨A_t59_Args, t59_Args.length, c_t59_Args⟩, ⟨A_t59_Inputs, t59_Inputs.length, c_t59_Inputs⟩, t59_Output)] : List (Int × Hdr × Hdr × List UInt8)) ([(t59_Tool, t59_Args, t59_Inputs, t59_Output)] : List (Int × List (List UInt8) × List (List UInt8) × List UInt8)) (blk A_t200) := (DnD.cons (d := de43) ⟨trivial, (Dn.of (Dj.new k23.lt' hb1).symm), (Dn.of (Dj.new k23.lt' hb2).symm), trivial⟩ DnD.nil)
          have dj10 : DnD de43 ([(t59_Tool, ⟨A_t59_Args, t59_Args.length, c_t59_Args⟩, ⟨A_t59_Inputs, t59_Inputs.length, c_t59_Inputs⟩, t59_Output)] : List (Int × Hdr × Hdr × List UInt8)) ([(t59_Tool, t59_Args, t59_Inputs, t59_Output)] : List (Int × List (List UInt8) × List (List UInt8) × List UInt8)) (some w.heap.size) := (DnD.cons (d := de43) ⟨trivial, (Dn.of (Dj.new hB6.lt' hb1).symm), (Dn.of (Dj.new hB6.lt' hb2).symm), trivial⟩ DnD.nil)
          have dj11 : DnD de43 ([(t59_Tool, ⟨A_t59_Args, t59_Args.length, c_t59_Args⟩, ⟨A_t59_Inputs, t59_Inputs.length, c_t59_Inputs⟩, t59_Output)] : List (Int × Hdr × Hdr × List UInt8)) ([(t59_Tool, t59_Args, t59_Inputs, t59_Output)] : List (Int × List (List UInt8) × List (List UInt8) × List UInt8)) (some g2) := (DnD.cons (d := de43) ⟨trivial, (Dn.of (Dj.new k25.lt' hb1).symm), (Dn.of (Dj.new k25.lt' hb2).symm), trivial⟩ DnD.nil)
          have dj12 : DnD de43 ([(t59_Tool, ⟨A_t59_Args, t59_Args.length, c_t59_Args⟩, ⟨A_t59_Inputs, t59_Inputs.length, c_t59_Inputs⟩, t59_Output)] : List (Int × Hdr × Hdr × List UInt8)) ([(t59_Tool, t59_Args, t59_Inputs, t59_Output)] : List (Int × List (List UInt8) × List (List UInt8) × List UInt8)) (blk (some ⟨g4, 0, none⟩)) := (DnD.cons (d := de43) ⟨trivial, (Dn.of (Dj.new k26.lt' (Ge.box (Nat.le_of_eq hl5.symm)))), (Dn.of (Dj.new k27.lt' (Ge.box (Nat.le_of_eq hl5.symm)))), trivial⟩ DnD.nil)
          obtain ⟨h3, H⟩ := H
          have h4 : ((hs_t200 : List (Int × Hdr × Hdr × List UInt8)).length + ([(t59_Tool, ⟨A_t59_Args, t59_Args.length, c_t59_Args⟩, ⟨A_t59_Inputs, t59_Inputs.length, c_t59_Inputs⟩, t59_Output)] : List (Int × Hdr × Hdr × List UInt8)).length) * 72 ≤ 140737488355328 := by rw [k35.1, hr1.1]; exact h3
          refine WJ.putw rfl (wants_none) rfl (Eff.appendK ow22 k34 rfl k6.1.symm hO1.rd rfl rfl h4 (applen h4) (size_le gr11)) (fun v w' ⟨_, _, _, _, h, _⟩ => DD.keep (⟨(Bl.go k33 (gr_eqv h (Eqv.refl _)) dj1), (Bl.go k37 (gr_eqv h (Eqv.refl _)) (Dj.new k5.lt' (Ge.box hl3)).symm)⟩)) ?_
          rintro _ w12 ⟨A_t61, c_t61, rfl, hO2, hg10, hk1⟩
          have el1 : (hs_t200 ++ ([(t59_Tool, ⟨A_t59_Args, t59_Args.length, c_t59_Args⟩, ⟨A_t59_Inputs, t59_Inputs.length, c_t59_Inputs⟩, t59_Output)] : List (Int × Hdr × Hdr × List UInt8))).length = (t200 ++ ([(t59_Tool, t59_Args, t59_Inputs, t59_Output)] : List (Int × List (List UInt8) × List (List UInt8) × List UInt8))).length := by rw [List.length_append, List.length_append, k35.1, hr1.1]
          rw [el1]
          have gr12 := gr_mod gr11 hg10 k34.ge'
          have k40 := k33.go hg10 dj1
          have k41 := k35.go hg10 dj5
          have k42 := k36.go hg10 dj3.symm
          have k43 := k37.go hg10 ((Dj.new k5.lt' (Ge.box hl3)).symm)
          have k44 := hr1.go hg10 dj9
          have hr2 : RelD de43 w12 (hs_t200 ++ ([(t59_Tool, ⟨A_t59_Args, t59_Args.length, c_t59_Args⟩, ⟨A_t59_Inputs, t59_Inputs.length, c_t59_Inputs⟩, t59_Output)] : List (Int × Hdr × Hdr × List UInt8))) (t200 ++ ([(t59_Tool, t59_Args, t59_Inputs, t59_Output)] : List (Int × List (List UInt8) × List (List UInt8) × List UInt8))) := RelD.append k41 k44
          have nd2 : NewD de43 (hs_t200 ++ ([(t59_Tool, ⟨A_t59_Args, t59_Args.length, c_t59_Args⟩, ⟨A_t59_Inputs, t59_Inputs.length, c_t59_Inputs⟩, t59_Output)] : List (Int × Hdr × Hdr × List UInt8))) (t200 ++ ([(t59_Tool, t59_Args, t59_Inputs, t59_Output)] : List (Int × List (List UInt8) × List (List UInt8) × List UInt8))) w.heap.size := NewD.append k35.1 or1 nd1
          have dj13 : DnD de43 (hs_t200 ++ ([(t59_Tool, ⟨A_t59_Args, t59_Args.length, c_t59_Args⟩, ⟨A_t59_Inputs, t59_Inputs.length, c_t59_Inputs⟩, t59_Output)] : List (Int × Hdr × Hdr × List UInt8))) (t200 ++ ([(t59_Tool, t59_Args, t59_Inputs, t59_Output)] : List (Int × List (List UInt8) × List (List UInt8) × List UInt8))) (some g1) := (DnD.append k35.1 dj4 dj8)
          have dj14 : DnD de43 (hs_t200 ++ ([(t59_Tool, ⟨A_t59_Args, t59_Args.length, c_t59_Args⟩, ⟨A_t59_Inputs, t59_Inputs.length, c_t59_Inputs⟩, t59_Output)] : List (Int × Hdr × Hdr × List UInt8))) (t200 ++ ([(t59_Tool, t59_Args, t59_Inputs, t59_Output)] : List (Int × List (List UInt8) × List (List UInt8) × List UInt8))) (some w.heap.size) := (DnD.append k35.1 dj6 dj10)
          have dj15 : DnD de43 (hs_t200 ++ ([(t59_Tool, ⟨A_t59_Args, t59_Args.length, c_t59_Args⟩, ⟨A_t59_Inputs, t59_Inputs.length, c_t59_Inputs⟩, t59_Output)] : List (Int × Hdr × Hdr × List UInt8))) (t200 ++ ([(t59_Tool, t59_Args, t59_Inputs, t59_Output)] : List (Int × List (List UInt8) × List (List UInt8) × List UInt8))) (some g2) := (DnD.append k35.1 (k6.new (Ge.box hl3)) dj11)
          have dj16 : DnD de43 (hs_t200 ++ ([(t59_Tool, ⟨A_t59_Args, t59_Args.length, c_t59_Args⟩, ⟨A_t59_Inputs, t59_Inputs.length, c_t59_Inputs⟩, t59_Output)] : List (Int × Hdr × Hdr × List UInt8))) (t200 ++ ([(t59_Tool, t59_Args, t59_Inputs, t59_Output)] : List (Int × List (List UInt8) × List (List UInt8) × List UInt8))) (blk (some ⟨g4, 0, none⟩)) := (DnD.append k35.1 (k30.new (Ge.box (Nat.le_of_eq hl5.symm))) dj12)
          have dj17 : DnD de43 (hs_t200 ++ ([(t59_Tool, ⟨A_t59_Args, t59_Args.length, c_t59_Args⟩, ⟨A_t59_Inputs, t59_Inputs.length, c_t59_Inputs⟩, t59_Output)] : List (Int × Hdr × Hdr × List UInt8))) (t200 ++ ([(t59_Tool, t59_Args, t59_Inputs, t59_Output)] : List (Int × List (List UInt8) × List (List UInt8) × List UInt8))) (blk A_t61) := (DnD.append k35.1 (RelD.app k35 dj5 hk1) (RelD.app hr1 dj9 hk1))
          refine WJ.y rfl rfl (fun w' hw' => Yld.pure tab_ok rfl) ?_
          refine WJ.y rfl rfl (fun w' hw' => Yld.pure tab_ok rfl) ?_
          refine WJ.eff rfl (Ef0.store1 one22 rfl rfl rfl k40 (by simp)) (fun w' h => DD.past (by kernel_rfl)) ?_
          rintro w13 ⟨hB9, hg11⟩
          have hB8 : Bl w13 g1 79 [.slice A_t61 ((t200 ++ ([(t59_Tool, t59_Args, t59_Inputs, t59_Output)] : List (Int × List (List UInt8) × List (List UInt8) × List UInt8))).length) c_t61, .map (some w.heap.size), .slice none 0 0, .slice none 0 0] := hB9
          have gr13 := gr_mod gr12 hg11 (Ge.le (Ge.box hl2) (size_le gr1))
          have k45 := k42.go hg11 dj2.symm
          have k46 := k43.go hg11 ((Dj.new k4.lt' (Ge.box hl3)).symm)
          have k47 := hO2.go hg11 (Dj.app dj1.symm k33.lt' hk1)
          have k48 := hr2.go hg11 dj13
          refine WJ.nil (WX.block_normal (WX.then_normal ?_))
          refine WC.region ?_
          obtain ⟨h5, H⟩ := H
          refine WL.y rfl (Yld.add rfl rfl h5) ?_
          refine WL.y rfl (Yld.pure tab_ok rfl) ?_
          refine WL.nil ?_
          exact WX.roundF _ ⟨t31 + (1 : Int), t200 ++ ([(t59_Tool, t59_Args, t59_Inputs, t59_Output)] : List (Int × List (List UInt8) × List (List UInt8) × List UInt8)), A_t61, c_t61, (t200 ++ ([(t59_Tool, t59_Args, t59_Inputs, t59_Output)] : List (Int × List (List UInt8) × List (List UInt8) × List UInt8))).length, hs_t200 ++ ([(t59_Tool, ⟨A_t59_Args, t59_Args.length, c_t59_Args⟩, ⟨A_t59_Inputs, t59_Inputs.length, c_t59_Inputs⟩, t59_Output)] : List (Int × Hdr × Hdr × List UInt8)), mput t201 ((l.getD t31.toNat (0, [], [], [])).2.2.2) t31, rfl, rfl, H.1, rfl, gr13, hB8, k47, k48, k45, (Dj.app dj1.symm k33.lt' hk1).symm, dj2, (Dj.app dj3 k36.lt' hk1), dj13, dj17, dj14, nd2⟩ (by repeat (first | exact Sub.nil | refine Sub.cons rfl ?_)) H.2
      · replace H := H.2 (of_decide_eq_false b2)
        refine WC.exit (WX.then_exit (WX.then_exit (WX.block_same (WX.then_normal ?_))))
        refine WC.seq ?_
        refine WC.region ?_
        refine WL.y rfl (Yld.pure tab_ok rfl) ?_
        refine WL.y rfl (Yld.pure tab_ok rfl) ?_
        refine WL.y rfl (Yld.pure tab_ok rfl) ?_
        obtain ⟨h6, H⟩ := H
        refine WL.makeZI (f := hv) (z := (([], hz) : List Int × Hd)) (B := w.heap.size) tab_ok rfl rfl zero38 rfl rfl h6.1 h6.2.1 h6.2.2 (size_le gr4) (fun g5 w14 hO3 hg12 hl6 => ?_)
        have gr14 := gr_trans gr4 hg12
        have k49 := k4.g0 hg12
        have k50 := k5.grown hg12
        have k51 := k6.grown hg12
        have k52 := k7.g0 hg12
        have k53 : DeepO vi w14 w.heap.size 38 3 (some ⟨g5, 0, none⟩) ((l.length : Int).toNat) (List.replicate (l.length : Int).toNat hz) (List.replicate (l.length : Int).toNat ([] : List Int)) none := DeepO.rep hO3
        have dj18 : AllP (Dj (some g1)) (FPd (some ⟨g5, 0, none⟩) (List.replicate (l.length : Int).toNat hz) none) := FPd.rep (Q := Dj (some g1)) (Dj.new k4.lt' (Ge.box hl6)) (Dj.nr)
        have dj19 : AllP (Dj (blk A_t200)) (FPd (some ⟨g5, 0, none⟩) (List.replicate (l.length : Int).toNat hz) none) := FPd.rep (Q := Dj (blk A_t200)) (Dj.new k5.lt' (Ge.box hl6)) (Dj.nr)
        have dj20 : AllP (Dj (some w.heap.size)) (FPd (some ⟨g5, 0, none⟩) (List.replicate (l.length : Int).toNat hz) none) := FPd.rep (Q := Dj (some w.heap.size)) (Dj.new k7.lt' (Ge.box hl6)) (Dj.nr)
        have dj21 : AllP (DnD de43 hs_t200 t200) (FPd (some ⟨g5, 0, none⟩) (List.replicate (l.length : Int).toNat hz) none) := FPd.rep (Q := DnD de43 hs_t200 t200) (k6.new (Ge.box hl6)) (DnD.none k51)
        refine WL.y rfl (Yld.pure tab_ok rfl) ?_
        refine WL.y rfl (Yld.pure tab_ok rfl) ?_
        refine WL.store1 one77 rfl rfl rfl k49 (by simp) (fun w15 hB11 hg13 => ?_)
        have hB10 : Bl w15 g1 79 [.slice A_t200 t200.length c_t200, .map (some w.heap.size), .slice none 0 0, .slice (some ⟨g5, 0, none⟩) ((l.length : Int).toNat) ((l.length : Int).toNat)] := hB11
        have gr15 := gr_mod gr14 hg13 (Ge.le (Ge.box hl2) (size_le gr1))
        have k54 := k50.go hg13 dj1.symm
        have k55 := k51.go hg13 dj4
        have k56 := k52.go hg13 dj2.symm
        have k57 := k53.go hg13 dj18
        refine WL.nil (WX.then_normal ?_)
        refine WC.seq ?_
        refine WC.seq ?_
        refine WC.region ?_
        refine WL.y rfl (Yld.pure tab_ok rfl) ?_
        refine WL.y rfl (Yld.pure tab_ok rfl) ?_
        refine WL.y rfl (Yld.pure tab_ok rfl) ?_
        refine WL.y rfl (Yld.bload tab_ok hB10 rfl rfl rfl) ?_
        refine WL.y rfl (Yld.pure tab_ok rfl) ?_
        refine WL.y rfl (Yld.pure tab_ok rfl) ?_
        refine WL.nil (WX.then_normal ?_)
        refine WC.block ?_
        obtain ⟨I2, mu2, h0_2, HR2⟩ := H
        refine WC.loopF (fun n' L' w' => ∃ (t76 : Int), ∃ (t202 : List (List Int)), ∃ (A_t202 : Option Addr), ∃ (c_t202 : Nat), ∃ (n_t202 : Nat), ∃ (hs_t202 : List Hdr), ∃ (t203 : List (List Int)), ∃ (hs_t203 : List Hd), ∃ (n_t203 : Nat), n' = mu2 t76 t202 t203 ∧ L' = [(4, .pointer (some ⟨g1, 0, none⟩)), (74, .slice A_t200 t200.length c_t200), (75, .int .i64 (t200.length : Int)), (76, .int .i64 t76)] ∧ I2 t76 t202 t203 ∧ n_t202 = t202.length ∧ n_t203 = t203.length ∧ w.grownBy w' none ∧ Bl w' g1 79 [.slice A_t200 t200.length c_t200, .map (some w.heap.size), .slice A_t202 n_t202 c_t202, .slice (some ⟨g5, 0, none⟩) n_t203 ((l.length : Int).toNat)] ∧ OwnK 4 encH43 w' w.heap.size 43 A_t200 c_t200 hs_t200 ∧ RelD de43 w' hs_t200 t200 ∧ MapB vs okS vi w' w.heap.size t201 ∧ Own vh w' w.heap.size 38 A_t202 c_t202 hs_t202 ∧ RelD de38 w' hs_t202 t202 ∧ DeepO vi w' w.heap.size 38 3 (some ⟨g5, 0, none⟩) ((l.length : Int).toNat) hs_t203 t203 none ∧ Dj (some g1) (blk A_t200) ∧ Dj (some g1) (some w.heap.size) ∧ Dj (some g1) (blk A_t202) ∧ AllP (Dj (some g1)) (FPd (some ⟨g5, 0, none⟩) hs_t203 none) ∧ Dj (blk A_t200) (some w.heap.size) ∧ Dj (blk A_t200) (blk A_t202) ∧ AllP (Dj (blk A_t200)) (FPd (some ⟨g5, 0, none⟩) hs_t203 none) ∧ DnD de43 hs_t200 t200 (some g1) ∧ DnD de43 hs_t200 t200 (blk A_t200) ∧ DnD de43 hs_t200 t200 (some w.heap.size) ∧ DnD de43 hs_t200 t200 (blk A_t202) ∧ AllP (DnD de43 hs_t200 t200) (FPd (some ⟨g5, 0, none⟩) hs_t203 none) ∧ Dj (some w.heap.size) (blk A_t202) ∧ AllP (Dj (some w.heap.size)) (FPd (some ⟨g5, 0, none⟩) hs_t203 none) ∧ AllP (Dj (blk A_t202)) (FPd (some ⟨g5, 0, none⟩) hs_t203 none) ∧ DnD de38 hs_t202 t202 (some g1) ∧ DnD de38 hs_t202 t202 (blk A_t200) ∧ DnD de38 hs_t202 t202 (some w.heap.size) ∧ DnD de38 hs_t202 t202 (blk A_t202) ∧ AllP (DnD de38 hs_t202 t202) (FPd (some ⟨g5, 0, none⟩) hs_t203 none) ∧ NewD de43 hs_t200 t200 w.heap.size ∧ NewD de38 hs_t202 t202 w.heap.size ∧ AllP (fun p => Ge p w.heap.size) (FPd (some ⟨g5, 0, none⟩) hs_t203 none)) _ _ ⟨(0 : Int), [], none, 0, 0, [], (List.replicate (l.length : Int).toNat ([] : List Int)), (List.replicate (l.length : Int).toNat hz), (l.length : Int).toNat, rfl, rfl, h0_2, rfl, (List.length_replicate).symm, gr15, hB10, k54, k55, k56, (Own.nil vh w15 w.heap.size 38), (RelD.nil (d := de38) (w := w15)), k57, dj1, dj2, Dj.nr, dj18, dj3, Dj.nr, dj19, dj4, dj5, dj6, (DnD.none k55), dj21, Dj.nr, dj20, apNl, DnD.nil, DnD.nil, DnD.nil, DnD.nil, (fun _ _ => DnD.nil), or1, (NewD.nil (d := de38)), (k57.ge')⟩ (by repeat (first | exact Sub.nil | refine Sub.cons rfl ?_)) ?_
        clear h0_2
        rintro _ _ w16 ⟨t76, t202, A_t202, c_t202, n_t202, hs_t202, t203, hs_t203, n_t203, rfl, rfl, hI2, rfl, rfl, gr16, k58, k59, k60, k61, k62, k63, k64, dj22, dj23, dj24, dj25, dj26, dj27, dj28, dj29, dj30, dj31, dj32, dj33, dj34, dj35, dj36, dj37, dj38, dj39, dj40, dj41, or2, or3, hi1⟩
        have H := HR2 t76 t202 t203 hI2
        refine WC.seq ?_
        refine WC.region ?_
        refine WL.y rfl (Yld.pure tab_ok rfl) ?_
        refine WL.nil (WX.then_normal ?_)
        refine WC.seq ?_
        refine WC.cond rfl (fun b4 => ?_) (fun b4 => ?_)
        · replace H := H.1 (of_decide_eq_true b4)
          refine WC.skip (WX.then_normal ?_)
          refine WC.seq ?_
          refine WC.block ?_
          refine WC.seq ?_
          refine WC.region ?_
          refine WL.y rfl (Yld.pure tab_ok rfl) ?_
          obtain ⟨h7, H⟩ := H
          refine WL.y rfl (Yld.iaddrK tab_ok k59.rd rfl rfl k6.1.symm rfl h7.1 h7.2) ?_
          obtain ⟨⟨f3, ⟨A_el3, n3, c_el3⟩, ⟨A_el4, n4, c_el4⟩, f4⟩, eh2, ⟨en5, ⟨en6, hR3⟩, ⟨en7, hR4⟩, en8⟩⟩ := RelD.at k60 (0, hd0, hd0, []) (0, [], [], []) (j := t76.toNat) (Nat.lt_of_lt_of_eq (iltN h7 k6.1.symm) k60.1)
          have en5 : f3 = (t200.getD t76.toNat (0, [], [], [])).1 := en5
          subst en5
          have en6 : n3 = ((t200.getD t76.toNat (0, [], [], [])).2.1).length := en6
          subst en6
          have en7 : n4 = ((t200.getD t76.toNat (0, [], [], [])).2.2.1).length := en7
          subst en7
          have en8 : f4 = (t200.getD t76.toNat (0, [], [], [])).2.2.2 := en8
          subst en8
          refine WL.y rfl (Yld.to (v := .agg ⟨[.int .i64 ((t200.getD t76.toNat (0, [], [], [])).1), .slice A_el3 (((t200.getD t76.toNat (0, [], [], [])).2.1).length) c_el3, .slice A_el4 (((t200.getD t76.toNat (0, [], [], [])).2.2.1).length) c_el4, vs ((t200.getD t76.toNat (0, [], [], [])).2.2.2)]⟩) (Yld.iloadK (0, hd0, hd0, []) tab_ok k59.rd rfl rfl (iltN h7 k6.1.symm)) (by rw [eh2]; rfl)) ?_
          refine WL.alloc rfl zero43 (fun g6 w17 hB12 hg14 hl7 => ?_)
          have gr17 := gr_trans gr16 hg14
          have k65 := k58.g0 hg14
          have k66 := k59.grown hg14
          have k67 := k60.grown hg14
          have k68 := k61.g0 hg14
          have k69 := k62.grown hg14
          have k70 := k63.grown hg14
          have k71 := k64.g0 hg14
          have k72 := hR3.grown hg14
          have k73 := hR4.grown hg14
          refine WL.y rfl (Yld.pure tab_ok rfl) ?_
          refine WL.storeW (vs := [.int .i64 ((t200.getD t76.toNat (0, [], [], [])).1), .slice A_el3 (((t200.getD t76.toNat (0, [], [], [])).2.1).length) c_el3, .slice A_el4 (((t200.getD t76.toNat (0, [], [], [])).2.2.1).length) c_el4, vs ((t200.getD t76.toNat (0, [], [], [])).2.2.2)]) tab_ok rfl rfl rfl (all1c rfl (all1c rfl (all1c rfl (all1c rfl all1n)))) hB12 rfl rfl (fun w18 hB13 hg15 => ?_)
          have gr18 := gr_mod gr17 hg15 (Ge.le (Ge.box hl7) (size_le gr16))
          have k74 := k65.go hg15 (Dj.new k58.lt' (Ge.box hl7))
          have k75 := k66.go hg15 (Dj.new k59.lt' (Ge.box hl7))
          have k76 := k67.go hg15 (k60.new (Ge.box hl7))
          have k77 := k68.go hg15 (Dj.new k61.lt' (Ge.box hl7))
          have k78 := k69.go hg15 (Dj.new k62.lt' (Ge.box hl7))
          have k79 := k70.go hg15 (k63.new (Ge.box hl7))
          have k80 := k71.go hg15 (k64.new (Ge.box hl7))
          have k81 := k72.go hg15 (Dn.new (fun hx => hR3.lt' hx) (Ge.box hl7))
          have k82 := k73.go hg15 (Dn.new (fun hx => hR4.lt' hx) (Ge.box hl7))
          refine WL.nil (WX.then_normal ?_)
          refine WC.seq ?_
          refine WC.region ?_
          refine WL.y rfl (Yld.pure tab_ok rfl) ?_
          refine WL.nil (WX.then_normal ?_)
          refine WC.seq ?_
          refine WC.seq ?_
          refine WC.region ?_
          refine WL.y rfl (Yld.pure tab_ok rfl) ?_
          refine WL.y rfl (Yld.bload tab_ok hB13 rfl rfl rfl) ?_
          refine WL.y rfl (Yld.pure tab_ok rfl) ?_
          refine WL.y rfl (Yld.pure tab_ok rfl) ?_
          refine WL.nil (WX.then_normal ?_)
          refine WC.block ?_
          obtain ⟨I3, mu3, h0_3, HR3⟩ := H
          refine WC.loopF (fun n' L' w' => ∃ (before : List Int), ∃ (A_before : Option Addr), ∃ (c_before : Nat), ∃ (n_before : Nat), ∃ (t84 : Int), n' = mu3 before t84 ∧ L' = [(4, .pointer (some ⟨g1, 0, none⟩)), (8, .int .i64 t76), (10, .slice A_before n_before c_before), (74, .slice A_t200 t200.length c_t200), (75, .int .i64 (t200.length : Int)), (76, .int .i64 t76), (82, .slice A_el4 (((t200.getD t76.toNat (0, [], [], [])).2.2.1).length) c_el4), (83, .int .i64 (((t200.getD t76.toNat (0, [], [], [])).2.2.1).length : Int)), (84, .int .i64 t84)] ∧ I3 before t84 ∧ n_before = before.length ∧ w.grownBy w' none ∧ Bl w' g1 79 [.slice A_t200 t200.length c_t200, .map (some w.heap.size), .slice A_t202 t202.length c_t202, .slice (some ⟨g5, 0, none⟩) t203.length ((l.length : Int).toNat)] ∧ OwnK 4 encH43 w' w.heap.size 43 A_t200 c_t200 hs_t200 ∧ RelD de43 w' hs_t200 t200 ∧ MapB vs okS vi w' w.heap.size t201 ∧ Own vh w' w.heap.size 38 A_t202 c_t202 hs_t202 ∧ RelD de38 w' hs_t202 t202 ∧ DeepO vi w' w.heap.size 38 3 (some ⟨g5, 0, none⟩) ((l.length : Int).toNat) hs_t203 t203 none ∧ Rd vs w' A_el4 c_el4 ((t200.getD t76.toNat (0, [], [], [])).2.2.1) ∧ Own vi w' w.heap.size 3 A_before c_before before ∧ Dj (some g1) (blk A_t200) ∧ Dj (some g1) (some w.heap.size) ∧ Dj (some g1) (blk A_t202) ∧ AllP (Dj (some g1)) (FPd (some ⟨g5, 0, none⟩) hs_t203 none) ∧ Dj (some g1) (blk A_before) ∧ Dj (blk A_t200) (some w.heap.size) ∧ Dj (blk A_t200) (blk A_t202) ∧ AllP (Dj (blk A_t200)) (FPd (some ⟨g5, 0, none⟩) hs_t203 none) ∧ Dj (blk A_t200) (blk A_before) ∧ DnD de43 hs_t200 t200 (some g1) ∧ DnD de43 hs_t200 t200 (blk A_t200) ∧ DnD de43 hs_t200 t200 (some w.heap.size) ∧ DnD de43 hs_t200 t200 (blk A_t202) ∧ AllP (DnD de43 hs_t200 t200) (FPd (some ⟨g5, 0, none⟩) hs_t203 none) ∧ DnD de43 hs_t200 t200 (blk A_before) ∧ Dj (some w.heap.size) (blk A_t202) ∧ AllP (Dj (some w.heap.size)) (FPd (some ⟨g5, 0, none⟩) hs_t203 none) ∧ Dj (some w.heap.size) (blk A_before) ∧ AllP (Dj (blk A_t202)) (FPd (some ⟨g5, 0, none⟩) hs_t203 none) ∧ Dj (blk A_t202) (blk A_before) ∧ DnD de38 hs_t202 t202 (some g1) ∧ DnD de38 hs_t202 t202 (blk A_t200) ∧ DnD de38 hs_t202 t202 (some w.heap.size) ∧ DnD de38 hs_t202 t202 (blk A_t202) ∧ AllP (DnD de38 hs_t202 t202) (FPd (some ⟨g5, 0, none⟩) hs_t203 none) ∧ DnD de38 hs_t202 t202 (blk A_before) ∧ AllP (Dj (blk A_before)) (FPd (some ⟨g5, 0, none⟩) hs_t203 none) ∧ Dn ((t200.getD t76.toNat (0, [], [], [])).2.2.1) (blk A_el4) (some g1) ∧ Dn ((t200.getD t76.toNat (0, [], [], [])).2.2.1) (blk A_el4) (blk A_t200) ∧ Dn ((t200.getD t76.toNat (0, [], [], [])).2.2.1) (blk A_el4) (some w.heap.size) ∧ Dn ((t200.getD t76.toNat (0, [], [], [])).2.2.1) (blk A_el4) (blk A_t202) ∧ AllP (Dn ((t200.getD t76.toNat (0, [], [], [])).2.2.1) (blk A_el4)) (FPd (some ⟨g5, 0, none⟩) hs_t203 none) ∧ Dn ((t200.getD t76.toNat (0, [], [], [])).2.2.1) (blk A_el4) (blk A_before) ∧ NewD de43 hs_t200 t200 w.heap.size ∧ NewD de38 hs_t202 t202 w.heap.size ∧ AllP (fun p => Ge p w.heap.size) (FPd (some ⟨g5, 0, none⟩) hs_t203 none)) _ _ ⟨[], none, 0, 0, (0 : Int), rfl, rfl, h0_3, rfl, gr18, k74, k75, k76, k77, k78, k79, k80, k82, (Own.nil vi w18 w.heap.size 3), dj22, dj23, dj24, dj25, Dj.nr, dj26, dj27, dj28, Dj.nr, dj29, dj30, dj31, dj32, dj33, (DnD.none k76), dj34, dj35, Dj.nr, dj36, Dj.nr, dj37, dj38, dj39, dj40, dj41, (DnD.none k79), apNl, (DnD.at dj29 k60.1 (Nat.lt_of_lt_of_eq (iltN h7 k6.1.symm) k60.1) eh2).2.2.1, (DnD.at dj30 k60.1 (Nat.lt_of_lt_of_eq (iltN h7 k6.1.symm) k60.1) eh2).2.2.1, (DnD.at dj31 k60.1 (Nat.lt_of_lt_of_eq (iltN h7 k6.1.symm) k60.1) eh2).2.2.1, (DnD.at dj32 k60.1 (Nat.lt_of_lt_of_eq (iltN h7 k6.1.symm) k60.1) eh2).2.2.1, (fun p_ hp_ => (DnD.at (dj33 p_ hp_) k60.1 (Nat.lt_of_lt_of_eq (iltN h7 k6.1.symm) k60.1) eh2).2.2.1), Dn.nr, or2, or3, (k80.ge')⟩ (by repeat (first | exact Sub.nil | refine Sub.cons rfl ?_)) ?_
          clear h0_3
          rintro _ _ w19 ⟨before, A_before, c_before, n_before, t84, rfl, rfl, hI3, rfl, gr19, k83, k84, k85, k86, k87, k88, k89, k90, k91, dj42, dj43, dj44, dj45, dj46, dj47, dj48, dj49, dj50, dj51, dj52, dj53, dj54, dj55, dj56, dj57, dj58, dj59, dj60, dj61, dj62, dj63, dj64, dj65, dj66, dj67, dj68, dj69, dj70, dj71, dj72, dj73, dj74, or4, or5, hi2⟩
          have H := HR3 before t84 hI3
          refine WC.seq ?_
          refine WC.region ?_
          refine WL.y rfl (Yld.pure tab_ok rfl) ?_
          refine WL.nil (WX.then_normal ?_)
          refine WC.seq ?_
          refine WC.cond rfl (fun b5 => ?_) (fun b5 => ?_)
          · replace H := H.1 (of_decide_eq_true b5)
            refine WC.skip (WX.then_normal ?_)
            refine WC.seq ?_
            obtain ⟨J2, H, hJ2⟩ := H
            refine WC.midF (fun L' w' => ∃ (before2 : List Int), ∃ (A_before2 : Option Addr), ∃ (c_before2 : Nat), ∃ (n_before2 : Nat), L' = [(4, .pointer (some ⟨g1, 0, none⟩)), (8, .int .i64 t76), (10, .slice A_before2 n_before2 c_before2), (74, .slice A_t200 t200.length c_t200), (75, .int .i64 (t200.length : Int)), (76, .int .i64 t76), (82, .slice A_el4 (((t200.getD t76.toNat (0, [], [], [])).2.2.1).length) c_el4), (83, .int .i64 (((t200.getD t76.toNat (0, [], [], [])).2.2.1).length : Int)), (84, .int .i64 t84)] ∧ J2 before2 ∧ n_before2 = before2.length ∧ w.grownBy w' none ∧ Bl w' g1 79 [.slice A_t200 t200.length c_t200, .map (some w.heap.size), .slice A_t202 t202.length c_t202, .slice (some ⟨g5, 0, none⟩) t203.length ((l.length : Int).toNat)] ∧ OwnK 4 encH43 w' w.heap.size 43 A_t200 c_t200 hs_t200 ∧ RelD de43 w' hs_t200 t200 ∧ MapB vs okS vi w' w.heap.size t201 ∧ Own vh w' w.heap.size 38 A_t202 c_t202 hs_t202 ∧ RelD de38 w' hs_t202 t202 ∧ DeepO vi w' w.heap.size 38 3 (some ⟨g5, 0, none⟩) ((l.length : Int).toNat) hs_t203 t203 none ∧ Rd vs w' A_el4 c_el4 ((t200.getD t76.toNat (0, [], [], [])).2.2.1) ∧ Own vi w' w.heap.size 3 A_before2 c_before2 before2 ∧ Dj (some g1) (blk A_t200) ∧ Dj (some g1) (some w.heap.size) ∧ Dj (some g1) (blk A_t202) ∧ AllP (Dj (some g1)) (FPd (some ⟨g5, 0, none⟩) hs_t203 none) ∧ Dj (some g1) (blk A_before2) ∧ Dj (blk A_t200) (some w.heap.size) ∧ Dj (blk A_t200) (blk A_t202) ∧ AllP (Dj (blk A_t200)) (FPd (some ⟨g5, 0, none⟩) hs_t203 none) ∧ Dj (blk A_t200) (blk A_before2) ∧ DnD de43 hs_t200 t200 (some g1) ∧ DnD de43 hs_t200 t200 (blk A_t200) ∧ DnD de43 hs_t200 t200 (some w.heap.size) ∧ DnD de43 hs_t200 t200 (blk A_t202) ∧ AllP (DnD de43 hs_t200 t200) (FPd (some ⟨g5, 0, none⟩) hs_t203 none) ∧ DnD de43 hs_t200 t200 (blk A_before2) ∧ Dj (some w.heap.size) (blk A_t202) ∧ AllP (Dj (some w.heap.size)) (FPd (some ⟨g5, 0, none⟩) hs_t203 none) ∧ Dj (some w.heap.size) (blk A_before2) ∧ AllP (Dj (blk A_t202)) (FPd (some ⟨g5, 0, none⟩) hs_t203 none) ∧ Dj (blk A_t202) (blk A_before2) ∧ DnD de38 hs_t202 t202 (some g1) ∧ DnD de38 hs_t202 t202 (blk A_t200) ∧ DnD de38 hs_t202 t202 (some w.heap.size) ∧ DnD de38 hs_t202 t202 (blk A_t202) ∧ AllP (DnD de38 hs_t202 t202) (FPd (some ⟨g5, 0, none⟩) hs_t203 none) ∧ DnD de38 hs_t202 t202 (blk A_before2) ∧ AllP (Dj (blk A_before2)) (FPd (some ⟨g5, 0, none⟩) hs_t203 none) ∧ Dn ((t200.getD t76.toNat (0, [], [], [])).2.2.1) (blk A_el4) (some g1) ∧ Dn ((t200.getD t76.toNat (0, [], [], [])).2.2.1) (blk A_el4) (blk A_t200) ∧ Dn ((t200.getD t76.toNat (0, [], [], [])).2.2.1) (blk A_el4) (some w.heap.size) ∧ Dn ((t200.getD t76.toNat (0, [], [], [])).2.2.1) (blk A_el4) (blk A_t202) ∧ AllP (Dn ((t200.getD t76.toNat (0, [], [], [])).2.2.1) (blk A_el4)) (FPd (some ⟨g5, 0, none⟩) hs_t203 none) ∧ Dn ((t200.getD t76.toNat (0, [], [], [])).2.2.1) (blk A_el4) (blk A_before2) ∧ NewD de43 hs_t200 t200 w.heap.size ∧ NewD de38 hs_t202 t202 w.heap.size ∧ AllP (fun p => Ge p w.heap.size) (FPd (some ⟨g5, 0, none⟩) hs_t203 none)) ?_ (fun hQ => ?_)
            · clear H
              rintro _ w20 ⟨before2, A_before2, c_before2, n_before2, rfl, H, rfl, gr20, k92, k93, k94, k95, k96, k97, k98, k99, k100, dj75, dj76, dj77, dj78, dj79, dj80, dj81, dj82, dj83, dj84, dj85, dj86, dj87, dj88, dj89, dj90, dj91, dj92, dj93, dj94, dj95, dj96, dj97, dj98, dj99, dj100, dj101, dj102, dj103, dj104, dj105, dj106, dj107, or6, or7, hi3⟩
              replace H := hJ2 before2 H
              refine WX.then_normal ?_
              refine WC.region ?_
              obtain ⟨h8, H⟩ := H
              refine WL.y rfl (Yld.add rfl rfl h8) ?_
              refine WL.y rfl (Yld.pure tab_ok rfl) ?_
              refine WL.nil ?_
              exact WX.roundF _ ⟨before2, A_before2, c_before2, before2.length, t84 + (1 : Int), rfl, rfl, H.1, rfl, gr20, k92, k93, k94, k95, k96, k97, k98, k99, k100, dj75, dj76, dj77, dj78, dj79, dj80, dj81, dj82, dj83, dj84, dj85, dj86, dj87, dj88, dj89, dj90, dj91, dj92, dj93, dj94, dj95, dj96, dj97, dj98, dj99, dj100, dj101, dj102, dj103, dj104, dj105, dj106, dj107, or6, or7, (k98.ge')⟩ (by repeat (first | exact Sub.nil | refine Sub.cons rfl ?_)) H.2
            · clear hJ2
              refine WC.block ?_
              refine WC.seq ?_
              refine WC.region ?_
              obtain ⟨h9, H⟩ := H
              refine WL.y rfl (Yld.iaddrW tab_ok k90 rfl rfl rfl rfl h9.1 h9.2) ?_
              refine WL.y rfl (Yld.iload [] tab_ok k90 rfl rfl (iltN h9 rfl)) ?_
              refine WL.y rfl (Yld.pure tab_ok rfl) ?_
              refine WL.nil (WX.then_normal ?_)
              refine WC.seq ?_
              refine WC.region ?_
              refine WL.y rfl (Yld.pure tab_ok rfl) ?_
              refine WL.y rfl (Yld.pure tab_ok rfl) ?_
              refine WL.y rfl (Yld.pure tab_ok rfl) ?_
              refine WL.y rfl (Yld.bload tab_ok k83 rfl rfl rfl) ?_
              refine WL.y rfl (Yld.pure tab_ok rfl) ?_
              obtain ⟨h10, H⟩ := H
              refine WL.y rfl (Yld.lookOk (z := 0) (keyF_s Tryz.underlying9) Tryz.underlying76 (fun _ => by kernel_rfl) k86 rfl rfl h10) ?_
              refine WL.y rfl (Yld.pure tab_ok rfl) ?_
              refine WL.y rfl (Yld.pure tab_ok rfl) ?_
              refine WL.y rfl (Yld.pure tab_ok rfl) ?_
              refine WL.y rfl (Yld.pure tab_ok rfl) ?_
              refine WL.y rfl (Yld.pure tab_ok rfl) ?_
              refine WL.nil (WX.then_normal ?_)
              refine WC.seq ?_
              refine WC.region ?_
              refine WL.y rfl (Yld.pure tab_ok rfl) ?_
              refine WL.nil (WX.then_normal ?_)
              refine WC.cond rfl (fun b6 => ?_) (fun b6 => ?_)
              · replace H := H.1 (b6)
                refine WC.region ?_
                refine WL.y rfl (Yld.pure tab_ok rfl) ?_
                refine WL.y rfl (Yld.pure tab_ok rfl) ?_
                refine WL.lit tab_ok rfl rfl rfl (all1c rfl all1n) rfl (by omega) (fun g7 w21 hB14 hg16 hl8 => ?_)
                have hO4 : Own vi w21 w.heap.size 3 (some ⟨g7, 0, none⟩) 1 ([(mget t201 (((t200.getD t76.toNat (0, [], [], [])).2.2.1).getD t84.toNat [])).getD 0] : List Int) := Own.ofBl hB14 (Nat.le_trans (size_le gr19) hl8) (by simp [maxLen]) rfl
                have gr21 := gr_trans gr19 hg16
                have k101 := k83.g0 hg16
                have k102 := k84.grown hg16
                have k103 := k85.grown hg16
                have k104 := k86.g0 hg16
                have k105 := k87.grown hg16
                have k106 := k88.grown hg16
                have k107 := k89.g0 hg16
                have k108 := k90.grown hg16
                have k109 := k91.grown hg16
                obtain ⟨h11, H⟩ := H
                refine WL.append tab_ok rfl rfl One.i k109 rfl rfl hO4.rd rfl rfl h11 (applen h11) (size_le gr21) (fun A_before3 c_before3 w22 hO5 hg17 hk2 => ?_)
                have gr22 := gr_mod gr21 hg17 k109.ge'
                have k110 := k101.go hg17 dj46
                have k111 := k102.go hg17 dj50
                have k112 := k103.go hg17 dj56
                have k113 := k104.go hg17 dj59
                have k114 := k105.go hg17 dj61
                have k115 := k106.go hg17 dj67
                have k116 := k107.go hg17 dj68
                have k117 := k108.go hg17 dj74
                refine WL.y rfl (Yld.pure tab_ok rfl) ?_
                refine WL.nil (WX.block_normal ?_)
                exact WX.weaken (by repeat (first | exact Sub.nil | refine Sub.cons rfl ?_)) (hQ _ _ ⟨before ++ ([(mget t201 (((t200.getD t76.toNat (0, [], [], [])).2.2.1).getD t84.toNat [])).getD 0] : List Int), A_before3, c_before3, (before ++ ([(mget t201 (((t200.getD t76.toNat (0, [], [], [])).2.2.1).getD t84.toNat [])).getD 0] : List Int)).length, rfl, H, rfl, gr22, k110, k111, k112, k113, k114, k115, k116, k117, hO5, dj42, dj43, dj44, dj45, (Dj.app dj46.symm k101.lt' hk2).symm, dj47, dj48, dj49, (Dj.app dj50.symm k102.lt' hk2).symm, dj51, dj52, dj53, dj54, dj55, (RelD.app k103 dj56 hk2), dj57, dj58, (Dj.app dj59.symm k104.lt' hk2).symm, dj60, (Dj.app dj61.symm k105.lt' hk2).symm, dj62, dj63, dj64, dj65, dj66, (RelD.app k106 dj67 hk2), (DeepO.app k107 dj68 hk2), dj69, dj70, dj71, dj72, dj73, (Dn.app dj74 (fun hx => k108.lt' hx) hk2), or4, or5, (k116.ge')⟩)
              · replace H := H.2 (b6)
                refine WC.skip (WX.block_normal ?_)
                exact WX.weaken (by repeat (first | exact Sub.nil | refine Sub.cons rfl ?_)) (hQ _ _ ⟨before, A_before, c_before, before.length, rfl, H, rfl, gr19, k83, k84, k85, k86, k87, k88, k89, k90, k91, dj42, dj43, dj44, dj45, dj46, dj47, dj48, dj49, dj50, dj51, dj52, dj53, dj54, dj55, dj56, dj57, dj58, dj59, dj60, dj61, dj62, dj63, dj64, dj65, dj66, dj67, dj68, dj69, dj70, dj71, dj72, dj73, dj74, or4, or5, (k89.ge')⟩)
          · replace H := H.2 (of_decide_eq_false b5)
            refine WC.exit (WX.then_exit (WX.then_exit (WX.block_same (WX.then_normal ?_))))
            refine WC.seq ?_
            refine WC.region ?_
            refine WL.y rfl (Yld.pure tab_ok rfl) ?_
            refine WL.call rfl rfl (W_slices_Sort_int_int k91 rfl H) ?_
            rintro _ w23 ⟨ys, rfl, hO6, hg18, hl9, H⟩
            have gr23 := gr_mod gr19 hg18 k91.ge'
            have k118 := k83.go hg18 dj46
            have k119 := k84.go hg18 dj50
            have k120 := k85.go hg18 dj56
            have k121 := k86.go hg18 dj59
            have k122 := k87.go hg18 dj61
            have k123 := k88.go hg18 dj67
            have k124 := k89.go hg18 dj68
            refine WL.nil (WX.then_normal ?_)
            refine WC.seq ?_
            refine WC.region ?_
            refine WL.y rfl (Yld.pure tab_ok rfl) ?_
            refine WL.call rfl rfl (W_slices_Compact_int_int hO6 ((rfl : before.length = before.length).trans hl9.symm) H) ?_
            rintro _ w24 ⟨before3, rfl, hO7, hg19, H⟩
            have gr24 := gr_mod gr23 hg19 hO6.ge'
            have k125 := k118.go hg19 dj46
            have k126 := k119.go hg19 dj50
            have k127 := k120.go hg19 dj56
            have k128 := k121.go hg19 dj59
            have k129 := k122.go hg19 dj61
            have k130 := k123.go hg19 dj67
            have k131 := k124.go hg19 dj68
            refine WL.y rfl (Yld.pure tab_ok rfl) ?_
            refine WL.nil (WX.then_normal ?_)
            refine WC.seq ?_
            refine WC.region ?_
            refine WL.y rfl (Yld.pure tab_ok rfl) ?_
            refine WL.y rfl (Yld.pure tab_ok rfl) ?_
            refine WL.y rfl (Yld.pure tab_ok rfl) ?_
            refine WL.y rfl (Yld.pure tab_ok rfl) ?_
            refine WL.y rfl (Yld.bload tab_ok k125 rfl rfl rfl) ?_
            refine WL.y rfl (Yld.pure tab_ok rfl) ?_
            refine WL.lit (us := [.slice A_before before3.length c_before]) tab_ok rfl rfl rfl (all1c rfl all1n) rfl (by omega) (fun g9 w26 hB16 hg21 hl12 => ?_)
            have hO9 : Own vh w26 w.heap.size 38 (some ⟨g9, 0, none⟩) 1 ([⟨A_before, before3.length, c_before⟩] : List Hdr) := Own.ofBl hB16 (Nat.le_trans (size_le gr24) hl12) (by simp [maxLen]) rfl
            have gr25 := gr_trans gr24 hg21
            have k132 := k125.g0 hg21
            have k133 := k126.grown hg21
            have k134 := k127.grown hg21
            have k135 := k128.g0 hg21
            have k136 := k129.grown hg21
            have k137 := k130.grown hg21
            have k138 := k131.g0 hg21
            have k139 := hO7.grown hg21
            have hr3 : RelD de38 w26 ([⟨A_before, before3.length, c_before⟩] : List Hdr) ([before3] : List (List Int)) := (RelD.cons ⟨rfl, k139.rd⟩ RelD.nil)
            have nd3 : NewD de38 ([⟨A_before, before3.length, c_before⟩] : List Hdr) ([before3] : List (List Int)) w.heap.size := (NewD.cons (d := de38) (fun p_ hp_ => (Dn.of (Dj.new hp_ k139.ge').symm)) NewD.nil)
            have dj108 : DnD de38 ([⟨A_before, before3.length, c_before⟩] : List Hdr) ([before3] : List (List Int)) (some g1) := (DnD.cons (d := de38) (Dn.of dj46.symm) DnD.nil)
            have dj109 : DnD de38 ([⟨A_before, before3.length, c_before⟩] : List Hdr) ([before3] : List (List Int)) (blk A_t200) := (DnD.cons (d := de38) (Dn.of dj50.symm) DnD.nil)
            have dj110 : DnD de38 ([⟨A_before, before3.length, c_before⟩] : List Hdr) ([before3] : List (List Int)) (some w.heap.size) := (DnD.cons (d := de38) (Dn.of dj59.symm) DnD.nil)
            have dj111 : DnD de38 ([⟨A_before, before3.length, c_before⟩] : List Hdr) ([before3] : List (List Int)) (blk A_t202) := (DnD.cons (d := de38) (Dn.of dj61.symm) DnD.nil)
            have dj112 : AllP (DnD de38 ([⟨A_before, before3.length, c_before⟩] : List Hdr) ([before3] : List (List Int))) (FPd (some ⟨g5, 0, none⟩) hs_t203 none) := (fun p_ hp_ => (DnD.cons (d := de38) (Dn.of (dj68 p_ hp_)) DnD.nil))
            have dj113 : DnD de38 ([⟨A_before, before3.length, c_before⟩] : List Hdr) ([before3] : List (List Int)) (blk (some ⟨g9, 0, none⟩)) := (DnD.cons (d := de38) (Dn.of (Dj.new hO7.lt' (Ge.box hl12))) DnD.nil)
            obtain ⟨h12, H⟩ := H
            have h13 : ((hs_t202 : List Hdr).length + ([⟨A_before, before3.length, c_before⟩] : List Hdr).length) * 24 ≤ 140737488355328 := by rw [k137.1, hr3.1]; exact h12
            refine WL.append tab_ok rfl rfl One.h k136 rfl k63.1.symm hO9.rd rfl rfl h13 (applen h13) (size_le gr25) (fun A_t114 c_t114 w27 hO10 hg22 hk3 => ?_)
            have el2 : (hs_t202 ++ ([⟨A_before, before3.length, c_before⟩] : List Hdr)).length = (t202 ++ ([before3] : List (List Int))).length := by rw [List.length_append, List.length_append, k137.1, hr3.1]
            rw [el2]
            have gr26 := gr_mod gr25 hg22 k136.ge'
            have k140 := k132.go hg22 dj44
            have k141 := k133.go hg22 dj48
            have k142 := k134.go hg22 dj54
            have k143 := k135.go hg22 dj57
            have k144 := k137.go hg22 dj65
            have k145 := k138.go hg22 dj60
            have k146 := k139.go hg22 dj61.symm
            have k147 := hr3.go hg22 dj111
            have hr4 : RelD de38 w27 (hs_t202 ++ ([⟨A_before, before3.length, c_before⟩] : List Hdr)) (t202 ++ ([before3] : List (List Int))) := RelD.append k144 k147
            have nd4 : NewD de38 (hs_t202 ++ ([⟨A_before, before3.length, c_before⟩] : List Hdr)) (t202 ++ ([before3] : List (List Int))) w.heap.size := NewD.append k137.1 or5 nd3
            have dj114 : DnD de38 (hs_t202 ++ ([⟨A_before, before3.length, c_before⟩] : List Hdr)) (t202 ++ ([before3] : List (List Int))) (some g1) := (DnD.append k137.1 dj62 dj108)
            have dj115 : DnD de38 (hs_t202 ++ ([⟨A_before, before3.length, c_before⟩] : List Hdr)) (t202 ++ ([before3] : List (List Int))) (blk A_t200) := (DnD.append k137.1 dj63 dj109)
            have dj116 : DnD de38 (hs_t202 ++ ([⟨A_before, before3.length, c_before⟩] : List Hdr)) (t202 ++ ([before3] : List (List Int))) (some w.heap.size) := (DnD.append k137.1 dj64 dj110)
            have dj117 : AllP (DnD de38 (hs_t202 ++ ([⟨A_before, before3.length, c_before⟩] : List Hdr)) (t202 ++ ([before3] : List (List Int)))) (FPd (some ⟨g5, 0, none⟩) hs_t203 none) := (fun p_ hp_ => DnD.append k137.1 (dj66 p_ hp_) (dj112 p_ hp_))
            have dj118 : DnD de38 (hs_t202 ++ ([⟨A_before, before3.length, c_before⟩] : List Hdr)) (t202 ++ ([before3] : List (List Int))) (blk (some ⟨g9, 0, none⟩)) := (DnD.append k137.1 (k130.new (Ge.box hl12)) dj113)
            have dj119 : DnD de38 (hs_t202 ++ ([⟨A_before, before3.length, c_before⟩] : List Hdr)) (t202 ++ ([before3] : List (List Int))) (blk A_t114) := (DnD.append k137.1 (RelD.app k137 dj65 hk3) (RelD.app hr3 dj111 hk3))
            refine WL.y rfl (Yld.pure tab_ok rfl) ?_
            refine WL.y rfl (Yld.pure tab_ok rfl) ?_
            refine WL.store1 one77 rfl rfl rfl k140 (by simp) (fun w28 hB18 hg23 => ?_)
            have hB17 : Bl w28 g1 79 [.slice A_t200 t200.length c_t200, .map (some w.heap.size), .slice A_t114 ((t202 ++ ([before3] : List (List Int))).length) c_t114, .slice (some ⟨g5, 0, none⟩) t203.length ((l.length : Int).toNat)] := hB18
            have gr27 := gr_mod gr26 hg23 (Ge.le (Ge.box hl2) (size_le gr1))
            have k148 := k141.go hg23 dj42.symm
            have k149 := k142.go hg23 dj51
            have k150 := k143.go hg23 dj43.symm
            have k151 := k145.go hg23 dj45
            have k152 := k146.go hg23 dj46.symm
            have k153 := hO10.go hg23 (Dj.app dj44.symm k132.lt' hk3)
            have k154 := hr4.go hg23 dj114
            refine WL.nil (WX.then_normal ?_)
            refine WC.seq ?_
            refine WC.region ?_
            refine WL.y rfl (Yld.pure tab_ok rfl) ?_
            refine WL.y rfl (Yld.pure tab_ok rfl) ?_
            refine WL.y rfl (Yld.pure tab_ok rfl) ?_
            refine WL.nil (WX.then_normal ?_)
            refine WC.block ?_
            obtain ⟨I4, mu4, h0_4, HR4⟩ := H
            refine WC.loopF (fun n' L' w' => ∃ (t119 : Int), ∃ (t2032 : List (List Int)), ∃ (hs_t2032 : List Hd), ∃ (n_t2032 : Nat), n' = mu4 t119 t2032 ∧ L' = [(4, .pointer (some ⟨g1, 0, none⟩)), (8, .int .i64 t76), (74, .slice A_t200 t200.length c_t200), (75, .int .i64 (t200.length : Int)), (76, .int .i64 t76), (117, .slice A_before before3.length c_before), (118, .int .i64 (before3.length : Int)), (119, .int .i64 t119)] ∧ I4 t119 t2032 ∧ n_t2032 = t2032.length ∧ w.grownBy w' none ∧ Bl w' g1 79 [.slice A_t200 t200.length c_t200, .map (some w.heap.size), .slice A_t114 ((t202 ++ ([before3] : List (List Int))).length) c_t114, .slice (some ⟨g5, 0, none⟩) n_t2032 ((l.length : Int).toNat)] ∧ OwnK 4 encH43 w' w.heap.size 43 A_t200 c_t200 hs_t200 ∧ RelD de43 w' hs_t200 t200 ∧ MapB vs okS vi w' w.heap.size t201 ∧ Own vi w' w.heap.size 3 A_before c_before before3 ∧ Own vh w' w.heap.size 38 A_t114 c_t114 (hs_t202 ++ ([⟨A_before, before3.length, c_before⟩] : List Hdr)) ∧ RelD de38 w' (hs_t202 ++ ([⟨A_before, before3.length, c_before⟩] : List Hdr)) (t202 ++ ([before3] : List (List Int))) ∧ DeepO vi w' w.heap.size 38 3 (some ⟨g5, 0, none⟩) ((l.length : Int).toNat) hs_t2032 t2032 none ∧ Dj (some g1) (blk A_t200) ∧ Dj (some g1) (some w.heap.size) ∧ Dj (some g1) (blk A_before) ∧ Dj (some g1) (blk A_t114) ∧ AllP (Dj (some g1)) (FPd (some ⟨g5, 0, none⟩) hs_t2032 none) ∧ Dj (blk A_t200) (some w.heap.size) ∧ Dj (blk A_t200) (blk A_before) ∧ Dj (blk A_t200) (blk A_t114) ∧ AllP (Dj (blk A_t200)) (FPd (some ⟨g5, 0, none⟩) hs_t2032 none) ∧ DnD de43 hs_t200 t200 (some g1) ∧ DnD de43 hs_t200 t200 (blk A_t200) ∧ DnD de43 hs_t200 t200 (some w.heap.size) ∧ DnD de43 hs_t200 t200 (blk A_before) ∧ DnD de43 hs_t200 t200 (blk A_t114) ∧ AllP (DnD de43 hs_t200 t200) (FPd (some ⟨g5, 0, none⟩) hs_t2032 none) ∧ Dj (some w.heap.size) (blk A_before) ∧ Dj (some w.heap.size) (blk A_t114) ∧ AllP (Dj (some w.heap.size)) (FPd (some ⟨g5, 0, none⟩) hs_t2032 none) ∧ Dj (blk A_before) (blk A_t114) ∧ AllP (Dj (blk A_before)) (FPd (some ⟨g5, 0, none⟩) hs_t2032 none) ∧ AllP (Dj (blk A_t114)) (FPd (some ⟨g5, 0, none⟩) hs_t2032 none) ∧ DnD de38 (hs_t202 ++ ([⟨A_before, before3.length, c_before⟩] : List Hdr)) (t202 ++ ([before3] : List (List Int))) (some g1) ∧ DnD de38 (hs_t202 ++ ([⟨A_before, before3.length, c_before⟩] : List Hdr)) (t202 ++ ([before3] : List (List Int))) (blk A_t200) ∧ DnD de38 (hs_t202 ++ ([⟨A_before, before3.length, c_before⟩] : List Hdr)) (t202 ++ ([before3] : List (List Int))) (some w.heap.size) ∧ DnD de38 (hs_t202 ++ ([⟨A_before, before3.length, c_before⟩] : List Hdr)) (t202 ++ ([before3] : List (List Int))) (blk A_t114) ∧ AllP (DnD de38 (hs_t202 ++ ([⟨A_before, before3.length, c_before⟩] : List Hdr)) (t202 ++ ([before3] : List (List Int)))) (FPd (some ⟨g5, 0, none⟩) hs_t2032 none) ∧ NewD de43 hs_t200 t200 w.heap.size ∧ AllP (fun p => Ge p w.heap.size) (FPd (some ⟨g5, 0, none⟩) hs_t2032 none)) _ _ ⟨(0 : Int), t203, hs_t203, t203.length, rfl, rfl, h0_4, rfl, gr27, hB17, k148, k149, k150, k152, k153, k154, k151, dj42, dj43, dj46, (Dj.app dj44.symm k132.lt' hk3).symm, dj45, dj47, dj50, (Dj.app dj48.symm k133.lt' hk3).symm, dj49, dj51, dj52, dj53, dj56, (RelD.app k134 dj54 hk3), dj55, dj59, (Dj.app dj57.symm k135.lt' hk3).symm, dj58, (Dj.app dj61 k139.lt' hk3).symm, dj68, (DeepO.app k138 dj60 hk3), dj114, dj115, dj116, dj119, dj117, or4, (k151.ge')⟩ (by repeat (first | exact Sub.nil | refine Sub.cons rfl ?_)) ?_
            clear h0_4
            rintro _ _ w29 ⟨t119, t2032, hs_t2032, n_t2032, rfl, rfl, hI4, rfl, gr28, k155, k156, k157, k158, k159, k160, k161, k162, dj120, dj121, dj122, dj123, dj124, dj125, dj126, dj127, dj128, dj129, dj130, dj131, dj132, dj133, dj134, dj135, dj136, dj137, dj138, dj139, dj140, dj141, dj142, dj143, dj144, dj145, or8, hi4⟩
            have H := HR4 t119 t2032 hI4
            refine WC.seq ?_
            refine WC.region ?_
            refine WL.y rfl (Yld.pure tab_ok rfl) ?_
            refine WL.nil (WX.then_normal ?_)
            refine WC.seq ?_
            refine WC.cond rfl (fun b7 => ?_) (fun b7 => ?_)
            · replace H := H.1 (of_decide_eq_true b7)
              refine WC.skip (WX.then_normal ?_)
              refine WC.seq ?_
              refine WC.block ?_
              refine WC.seq ?_
              refine WC.region ?_
              obtain ⟨h14, H⟩ := H
              refine WL.y rfl (Yld.iaddrW tab_ok k159.rd rfl rfl rfl rfl h14.1 h14.2) ?_
              refine WL.y rfl (Yld.iload 0 tab_ok k159.rd rfl rfl (iltN h14 rfl)) ?_
              refine WL.y rfl (Yld.pure tab_ok rfl) ?_
              refine WL.nil (WX.then_normal ?_)
              refine WC.chainF (fun k => !(Nat.beq k 13 || Nat.beq k 14 || Nat.beq k 16)) (LD [3, 8, 11] (fun w' => Bl w' g1 79 [.slice A_t200 t200.length c_t200, .map (some w.heap.size), .slice A_t114 ((t202 ++ ([before3] : List (List Int))).length) c_t114, .slice (some ⟨g5, 0, none⟩) t2032.length ((l.length : Int).toNat)] ∧ Rd hv w' (some ⟨g5, 0, none⟩) ((l.length : Int).toNat) (t2032.zip hs_t2032))) mixed (by kernel_rfl) (fun k w' h _ => ⟨(bl_eqv h k155), (rd_eqv h k162.out.rd)⟩) ?_
              refine WJ.y rfl rfl (fun w' hw' => Yld.pure tab_ok rfl) ?_
              refine WJ.y rfl rfl (fun w' hw' => Yld.pure tab_ok rfl) ?_
              refine WJ.y rfl rfl (fun w' hw' => Yld.pure tab_ok rfl) ?_
              refine WJ.y rfl rfl (fun w' hw' => Yld.bload tab_ok (hw' rfl).1 rfl rfl rfl) ?_
              refine WJ.y rfl rfl (fun w' hw' => Yld.pure tab_ok rfl) ?_
              refine WJ.y rfl rfl (fun w' hw' => Yld.pure tab_ok rfl) ?_
              refine WJ.y rfl rfl (fun w' hw' => Yld.pure tab_ok rfl) ?_
              refine WJ.y rfl rfl (fun w' hw' => Yld.pure tab_ok rfl) ?_
              refine WJ.y rfl rfl (fun w' hw' => Yld.bload tab_ok (hw' rfl).1 rfl rfl rfl) ?_
              refine WJ.y rfl rfl (fun w' hw' => Yld.pure tab_ok rfl) ?_
              obtain ⟨h15, H⟩ := H
              refine WJ.y rfl rfl (fun w' hw' => Yld.iaddrW tab_ok k162.out.rd rfl rfl ((rfl : t2032.length = _).trans k162.zl.symm) rfl h15.1 h15.2) ?_
              refine WJ.y rfl rfl (fun w' hw' => Yld.dloadR tab_ok (hw' rfl).2 k162.len rfl rfl (iltN h15 rfl)) ?_
              refine WJ.y rfl rfl (fun w' hw' => Yld.pure tab_ok rfl) ?_
              refine WJ.putw rfl (wants_none) rfl (Eff.lit tab_ok rfl rfl (all1c rfl all1n) rfl (by omega)) (fun v w' ⟨_, _, h⟩ => DD.keep (⟨(Bl.g0 k155 (gr_eqv h (Eqv.refl _))), (Rd.grown k162.out.rd (gr_eqv h (Eqv.refl _)))⟩)) ?_
              rintro _ w30 ⟨rfl, hB19, hg24⟩
              obtain ⟨g_t136, hl13⟩ : ∃ g, g = w29.heap.size := ⟨_, rfl⟩
              rw [← hl13] at hB19
              rw [← hl13]
              have hO11 : Own vi w30 w.heap.size 3 (some ⟨g_t136, 0, none⟩) 1 ([t76] : List Int) := Own.ofBl hB19 (Nat.le_trans (size_le gr28) (Nat.le_of_eq hl13.symm)) (by simp [maxLen]) rfl
              have gr29 := gr_trans gr28 hg24
              have k163 := k155.g0 hg24
              have k164 := k156.grown hg24
              have k165 := k157.grown hg24
              have k166 := k158.g0 hg24
              have k167 := k159.grown hg24
              have k168 := k160.grown hg24
              have k169 := k161.grown hg24
              have k170 := k162.g0 hg24
              obtain ⟨hO12, k171, dj146⟩ := DeepO.open k170 (iltN h15 rfl)
              have dj147 := DeepO.at (Q := DnD de43 hs_t200 t200) k170 (iltN h15 rfl) dj134
              have dj148 := FPd.sub (j := ((before3.getD t119.toNat 0).toNat)) (Q := DnD de43 hs_t200 t200) dj134
              have dj149 := DeepO.at (Q := DnD de38 (hs_t202 ++ ([⟨A_before, before3.length, c_before⟩] : List Hdr)) (t202 ++ ([before3] : List (List Int)))) k170 (iltN h15 rfl) dj145
              have dj150 := FPd.sub (j := ((before3.getD t119.toNat 0).toNat)) (Q := DnD de38 (hs_t202 ++ ([⟨A_before, before3.length, c_before⟩] : List Hdr)) (t202 ++ ([before3] : List (List Int)))) dj145
              have dj151 := DeepO.at (Q := Dj (some g1)) k170 (iltN h15 rfl) dj124
              have dj152 := FPd.sub (j := ((before3.getD t119.toNat 0).toNat)) (Q := Dj (some g1)) dj124
              have dj153 := DeepO.at (Q := Dj (blk A_t200)) k170 (iltN h15 rfl) dj128
              have dj154 := FPd.sub (j := ((before3.getD t119.toNat 0).toNat)) (Q := Dj (blk A_t200)) dj128
              have dj155 := DeepO.at (Q := Dj (some w.heap.size)) k170 (iltN h15 rfl) dj137
              have dj156 := FPd.sub (j := ((before3.getD t119.toNat 0).toNat)) (Q := Dj (some w.heap.size)) dj137
              have dj157 := DeepO.at (Q := Dj (blk A_before)) k170 (iltN h15 rfl) dj139
              have dj158 := FPd.sub (j := ((before3.getD t119.toNat 0).toNat)) (Q := Dj (blk A_before)) dj139
              have dj159 := DeepO.at (Q := Dj (blk A_t114)) k170 (iltN h15 rfl) dj140
              have dj160 := FPd.sub (j := ((before3.getD t119.toNat 0).toNat)) (Q := Dj (blk A_t114)) dj140
              have dj161 := DeepO.at (Q := Dj (blk (some ⟨g_t136, 0, none⟩))) k170 (iltN h15 rfl) (k162.new (Ge.box (Nat.le_of_eq hl13.symm)))
              have dj162 := FPd.sub (j := ((before3.getD t119.toNat 0).toNat)) (Q := Dj (blk (some ⟨g_t136, 0, none⟩))) (k162.new (Ge.box (Nat.le_of_eq hl13.symm)))
              obtain ⟨h16, H⟩ := H
              refine WJ.putw rfl (wants_none) rfl (Eff.append tab_ok rfl One.i hO12 rfl rfl hO11.rd rfl rfl h16 (applen h16) (size_le gr29)) (fun v w' ⟨_, _, _, _, h, _⟩ => DD.keep (⟨(Bl.go k163 (gr_eqv h (Eqv.refl _)) dj151), (Rd.go k171.out.rd (gr_eqv h (Eqv.refl _)) (Dn.of (apH dj146).symm))⟩)) ?_
              rintro _ w31 ⟨A_t137, c_t137, rfl, hO13, hg25, hk4⟩
              have gr30 := gr_mod gr29 hg25 hO12.ge'
              have k172 := k163.go hg25 dj151
              have k173 := k164.go hg25 dj153
              have k174 := k165.go hg25 dj147
              have k175 := k166.go hg25 dj155
              have k176 := k167.go hg25 dj157
              have k177 := k168.go hg25 dj159
              have k178 := k169.go hg25 dj149
              have k179 := k171.go hg25 dj146
              obtain ⟨h17, H⟩ := H
              refine WJ.y rfl rfl (fun w' hw' => Yld.iaddrW tab_ok k179.out.rd rfl rfl ((rfl : t2032.length = _).trans k179.zl.symm) rfl h17.1 h17.2) ?_
              have dj163 := FPd.closeA (A' := A_t137) (c' := c_t137) (Q := DnD de43 hs_t200 t200) dj148 (RelD.app k165 dj147 hk4)
              have dj164 := FPd.closeA (A' := A_t137) (c' := c_t137) (Q := DnD de38 (hs_t202 ++ ([⟨A_before, before3.length, c_before⟩] : List Hdr)) (t202 ++ ([before3] : List (List Int)))) dj150 (RelD.app k169 dj149 hk4)
              have dj165 := FPd.closeA (A' := A_t137) (c' := c_t137) (Q := Dj (some g1)) dj152 (Dj.app dj151.symm k163.lt' hk4).symm
              have dj166 := FPd.closeA (A' := A_t137) (c' := c_t137) (Q := Dj (blk A_t200)) dj154 (Dj.app dj153.symm k164.lt' hk4).symm
              have dj167 := FPd.closeA (A' := A_t137) (c' := c_t137) (Q := Dj (some w.heap.size)) dj156 (Dj.app dj155.symm k166.lt' hk4).symm
              have dj168 := FPd.closeA (A' := A_t137) (c' := c_t137) (Q := Dj (blk A_before)) dj158 (Dj.app dj157.symm k167.lt' hk4).symm
              have dj169 := FPd.closeA (A' := A_t137) (c' := c_t137) (Q := Dj (blk A_t114)) dj160 (Dj.app dj159.symm k168.lt' hk4).symm
              refine WJ.eff rfl (Ef0.dstore (ys := ((t2032.getD ((before3.getD t119.toNat 0).toNat) []) ++ ([t76] : List Int))) one38 k179 rfl rfl rfl (iltN h17 rfl) hO13 (DeepO.app k171 dj146 hk4)) (fun w' h => DD.past (by kernel_rfl)) ?_
              rintro w33 ⟨hD1, hg27⟩
              have gr31 := gr_mod gr30 hg27 (apH (k179.ge'))
              have k180 := k172.go hg27 (apH dj152)
              have k181 := k173.go hg27 (apH dj154)
              have k182 := k174.go hg27 (apH dj148)
              have k183 := k175.go hg27 (apH dj156)
              have k184 := k176.go hg27 (apH dj158)
              have k185 := k177.go hg27 (apH dj160)
              have k186 := k178.go hg27 (apH dj150)
              refine WJ.nil (WX.block_normal (WX.then_normal ?_))
              refine WC.region ?_
              obtain ⟨h18, H⟩ := H
              refine WL.y rfl (Yld.add rfl rfl h18) ?_
              refine WL.y rfl (Yld.pure tab_ok rfl) ?_
              refine WL.nil ?_
              exact WX.roundF _ ⟨t119 + (1 : Int), t2032.set ((before3.getD t119.toNat 0).toNat) ((t2032.getD ((before3.getD t119.toNat 0).toNat) []) ++ ([t76] : List Int)), hs_t2032.set ((before3.getD t119.toNat 0).toNat) (A_t137, c_t137), t2032.length, rfl, rfl, H.1, ((rfl : t2032.length = _).trans List.length_set.symm), gr31, k180, k181, k182, k183, k184, k185, k186, hD1, dj120, dj121, dj122, dj123, dj165, dj125, dj126, dj127, dj166, dj129, dj130, dj131, dj132, dj133, dj163, dj135, dj136, dj167, dj138, dj168, dj169, dj141, dj142, dj143, dj144, dj164, or8, (hD1.ge')⟩ (by repeat (first | exact Sub.nil | refine Sub.cons rfl ?_)) H.2
            · replace H := H.2 (of_decide_eq_false b7)
              refine WC.exit (WX.then_exit (WX.then_exit (WX.block_same (WX.block_normal (WX.then_normal ?_)))))
              refine WC.region ?_
              obtain ⟨h19, H⟩ := H
              refine WL.y rfl (Yld.add rfl rfl h19) ?_
              refine WL.y rfl (Yld.pure tab_ok rfl) ?_
              refine WL.nil ?_
              exact WX.roundF _ ⟨t76 + (1 : Int), t202 ++ ([before3] : List (List Int)), A_t114, c_t114, (t202 ++ ([before3] : List (List Int))).length, hs_t202 ++ ([⟨A_before, before3.length, c_before⟩] : List Hdr), t2032, hs_t2032, t2032.length, rfl, rfl, H.1, rfl, rfl, gr28, k155, k156, k157, k158, k160, k161, k162, dj120, dj121, dj123, dj124, dj125, dj127, dj128, dj129, dj130, dj131, dj133, dj134, dj136, dj137, dj140, dj141, dj142, dj143, dj144, dj145, or8, nd4, (k162.ge')⟩ (by repeat (first | exact Sub.nil | refine Sub.cons rfl ?_)) H.2
        · replace H := H.2 (of_decide_eq_false b4)
          refine WC.exit (WX.then_exit (WX.then_exit (WX.block_same (WX.then_normal ?_))))
          refine WC.seq ?_
          refine WC.seq ?_
          refine WC.region ?_
          refine WL.y rfl (Yld.pure tab_ok rfl) ?_
          refine WL.y rfl (Yld.pure tab_ok rfl) ?_
          refine WL.y rfl (Yld.pure tab_ok rfl) ?_
          refine WL.y rfl (Yld.bload tab_ok k58 rfl rfl rfl) ?_
          refine WL.y rfl (Yld.pure tab_ok rfl) ?_
          refine WL.y rfl (Yld.pure tab_ok rfl) ?_
          refine WL.nil (WX.then_normal ?_)
          refine WC.block ?_
          obtain ⟨I5, mu5, h0_5, HR5⟩ := H
          refine WC.loopF (fun n' L' w' => ∃ (t146 : Int), n' = mu5 t146 ∧ L' = [(4, .pointer (some ⟨g1, 0, none⟩)), (145, .int .i64 (t200.length : Int)), (146, .int .i64 t146)] ∧ I5 t146 ∧ w.grownBy w' none ∧ Bl w' g1 79 [.slice A_t200 t200.length c_t200, .map (some w.heap.size), .slice A_t202 t202.length c_t202, .slice (some ⟨g5, 0, none⟩) t203.length ((l.length : Int).toNat)] ∧ OwnK 4 encH43 w' w.heap.size 43 A_t200 c_t200 hs_t200 ∧ RelD de43 w' hs_t200 t200 ∧ MapB vs okS vi w' w.heap.size t201 ∧ Own vh w' w.heap.size 38 A_t202 c_t202 hs_t202 ∧ RelD de38 w' hs_t202 t202 ∧ DeepO vi w' w.heap.size 38 3 (some ⟨g5, 0, none⟩) ((l.length : Int).toNat) hs_t203 t203 none ∧ Dj (some g1) (blk A_t200) ∧ Dj (some g1) (some w.heap.size) ∧ Dj (some g1) (blk A_t202) ∧ AllP (Dj (some g1)) (FPd (some ⟨g5, 0, none⟩) hs_t203 none) ∧ Dj (blk A_t200) (some w.heap.size) ∧ Dj (blk A_t200) (blk A_t202) ∧ AllP (Dj (blk A_t200)) (FPd (some ⟨g5, 0, none⟩) hs_t203 none) ∧ DnD de43 hs_t200 t200 (some g1) ∧ DnD de43 hs_t200 t200 (blk A_t200) ∧ DnD de43 hs_t200 t200 (some w.heap.size) ∧ DnD de43 hs_t200 t200 (blk A_t202) ∧ AllP (DnD de43 hs_t200 t200) (FPd (some ⟨g5, 0, none⟩) hs_t203 none) ∧ Dj (some w.heap.size) (blk A_t202) ∧ AllP (Dj (some w.heap.size)) (FPd (some ⟨g5, 0, none⟩) hs_t203 none) ∧ AllP (Dj (blk A_t202)) (FPd (some ⟨g5, 0, none⟩) hs_t203 none) ∧ DnD de38 hs_t202 t202 (some g1) ∧ DnD de38 hs_t202 t202 (blk A_t200) ∧ DnD de38 hs_t202 t202 (some w.heap.size) ∧ DnD de38 hs_t202 t202 (blk A_t202) ∧ AllP (DnD de38 hs_t202 t202) (FPd (some ⟨g5, 0, none⟩) hs_t203 none) ∧ NewD de43 hs_t200 t200 w.heap.size ∧ NewD de38 hs_t202 t202 w.heap.size ∧ AllP (fun p => Ge p w.heap.size) (FPd (some ⟨g5, 0, none⟩) hs_t203 none)) _ _ ⟨(0 : Int), rfl, rfl, h0_5, gr16, k58, k59, k60, k61, k62, k63, k64, dj22, dj23, dj24, dj25, dj26, dj27, dj28, dj29, dj30, dj31, dj32, dj33, dj34, dj35, dj36, dj37, dj38, dj39, dj40, dj41, or2, or3, (k64.ge')⟩ (by repeat (first | exact Sub.nil | refine Sub.cons rfl ?_)) ?_
          clear h0_5
          rintro _ _ w34 ⟨t146, rfl, rfl, hI5, gr32, k187, k188, k189, k190, k191, k192, k193, dj170, dj171, dj172, dj173, dj174, dj175, dj176, dj177, dj178, dj179, dj180, dj181, dj182, dj183, dj184, dj185, dj186, dj187, dj188, dj189, or9, or10, hi5⟩
          have H := HR5 t146 hI5
          refine WC.seq ?_
          refine WC.region ?_
          refine WL.y rfl (Yld.pure tab_ok rfl) ?_
          refine WL.nil (WX.then_normal ?_)
          refine WC.seq ?_
          refine WC.cond rfl (fun b8 => ?_) (fun b8 => ?_)
          · replace H := H.1 (of_decide_eq_true b8)
            refine WC.skip (WX.then_normal ?_)
            refine WC.seq ?_
            refine WC.block ?_
            refine WC.seq ?_
            refine WC.region ?_
            refine WL.y rfl (Yld.pure tab_ok rfl) ?_
            refine WL.y rfl (Yld.pure tab_ok rfl) ?_
            refine WL.nil (WX.then_normal ?_)
            refine WC.seq ?_
            refine WC.region ?_
            refine WL.y rfl (Yld.pure tab_ok rfl) ?_
            refine WL.y rfl (Yld.pure tab_ok rfl) ?_
            refine WL.y rfl (Yld.pure tab_ok rfl) ?_
            refine WL.y rfl (Yld.pure tab_ok rfl) ?_
            refine WL.y rfl (Yld.bload tab_ok k187 rfl rfl rfl) ?_
            refine WL.y rfl (Yld.pure tab_ok rfl) ?_
            obtain ⟨h20, H⟩ := H
            refine WL.y rfl (Yld.iaddrW tab_ok k191.rd rfl rfl k63.1.symm rfl h20.1 h20.2) ?_
            obtain ⟨⟨A_el5, n5, c_el5⟩, eh3, ⟨en9, hR5⟩⟩ := RelD.at k192 hd0 [] (j := t146.toNat) (Nat.lt_of_lt_of_eq (iltN h20 k63.1.symm) k192.1)
            have en9 : n5 = (t202.getD t146.toNat []).length := en9
            subst en9
            refine WL.y rfl (Yld.to (v := .slice A_el5 ((t202.getD t146.toNat []).length) c_el5) (Yld.iload hd0 tab_ok k191.rd rfl rfl (iltN h20 k63.1.symm)) (by rw [eh3]; rfl)) ?_
            refine WL.call rfl rfl (W_pgraph_Graph_reach k188.rd rfl k189 k190 k191.rd rfl k192 (k193.fdo).rd rfl k193.fdr k187 hR5 rfl H) ?_
            rintro _ w35 ⟨hg28, t157, A_t157, c_t157, rfl, ht157, H⟩
            have hb3 := ht157.ge'
            have k194 := ht157.base (fun g hg => Nat.le_trans (size_le gr32) (hb3 g hg))
            have gr33 := gr_trans gr32 hg28
            have k195 := k187.g0 hg28
            have k196 := k188.grown hg28
            have k197 := k189.grown hg28
            have k198 := k190.g0 hg28
            have k199 := k191.grown hg28
            have k200 := k192.grown hg28
            have k201 := k193.g0 hg28
            refine WL.y rfl (Yld.pure tab_ok rfl) ?_
            obtain ⟨h21, H⟩ := H
            refine WL.y rfl (Yld.iaddrW tab_ok k194.rd rfl rfl rfl rfl h21.1 h21.2) ?_
            refine WL.y rfl (Yld.iload false tab_ok k194.rd rfl rfl (iltN h21 rfl)) ?_
            refine WL.nil (WX.then_normal ?_)
            refine WC.cond rfl (fun b9 => ?_) (fun b9 => ?_)
            · replace H := H.1 (b9)
              refine WC.seq ?_
              obtain ⟨vE2, _, hE3⟩ := GOK.get (hG.grown gr33) 4 1 hS4 rfl rfl
              refine WC.chainF (fun k => !(Nat.beq k 3)) (LD [1] (fun w' => w'.cell? ⟨1, 0, none⟩ = some vE2)) mixed (by kernel_rfl) (fun k w' h _ => ((h.cell _).trans (ErrR.cell hE3 rfl))) ?_
              refine WJ.y rfl rfl (fun w' hw' => Yld.pure tab_ok rfl) ?_
              refine WJ.y rfl rfl (fun w' hw' => Yld.cell tab_ok (hw' rfl) rfl rfl) ?_
              refine WJ.y rfl rfl (fun w' hw' => Yld.struct (us := [.int .i64 t146, vE2]) (vs := [(0, .int .i64 t146), (1, vE2)]) zero85 places85 rfl (by simp only [fillL, cells1 (ErrR.one hE3)]; rfl)) ?_
              refine WJ.putw rfl wants_none rfl (Eff.box (us := [.int .i64 t146, vE2]) rfl rfl) (fun v w' h => DD.keep (cell_g0 (ErrR.cell hE3 rfl) (gr_eqv h.2.2 (Eqv.refl _)))) ?_
              rintro _ w36 ⟨rfl, hB20, hg29⟩
              have gr34 := gr_trans gr33 hg29
              have k202 := hE3.grown hg29
              obtain ⟨n2, he2, H⟩ := H
              have hE4 := ErrR.mkAt hB20 (he2 ▸ k202)
              refine WJ.y rfl rfl (fun w' hw' => Yld.mki Tryz.underlying83 rfl rfl) ?_
              refine WJ.y rfl rfl (fun w' hw' => Yld.pure tab_ok rfl) ?_
              refine WJ.y rfl rfl (fun w' hw' => Yld.pure tab_ok rfl) ?_
              refine WJ.nil (WX.then_normal ?_)
              refine WC.ret (WX.block_ret (WX.then_ret (WX.then_ret (WX.block_ret (WX.then_ret ?_)))))
              exact WX.ret2 rfl rfl rfl ⟨gr34, Or.inl ⟨(.iface 83 (.pointer (some ⟨w35.heap.size, 0, none⟩))), (Er.at_ t146 n2), rfl, hE4, H⟩⟩
            · replace H := H.2 (b9)
              refine WC.skip (WX.block_normal (WX.then_normal ?_))
              refine WC.region ?_
              obtain ⟨h22, H⟩ := H
              refine WL.y rfl (Yld.add rfl rfl h22) ?_
              refine WL.y rfl (Yld.pure tab_ok rfl) ?_
              refine WL.nil ?_
              exact WX.roundF _ ⟨t146 + (1 : Int), rfl, rfl, H.1, gr33, k195, k196, k197, k198, k199, k200, k201, dj170, dj171, dj172, dj173, dj174, dj175, dj176, dj177, dj178, dj179, dj180, dj181, dj182, dj183, dj184, dj185, dj186, dj187, dj188, dj189, or9, or10, (k201.ge')⟩ (by repeat (first | exact Sub.nil | refine Sub.cons rfl ?_)) H.2
          · replace H := H.2 (of_decide_eq_false b8)
            refine WC.exit (WX.then_exit (WX.then_exit (WX.block_same (WX.then_normal ?_))))
            refine WC.seq ?_
            refine WC.region ?_
            refine WL.y rfl (Yld.pure tab_ok rfl) ?_
            refine WL.y rfl (Yld.pure tab_ok rfl) ?_
            refine WL.y rfl (Yld.pure tab_ok rfl) ?_
            refine WL.nil (WX.then_normal ?_)
            refine WC.ret ?_
            have hO14 : Own vh w34 w.heap.size 38 (some ⟨g5, 0, none⟩) ((l.length : Int).toNat) (zipH hs_t203 t203) := k193.fdo
            have hr5 : RelD de38 w34 (zipH hs_t203 t203) t203 := k193.fdr
            exact WX.ret2 rfl rfl rfl ⟨gr32, Or.inr ⟨g1, t200, A_t200, c_t200, hs_t200, w.heap.size, t201, t202, A_t202, c_t202, hs_t202, t203, (some ⟨g5, 0, none⟩), (l.length : Int).toNat, (zipH hs_t203 t203), .nilIface, Er.ok, rfl, k188, k189, or9, dj178, k191, k192, or10, dj188, hO14, hr5, (fun p_ hp_ => k193.dnd (fun q_ hq_ => Dj.new hp_ ((k193.ge') q_ hq_))), k193.dself, (ErrR.okR (S := S) (w := w34)), k190, (Ge.le (Ge.box (Nat.le_refl _)) (Nat.le_refl _)), k187, (Ge.le (Ge.box hl2) (size_le gr1)), dj178, dj180, (apH dj181), dj179, dj177, dj186, dj188, (apH dj189), dj187, dj185, (k193.dnd dj176), (k193.dnd dj184), k193.dself, (k193.dnd dj183), (k193.dnd dj173), dj175, (apH dj176), dj174, dj170.symm, (apH dj184), dj182.symm, dj172.symm, (apH dj183).symm, (apH dj173).symm, dj171.symm, H⟩⟩
  · clear hJ1
    rcases Bool.eq_false_or_eq_true (decide ((1000 : Int) < (l.length : Int))) with b10 | b10
    · replace H := H.1 b10
      refine WL.gno rfl rfl (okb b10) rfl ?_
      refine WL.gno rfl rfl (okb b10) rfl ?_
      refine WL.y rfl (Yld.pickT (okb b10) rfl) ?_
      exact WL.weaken (by repeat (first | exact Sub.nil | refine Sub.cons rfl ?_)) (hQ _ _ ⟨true, rfl, H, gr2, k1, hB2⟩)
    · replace H := H.2 b10
      refine WL.gyes rfl rfl (okb b10) rfl (Yld.pure tab_ok rfl) ?_
      refine WL.callw (wants_some rfl rfl (okb b10)) rfl rfl (W_slices_ContainsFunc_api_Action_api_Action_graph_New_1 (hl.grown gr2) rfl (hr_l.grown gr2) H) ?_
      rintro _ w37 ⟨hg30, t26, rfl, H⟩
      have gr35 := gr_trans gr2 hg30
      have k203 := k1.g0 hg30
      have k204 := hB2.g0 hg30
      refine WL.y rfl (Yld.pickF (okb b10) rfl) ?_
      exact WL.weaken (by repeat (first | exact Sub.nil | refine Sub.cons rfl ?_)) (hQ _ _ ⟨t26, rfl, H, gr35, k203, k204⟩)

set_option maxHeartbeats 8000000 in
theorem W_pgraph_Graph_Len {w : World} {g_g : Nat} {g_l : List (Int × List (List UInt8) × List (List UInt8) × List UInt8)} {A_g_l : Option Addr} {c_g_l : Nat} {hs_g_l : List (Int × Hdr × Hdr × List UInt8)} {g_g_makers : Nat} {g_makers : List (List UInt8 × Int)} {g_before : List (List Int)} {A_g_before : Option Addr} {c_g_before : Nat} {hs_g_before : List Hdr} {g_after : List (List Int)} {A_g_after : Option Addr} {c_g_after : Nat} {hs_g_after : List Hdr} {n_g_l : Nat} {n_g_before : Nat} {n_g_after : Nat} {K : Int → Prop} (hg_l : RdK 4 encH43 w A_g_l c_g_l hs_g_l) (hn_g_l : n_g_l = g_l.length) (hr_g_l : RelD de43 w hs_g_l g_l) (hg_makers : MapB vs okS vi w g_g_makers g_makers) (hg_before : Rd vh w A_g_before c_g_before hs_g_before) (hn_g_before : n_g_before = g_before.length) (hr_g_before : RelD de38 w hs_g_before g_before) (hg_after : Rd vh w A_g_after c_g_after hs_g_after) (hn_g_after : n_g_after = g_after.length) (hr_g_after : RelD de38 w hs_g_after g_after) (hg : Bl w g_g 79 [.slice A_g_l n_g_l c_g_l, .map (some g_g_makers), .slice A_g_before n_g_before c_g_before, .slice A_g_after n_g_after c_g_after]) (H : M_pgraph_Graph_Len g_l g_makers g_before g_after K) : Fn Tryz.prog 11 ⟨[.pointer (some ⟨g_g, 0, none⟩)]⟩ w (fun v w' => w = w' ∧ ∃ (r : Int), v = .int .i64 r ∧ K r) := by
  subst hn_g_l
  subst hn_g_before
  subst hn_g_after
  unfold M_pgraph_Graph_Len at H
  refine Fn.enter (by kernel_rfl) Tryz.func11 rfl Tryz.ntmps11 rfl ?_
  replace H := H (by rw [← hr_g_l.1]; exact Nat.le_trans hg_l.cap hg_l.max)
  replace H := H (by rw [← hr_g_before.1]; exact Nat.le_trans hg_before.cap hg_before.max)
  replace H := H (by rw [← hr_g_after.1]; exact Nat.le_trans hg_after.cap hg_after.max)
  refine WC.seq ?_
  refine WC.region ?_
  refine WL.y rfl (Yld.pure tab_ok rfl) ?_
  refine WL.nil (WX.then_normal ?_)
  refine WC.seq ?_
  refine WC.region ?_
  refine WL.y rfl (Yld.pure tab_ok rfl) ?_
  refine WL.y rfl (Yld.pure tab_ok rfl) ?_
  refine WL.y rfl (Yld.pure tab_ok rfl) ?_
  refine WL.y rfl (Yld.bload tab_ok hg rfl rfl rfl) ?_
  refine WL.y rfl (Yld.pure tab_ok rfl) ?_
  refine WL.y rfl (Yld.pure tab_ok rfl) ?_
  refine WL.nil (WX.then_normal ?_)
  refine WC.ret ?_
  exact WX.ret1 rfl rfl ⟨rfl, (g_l.length : Int), rfl, H⟩

set_option maxHeartbeats 8000000 in
theorem W_pgraph_Graph_Action {w : World} {g_g : Nat} {g_l : List (Int × List (List UInt8) × List (List UInt8) × List UInt8)} {A_g_l : Option Addr} {c_g_l : Nat} {hs_g_l : List (Int × Hdr × Hdr × List UInt8)} {g_g_makers : Nat} {g_makers : List (List UInt8 × Int)} {g_before : List (List Int)} {A_g_before : Option Addr} {c_g_before : Nat} {hs_g_before : List Hdr} {g_after : List (List Int)} {A_g_after : Option Addr} {c_g_after : Nat} {hs_g_after : List Hdr} {i : Int} {n_g_l : Nat} {n_g_before : Nat} {n_g_after : Nat} {K : Int → (List (List UInt8)) → (List (List UInt8)) → (List UInt8) → Bool → Prop} (hg_l : RdK 4 encH43 w A_g_l c_g_l hs_g_l) (hn_g_l : n_g_l = g_l.length) (hr_g_l : RelD de43 w hs_g_l g_l) (hg_makers : MapB vs okS vi w g_g_makers g_makers) (hg_before : Rd vh w A_g_before c_g_before hs_g_before) (hn_g_before : n_g_before = g_before.length) (hr_g_before : RelD de38 w hs_g_before g_before) (hg_after : Rd vh w A_g_after c_g_after hs_g_after) (hn_g_after : n_g_after = g_after.length) (hr_g_after : RelD de38 w hs_g_after g_after) (hg : Bl w g_g 79 [.slice A_g_l n_g_l c_g_l, .map (some g_g_makers), .slice A_g_before n_g_before c_g_before, .slice A_g_after n_g_after c_g_after]) (H : M_pgraph_Graph_Action g_l g_makers g_before g_after i K) : Fn Tryz.prog 40 ⟨[.pointer (some ⟨g_g, 0, none⟩), .int .i64 i]⟩ w (fun v w' => w.grownBy w' none ∧ ∃ (r0_Tool : Int), ∃ (r0_Args : List (List UInt8)), ∃ (A_r0_Args : Option Addr), ∃ (c_r0_Args : Nat), ∃ (r0_Inputs : List (List UInt8)), ∃ (A_r0_Inputs : Option Addr), ∃ (c_r0_Inputs : Nat), ∃ (r0_Output : List UInt8), ∃ (r1 : Bool), v = .tuple #[.agg ⟨[.int .i64 r0_Tool, .slice A_r0_Args r0_Args.length c_r0_Args, .slice A_r0_Inputs r0_Inputs.length c_r0_Inputs, vs r0_Output]⟩, .bool r1] ∧ Own vs w' w.heap.size 9 A_r0_Args c_r0_Args r0_Args ∧ Own vs w' w.heap.size 9 A_r0_Inputs c_r0_Inputs r0_Inputs ∧ Dj (blk A_r0_Args) (blk A_r0_Inputs) ∧ K r0_Tool r0_Args r0_Inputs r0_Output r1) := by
  subst hn_g_l
  subst hn_g_before
  subst hn_g_after
  unfold M_pgraph_Graph_Action at H
  refine Fn.enter (by kernel_rfl) Tryz.func40 rfl Tryz.ntmps40 rfl ?_
  replace H := H (by rw [← hr_g_l.1]; exact Nat.le_trans hg_l.cap hg_l.max)
  replace H := H (by rw [← hr_g_before.1]; exact Nat.le_trans hg_before.cap hg_before.max)
  replace H := H (by rw [← hr_g_after.1]; exact Nat.le_trans hg_after.cap hg_after.max)
  refine WC.seq ?_
  refine WC.region ?_
  refine WL.alloc rfl zero43 (fun g1 w1 hB1 hg1 hl1 => ?_)
  have gr1 := hg1
  refine WL.y rfl (Yld.pure tab_ok rfl) ?_
  refine WL.nil (WX.then_normal ?_)
  refine WC.seq ?_
  refine WC.seq ?_
  refine WC.region ?_
  refine WL.y rfl (Yld.pure tab_ok rfl) ?_
  refine WL.y rfl (Yld.pure tab_ok rfl) ?_
  refine WL.y rfl (Yld.pure tab_ok rfl) ?_
  refine WL.midF 8 (fun L' w' => ∃ q1 : Bool, L' = [(16, .bool q1), (0, .pointer (some ⟨g_g, 0, none⟩)), (1, .int .i64 i), (4, .pointer (some ⟨g1, 0, none⟩))] ∧ ((decide (i < (0 : Int))) || (decide ((g_l.length : Int) ≤ i))) = q1 ∧ w1 = w') ?_ (fun hQ => ?_)
  · rintro _ _ ⟨q1, rfl, rfl, rfl⟩
    refine WL.nil (WX.then_normal ?_)
    refine WC.cond rfl (fun b1 => ?_) (fun b1 => ?_)
    · replace H := H.1 (b1)
      refine WC.seq ?_
      refine WC.region ?_
      refine WL.y rfl (Yld.struct (us := [.int .i64 (0 : Int), .slice none 0 0, .slice none 0 0, vs ([] : List UInt8)]) zero43 places43 rfl rfl) ?_
      refine WL.storeW (vs := [.int .i64 (0 : Int), .slice none 0 0, .slice none 0 0, vs ([] : List UInt8)]) tab_ok rfl rfl rfl (all1c rfl (all1c rfl (all1c rfl (all1c rfl all1n)))) hB1 rfl rfl (fun w2 hB2 hg2 => ?_)
      have gr2 := gr_mod gr1 hg2 (Ge.le (Ge.box hl1) (Nat.le_refl _))
      refine WL.y rfl (Yld.pure tab_ok rfl) ?_
      refine WL.nil (WX.then_normal ?_)
      refine WC.ret (WX.then_ret ?_)
      exact WX.retct tab_ok rfl rfl rfl hB2 rfl rfl ⟨gr2, (0 : Int), [], none, 0, [], none, 0, ([] : List UInt8), false, rfl, (Own.nil vs w2 w.heap.size 9), (Own.nil vs w2 w.heap.size 9), Dj.nl, H⟩
    · replace H := H.2 (b1)
      refine WC.skip (WX.then_normal ?_)
      refine WC.seq ?_
      refine WC.region ?_
      refine WL.y rfl (Yld.pure tab_ok rfl) ?_
      refine WL.y rfl (Yld.pure tab_ok rfl) ?_
      refine WL.y rfl (Yld.pure tab_ok rfl) ?_
      refine WL.y rfl (Yld.bload tab_ok (hg.g0 gr1) rfl rfl rfl) ?_
      refine WL.y rfl (Yld.pure tab_ok rfl) ?_
      obtain ⟨h1, H⟩ := H
      refine WL.y rfl (Yld.iaddrK tab_ok (hg_l.grown gr1) rfl rfl hr_g_l.1.symm rfl h1.1 h1.2) ?_
      obtain ⟨⟨f1, ⟨A_el, n1, c_el⟩, ⟨A_el2, n2, c_el2⟩, f2⟩, eh1, ⟨en1, ⟨en2, hR1⟩, ⟨en3, hR2⟩, en4⟩⟩ := RelD.at hr_g_l (0, hd0, hd0, []) (0, [], [], []) (j := i.toNat) (Nat.lt_of_lt_of_eq (iltN h1 hr_g_l.1.symm) hr_g_l.1)
      have en1 : f1 = (g_l.getD i.toNat (0, [], [], [])).1 := en1
      subst en1
      have en2 : n1 = ((g_l.getD i.toNat (0, [], [], [])).2.1).length := en2
      subst en2
      have en3 : n2 = ((g_l.getD i.toNat (0, [], [], [])).2.2.1).length := en3
      subst en3
      have en4 : f2 = (g_l.getD i.toNat (0, [], [], [])).2.2.2 := en4
      subst en4
      refine WL.y rfl (Yld.to (v := .agg ⟨[.int .i64 ((g_l.getD i.toNat (0, [], [], [])).1), .slice A_el (((g_l.getD i.toNat (0, [], [], [])).2.1).length) c_el, .slice A_el2 (((g_l.getD i.toNat (0, [], [], [])).2.2.1).length) c_el2, vs ((g_l.getD i.toNat (0, [], [], [])).2.2.2)]⟩) (Yld.iloadK (0, hd0, hd0, []) tab_ok (hg_l.grown gr1) rfl rfl (iltN h1 hr_g_l.1.symm)) (by rw [eh1]; rfl)) ?_
      refine WL.call rfl rfl (W_graph_copied (hR1.grown gr1) rfl (hR2.grown gr1) rfl H) ?_
      rintro _ w3 ⟨hg3, t25_Tool, t25_Args, A_t25_Args, c_t25_Args, t25_Inputs, A_t25_Inputs, c_t25_Inputs, t25_Output, rfl, ht25_Args, ht25_Inputs, dj1, H⟩
      have hb1 := ht25_Args.ge'
      have k1 := ht25_Args.base (fun g hg => Nat.le_trans (size_le gr1) (hb1 g hg))
      have hb2 := ht25_Inputs.ge'
      have k2 := ht25_Inputs.base (fun g hg => Nat.le_trans (size_le gr1) (hb2 g hg))
      have gr3 := gr_trans gr1 hg3
      have k3 := hB1.g0 hg3
      refine WL.storeW (vs := [.int .i64 t25_Tool, .slice A_t25_Args t25_Args.length c_t25_Args, .slice A_t25_Inputs t25_Inputs.length c_t25_Inputs, vs t25_Output]) tab_ok rfl rfl rfl (all1c rfl (all1c rfl (all1c rfl (all1c rfl all1n)))) k3 rfl rfl (fun w4 hB3 hg4 => ?_)
      have gr4 := gr_mod gr3 hg4 (Ge.le (Ge.box hl1) (Nat.le_refl _))
      have k4 := k1.go hg4 ((Dj.new hB1.lt' hb1).symm)
      have k5 := k2.go hg4 ((Dj.new hB1.lt' hb2).symm)
      refine WL.y rfl (Yld.pure tab_ok rfl) ?_
      refine WL.nil (WX.then_normal ?_)
      refine WC.ret ?_
      exact WX.retct tab_ok rfl rfl rfl hB3 rfl rfl ⟨gr4, t25_Tool, t25_Args, A_t25_Args, c_t25_Args, t25_Inputs, A_t25_Inputs, c_t25_Inputs, t25_Output, true, rfl, k4, k5, dj1, H⟩
  · clear H
    rcases Bool.eq_false_or_eq_true (decide (i < (0 : Int))) with b2 | b2
    · refine WL.gno rfl rfl (okb b2) rfl ?_
      refine WL.gno rfl rfl (okb b2) rfl ?_
      refine WL.gno rfl rfl (okb b2) rfl ?_
      refine WL.gno rfl rfl (okb b2) rfl ?_
      refine WL.gno rfl rfl (okb b2) rfl ?_
      refine WL.gno rfl rfl (okb b2) rfl ?_
      refine WL.gno rfl rfl (okb b2) rfl ?_
      refine WL.y rfl (Yld.pickT (okb b2) rfl) ?_
      exact WL.weaken (by repeat (first | exact Sub.nil | refine Sub.cons rfl ?_)) (hQ _ _ ⟨true, rfl, by rw [b2] <;> rfl, rfl⟩)
    · refine WL.gyes rfl rfl (okb b2) rfl (Yld.pure tab_ok rfl) ?_
      refine WL.gyes rfl rfl (okb b2) rfl (Yld.pure tab_ok rfl) ?_
      refine WL.gyes rfl rfl (okb b2) rfl (Yld.pure tab_ok rfl) ?_
      refine WL.gyes rfl rfl (okb b2) rfl (Yld.pure tab_ok rfl) ?_
      refine WL.gyes rfl rfl (okb b2) rfl (Yld.bload tab_ok (hg.g0 gr1) rfl rfl rfl) ?_
      refine WL.gyes rfl rfl (okb b2) rfl (Yld.pure tab_ok rfl) ?_
      refine WL.gyes rfl rfl (okb b2) rfl (Yld.pure tab_ok rfl) ?_
      refine WL.y rfl (Yld.pickF (okb b2) rfl) ?_
      exact WL.weaken (by repeat (first | exact Sub.nil | refine Sub.cons rfl ?_)) (hQ _ _ ⟨decide ((g_l.length : Int) ≤ i), rfl, by rw [b2] <;> rfl, rfl⟩)

set_option maxHeartbeats 8000000 in
theorem W_pgraph_Graph_Maker {w : World} {g_g : Nat} {g_l : List (Int × List (List UInt8) × List (List UInt8) × List UInt8)} {A_g_l : Option Addr} {c_g_l : Nat} {hs_g_l : List (Int × Hdr × Hdr × List UInt8)} {g_g_makers : Nat} {g_makers : List (List UInt8 × Int)} {g_before : List (List Int)} {A_g_before : Option Addr} {c_g_before : Nat} {hs_g_before : List Hdr} {g_after : List (List Int)} {A_g_after : Option Addr} {c_g_after : Nat} {hs_g_after : List Hdr} {p : List UInt8} {n_g_l : Nat} {n_g_before : Nat} {n_g_after : Nat} {K : Int → Prop} (hg_l : RdK 4 encH43 w A_g_l c_g_l hs_g_l) (hn_g_l : n_g_l = g_l.length) (hr_g_l : RelD de43 w hs_g_l g_l) (hg_makers : MapB vs okS vi w g_g_makers g_makers) (hg_before : Rd vh w A_g_before c_g_before hs_g_before) (hn_g_before : n_g_before = g_before.length) (hr_g_before : RelD de38 w hs_g_before g_before) (hg_after : Rd vh w A_g_after c_g_after hs_g_after) (hn_g_after : n_g_after = g_after.length) (hr_g_after : RelD de38 w hs_g_after g_after) (hg : Bl w g_g 79 [.slice A_g_l n_g_l c_g_l, .map (some g_g_makers), .slice A_g_before n_g_before c_g_before, .slice A_g_after n_g_after c_g_after]) (H : M_pgraph_Graph_Maker g_l g_makers g_before g_after p K) : Fn Tryz.prog 14 ⟨[.pointer (some ⟨g_g, 0, none⟩), vs p]⟩ w (fun v w' => w = w' ∧ ∃ (r : Int), v = .int .i64 r ∧ K r) := by
  subst hn_g_l
  subst hn_g_before
  subst hn_g_after
  unfold M_pgraph_Graph_Maker at H
  refine Fn.enter (by kernel_rfl) Tryz.func14 rfl Tryz.ntmps14 rfl ?_
  replace H := H (by rw [← hr_g_l.1]; exact Nat.le_trans hg_l.cap hg_l.max)
  replace H := H (by rw [← hr_g_before.1]; exact Nat.le_trans hg_before.cap hg_before.max)
  replace H := H (by rw [← hr_g_after.1]; exact Nat.le_trans hg_after.cap hg_after.max)
  refine WC.seq ?_
  refine WC.region ?_
  refine WL.y rfl (Yld.pure tab_ok rfl) ?_
  refine WL.nil (WX.then_normal ?_)
  refine WC.seq ?_
  refine WC.seq ?_
  refine WC.region ?_
  refine WL.y rfl (Yld.pure tab_ok rfl) ?_
  refine WL.y rfl (Yld.pure tab_ok rfl) ?_
  refine WL.y rfl (Yld.pure tab_ok rfl) ?_
  refine WL.y rfl (Yld.bload tab_ok hg rfl rfl rfl) ?_
  refine WL.y rfl (Yld.pure tab_ok rfl) ?_
  obtain ⟨h1, H⟩ := H
  refine WL.y rfl (Yld.lookOk (z := 0) (keyF_s Tryz.underlying9) Tryz.underlying76 (fun _ => by kernel_rfl) hg_makers rfl rfl h1) ?_
  refine WL.y rfl (Yld.pure tab_ok rfl) ?_
  refine WL.y rfl (Yld.pure tab_ok rfl) ?_
  refine WL.y rfl (Yld.pure tab_ok rfl) ?_
  refine WL.y rfl (Yld.pure tab_ok rfl) ?_
  refine WL.y rfl (Yld.pure tab_ok rfl) ?_
  refine WL.nil (WX.then_normal ?_)
  refine WC.seq ?_
  refine WC.region ?_
  refine WL.y rfl (Yld.pure tab_ok rfl) ?_
  refine WL.nil (WX.then_normal ?_)
  refine WC.cond rfl (fun b1 => ?_) (fun b1 => ?_)
  · replace H := H.1 (b1)
    refine WC.seq ?_
    refine WC.region ?_
    refine WL.y rfl (Yld.pure tab_ok rfl) ?_
    refine WL.y rfl (Yld.pure tab_ok rfl) ?_
    refine WL.nil (WX.then_normal ?_)
    refine WC.ret (WX.then_ret ?_)
    exact WX.ret1 rfl rfl ⟨rfl, (mget g_makers p).getD 0, rfl, H⟩
  · replace H := H.2 (b1)
    refine WC.skip (WX.then_normal ?_)
    refine WC.seq ?_
    refine WC.region ?_
    refine WL.y rfl (Yld.pure tab_ok rfl) ?_
    refine WL.nil (WX.then_normal ?_)
    refine WC.ret ?_
    exact WX.ret1 rfl rfl ⟨rfl, (-1 : Int), rfl, H⟩

set_option maxHeartbeats 8000000 in
theorem W_pgraph_Graph_Before {w : World} {g_g : Nat} {g_l : List (Int × List (List UInt8) × List (List UInt8) × List UInt8)} {A_g_l : Option Addr} {c_g_l : Nat} {hs_g_l : List (Int × Hdr × Hdr × List UInt8)} {g_g_makers : Nat} {g_makers : List (List UInt8 × Int)} {g_before : List (List Int)} {A_g_before : Option Addr} {c_g_before : Nat} {hs_g_before : List Hdr} {g_after : List (List Int)} {A_g_after : Option Addr} {c_g_after : Nat} {hs_g_after : List Hdr} {i : Int} {n_g_l : Nat} {n_g_before : Nat} {n_g_after : Nat} {K : (List Int) → Prop} (hg_l : RdK 4 encH43 w A_g_l c_g_l hs_g_l) (hn_g_l : n_g_l = g_l.length) (hr_g_l : RelD de43 w hs_g_l g_l) (hg_makers : MapB vs okS vi w g_g_makers g_makers) (hg_before : Rd vh w A_g_before c_g_before hs_g_before) (hn_g_before : n_g_before = g_before.length) (hr_g_before : RelD de38 w hs_g_before g_before) (hg_after : Rd vh w A_g_after c_g_after hs_g_after) (hn_g_after : n_g_after = g_after.length) (hr_g_after : RelD de38 w hs_g_after g_after) (hg : Bl w g_g 79 [.slice A_g_l n_g_l c_g_l, .map (some g_g_makers), .slice A_g_before n_g_before c_g_before, .slice A_g_after n_g_after c_g_after]) (H : M_pgraph_Graph_Before g_l g_makers g_before g_after i K) : Fn Tryz.prog 15 ⟨[.pointer (some ⟨g_g, 0, none⟩), .int .i64 i]⟩ w (fun v w' => w.grownBy w' none ∧ ∃ (r : List Int), ∃ (A_r : Option Addr), ∃ (c_r : Nat), v = .slice A_r r.length c_r ∧ Own vi w' w.heap.size 3 A_r c_r r ∧ K r) := by
  subst hn_g_l
  subst hn_g_before
  subst hn_g_after
  unfold M_pgraph_Graph_Before at H
  refine Fn.enter (by kernel_rfl) Tryz.func15 rfl Tryz.ntmps15 rfl ?_
  replace H := H (by rw [← hr_g_l.1]; exact Nat.le_trans hg_l.cap hg_l.max)
  replace H := H (by rw [← hr_g_before.1]; exact Nat.le_trans hg_before.cap hg_before.max)
  replace H := H (by rw [← hr_g_after.1]; exact Nat.le_trans hg_after.cap hg_after.max)
  refine WC.seq ?_
  refine WC.region ?_
  refine WL.y rfl (Yld.pure tab_ok rfl) ?_
  refine WL.nil (WX.then_normal ?_)
  refine WC.seq ?_
  refine WC.seq ?_
  refine WC.region ?_
  refine WL.y rfl (Yld.pure tab_ok rfl) ?_
  refine WL.y rfl (Yld.pure tab_ok rfl) ?_
  refine WL.y rfl (Yld.pure tab_ok rfl) ?_
  refine WL.midF 8 (fun L' w' => ∃ q1 : Bool, L' = [(15, .bool q1), (0, .pointer (some ⟨g_g, 0, none⟩)), (1, .int .i64 i)] ∧ ((decide (i < (0 : Int))) || (decide ((g_l.length : Int) ≤ i))) = q1 ∧ w = w') ?_ (fun hQ => ?_)
  · rintro _ _ ⟨q1, rfl, rfl, rfl⟩
    refine WL.nil (WX.then_normal ?_)
    refine WC.cond rfl (fun b1 => ?_) (fun b1 => ?_)
    · replace H := H.1 (b1)
      refine WC.seq ?_
      refine WC.region ?_
      refine WL.y rfl (Yld.pure tab_ok rfl) ?_
      refine WL.nil (WX.then_normal ?_)
      refine WC.ret (WX.then_ret ?_)
      exact WX.ret1 rfl rfl ⟨(gr_refl _ _), [], none, 0, rfl, (Own.nil vi w w.heap.size 3), H⟩
    · replace H := H.2 (b1)
      refine WC.skip (WX.then_normal ?_)
      refine WC.seq ?_
      refine WC.region ?_
      refine WL.y rfl (Yld.pure tab_ok rfl) ?_
      refine WL.y rfl (Yld.pure tab_ok rfl) ?_
      refine WL.y rfl (Yld.pure tab_ok rfl) ?_
      refine WL.y rfl (Yld.bload tab_ok hg rfl rfl rfl) ?_
      refine WL.y rfl (Yld.pure tab_ok rfl) ?_
      obtain ⟨h1, H⟩ := H
      refine WL.y rfl (Yld.iaddrW tab_ok hg_before rfl rfl hr_g_before.1.symm rfl h1.1 h1.2) ?_
      obtain ⟨⟨A_el, n1, c_el⟩, eh1, ⟨en1, hR1⟩⟩ := RelD.at hr_g_before hd0 [] (j := i.toNat) (Nat.lt_of_lt_of_eq (iltN h1 hr_g_before.1.symm) hr_g_before.1)
      have en1 : n1 = (g_before.getD i.toNat []).length := en1
      subst en1
      refine WL.y rfl (Yld.to (v := .slice A_el ((g_before.getD i.toNat []).length) c_el) (Yld.iload hd0 tab_ok hg_before rfl rfl (iltN h1 hr_g_before.1.symm)) (by rw [eh1]; rfl)) ?_
      refine WL.call rfl rfl (W_slices_Clone_int_int hR1 rfl H) ?_
      rintro _ w1 ⟨hg1, t4, A_t4, c_t4, rfl, ht4, H⟩
      have hb1 := ht4.ge'
      have k1 := ht4.base (fun g hg => Nat.le_trans (Nat.le_refl _) (hb1 g hg))
      have gr1 := hg1
      refine WL.y rfl (Yld.pure tab_ok rfl) ?_
      refine WL.nil (WX.then_normal ?_)
      refine WC.ret ?_
      exact WX.ret1 rfl rfl ⟨gr1, t4, A_t4, c_t4, rfl, k1, H⟩
  · clear H
    rcases Bool.eq_false_or_eq_true (decide (i < (0 : Int))) with b2 | b2
    · refine WL.gno rfl rfl (okb b2) rfl ?_
      refine WL.gno rfl rfl (okb b2) rfl ?_
      refine WL.gno rfl rfl (okb b2) rfl ?_
      refine WL.gno rfl rfl (okb b2) rfl ?_
      refine WL.gno rfl rfl (okb b2) rfl ?_
      refine WL.gno rfl rfl (okb b2) rfl ?_
      refine WL.gno rfl rfl (okb b2) rfl ?_
      refine WL.y rfl (Yld.pickT (okb b2) rfl) ?_
      exact WL.weaken (by repeat (first | exact Sub.nil | refine Sub.cons rfl ?_)) (hQ _ _ ⟨true, rfl, by rw [b2] <;> rfl, rfl⟩)
    · refine WL.gyes rfl rfl (okb b2) rfl (Yld.pure tab_ok rfl) ?_
      refine WL.gyes rfl rfl (okb b2) rfl (Yld.pure tab_ok rfl) ?_
      refine WL.gyes rfl rfl (okb b2) rfl (Yld.pure tab_ok rfl) ?_
      refine WL.gyes rfl rfl (okb b2) rfl (Yld.pure tab_ok rfl) ?_
      refine WL.gyes rfl rfl (okb b2) rfl (Yld.bload tab_ok hg rfl rfl rfl) ?_
      refine WL.gyes rfl rfl (okb b2) rfl (Yld.pure tab_ok rfl) ?_
      refine WL.gyes rfl rfl (okb b2) rfl (Yld.pure tab_ok rfl) ?_
      refine WL.y rfl (Yld.pickF (okb b2) rfl) ?_
      exact WL.weaken (by repeat (first | exact Sub.nil | refine Sub.cons rfl ?_)) (hQ _ _ ⟨decide ((g_l.length : Int) ≤ i), rfl, by rw [b2] <;> rfl, rfl⟩)

end Go.Proofs.YtjhipfdbionpoaaGreatDoor

 /- Paths, plainly: cut at slashes, fair parts, what is valid. -/
namespace Go.Proofs.YtjhipfdbionpoaaGreatDoor
open Go Go.RowKit
def cuts : List UInt8 → List (List UInt8)
  | [] => [[]]
  | c :: s => if c = 47 then [] :: cuts s else match cuts s with
    | [] => [[c]]
    | h :: t => (c :: h) :: t
theorem cuts_ne (s : List UInt8) : cuts s ≠ [] := by
  cases s with
  | nil => simp [cuts]
  | cons c s =>
    unfold cuts
    split
    · simp
    · split <;> simp
theorem split_cuts : ∀ s : List UInt8, Lib.split s [47] = cuts s
  | [] => by simp [Lib.split, Lib.count_miss, Lib.index, Lib.splitK, cuts]
  | c :: s => by
    have ih := split_cuts s
    unfold Lib.split at ih ⊢
    by_cases hc : c = 47
    · subst hc
      have hix : Lib.index (47 :: s) [47] = 0 := by rw [Lib.index]; simp [List.isPrefixOf]
      rw [Lib.count_cons_eq, Nat.add_comm, Lib.splitK, if_neg (by rw [hix]; decide), hix]
      simp only [cuts, if_true]
      rw [← ih]
      simp
    · have hp : ([47] : List UInt8).isPrefixOf (c :: s) = false := by simp [List.isPrefixOf, Ne.symm hc]
      have hix : Lib.index (c :: s) [47] = if Lib.index s [47] == -1 then -1 else Lib.index s [47] + 1 := by rw [Lib.index, hp]; simp
      rw [Lib.count_cons_ne c 47 s hc]
      simp only [cuts, if_neg hc]
      rw [← ih]
      cases hk : Lib.count s [47] with
      | zero => simp [Lib.splitK]
      | succ k =>
        have hne : Lib.index s [47] ≠ -1 := fun e => by rw [Lib.count_miss e] at hk; cases hk
        have hge := Lib.index_ge s [47]
        obtain ⟨j, hj⟩ : ∃ j : Nat, Lib.index s [47] = j := ⟨(Lib.index s [47]).toNat, by omega⟩
        have hix' : Lib.index (c :: s) [47] = ((j + 1 : Nat) : Int) := by rw [hix, if_neg (fun e => hne (beq_iff_eq.1 e)), hj]; omega
        rw [Lib.splitK, Lib.splitK, if_neg (fun e => hne (beq_iff_eq.1 e)), if_neg (by rw [hix']; simp; omega), hix', hj]
        simp
theorem splitL_cuts (s : List UInt8) : splitL [47] s = cuts s := split_cuts s
theorem cuts_length (s : List UInt8) : (cuts s).length ≤ s.length + 1 := by
  induction s with
  | nil => simp [cuts]
  | cons c s ih =>
    unfold cuts
    split
    · simp; omega
    · split
      · simp
      · rename_i h t e; rw [e] at ih; simp at ih ⊢; omega
theorem split_M {s : List UInt8} {K : List (List UInt8) → Prop} (hs : s.length ≤ 4000000000) (h : K (cuts s)) : M_strings_Split s [47] K :=
  ⟨by omega, by simp, by rw [splitL_cuts]; exact h⟩
/-- a byte that may be in a part -/
def letB (c : UInt8) : Bool := (((decide (48 ≤ c.toNat) && decide (c.toNat ≤ 57)) || (decide (65 ≤ c.toNat) && decide (c.toNat ≤ 90))) || (decide (97 ≤ c.toNat) && decide (c.toNat ≤ 122))) || ([33, 35, 37, 43, 44, 45, 46, 61, 64, 95, 126] : List UInt8).contains c
theorem indexByte_contains (l : List UInt8) (c : UInt8) : decide (0 ≤ Lib.indexByte l c) = l.contains c := by
  induction l with
  | nil => simp [Lib.indexByte]
  | cons b l ih =>
    unfold Lib.indexByte
    by_cases h : b = c
    · subst h; simp
    · have hge := Lib.indexByte_ge l c
      rw [if_neg (by simpa using h)]
      have hc : (b :: l).contains c = l.contains c := by simp [Ne.symm h]
      rw [hc, ← ih]
      by_cases h1 : Lib.indexByte l c = -1
      · rw [if_pos (by simpa using h1), h1]
      · rw [if_neg (by simpa using h1), decide_eq_decide]; omega
theorem letter_M {c : UInt8} {K : Bool → Prop} (h : K (letB c)) : M_path_letter (c.toNat : Int) K := by
  have e : ((((decide ((48 : Int) ≤ (c.toNat : Int))) && (decide ((c.toNat : Int) ≤ (57 : Int)))) || ((decide ((65 : Int) ≤ (c.toNat : Int))) && (decide ((c.toNat : Int) ≤ (90 : Int))))) || ((decide ((97 : Int) ≤ (c.toNat : Int))) && (decide ((c.toNat : Int) ≤ (122 : Int))))) = (((decide (48 ≤ c.toNat) && decide (c.toNat ≤ 57)) || (decide (65 ≤ c.toNat) && decide (c.toNat ≤ 90))) || (decide (97 ≤ c.toNat) && decide (c.toNat ≤ 122))) := by
    have d : ∀ a b : Nat, decide ((a : Int) ≤ (b : Int)) = decide (a ≤ b) := fun a b => by rw [decide_eq_decide]; omega
    have d1 : decide ((48 : Int) ≤ (c.toNat : Int)) = decide (48 ≤ c.toNat) := d 48 c.toNat
    have d2 : decide ((c.toNat : Int) ≤ (57 : Int)) = decide (c.toNat ≤ 57) := d c.toNat 57
    have d3 : decide ((65 : Int) ≤ (c.toNat : Int)) = decide (65 ≤ c.toNat) := d 65 c.toNat
    have d4 : decide ((c.toNat : Int) ≤ (90 : Int)) = decide (c.toNat ≤ 90) := d c.toNat 90
    have d5 : decide ((97 : Int) ≤ (c.toNat : Int)) = decide (97 ≤ c.toNat) := d 97 c.toNat
    have d6 : decide ((c.toNat : Int) ≤ (122 : Int)) = decide (c.toNat ≤ 122) := d c.toNat 122
    rw [d1, d2, d3, d4, d5, d6]
  unfold M_path_letter
  rw [e]
  unfold letB at h
  refine ⟨fun h1 => ?_, fun h1 => ?_⟩
  · rw [h1] at h; exact h
  · rw [h1, Bool.false_or] at h
    unfold M_strings_IndexByte
    rw [show ((c.toNat : Int).toNat.toUInt8) = c by simp]
    show K (decide (0 ≤ Lib.indexByte _ _))
    rw [indexByte_contains]
    exact h
def dotsB (s : List UInt8) : Bool := (decide (s = []) || decide (s = [46])) || decide (s = [46, 46])
def fairB (s : List UInt8) : Bool := s.all letB && !dotsB s
theorem take_all_succ {p : UInt8 → Bool} {s : List UInt8} {k : Nat} (h : (s.take k).all p = true) (hk : k < s.length) (hp : p (s.getD k 0) = true) : (s.take (k + 1)).all p = true := by
  rw [List.take_succ_eq_append_getElem hk, List.all_append, h]
  simpa [List.getD, hk] using hp
theorem fair_M {s : List UInt8} {K : Bool → Prop} (hs : s.length ≤ 4000000000) (h : K (fairB s)) : M_path_fair s K := by
  unfold M_path_fair
  refine ⟨fun i => ∃ k : Nat, i = k ∧ k ≤ s.length ∧ (s.take k).all letB = true, fun i => (s.length - i.toNat), ⟨0, rfl, by omega, by simp⟩, ?_⟩
  rintro _ ⟨k, rfl, hk, hall⟩
  refine ⟨fun hlt => ⟨by omega, letter_M ?_⟩, fun hge => ?_⟩
  · have hk' : k < s.length := by omega
    rw [Int.toNat_natCast]
    cases hl : letB (s.getD k 0) with
    | false =>
      refine ⟨fun _ => ?_, fun h1 => by simp at h1⟩
      have : s.all letB = false := by
        rw [List.all_eq_false]
        exact ⟨s.getD k 0, by simp [List.getD, hk'], by rw [hl]; simp⟩
      unfold fairB at h
      rw [this] at h
      exact h
    | true => exact ⟨fun h1 => by simp at h1, fun _ => ⟨by simp only [In]; omega, ⟨k + 1, by omega, by omega, take_all_succ hall hk' hl⟩, by dsimp only; omega⟩⟩
  · obtain rfl : k = s.length := by omega
    rw [List.take_length] at hall
    unfold fairB at h
    rw [hall, Bool.true_and] at h
    exact h
def validB (p : List UInt8) : Bool := decide (p.length ≤ 200) && (cuts p).all fairB
theorem cuts_part {s x : List UInt8} (h : x ∈ cuts s) : x.length ≤ s.length := by
  induction s generalizing x with
  | nil => simp [cuts] at h; subst h; simp
  | cons c s ih =>
    unfold cuts at h
    split at h
    · rcases List.mem_cons.1 h with rfl | h
      · simp
      · have := ih h; simp; omega
    · split at h
      · rename_i e; exact absurd e (cuts_ne s)
      · rename_i y t e
        rcases List.mem_cons.1 h with rfl | h
        · have := ih (x := y) (by rw [e]; simp); simp; omega
        · have := ih (x := x) (by rw [e]; simp [h]); simp; omega
theorem getD_mem {α : Type} {l : List α} {k : Nat} {d : α} (h : k < l.length) : l.getD k d ∈ l := by
  simp [List.getD, h]
theorem valid_M {p : List UInt8} {K : Bool → Prop} (hp : p.length ≤ 4000000000) (h : K (validB p)) : M_path_Valid p K := by
  unfold M_path_Valid
  unfold validB at h
  refine ⟨fun h1 => ?_, fun h1 => split_M hp ?_⟩
  · rw [decide_eq_false (by omega : ¬ p.length ≤ 200)] at h; exact h
  rw [decide_eq_true (by omega : p.length ≤ 200), Bool.true_and] at h
  refine ⟨fun i => ∃ k : Nat, i = k ∧ k ≤ (cuts p).length ∧ ((cuts p).take k).all fairB = true, fun i => ((cuts p).length - i.toNat), ⟨0, rfl, by omega, by simp⟩, ?_⟩
  have hcl := cuts_length p
  rintro _ ⟨k, rfl, hk, hall⟩
  refine ⟨fun hlt => ⟨by omega, ?_⟩, fun hge => ?_⟩
  · have hk' : k < (cuts p).length := by omega
    rw [Int.toNat_natCast]
    have hm : (cuts p).getD k [] ∈ cuts p := getD_mem hk'
    have hx := cuts_part hm
    refine fair_M (by omega) ?_
    cases hl : fairB ((cuts p).getD k []) with
    | false =>
      refine ⟨fun _ => ?_, fun h1 => by simp at h1⟩
      have : (cuts p).all fairB = false := by
        rw [List.all_eq_false]
        exact ⟨_, hm, by rw [hl]; simp⟩
      rw [this] at h
      exact h
    | true =>
      refine ⟨fun h1 => by simp at h1, fun _ => ⟨by simp only [In]; omega, ⟨k + 1, by omega, by omega, ?_⟩, by dsimp only; omega⟩⟩
      rw [List.take_succ_eq_append_getElem hk', List.all_append, hall]
      simpa [List.getD, hk'] using hl
  · obtain rfl : k = (cuts p).length := by omega
    rw [List.take_length] at hall
    rw [hall] at h
    exact h
end Go.Proofs.YtjhipfdbionpoaaGreatDoor


 /- Patterns, plainly: one table for bytes and for parts. -/
namespace Go.Proofs.YtjhipfdbionpoaaGreatDoor
open Go Go.RowKit
section
variable (star : Nat → Bool) (eq : Nat → Nat → Bool) (i j : Nat)
end
def bt (p : List UInt8) (i : Nat) : UInt8 := p.getD i 0
end Go.Proofs.YtjhipfdbionpoaaGreatDoor


 /- Paths, plainly: clean, match. -/
namespace Go.Proofs.YtjhipfdbionpoaaGreatDoor
open Go Go.RowKit
end Go.Proofs.YtjhipfdbionpoaaGreatDoor


 /- tool.joined: texts, with one between, and one behind each; its first half began as_ what the generator prints. -/
namespace Go.Proofs.YtjhipfdbionpoaaGreatDoor
open Go Go.RowKit
def jnE (by_ end_ : List UInt8) : Bool → List (List UInt8) → List UInt8
  | _, [] => []
  | first, x :: l => (if first = true then [] else by_) ++ x ++ end_ ++ jnE by_ end_ false l
def joinE (l : List (List UInt8)) (by_ end_ : List UInt8) : List UInt8 := jnE by_ end_ true l
theorem jnE_snoc (by_ end_ : List UInt8) : ∀ (l : List (List UInt8)) (x : List UInt8) (b : Bool), jnE by_ end_ b (l ++ [x]) = jnE by_ end_ b l ++ ((if b = true ∧ l = [] then [] else by_) ++ x ++ end_)
  | [], x, b => by cases b <;> simp [jnE]
  | y :: l, x, b => by
    have ih := jnE_snoc by_ end_ l x false
    simp only [List.cons_append, jnE, ih]
    simp
theorem joinE_take {l : List (List UInt8)} {i : Nat} (h : i < l.length) (by_ end_ : List UInt8) : joinE (l.take (i + 1)) by_ end_ = joinE (l.take i) by_ end_ ++ ((if i = 0 then [] else by_) ++ l.getD i [] ++ end_) := by
  unfold joinE
  rw [List.take_succ_eq_append_getElem h, jnE_snoc]
  have e : l.getD i [] = l[i] := by simp [List.getD, h]
  rw [e]
  by_cases h0 : i = 0
  · subst h0; simp
  · rw [if_neg h0, if_neg]
    rintro ⟨_, h2⟩
    have := congrArg List.length h2
    rw [List.length_take, List.length_nil] at this
    omega
theorem joinE_le (l : List (List UInt8)) (i : Nat) (by_ end_ : List UInt8) : (joinE (l.take i) by_ end_).length ≤ (joinE l by_ end_).length := by
  have step : ∀ k, i ≤ l.length → i + k ≤ l.length → (joinE (l.take i) by_ end_).length ≤ (joinE (l.take (i + k)) by_ end_).length := by
    intro k h1
    induction k with
    | zero => intro _; exact Nat.le_refl _
    | succ k ih =>
      intro h2
      have := ih (by omega)
      rw [← Nat.add_assoc, joinE_take (by omega), List.length_append]
      omega
  rcases Nat.lt_or_ge l.length i with h | h
  · rw [List.take_of_length_le (by omega)]; exact Nat.le_refl _
  · have := step (l.length - i) h (by omega)
    rw [show i + (l.length - i) = l.length by omega, List.take_length] at this
    exact this
/-! the library's builder, laid at this program -/
def bldRen : Go.Shelf.Ren := ⟨fun | 166 => 138 | 240 => 165 | 276 => 181 | n => n, fun | 0 => 0 | 3 => 3 | 4 => 4 | 9 => 9 | 20 => 20 | 37 => 112 | 70 => 182 | 72 => 184 | 75 => 29 | 164 => 222 | 5 => 5 | 80 => 187 | n => n, fun | n => n⟩
theorem bldLays : Go.Proofs.Lays.n166 Tryz.prog bldRen where
  mixed := by kernel_rfl
  f166 := Tryz.func138.trans (congrArg some (by kernel_rfl))
  f240 := Tryz.func165.trans (congrArg some (by kernel_rfl))
  f276 := Tryz.func181.trans (congrArg some (by kernel_rfl))
  t0 := Tryz.underlying0
  a0 := Tryz.isAgg0
  z0 := Tryz.sizeOf0
  v0 := Tryz.zeroValue0
  t3 := Tryz.underlying3
  a3 := Tryz.isAgg3
  z3 := Tryz.sizeOf3
  v3 := Tryz.zeroValue3
  t4 := Tryz.underlying4
  a4 := Tryz.isAgg4
  z4 := Tryz.sizeOf4
  v4 := Tryz.zeroValue4
  t9 := Tryz.underlying9
  a9 := Tryz.isAgg9
  z9 := Tryz.sizeOf9
  v9 := Tryz.zeroValue9
  t20 := Tryz.underlying20
  a20 := Tryz.isAgg20
  z20 := Tryz.sizeOf20
  v20 := Tryz.zeroValue20
  t37 := Tryz.underlying112
  a37 := Tryz.isAgg112
  z37 := Tryz.sizeOf112
  v37 := Tryz.zeroValue112
  t70 := Tryz.underlying182
  a70 := Tryz.isAgg182
  z70 := Tryz.sizeOf182
  v70 := Tryz.zeroValue182
  t72 := Tryz.underlying184
  a72 := Tryz.isAgg184
  z72 := Tryz.sizeOf184
  v72 := Tryz.zeroValue184
  t75 := Tryz.underlying29
  a75 := Tryz.isAgg29
  z75 := Tryz.sizeOf29
  v75 := Tryz.zeroValue29
  t164 := Tryz.underlying222
  a164 := Tryz.isAgg222
  z164 := Tryz.sizeOf222
  v164 := Tryz.zeroValue222
theorem bldExtra : Go.Proofs.Builder.Extra Tryz.prog bldRen where
  sizeBuilder := by kernel_rfl
  liesBuilder := by kernel_rfl
  t5 := Tryz.underlying5
  a5 := Tryz.isAgg5
  z5 := Tryz.sizeOf5
  v5 := Tryz.zeroValue5
  infoByte := by kernel_rfl
  cellsByte := by kernel_rfl
  sizeByte := by kernel_rfl
  neB5 := by decide
/-! a strings.Builder in a block of its own -/
def IsB (w : World) (B g : Nat) (b : List UInt8) : Prop := Lib.IsBuilder 184 5 B g (Lib.byteCells b) w
theorem IsB.heap {w w1 : World} {B g : Nat} {b : List UInt8} (h : IsB w B g b) (e : w1.heap = w.heap) : IsB w1 B g b := by
  unfold IsB Lib.IsBuilder Lib.BuilderAt World.ownsRow at *
  rw [e]
  exact h
theorem below_left {B : Nat} {a b c : World} (e : Eqv a b) (h : Below B b c) : Below B a c := ⟨h.os.trans e.os, h.tape.trans e.tape, h.output.trans e.output, by have := h.size; rw [e.heap] at this; exact this, fun i hi => by have := h.block i hi; rw [e.heap] at this; exact this⟩
theorem IsB.new {w : World} {B g : Nat} (h : Bl w g 184 [.pointer none, .slice none 0 0]) (hB : B ≤ g) : IsB w B g [] := .inl ⟨hB, _, h, ⟨rfl, .inl ⟨rfl, rfl⟩⟩, by simp [Value.ownBlock]⟩
theorem wstr_fn (B g : Nat) (b s : List UInt8) (w : World) (h : IsB w B g b) (hlen : b.length + s.length ≤ 140737488355328) (hB : B ≤ w.heap.size) : Fn Tryz.prog 138 ⟨[.pointer (some ⟨g, 0, none⟩), vs s]⟩ w fun _ w' => IsB w' B g (b ++ s) ∧ Below B w w' :=
  ⟨by kernel_rfl, fun w1 e => (Any.Builder_WriteString bldLays bldExtra B g (Lib.byteCells b) ⟨⟨s⟩⟩ w1 (h.heap e.heap) (by rw [Lib.byteCells_length]; exact hlen) (by rw [e.heap]; exact hB)).mono fun _ w' ⟨he, hb, hbl⟩ => ⟨_, w', he, Eqv.refl _, .inr (by
    have : Lib.byteCells (b ++ s) = Lib.byteCells b ++ Lib.strCells ⟨⟨s⟩⟩ := by simp [Lib.byteCells, Lib.strCells]
    rw [this]; exact hb), below_left e hbl⟩⟩
theorem bstr_fn (B g : Nat) (b : List UInt8) (w : World) (h : IsB w B g b) (hB : B ≤ w.heap.size) : Fn Tryz.prog 139 ⟨[.pointer (some ⟨g, 0, none⟩)]⟩ w fun v w' => v = vs b ∧ Below B w w' :=
  ⟨by kernel_rfl, fun w1 e => (Tryz.Builder_String_any B g b w1 (h.heap e.heap) (by rw [e.heap]; exact hB)).mono fun _ w' ⟨he, hbl⟩ => ⟨_, w', he, Eqv.refl _, rfl, below_left e hbl⟩⟩
attribute [local irreducible] WL WC WX WQ WK WJ Yld Eff Ef0 Fn
def M_tool_joined (l : List (List UInt8)) (by_ : List UInt8) (end_ : List UInt8) (K : (List UInt8) → Er → Prop) : Prop :=
 (l.length ≤ maxLen →
 Lp2 (fun (n : Int) (t16 : Int) k_1 => ((t16 < (l.length : Int) → (0 ≤ t16 ∧ t16 < (l.length : Nat)) ∧
 ∃ J1 : Int → Prop, ((((0 : Int) < t16 → (In .i64 (n + (by_.length : Int))) ∧
 J1 (n + (by_.length : Int))) ∧
 (¬ ((0 : Int) < t16) → J1 n))) ∧
 (∀ n2 : Int, J1 n2 → (In .i64 (((l.getD t16.toNat []).length : Int) + (end_.length : Int))) ∧
 (In .i64 (n2 + (((l.getD t16.toNat []).length : Int) + (end_.length : Int)))) ∧
 (((65536 : Int) < (n2 + (((l.getD t16.toNat []).length : Int) + (end_.length : Int))) → K ([] : List UInt8) (Er.e 16)) ∧
 (¬ ((65536 : Int) < (n2 + (((l.getD t16.toNat []).length : Int) + (end_.length : Int)))) → (In .i64 (t16 + (1 : Int))) ∧
 k_1 (n2 + (((l.getD t16.toNat []).length : Int) + (end_.length : Int))) (t16 + (1 : Int)))))) ∧
 (¬ (t16 < (l.length : Int)) → (joinE l by_ end_).length ≤ 1000000000 ∧ K (joinE l by_ end_) .ok))) (0 : Int) (0 : Int))

set_option maxHeartbeats 8000000 in
theorem W_tool_joined {S : List Nat} {w : World} {l : List (List UInt8)} {A_l : Option Addr} {c_l : Nat} {by_ : List UInt8} {end_ : List UInt8} {n_l : Nat} {K : (List UInt8) → Er → Prop} (hG : GOK S w) (hS16 : 16 ∈ S) (hl : Rd vs w A_l c_l l) (hn_l : n_l = l.length) (H : M_tool_joined l by_ end_ K) : Fn Tryz.prog 100 ⟨[.slice A_l n_l c_l, vs by_, vs end_]⟩ w (fun v w' => w.grownBy w' none ∧ ∃ (r0 : List UInt8), ∃ (v_r1 : Value), ∃ (r1 : Er), v = .tuple #[vs r0, v_r1] ∧ ErrR S w' v_r1 r1 ∧ K r0 r1) := by
  subst hn_l
  unfold M_tool_joined at H
  refine Fn.enter (by kernel_rfl) Tryz.func100 rfl Tryz.ntmps100 rfl ?_
  replace H := H (Nat.le_trans hl.cap hl.max)
  refine WC.seq ?_
  refine WC.region ?_
  refine WL.y rfl (Yld.pure tab_ok rfl) ?_
  refine WL.y rfl (Yld.pure tab_ok rfl) ?_
  refine WL.nil (WX.then_normal ?_)
  refine WC.seq ?_
  refine WC.region ?_
  refine WL.y rfl (Yld.pure tab_ok rfl) ?_
  refine WL.nil (WX.then_normal ?_)
  refine WC.seq ?_
  refine WC.seq ?_
  refine WC.region ?_
  refine WL.y rfl (Yld.pure tab_ok rfl) ?_
  refine WL.y rfl (Yld.pure tab_ok rfl) ?_
  refine WL.y rfl (Yld.pure tab_ok rfl) ?_
  refine WL.nil (WX.then_normal ?_)
  refine WC.block ?_
  obtain ⟨I1, mu1, h0_1, HR1⟩ := H
  refine WC.loopF (fun n' L' w' => ∃ (n : Int), ∃ (t16 : Int), n' = mu1 n t16 ∧ L' = [(0, .slice A_l l.length c_l), (1, vs by_), (2, vs end_), (8, .int .i64 n), (14, .slice A_l l.length c_l), (15, .int .i64 (l.length : Int)), (16, .int .i64 t16)] ∧ I1 n t16 ∧ w = w') _ _ ⟨(0 : Int), (0 : Int), rfl, rfl, h0_1, rfl⟩ (by repeat (first | exact Sub.nil | refine Sub.cons rfl ?_)) ?_
  clear h0_1
  rintro _ _ _ ⟨n, t16, rfl, rfl, hI1, rfl⟩
  have H := HR1 n t16 hI1
  refine WC.seq ?_
  refine WC.region ?_
  refine WL.y rfl (Yld.pure tab_ok rfl) ?_
  refine WL.nil (WX.then_normal ?_)
  refine WC.seq ?_
  refine WC.cond rfl (fun b1 => ?_) (fun b1 => ?_)
  · replace H := H.1 (of_decide_eq_true b1)
    refine WC.skip (WX.then_normal ?_)
    refine WC.seq ?_
    refine WC.block ?_
    refine WC.seq ?_
    refine WC.region ?_
    refine WL.y rfl (Yld.pure tab_ok rfl) ?_
    obtain ⟨h1, H⟩ := H
    refine WL.y rfl (Yld.iaddrW tab_ok hl rfl rfl rfl rfl h1.1 h1.2) ?_
    refine WL.y rfl (Yld.iload [] tab_ok hl rfl rfl (iltN h1 rfl)) ?_
    refine WL.y rfl (Yld.pure tab_ok rfl) ?_
    refine WL.y rfl (Yld.pure tab_ok rfl) ?_
    refine WL.nil (WX.then_normal ?_)
    refine WC.seq ?_
    obtain ⟨J1, H, hJ1⟩ := H
    refine WC.midF (fun L' w' => ∃ (n2 : Int), L' = [(0, .slice A_l l.length c_l), (1, vs by_), (2, vs end_), (8, .int .i64 n2), (10, vs (l.getD t16.toNat [])), (14, .slice A_l l.length c_l), (15, .int .i64 (l.length : Int)), (16, .int .i64 t16)] ∧ J1 n2 ∧ w = w') ?_ (fun hQ => ?_)
    · clear H
      rintro _ _ ⟨n2, rfl, H, rfl⟩
      replace H := hJ1 n2 H
      refine WX.then_normal ?_
      refine WC.seq ?_
      refine WC.region ?_
      refine WL.y rfl (Yld.pure tab_ok rfl) ?_
      refine WL.y rfl (Yld.pure tab_ok rfl) ?_
      refine WL.y rfl (Yld.pure tab_ok rfl) ?_
      refine WL.y rfl (Yld.pure tab_ok rfl) ?_
      refine WL.y rfl (Yld.pure tab_ok rfl) ?_
      obtain ⟨h2, H⟩ := H
      refine WL.y rfl (Yld.add rfl rfl h2) ?_
      obtain ⟨h3, H⟩ := H
      refine WL.y rfl (Yld.add rfl rfl h3) ?_
      refine WL.y rfl (Yld.pure tab_ok rfl) ?_
      refine WL.nil (WX.then_normal ?_)
      refine WC.seq ?_
      refine WC.region ?_
      refine WL.y rfl (Yld.pure tab_ok rfl) ?_
      refine WL.y rfl (Yld.pure tab_ok rfl) ?_
      refine WL.nil (WX.then_normal ?_)
      refine WC.cond rfl (fun b2 => ?_) (fun b2 => ?_)
      · replace H := H.1 (of_decide_eq_true b2)
        refine WC.seq ?_
        refine WC.quiet mixed (by kernel_rfl) ?_
        obtain ⟨vE1, _, hE1⟩ := GOK.get hG 16 5 hS16 rfl rfl
        refine WQ.y rfl (Yld.cell tab_ok (ErrR.cell hE1 rfl) rfl rfl) ?_
        refine WQ.y rfl (Yld.pure tab_ok rfl) ?_
        refine WQ.y rfl (Yld.pure tab_ok rfl) ?_
        refine WQ.nil (WX.then_normal ?_)
        refine WC.ret (WX.block_ret (WX.then_ret (WX.then_ret (WX.block_ret (WX.then_ret ?_)))))
        exact WX.ret2 rfl rfl rfl ⟨(gr_refl _ _), ([] : List UInt8), vE1, (Er.e 16), rfl, hE1, H⟩
      · replace H := H.2 (of_decide_eq_false b2)
        refine WC.skip (WX.block_normal (WX.then_normal ?_))
        refine WC.region ?_
        obtain ⟨h4, H⟩ := H
        refine WL.y rfl (Yld.add rfl rfl h4) ?_
        refine WL.y rfl (Yld.pure tab_ok rfl) ?_
        refine WL.nil ?_
        exact WX.roundF _ ⟨n2 + (((l.getD t16.toNat []).length : Int) + (end_.length : Int)), t16 + (1 : Int), rfl, rfl, H.1, rfl⟩ (by repeat (first | exact Sub.nil | refine Sub.cons rfl ?_)) H.2
    · clear hJ1
      refine WC.seq ?_
      refine WC.region ?_
      refine WL.y rfl (Yld.pure tab_ok rfl) ?_
      refine WL.y rfl (Yld.pure tab_ok rfl) ?_
      refine WL.nil (WX.then_normal ?_)
      refine WC.cond rfl (fun b3 => ?_) (fun b3 => ?_)
      · replace H := H.1 (of_decide_eq_true b3)
        refine WC.region ?_
        refine WL.y rfl (Yld.pure tab_ok rfl) ?_
        refine WL.y rfl (Yld.pure tab_ok rfl) ?_
        refine WL.y rfl (Yld.pure tab_ok rfl) ?_
        obtain ⟨h5, H⟩ := H
        refine WL.y rfl (Yld.add rfl rfl h5) ?_
        refine WL.y rfl (Yld.pure tab_ok rfl) ?_
        refine WL.nil ?_
        exact WX.weaken (by repeat (first | exact Sub.nil | refine Sub.cons rfl ?_)) (hQ _ _ ⟨n + (by_.length : Int), rfl, H, rfl⟩)
      · replace H := H.2 (of_decide_eq_false b3)
        refine WC.skip ?_
        exact WX.weaken (by repeat (first | exact Sub.nil | refine Sub.cons rfl ?_)) (hQ _ _ ⟨n, rfl, H, rfl⟩)
  · replace H := H.2 (of_decide_eq_false b1)
    refine WC.exit (WX.then_exit (WX.then_exit (WX.block_same (WX.then_normal ?_))))
    refine WC.seq ?_
    refine WC.region ?_
    have hmx := Nat.le_trans hl.cap hl.max
    simp only [maxLen] at hmx
    refine WL.alloc rfl zero184 (fun g w1 hB1 hg1 hl1 => ?_)
    refine WL.nil (WX.then_normal ?_)
    refine WC.seq ?_
    refine WC.seq ?_
    refine WC.region ?_
    repeat (first | refine WC.seq ?_ | refine WC.block ?_ | refine WC.region ?_ | refine WL.nil ?_ | refine WX.then_normal ?_ | refine WC.skip ?_ | refine WC.exit ?_ | refine WC.ret ?_ | refine WX.then_exit ?_ | refine WX.then_ret ?_ | refine WX.block_normal ?_ | refine WX.block_ret ?_ | refine WX.block_same ?_ | refine WX.block_other rfl ?_ | refine WC.label ?_ | refine WC.scope ?_ | refine WX.scope_normal ?_ | refine WX.scope_ret ?_ | refine WX.scope_exit ?_ | refine WL.y rfl (Yld.add rfl rfl (by simp only [In]; omega)) ?_ | refine WL.y rfl (Yld.sub rfl rfl (by simp only [In]; omega)) ?_ | refine WL.y rfl (Yld.mul rfl rfl (by simp only [In]; omega)) ?_ | refine WL.y rfl (Yld.convB tab_ok rfl rfl rfl rfl) ?_ | refine WL.y rfl (Yld.conv tab_ok rfl rfl rfl (by simp only [In]; omega)) ?_ | refine WL.y rfl (Yld.quo rfl rfl (by omega) (by omega) (by simp only [In]; omega)) ?_ | refine WL.y rfl (Yld.rem rfl rfl (by omega) (by omega)) ?_ | refine WL.y rfl (Yld.shl rfl rfl (by omega)) ?_ | refine WL.y rfl (Yld.shr rfl rfl (by omega)) ?_ | refine WL.y rfl (Yld.pure tab_ok rfl) ?_ | refine WL.y rfl (Yld.fld flds_ok rfl rfl rfl) ?_ | refine WL.y rfl (Yld.max2 rfl rfl) ?_ | refine WL.y rfl (Yld.min2 rfl rfl) ?_ | refine WL.y rfl (Yld.pickV rfl rfl rfl) ?_ | refine WL.gno rfl rfl rfl rfl ?_ | refine WL.gyes rfl rfl rfl rfl (Yld.add rfl rfl (by simp only [In]; omega)) ?_ | refine WL.gyes rfl rfl rfl rfl (Yld.sub rfl rfl (by simp only [In]; omega)) ?_ | refine WL.gyes rfl rfl rfl rfl (Yld.mul rfl rfl (by simp only [In]; omega)) ?_ | refine WL.gyes rfl rfl rfl rfl (Yld.convB tab_ok rfl rfl rfl rfl) ?_ | refine WL.gyes rfl rfl rfl rfl (Yld.conv tab_ok rfl rfl rfl (by simp only [In]; omega)) ?_ | refine WL.gyes rfl rfl rfl rfl (Yld.quo rfl rfl (by omega) (by omega) (by simp only [In]; omega)) ?_ | refine WL.gyes rfl rfl rfl rfl (Yld.rem rfl rfl (by omega) (by omega)) ?_ | refine WL.gyes rfl rfl rfl rfl (Yld.shl rfl rfl (by omega)) ?_ | refine WL.gyes rfl rfl rfl rfl (Yld.shr rfl rfl (by omega)) ?_ | refine WL.gyes rfl rfl rfl rfl (Yld.pure tab_ok rfl) ?_ | refine WL.gyes rfl rfl rfl rfl (Yld.fld flds_ok rfl rfl rfl) ?_ | refine WL.gyes rfl rfl rfl rfl (Yld.max2 rfl rfl) ?_ | refine WL.gyes rfl rfl rfl rfl (Yld.min2 rfl rfl) ?_ | refine WL.gyes rfl rfl rfl rfl (Yld.pickV rfl rfl rfl) ?_ | refine WL.gun rfl rfl rfl rfl ?_)
    refine WC.loopF (fun n' L' w' => ∃ i : Nat, n' = l.length - i ∧ L' = [(1, vs by_), (2, vs end_), (11, .pointer (some ⟨g, 0, none⟩)), (38, .slice A_l l.length c_l), (39, .int .i64 (l.length : Int)), (40, .int .i64 (i : Int))] ∧ i ≤ l.length ∧ IsB w' w.heap.size g (joinE (l.take i) by_ end_) ∧ Below w.heap.size w w') _ _ ⟨0, rfl, rfl, by omega, IsB.new hB1 hl1, below_gr hg1⟩ (by repeat (first | exact Sub.nil | refine Sub.cons rfl ?_)) ?_
    rintro _ _ w2 ⟨i, rfl, rfl, hi, hS2, hb2⟩
    have hR2 := hl.grown (gr_below hb2 none)
    have hle := joinE_le l (i + 1) by_ end_
    have hz2 := hb2.size
    repeat (first | refine WC.seq ?_ | refine WC.block ?_ | refine WC.region ?_ | refine WL.nil ?_ | refine WX.then_normal ?_ | refine WC.skip ?_ | refine WC.exit ?_ | refine WC.ret ?_ | refine WX.then_exit ?_ | refine WX.then_ret ?_ | refine WX.block_normal ?_ | refine WX.block_ret ?_ | refine WX.block_same ?_ | refine WX.block_other rfl ?_ | refine WC.label ?_ | refine WC.scope ?_ | refine WX.scope_normal ?_ | refine WX.scope_ret ?_ | refine WX.scope_exit ?_ | refine WL.y rfl (Yld.add rfl rfl (by simp only [In]; omega)) ?_ | refine WL.y rfl (Yld.sub rfl rfl (by simp only [In]; omega)) ?_ | refine WL.y rfl (Yld.mul rfl rfl (by simp only [In]; omega)) ?_ | refine WL.y rfl (Yld.convB tab_ok rfl rfl rfl rfl) ?_ | refine WL.y rfl (Yld.conv tab_ok rfl rfl rfl (by simp only [In]; omega)) ?_ | refine WL.y rfl (Yld.quo rfl rfl (by omega) (by omega) (by simp only [In]; omega)) ?_ | refine WL.y rfl (Yld.rem rfl rfl (by omega) (by omega)) ?_ | refine WL.y rfl (Yld.shl rfl rfl (by omega)) ?_ | refine WL.y rfl (Yld.shr rfl rfl (by omega)) ?_ | refine WL.y rfl (Yld.pure tab_ok rfl) ?_ | refine WL.y rfl (Yld.fld flds_ok rfl rfl rfl) ?_ | refine WL.y rfl (Yld.max2 rfl rfl) ?_ | refine WL.y rfl (Yld.min2 rfl rfl) ?_ | refine WL.y rfl (Yld.pickV rfl rfl rfl) ?_ | refine WL.gno rfl rfl rfl rfl ?_ | refine WL.gyes rfl rfl rfl rfl (Yld.add rfl rfl (by simp only [In]; omega)) ?_ | refine WL.gyes rfl rfl rfl rfl (Yld.sub rfl rfl (by simp only [In]; omega)) ?_ | refine WL.gyes rfl rfl rfl rfl (Yld.mul rfl rfl (by simp only [In]; omega)) ?_ | refine WL.gyes rfl rfl rfl rfl (Yld.convB tab_ok rfl rfl rfl rfl) ?_ | refine WL.gyes rfl rfl rfl rfl (Yld.conv tab_ok rfl rfl rfl (by simp only [In]; omega)) ?_ | refine WL.gyes rfl rfl rfl rfl (Yld.quo rfl rfl (by omega) (by omega) (by simp only [In]; omega)) ?_ | refine WL.gyes rfl rfl rfl rfl (Yld.rem rfl rfl (by omega) (by omega)) ?_ | refine WL.gyes rfl rfl rfl rfl (Yld.shl rfl rfl (by omega)) ?_ | refine WL.gyes rfl rfl rfl rfl (Yld.shr rfl rfl (by omega)) ?_ | refine WL.gyes rfl rfl rfl rfl (Yld.pure tab_ok rfl) ?_ | refine WL.gyes rfl rfl rfl rfl (Yld.fld flds_ok rfl rfl rfl) ?_ | refine WL.gyes rfl rfl rfl rfl (Yld.max2 rfl rfl) ?_ | refine WL.gyes rfl rfl rfl rfl (Yld.min2 rfl rfl) ?_ | refine WL.gyes rfl rfl rfl rfl (Yld.pickV rfl rfl rfl) ?_ | refine WL.gun rfl rfl rfl rfl ?_)
    refine WC.cond rfl (fun h => ?_) (fun h => ?_)
    · simp only [decide_eq_true_eq] at h
      have hlt : i < l.length := by omega
      rw [joinE_take hlt] at hle
      simp only [List.length_append] at hle
      repeat (first | refine WL.y rfl (Yld.iaddrN tab_ok hR2 rfl rfl rfl rfl (by omega)) ?_ | refine WL.y rfl (Yld.iload [] tab_ok hR2 rfl rfl (by omega)) ?_ | refine WC.seq ?_ | refine WC.block ?_ | refine WC.region ?_ | refine WL.nil ?_ | refine WX.then_normal ?_ | refine WC.skip ?_ | refine WC.exit ?_ | refine WC.ret ?_ | refine WX.then_exit ?_ | refine WX.then_ret ?_ | refine WX.block_normal ?_ | refine WX.block_ret ?_ | refine WX.block_same ?_ | refine WX.block_other rfl ?_ | refine WC.label ?_ | refine WC.scope ?_ | refine WX.scope_normal ?_ | refine WX.scope_ret ?_ | refine WX.scope_exit ?_ | refine WL.y rfl (Yld.add rfl rfl (by simp only [In]; omega)) ?_ | refine WL.y rfl (Yld.sub rfl rfl (by simp only [In]; omega)) ?_ | refine WL.y rfl (Yld.mul rfl rfl (by simp only [In]; omega)) ?_ | refine WL.y rfl (Yld.convB tab_ok rfl rfl rfl rfl) ?_ | refine WL.y rfl (Yld.conv tab_ok rfl rfl rfl (by simp only [In]; omega)) ?_ | refine WL.y rfl (Yld.quo rfl rfl (by omega) (by omega) (by simp only [In]; omega)) ?_ | refine WL.y rfl (Yld.rem rfl rfl (by omega) (by omega)) ?_ | refine WL.y rfl (Yld.shl rfl rfl (by omega)) ?_ | refine WL.y rfl (Yld.shr rfl rfl (by omega)) ?_ | refine WL.y rfl (Yld.pure tab_ok rfl) ?_ | refine WL.y rfl (Yld.fld flds_ok rfl rfl rfl) ?_ | refine WL.y rfl (Yld.max2 rfl rfl) ?_ | refine WL.y rfl (Yld.min2 rfl rfl) ?_ | refine WL.y rfl (Yld.pickV rfl rfl rfl) ?_ | refine WL.gno rfl rfl rfl rfl ?_ | refine WL.gyes rfl rfl rfl rfl (Yld.add rfl rfl (by simp only [In]; omega)) ?_ | refine WL.gyes rfl rfl rfl rfl (Yld.sub rfl rfl (by simp only [In]; omega)) ?_ | refine WL.gyes rfl rfl rfl rfl (Yld.mul rfl rfl (by simp only [In]; omega)) ?_ | refine WL.gyes rfl rfl rfl rfl (Yld.convB tab_ok rfl rfl rfl rfl) ?_ | refine WL.gyes rfl rfl rfl rfl (Yld.conv tab_ok rfl rfl rfl (by simp only [In]; omega)) ?_ | refine WL.gyes rfl rfl rfl rfl (Yld.quo rfl rfl (by omega) (by omega) (by simp only [In]; omega)) ?_ | refine WL.gyes rfl rfl rfl rfl (Yld.rem rfl rfl (by omega) (by omega)) ?_ | refine WL.gyes rfl rfl rfl rfl (Yld.shl rfl rfl (by omega)) ?_ | refine WL.gyes rfl rfl rfl rfl (Yld.shr rfl rfl (by omega)) ?_ | refine WL.gyes rfl rfl rfl rfl (Yld.pure tab_ok rfl) ?_ | refine WL.gyes rfl rfl rfl rfl (Yld.fld flds_ok rfl rfl rfl) ?_ | refine WL.gyes rfl rfl rfl rfl (Yld.max2 rfl rfl) ?_ | refine WL.gyes rfl rfl rfl rfl (Yld.min2 rfl rfl) ?_ | refine WL.gyes rfl rfl rfl rfl (Yld.pickV rfl rfl rfl) ?_ | refine WL.gun rfl rfl rfl rfl ?_)
      refine WC.midF (fun L' w' => L' = [(1, vs by_), (2, vs end_), (11, .pointer (some ⟨g, 0, none⟩)), (13, vs (l.getD i [])), (38, .slice A_l l.length c_l), (39, .int .i64 (l.length : Int)), (40, .int .i64 (i : Int))] ∧ IsB w' w.heap.size g (joinE (l.take i) by_ end_ ++ (if i = 0 then [] else by_)) ∧ Below w.heap.size w w') ?_ (fun hQ => ?_)
      · rintro _ w3 ⟨rfl, hS3, hb3⟩
        have hz3 := hb3.size
        repeat (first | refine WC.seq ?_ | refine WC.block ?_ | refine WC.region ?_ | refine WL.nil ?_ | refine WX.then_normal ?_ | refine WC.skip ?_ | refine WC.exit ?_ | refine WC.ret ?_ | refine WX.then_exit ?_ | refine WX.then_ret ?_ | refine WX.block_normal ?_ | refine WX.block_ret ?_ | refine WX.block_same ?_ | refine WX.block_other rfl ?_ | refine WC.label ?_ | refine WC.scope ?_ | refine WX.scope_normal ?_ | refine WX.scope_ret ?_ | refine WX.scope_exit ?_ | refine WL.y rfl (Yld.add rfl rfl (by simp only [In]; omega)) ?_ | refine WL.y rfl (Yld.sub rfl rfl (by simp only [In]; omega)) ?_ | refine WL.y rfl (Yld.mul rfl rfl (by simp only [In]; omega)) ?_ | refine WL.y rfl (Yld.convB tab_ok rfl rfl rfl rfl) ?_ | refine WL.y rfl (Yld.conv tab_ok rfl rfl rfl (by simp only [In]; omega)) ?_ | refine WL.y rfl (Yld.quo rfl rfl (by omega) (by omega) (by simp only [In]; omega)) ?_ | refine WL.y rfl (Yld.rem rfl rfl (by omega) (by omega)) ?_ | refine WL.y rfl (Yld.shl rfl rfl (by omega)) ?_ | refine WL.y rfl (Yld.shr rfl rfl (by omega)) ?_ | refine WL.y rfl (Yld.pure tab_ok rfl) ?_ | refine WL.y rfl (Yld.fld flds_ok rfl rfl rfl) ?_ | refine WL.y rfl (Yld.max2 rfl rfl) ?_ | refine WL.y rfl (Yld.min2 rfl rfl) ?_ | refine WL.y rfl (Yld.pickV rfl rfl rfl) ?_ | refine WL.gno rfl rfl rfl rfl ?_ | refine WL.gyes rfl rfl rfl rfl (Yld.add rfl rfl (by simp only [In]; omega)) ?_ | refine WL.gyes rfl rfl rfl rfl (Yld.sub rfl rfl (by simp only [In]; omega)) ?_ | refine WL.gyes rfl rfl rfl rfl (Yld.mul rfl rfl (by simp only [In]; omega)) ?_ | refine WL.gyes rfl rfl rfl rfl (Yld.convB tab_ok rfl rfl rfl rfl) ?_ | refine WL.gyes rfl rfl rfl rfl (Yld.conv tab_ok rfl rfl rfl (by simp only [In]; omega)) ?_ | refine WL.gyes rfl rfl rfl rfl (Yld.quo rfl rfl (by omega) (by omega) (by simp only [In]; omega)) ?_ | refine WL.gyes rfl rfl rfl rfl (Yld.rem rfl rfl (by omega) (by omega)) ?_ | refine WL.gyes rfl rfl rfl rfl (Yld.shl rfl rfl (by omega)) ?_ | refine WL.gyes rfl rfl rfl rfl (Yld.shr rfl rfl (by omega)) ?_ | refine WL.gyes rfl rfl rfl rfl (Yld.pure tab_ok rfl) ?_ | refine WL.gyes rfl rfl rfl rfl (Yld.fld flds_ok rfl rfl rfl) ?_ | refine WL.gyes rfl rfl rfl rfl (Yld.max2 rfl rfl) ?_ | refine WL.gyes rfl rfl rfl rfl (Yld.min2 rfl rfl) ?_ | refine WL.gyes rfl rfl rfl rfl (Yld.pickV rfl rfl rfl) ?_ | refine WL.gun rfl rfl rfl rfl ?_)
        refine WL.call rfl rfl (wstr_fn _ g _ (l.getD i []) w3 hS3 (by rw [List.length_append]; omega) hz3) ?_
        rintro v4 w4 ⟨hS4, hb4⟩
        have hz4 := hb4.size
        repeat (first | refine WC.seq ?_ | refine WC.block ?_ | refine WC.region ?_ | refine WL.nil ?_ | refine WX.then_normal ?_ | refine WC.skip ?_ | refine WC.exit ?_ | refine WC.ret ?_ | refine WX.then_exit ?_ | refine WX.then_ret ?_ | refine WX.block_normal ?_ | refine WX.block_ret ?_ | refine WX.block_same ?_ | refine WX.block_other rfl ?_ | refine WC.label ?_ | refine WC.scope ?_ | refine WX.scope_normal ?_ | refine WX.scope_ret ?_ | refine WX.scope_exit ?_ | refine WL.y rfl (Yld.add rfl rfl (by simp only [In]; omega)) ?_ | refine WL.y rfl (Yld.sub rfl rfl (by simp only [In]; omega)) ?_ | refine WL.y rfl (Yld.mul rfl rfl (by simp only [In]; omega)) ?_ | refine WL.y rfl (Yld.convB tab_ok rfl rfl rfl rfl) ?_ | refine WL.y rfl (Yld.conv tab_ok rfl rfl rfl (by simp only [In]; omega)) ?_ | refine WL.y rfl (Yld.quo rfl rfl (by omega) (by omega) (by simp only [In]; omega)) ?_ | refine WL.y rfl (Yld.rem rfl rfl (by omega) (by omega)) ?_ | refine WL.y rfl (Yld.shl rfl rfl (by omega)) ?_ | refine WL.y rfl (Yld.shr rfl rfl (by omega)) ?_ | refine WL.y rfl (Yld.pure tab_ok rfl) ?_ | refine WL.y rfl (Yld.fld flds_ok rfl rfl rfl) ?_ | refine WL.y rfl (Yld.max2 rfl rfl) ?_ | refine WL.y rfl (Yld.min2 rfl rfl) ?_ | refine WL.y rfl (Yld.pickV rfl rfl rfl) ?_ | refine WL.gno rfl rfl rfl rfl ?_ | refine WL.gyes rfl rfl rfl rfl (Yld.add rfl rfl (by simp only [In]; omega)) ?_ | refine WL.gyes rfl rfl rfl rfl (Yld.sub rfl rfl (by simp only [In]; omega)) ?_ | refine WL.gyes rfl rfl rfl rfl (Yld.mul rfl rfl (by simp only [In]; omega)) ?_ | refine WL.gyes rfl rfl rfl rfl (Yld.convB tab_ok rfl rfl rfl rfl) ?_ | refine WL.gyes rfl rfl rfl rfl (Yld.conv tab_ok rfl rfl rfl (by simp only [In]; omega)) ?_ | refine WL.gyes rfl rfl rfl rfl (Yld.quo rfl rfl (by omega) (by omega) (by simp only [In]; omega)) ?_ | refine WL.gyes rfl rfl rfl rfl (Yld.rem rfl rfl (by omega) (by omega)) ?_ | refine WL.gyes rfl rfl rfl rfl (Yld.shl rfl rfl (by omega)) ?_ | refine WL.gyes rfl rfl rfl rfl (Yld.shr rfl rfl (by omega)) ?_ | refine WL.gyes rfl rfl rfl rfl (Yld.pure tab_ok rfl) ?_ | refine WL.gyes rfl rfl rfl rfl (Yld.fld flds_ok rfl rfl rfl) ?_ | refine WL.gyes rfl rfl rfl rfl (Yld.max2 rfl rfl) ?_ | refine WL.gyes rfl rfl rfl rfl (Yld.min2 rfl rfl) ?_ | refine WL.gyes rfl rfl rfl rfl (Yld.pickV rfl rfl rfl) ?_ | refine WL.gun rfl rfl rfl rfl ?_)
        refine WL.call rfl rfl (wstr_fn _ g _ end_ w4 hS4 (by rw [List.length_append, List.length_append]; omega) (by omega)) ?_
        rintro v5 w5 ⟨hS5, hb5⟩
        repeat (first | refine WC.seq ?_ | refine WC.block ?_ | refine WC.region ?_ | refine WL.nil ?_ | refine WX.then_normal ?_ | refine WC.skip ?_ | refine WC.exit ?_ | refine WC.ret ?_ | refine WX.then_exit ?_ | refine WX.then_ret ?_ | refine WX.block_normal ?_ | refine WX.block_ret ?_ | refine WX.block_same ?_ | refine WX.block_other rfl ?_ | refine WC.label ?_ | refine WC.scope ?_ | refine WX.scope_normal ?_ | refine WX.scope_ret ?_ | refine WX.scope_exit ?_ | refine WL.y rfl (Yld.add rfl rfl (by simp only [In]; omega)) ?_ | refine WL.y rfl (Yld.sub rfl rfl (by simp only [In]; omega)) ?_ | refine WL.y rfl (Yld.mul rfl rfl (by simp only [In]; omega)) ?_ | refine WL.y rfl (Yld.convB tab_ok rfl rfl rfl rfl) ?_ | refine WL.y rfl (Yld.conv tab_ok rfl rfl rfl (by simp only [In]; omega)) ?_ | refine WL.y rfl (Yld.quo rfl rfl (by omega) (by omega) (by simp only [In]; omega)) ?_ | refine WL.y rfl (Yld.rem rfl rfl (by omega) (by omega)) ?_ | refine WL.y rfl (Yld.shl rfl rfl (by omega)) ?_ | refine WL.y rfl (Yld.shr rfl rfl (by omega)) ?_ | refine WL.y rfl (Yld.pure tab_ok rfl) ?_ | refine WL.y rfl (Yld.fld flds_ok rfl rfl rfl) ?_ | refine WL.y rfl (Yld.max2 rfl rfl) ?_ | refine WL.y rfl (Yld.min2 rfl rfl) ?_ | refine WL.y rfl (Yld.pickV rfl rfl rfl) ?_ | refine WL.gno rfl rfl rfl rfl ?_ | refine WL.gyes rfl rfl rfl rfl (Yld.add rfl rfl (by simp only [In]; omega)) ?_ | refine WL.gyes rfl rfl rfl rfl (Yld.sub rfl rfl (by simp only [In]; omega)) ?_ | refine WL.gyes rfl rfl rfl rfl (Yld.mul rfl rfl (by simp only [In]; omega)) ?_ | refine WL.gyes rfl rfl rfl rfl (Yld.convB tab_ok rfl rfl rfl rfl) ?_ | refine WL.gyes rfl rfl rfl rfl (Yld.conv tab_ok rfl rfl rfl (by simp only [In]; omega)) ?_ | refine WL.gyes rfl rfl rfl rfl (Yld.quo rfl rfl (by omega) (by omega) (by simp only [In]; omega)) ?_ | refine WL.gyes rfl rfl rfl rfl (Yld.rem rfl rfl (by omega) (by omega)) ?_ | refine WL.gyes rfl rfl rfl rfl (Yld.shl rfl rfl (by omega)) ?_ | refine WL.gyes rfl rfl rfl rfl (Yld.shr rfl rfl (by omega)) ?_ | refine WL.gyes rfl rfl rfl rfl (Yld.pure tab_ok rfl) ?_ | refine WL.gyes rfl rfl rfl rfl (Yld.fld flds_ok rfl rfl rfl) ?_ | refine WL.gyes rfl rfl rfl rfl (Yld.max2 rfl rfl) ?_ | refine WL.gyes rfl rfl rfl rfl (Yld.min2 rfl rfl) ?_ | refine WL.gyes rfl rfl rfl rfl (Yld.pickV rfl rfl rfl) ?_ | refine WL.gun rfl rfl rfl rfl ?_)
        refine WX.roundF _ ⟨i + 1, rfl, rfl, by omega, ?_, (hb3.trans hb4).trans hb5⟩ (by repeat (first | exact Sub.nil | refine Sub.cons rfl ?_)) (by omega)
        rw [joinE_take hlt]
        simpa [List.append_assoc] using hS5
      · repeat (first | refine WC.seq ?_ | refine WC.block ?_ | refine WC.region ?_ | refine WL.nil ?_ | refine WX.then_normal ?_ | refine WC.skip ?_ | refine WC.exit ?_ | refine WC.ret ?_ | refine WX.then_exit ?_ | refine WX.then_ret ?_ | refine WX.block_normal ?_ | refine WX.block_ret ?_ | refine WX.block_same ?_ | refine WX.block_other rfl ?_ | refine WC.label ?_ | refine WC.scope ?_ | refine WX.scope_normal ?_ | refine WX.scope_ret ?_ | refine WX.scope_exit ?_ | refine WL.y rfl (Yld.add rfl rfl (by simp only [In]; omega)) ?_ | refine WL.y rfl (Yld.sub rfl rfl (by simp only [In]; omega)) ?_ | refine WL.y rfl (Yld.mul rfl rfl (by simp only [In]; omega)) ?_ | refine WL.y rfl (Yld.convB tab_ok rfl rfl rfl rfl) ?_ | refine WL.y rfl (Yld.conv tab_ok rfl rfl rfl (by simp only [In]; omega)) ?_ | refine WL.y rfl (Yld.quo rfl rfl (by omega) (by omega) (by simp only [In]; omega)) ?_ | refine WL.y rfl (Yld.rem rfl rfl (by omega) (by omega)) ?_ | refine WL.y rfl (Yld.shl rfl rfl (by omega)) ?_ | refine WL.y rfl (Yld.shr rfl rfl (by omega)) ?_ | refine WL.y rfl (Yld.pure tab_ok rfl) ?_ | refine WL.y rfl (Yld.fld flds_ok rfl rfl rfl) ?_ | refine WL.y rfl (Yld.max2 rfl rfl) ?_ | refine WL.y rfl (Yld.min2 rfl rfl) ?_ | refine WL.y rfl (Yld.pickV rfl rfl rfl) ?_ | refine WL.gno rfl rfl rfl rfl ?_ | refine WL.gyes rfl rfl rfl rfl (Yld.add rfl rfl (by simp only [In]; omega)) ?_ | refine WL.gyes rfl rfl rfl rfl (Yld.sub rfl rfl (by simp only [In]; omega)) ?_ | refine WL.gyes rfl rfl rfl rfl (Yld.mul rfl rfl (by simp only [In]; omega)) ?_ | refine WL.gyes rfl rfl rfl rfl (Yld.convB tab_ok rfl rfl rfl rfl) ?_ | refine WL.gyes rfl rfl rfl rfl (Yld.conv tab_ok rfl rfl rfl (by simp only [In]; omega)) ?_ | refine WL.gyes rfl rfl rfl rfl (Yld.quo rfl rfl (by omega) (by omega) (by simp only [In]; omega)) ?_ | refine WL.gyes rfl rfl rfl rfl (Yld.rem rfl rfl (by omega) (by omega)) ?_ | refine WL.gyes rfl rfl rfl rfl (Yld.shl rfl rfl (by omega)) ?_ | refine WL.gyes rfl rfl rfl rfl (Yld.shr rfl rfl (by omega)) ?_ | refine WL.gyes rfl rfl rfl rfl (Yld.pure tab_ok rfl) ?_ | refine WL.gyes rfl rfl rfl rfl (Yld.fld flds_ok rfl rfl rfl) ?_ | refine WL.gyes rfl rfl rfl rfl (Yld.max2 rfl rfl) ?_ | refine WL.gyes rfl rfl rfl rfl (Yld.min2 rfl rfl) ?_ | refine WL.gyes rfl rfl rfl rfl (Yld.pickV rfl rfl rfl) ?_ | refine WL.gun rfl rfl rfl rfl ?_)
        refine WC.cond rfl (fun h3 => ?_) (fun h3 => ?_)
        · simp only [decide_eq_true_eq] at h3
          repeat (first | refine WC.seq ?_ | refine WC.block ?_ | refine WC.region ?_ | refine WL.nil ?_ | refine WX.then_normal ?_ | refine WC.skip ?_ | refine WC.exit ?_ | refine WC.ret ?_ | refine WX.then_exit ?_ | refine WX.then_ret ?_ | refine WX.block_normal ?_ | refine WX.block_ret ?_ | refine WX.block_same ?_ | refine WX.block_other rfl ?_ | refine WC.label ?_ | refine WC.scope ?_ | refine WX.scope_normal ?_ | refine WX.scope_ret ?_ | refine WX.scope_exit ?_ | refine WL.y rfl (Yld.add rfl rfl (by simp only [In]; omega)) ?_ | refine WL.y rfl (Yld.sub rfl rfl (by simp only [In]; omega)) ?_ | refine WL.y rfl (Yld.mul rfl rfl (by simp only [In]; omega)) ?_ | refine WL.y rfl (Yld.convB tab_ok rfl rfl rfl rfl) ?_ | refine WL.y rfl (Yld.conv tab_ok rfl rfl rfl (by simp only [In]; omega)) ?_ | refine WL.y rfl (Yld.quo rfl rfl (by omega) (by omega) (by simp only [In]; omega)) ?_ | refine WL.y rfl (Yld.rem rfl rfl (by omega) (by omega)) ?_ | refine WL.y rfl (Yld.shl rfl rfl (by omega)) ?_ | refine WL.y rfl (Yld.shr rfl rfl (by omega)) ?_ | refine WL.y rfl (Yld.pure tab_ok rfl) ?_ | refine WL.y rfl (Yld.fld flds_ok rfl rfl rfl) ?_ | refine WL.y rfl (Yld.max2 rfl rfl) ?_ | refine WL.y rfl (Yld.min2 rfl rfl) ?_ | refine WL.y rfl (Yld.pickV rfl rfl rfl) ?_ | refine WL.gno rfl rfl rfl rfl ?_ | refine WL.gyes rfl rfl rfl rfl (Yld.add rfl rfl (by simp only [In]; omega)) ?_ | refine WL.gyes rfl rfl rfl rfl (Yld.sub rfl rfl (by simp only [In]; omega)) ?_ | refine WL.gyes rfl rfl rfl rfl (Yld.mul rfl rfl (by simp only [In]; omega)) ?_ | refine WL.gyes rfl rfl rfl rfl (Yld.convB tab_ok rfl rfl rfl rfl) ?_ | refine WL.gyes rfl rfl rfl rfl (Yld.conv tab_ok rfl rfl rfl (by simp only [In]; omega)) ?_ | refine WL.gyes rfl rfl rfl rfl (Yld.quo rfl rfl (by omega) (by omega) (by simp only [In]; omega)) ?_ | refine WL.gyes rfl rfl rfl rfl (Yld.rem rfl rfl (by omega) (by omega)) ?_ | refine WL.gyes rfl rfl rfl rfl (Yld.shl rfl rfl (by omega)) ?_ | refine WL.gyes rfl rfl rfl rfl (Yld.shr rfl rfl (by omega)) ?_ | refine WL.gyes rfl rfl rfl rfl (Yld.pure tab_ok rfl) ?_ | refine WL.gyes rfl rfl rfl rfl (Yld.fld flds_ok rfl rfl rfl) ?_ | refine WL.gyes rfl rfl rfl rfl (Yld.max2 rfl rfl) ?_ | refine WL.gyes rfl rfl rfl rfl (Yld.min2 rfl rfl) ?_ | refine WL.gyes rfl rfl rfl rfl (Yld.pickV rfl rfl rfl) ?_ | refine WL.gun rfl rfl rfl rfl ?_)
          refine WL.call rfl rfl (wstr_fn _ g _ by_ w2 hS2 (by rw [if_neg (by omega)] at hle; omega) hz2) ?_
          rintro v3 w3 ⟨hS3, hb3⟩
          refine WL.nil ?_
          exact WX.weaken (by repeat (first | exact Sub.nil | refine Sub.cons rfl ?_)) (hQ _ _ ⟨rfl, by rw [if_neg (by omega)]; exact hS3, hb2.trans hb3⟩)
        · simp only [decide_eq_false_iff_not] at h3
          refine WC.skip ?_
          exact WX.weaken (by repeat (first | exact Sub.nil | refine Sub.cons rfl ?_)) (hQ _ _ ⟨rfl, by rw [if_pos (by omega), List.append_nil]; exact hS2, hb2⟩)
    · simp only [decide_eq_false_iff_not] at h
      obtain rfl : i = l.length := by omega
      rw [List.take_length] at hS2
      repeat (first | refine WC.seq ?_ | refine WC.block ?_ | refine WC.region ?_ | refine WL.nil ?_ | refine WX.then_normal ?_ | refine WC.skip ?_ | refine WC.exit ?_ | refine WC.ret ?_ | refine WX.then_exit ?_ | refine WX.then_ret ?_ | refine WX.block_normal ?_ | refine WX.block_ret ?_ | refine WX.block_same ?_ | refine WX.block_other rfl ?_ | refine WC.label ?_ | refine WC.scope ?_ | refine WX.scope_normal ?_ | refine WX.scope_ret ?_ | refine WX.scope_exit ?_ | refine WL.y rfl (Yld.add rfl rfl (by simp only [In]; omega)) ?_ | refine WL.y rfl (Yld.sub rfl rfl (by simp only [In]; omega)) ?_ | refine WL.y rfl (Yld.mul rfl rfl (by simp only [In]; omega)) ?_ | refine WL.y rfl (Yld.convB tab_ok rfl rfl rfl rfl) ?_ | refine WL.y rfl (Yld.conv tab_ok rfl rfl rfl (by simp only [In]; omega)) ?_ | refine WL.y rfl (Yld.quo rfl rfl (by omega) (by omega) (by simp only [In]; omega)) ?_ | refine WL.y rfl (Yld.rem rfl rfl (by omega) (by omega)) ?_ | refine WL.y rfl (Yld.shl rfl rfl (by omega)) ?_ | refine WL.y rfl (Yld.shr rfl rfl (by omega)) ?_ | refine WL.y rfl (Yld.pure tab_ok rfl) ?_ | refine WL.y rfl (Yld.fld flds_ok rfl rfl rfl) ?_ | refine WL.y rfl (Yld.max2 rfl rfl) ?_ | refine WL.y rfl (Yld.min2 rfl rfl) ?_ | refine WL.y rfl (Yld.pickV rfl rfl rfl) ?_ | refine WL.gno rfl rfl rfl rfl ?_ | refine WL.gyes rfl rfl rfl rfl (Yld.add rfl rfl (by simp only [In]; omega)) ?_ | refine WL.gyes rfl rfl rfl rfl (Yld.sub rfl rfl (by simp only [In]; omega)) ?_ | refine WL.gyes rfl rfl rfl rfl (Yld.mul rfl rfl (by simp only [In]; omega)) ?_ | refine WL.gyes rfl rfl rfl rfl (Yld.convB tab_ok rfl rfl rfl rfl) ?_ | refine WL.gyes rfl rfl rfl rfl (Yld.conv tab_ok rfl rfl rfl (by simp only [In]; omega)) ?_ | refine WL.gyes rfl rfl rfl rfl (Yld.quo rfl rfl (by omega) (by omega) (by simp only [In]; omega)) ?_ | refine WL.gyes rfl rfl rfl rfl (Yld.rem rfl rfl (by omega) (by omega)) ?_ | refine WL.gyes rfl rfl rfl rfl (Yld.shl rfl rfl (by omega)) ?_ | refine WL.gyes rfl rfl rfl rfl (Yld.shr rfl rfl (by omega)) ?_ | refine WL.gyes rfl rfl rfl rfl (Yld.pure tab_ok rfl) ?_ | refine WL.gyes rfl rfl rfl rfl (Yld.fld flds_ok rfl rfl rfl) ?_ | refine WL.gyes rfl rfl rfl rfl (Yld.max2 rfl rfl) ?_ | refine WL.gyes rfl rfl rfl rfl (Yld.min2 rfl rfl) ?_ | refine WL.gyes rfl rfl rfl rfl (Yld.pickV rfl rfl rfl) ?_ | refine WL.gun rfl rfl rfl rfl ?_)
      refine WL.call rfl rfl (bstr_fn _ g _ w2 hS2 hz2) ?_
      rintro _ w3 ⟨rfl, hb3⟩
      repeat (first | refine WC.seq ?_ | refine WC.block ?_ | refine WC.region ?_ | refine WL.nil ?_ | refine WX.then_normal ?_ | refine WC.skip ?_ | refine WC.exit ?_ | refine WC.ret ?_ | refine WX.then_exit ?_ | refine WX.then_ret ?_ | refine WX.block_normal ?_ | refine WX.block_ret ?_ | refine WX.block_same ?_ | refine WX.block_other rfl ?_ | refine WC.label ?_ | refine WC.scope ?_ | refine WX.scope_normal ?_ | refine WX.scope_ret ?_ | refine WX.scope_exit ?_ | refine WL.y rfl (Yld.add rfl rfl (by simp only [In]; omega)) ?_ | refine WL.y rfl (Yld.sub rfl rfl (by simp only [In]; omega)) ?_ | refine WL.y rfl (Yld.mul rfl rfl (by simp only [In]; omega)) ?_ | refine WL.y rfl (Yld.convB tab_ok rfl rfl rfl rfl) ?_ | refine WL.y rfl (Yld.conv tab_ok rfl rfl rfl (by simp only [In]; omega)) ?_ | refine WL.y rfl (Yld.quo rfl rfl (by omega) (by omega) (by simp only [In]; omega)) ?_ | refine WL.y rfl (Yld.rem rfl rfl (by omega) (by omega)) ?_ | refine WL.y rfl (Yld.shl rfl rfl (by omega)) ?_ | refine WL.y rfl (Yld.shr rfl rfl (by omega)) ?_ | refine WL.y rfl (Yld.pure tab_ok rfl) ?_ | refine WL.y rfl (Yld.fld flds_ok rfl rfl rfl) ?_ | refine WL.y rfl (Yld.max2 rfl rfl) ?_ | refine WL.y rfl (Yld.min2 rfl rfl) ?_ | refine WL.y rfl (Yld.pickV rfl rfl rfl) ?_ | refine WL.gno rfl rfl rfl rfl ?_ | refine WL.gyes rfl rfl rfl rfl (Yld.add rfl rfl (by simp only [In]; omega)) ?_ | refine WL.gyes rfl rfl rfl rfl (Yld.sub rfl rfl (by simp only [In]; omega)) ?_ | refine WL.gyes rfl rfl rfl rfl (Yld.mul rfl rfl (by simp only [In]; omega)) ?_ | refine WL.gyes rfl rfl rfl rfl (Yld.convB tab_ok rfl rfl rfl rfl) ?_ | refine WL.gyes rfl rfl rfl rfl (Yld.conv tab_ok rfl rfl rfl (by simp only [In]; omega)) ?_ | refine WL.gyes rfl rfl rfl rfl (Yld.quo rfl rfl (by omega) (by omega) (by simp only [In]; omega)) ?_ | refine WL.gyes rfl rfl rfl rfl (Yld.rem rfl rfl (by omega) (by omega)) ?_ | refine WL.gyes rfl rfl rfl rfl (Yld.shl rfl rfl (by omega)) ?_ | refine WL.gyes rfl rfl rfl rfl (Yld.shr rfl rfl (by omega)) ?_ | refine WL.gyes rfl rfl rfl rfl (Yld.pure tab_ok rfl) ?_ | refine WL.gyes rfl rfl rfl rfl (Yld.fld flds_ok rfl rfl rfl) ?_ | refine WL.gyes rfl rfl rfl rfl (Yld.max2 rfl rfl) ?_ | refine WL.gyes rfl rfl rfl rfl (Yld.min2 rfl rfl) ?_ | refine WL.gyes rfl rfl rfl rfl (Yld.pickV rfl rfl rfl) ?_ | refine WL.gun rfl rfl rfl rfl ?_)
      exact WX.ret2 rfl rfl rfl ⟨gr_below (hb2.trans hb3) none, _, .nilIface, .ok, rfl, rfl, H.2⟩
end Go.Proofs.YtjhipfdbionpoaaGreatDoor


 /- The iterator of slices.Values: the elements come, in their order. -/
namespace Go.Proofs.YtjhipfdbionpoaaGreatDoor
open Go Go.RowKit Go.Proofs
/-- what an iterator gives, where all that lay before stays -/
def GivesB (F : Fence) (n : Nat) (P : Program) (g : Nat) (lb : Array Value) (xs : List (List UInt8)) (w : World) : Prop :=
  ∀ (l : Nat) (J : List (List UInt8) → World → Prop) (W : World), Below w.heap.size w W → (∀ ss W1, J ss W1 → Below w.heap.size w W1) →
    (∀ pre x W1, J pre W1 → pre.length < xs.length → YieldAt F (n - 1) P l #[encStr x] W1 fun e W' => e = .returned (.bool true) ∧ J (pre ++ [x]) W' ∧ KeepsWalks W1 W') → J [] W →
    CallsIn F n P g (#[.func (.yield l) #[] #[]] ++ lb) W fun e W' => (∃ v, e = .returned v) ∧ J xs W'
set_option maxRecDepth 100000 in
set_option maxHeartbeats 1000000 in
theorem values_gives (A : Option Addr) (c : Nat) (xs : List (List UInt8)) (Bm : Nat) (w : World) (hBm : Bm < w.heap.size) (hm : w.cell? ⟨Bm, 0, none⟩ = some (.slice A xs.length c)) (hR : Rd vs w A c xs) (n : Nat) (hn : 1 ≤ n) :
    GivesB Fence.wide n Tryz.prog 180 #[.pointer (some ⟨Bm, 0, none⟩)] xs w := by
  intro l J W hW hJB hY h0
  have hmW : W.cell? ⟨Bm, 0, none⟩ = some (.slice A xs.length c) := (hW.cell (p := ⟨Bm, 0, none⟩) hBm).trans hm
  have hRW : Rd vs W A c xs := hR.grown (gr_below hW none)
  clear hm
  refine callsIn_of_wp Tryz.func180 rfl trivial ?_ rfl
  simp only [Tryz.ntmps180, List.size_toArray, List.length_cons, List.length_nil, Nat.reduceAdd, Nat.reduceSub, Array.replicate_succ, Array.replicate_zero, List.push_toArray, List.append_toArray, List.nil_append, List.cons_append]
  gi_wp2
  gi_loopw [7] (fun v7 wr => ∃ i : Nat, v7 = .int .i64 (i : Int) ∧ i ≤ xs.length ∧ J (xs.take i) wr) (fun v7 _ => xs.length - (intOf v7).toNat)
  case atStart => exact ⟨0, rfl, Nat.zero_le _, by simpa using h0⟩
  case round =>
    obtain ⟨i, rfl, hi, hJi⟩ := hrel
    have hbr := hJB _ _ hJi
    have hRr : Rd vs wr A c xs := hR.grown (gr_below hbr none)
    by_cases hlt : i < xs.length
    · obtain ⟨ad, rfl, hcell⟩ := hRr.at hlt []
      obtain ⟨fn, tmps, assign, body, hy0, hRR⟩ := hY (xs.take i) xs[i] wr hJi (by rw [List.length_take]; omega)
      have hy : (Instr.yield l #[vs xs[i]]).run Tryz.prog wr = .ok (.round l fn tmps assign body) wr := hy0
      have hlt' : (i : Int) < (xs.length : Int) := by omega
      have hmx : xs.length ≤ 9223372036854775807 := Nat.le_trans hRr.cap hRr.max
      clear hRr hbr hY hRW hR hy0
      gi_wp2
      refine hRR.mono ?_
      rintro e W3 ⟨rfl, hJ3, hk3⟩
      gi_wp2
      go_roundw
      case rel => exact ⟨i + 1, by go_num, by omega, by rw [List.take_succ_eq_append_getElem hlt]; exact hJ3⟩
      case measure => simp [intOf]; omega
    · obtain rfl : i = xs.length := by omega
      gi_wp2
      go_end0
      exact ⟨⟨_, rfl⟩, by simpa using hJi⟩
end Go.Proofs.YtjhipfdbionpoaaGreatDoor


 /- slices.Sorted over slices.Values: the elements of a slice, sorted, in a new slice. -/
namespace Go.Proofs.YtjhipfdbionpoaaGreatDoor
open Go Go.RowKit Go.Proofs Go.Maps Go.Sort Go.Shelf
section
variable {P : Program} {ρ : Ren}
set_option maxRecDepth 100000 in
set_option maxHeartbeats 2000000 in
theorem appendV (L : SlLaysZ.n11 P ρ) (F : Fence) (n : Nat) (h11 : F.fn (ρ.f 11)) (hro : F.round = none) (hn : 2 ≤ n) (g : Nat) (lb : Array Value) (hFg : F.fn g) (eg : ∀ args w, (callFunc g args).run P w = .ok (.enter g args) w)
    (xs : List (List UInt8)) (hN : xs.length ≤ maxLen) (hNb : xs.length * 16 ≤ 140737488355328) (w : World) (hseq : GivesB F (n - 1) P g lb xs w) :
    CallsIn F n P (ρ.f 11) #[.slice none 0 0, .func (.func g) #[] lb] w fun e w' => ∃ v : Value, e = .returned v ∧ w'.ownsRow w.heap.size (ρ.t 26) 1 v xs.length (xs.map encStr) ∧ (v = .slice none 0 0 ↔ xs = []) ∧ Below w.heap.size w w' := by
  have h1 : 1 ≤ n := by omega
  have mixed := L.mixed; have t0 := L.t0; have a0 := L.a0; have z0 := L.z0; have v0 := L.v0; have t24 := L.t24; have a24 := L.a24; have z24 := L.z24; have v24 := L.v24; have t26 := L.t26; have a26 := L.a26; have z26 := L.z26; have v26 := L.v26; have t28 := L.t28; have a28 := L.a28; have z28 := L.z28; have v28 := L.v28
  have hne : ρ.t 24 ≠ ρ.t 26 := fun e => by have h := L.t24; rw [e, L.t26] at h; cases h
  have u0 := run_underlying L.t0; have u24 := run_underlying L.t24; have u26 := run_underlying L.t26; have u28 := run_underlying L.t28
  obtain ⟨_, _, FG⟩ := L.f11
  refine callsIn_of_wp_marks FG rfl h11 ?_ hro
  simp only [SlBodyZ.n11_ntmps ρ, List.size_toArray, List.length_cons, List.length_nil, Nat.reduceAdd, Nat.reduceSub, Array.replicate_succ, Array.replicate_zero, List.push_toArray, List.append_toArray, List.nil_append, List.cons_append]
  gi_wp2
  refine wpIn_rangeFunc ?_
  intro fn hfn
  rw [hro]
  -- the box, the list of what is put off, the loop's own record: three new blocks
  generalize hb : w.heap.size = b
  obtain ⟨Wa, hWa⟩ : ∃ Wa, w.alloc (.cells #[.slice none 0 0] (ρ.t 24)) = Wa := ⟨_, rfl⟩
  have sa : Wa.heap.size = b + 1 := by rw [← hWa, ← hb]; simp
  have ba : Wa.heap[b]? = some (.cells #[.slice none 0 0] (ρ.t 24) (0, 0)) := by rw [← hWa, ← hb]; exact World.alloc_heap_new w _
  have la : Below b w Wa := by rw [← hWa, ← hb]; exact (Below.refl _ w).alloc (Nat.le_refl _) _
  rw [hWa]
  have sv := sa
  obtain ⟨rec, hrec⟩ : ∃ rec, AnyZ.apRec ρ fn (.func (.func g) #[] lb) b Wa.heap.size .ready none = rec := ⟨_, rfl⟩
  obtain ⟨Wb, hWb⟩ : ∃ Wb, (Wa.alloc (.deferred (some []))).alloc (.loop rec) = Wb := ⟨_, rfl⟩
  have sb : Wb.heap.size = Wa.heap.size + 2 := by rw [← hWb]; simp
  have lb1 : Below b w Wb := by rw [← hWb]; exact (la.alloc (by omega) _).alloc (by simp; omega) _
  have old : ∀ k, k < Wa.heap.size → Wb.heap[k]? = Wa.heap[k]? := fun k hk => by
    rw [← hWb]; exact (Below.heap_alloc _ _ k (by simp; omega)).trans (Below.heap_alloc _ _ k hk)
  have hM : AnyZ.ApAt ρ w fn (.func (.func g) #[] lb) b (Wa.heap.size + 1) Wa.heap.size [] Wb := by
    refine ⟨⟨_, (old b (by omega)).trans ba, ⟨rfl, .inl ⟨rfl, rfl⟩⟩, by simp⟩, ?_, ?_, by rw [hb]; exact lb1⟩
    · rw [hrec, ← hWb]
      have := World.alloc_heap_new (Wa.alloc (.deferred (some []))) (.loop rec)
      rwa [World.size_alloc] at this
    · rw [← hWb]
      exact (Below.heap_alloc _ _ _ (by simp)).trans (World.alloc_heap_new Wa _)
  refine ⟨Wa.heap.size + 1, [{ target := .collected Wa.heap.size, args := #[] }], Wb, { target := .fn (.func g) lb, args := #[.func (.yield (Wa.heap.size + 1)) #[] #[]] }, Wb, g,
    #[.func (.yield (Wa.heap.size + 1)) #[] #[]] ++ lb, Wb, ?_, ?_, ?_, ?_, fun _ => h1, ?_⟩
  · rw [← hWb, ← hrec]; exact run_enterLoop_outer _ _ _ _ _
  · simp [resolve, go_sem]
  · intro f' hf'
    simp [Target.leads] at hf'
    subst hf'
    exact hFg
  · simp [invoke, go_sem, eg]
  have hgive := hseq (Wa.heap.size + 1) (AnyZ.ApAt ρ w fn (.func (.func g) #[] lb) b (Wa.heap.size + 1) Wa.heap.size) Wb (by rw [hb]; exact lb1) (fun _ _ h => h.below)
    (fun pre x W1 hJ hl => AnyZ.apYield { L with } F (n - 1 - 1) w fn hfn _ b (Wa.heap.size + 1) Wa.heap.size (by omega) (by omega) (by omega) (by omega) (by omega) xs.length hN hNb pre x W1 hJ hl) hM
  refine hgive.mono ?_
  rintro e W2 ⟨⟨v0, rfl⟩, h2⟩
  obtain ⟨v, hv, hrow, hnil⟩ := h2.box
  have hend := run_endLoop (P := P) h2.L (by simp [AnyZ.apRec])
  obtain ⟨W3, hW3⟩ : ∃ W3, W2.putObj (Wa.heap.size + 1) (.loop { AnyZ.apRec ρ fn (.func (.func g) #[] lb) b Wa.heap.size .ready none with state := .exhausted }) = W3 := ⟨_, rfl⟩
  rw [hW3] at hend
  have hg3 : W2.grownBy W3 (some (Wa.heap.size + 1)) := by rw [← hW3]; exact grownBy_putObj_a _ _ _
  have hv3 : W3.heap[b]? = some (.cells #[v] (ρ.t 24) (0, 0)) := by rw [← hW3]; exact (World.putObj_heap_other (by omega)).trans hv
  have hK3 : W3.heap[Wa.heap.size]? = some (.deferred (some [])) := by rw [← hW3]; exact (World.putObj_heap_other (by omega)).trans h2.K
  have hrow3 := hrow.kept hg3 (ownsRow_ne_a hrow h2.L (fun cur e => by first | cases e | exact hne (Obj.cells.inj e).2.1))
  have hb3 : Below w.heap.size w W3 := h2.below.grown hg3 h2.below.size (fun k e => by cases e; omega)
  obtain ⟨hc3, hf3⟩ := cell_of_box_a hv3
  clear hW3
  refine ⟨none, W3, hend, ?_⟩
  gi_wp2
  rw [← sa]
  refine ⟨by simp, .inl ⟨_, _, rfl, run_takeDeferred hK3, ?_⟩⟩
  rw [← hb]
  exact ⟨_, results_tmp rfl _ _ _, v, rfl, hrow3.kept (grownBy_putObj_a _ _ _) (ownsRow_ne_a hrow3 hK3 (fun cur e => by first | cases e | exact hne (Obj.cells.inj e).2.1)), hnil, hb3.grown (grownBy_putObj_a _ _ _) hb3.size (fun k e => by cases e; omega)⟩
set_option maxHeartbeats 1000000 in
theorem collectV (L : SlLaysZ.n8 P ρ) (F : Fence) (n : Nat) (h8 : F.fn (ρ.f 8)) (h11 : F.fn (ρ.f 11)) (hro : F.round = none) (hn : 3 ≤ n) (g : Nat) (lb : Array Value) (hFg : F.fn g) (eg : ∀ args w, (callFunc g args).run P w = .ok (.enter g args) w)
    (xs : List (List UInt8)) (hN : xs.length ≤ maxLen) (hNb : xs.length * 16 ≤ 140737488355328) (w : World) (hseq : GivesB F (n - 1 - 1) P g lb xs w) :
    CallsIn F n P (ρ.f 8) #[.func (.func g) #[] lb] w fun e w' => ∃ v : Value, e = .returned v ∧ w'.ownsRow w.heap.size (ρ.t 26) 1 v xs.length (xs.map encStr) ∧ (v = .slice none 0 0 ↔ xs = []) ∧ Below w.heap.size w w' := by
  have h1 : 1 ≤ n := by omega
  have e11 : ∀ args w, (callFunc (ρ.f 11) args).run P w = .ok (.enter (ρ.f 11) args) w := L.f11.enters rfl
  have mixed := L.mixed; have t0 := L.t0; have a0 := L.a0; have z0 := L.z0; have v0 := L.v0; have t24 := L.t24; have a24 := L.a24; have z24 := L.z24; have v24 := L.v24; have t26 := L.t26; have a26 := L.a26; have z26 := L.z26; have v26 := L.v26; have t28 := L.t28; have a28 := L.a28; have z28 := L.z28; have v28 := L.v28
  have u0 := run_underlying L.t0; have u24 := run_underlying L.t24; have u26 := run_underlying L.t26; have u28 := run_underlying L.t28
  obtain ⟨_, _, FG⟩ := L.f8
  refine callsIn_of_wp FG rfl h8 ?_ hro
  simp only [SlBodyZ.n8_ntmps ρ, List.size_toArray, List.length_cons, List.length_nil, Nat.reduceAdd, Nat.reduceSub, Array.replicate_succ, Array.replicate_zero, List.push_toArray, List.append_toArray, List.nil_append, List.cons_append]
  gi_wp2_with (gi_at_fn (ρ.f 11); refine (appendV { L with } F (n - 1) h11 hro (by omega) g lb hFg eg xs hN hNb _ hseq).mono ?_; rintro e w' ⟨v, rfl, hrow, hnil, hb⟩)
  go_ret
  exact ⟨v, rfl, hrow, hnil, hb⟩
set_option maxRecDepth 100000 in
set_option maxHeartbeats 2000000 in
theorem sortedV (L : SlLaysZ.n6 P ρ) (F : Fence) (n : Nat) (h6 : F.fn (ρ.f 6)) (h8 : F.fn (ρ.f 8)) (h9 : F.fn (ρ.f 9)) (h11 : F.fn (ρ.f 11)) (hro : F.round = none) (hn : 4 ≤ n) (hsort : AnyZ.SortsIn P ρ F (n - 1)) (e9 : ∀ args w, (callFunc (ρ.f 9) args).run P w = .ok (.enter (ρ.f 9) args) w) (g : Nat) (lb : Array Value) (hFg : F.fn g) (eg : ∀ args w, (callFunc g args).run P w = .ok (.enter g args) w)
    (xs : List (List UInt8)) (hN : xs.length ≤ maxLen) (hNb : xs.length * 16 ≤ 140737488355328) (w : World) (hseq : GivesB F (n - 1 - 1 - 1) P g lb xs w) :
    CallsIn F n P (ρ.f 6) #[.func (.func g) #[] lb] w fun e w' => ∃ v : Value, e = .returned v ∧ w'.ownsRow w.heap.size (ρ.t 26) 1 v xs.length ((xs.mergeSort (fun x y => decide (x ≤ y))).map encStr) ∧ Below w.heap.size w w' := by
  have h1 : 1 ≤ n := by omega
  have e8 : ∀ args w, (callFunc (ρ.f 8) args).run P w = .ok (.enter (ρ.f 8) args) w := L.f8.enters rfl
  have mixed := L.mixed; have t0 := L.t0; have a0 := L.a0; have z0 := L.z0; have v0 := L.v0; have t24 := L.t24; have a24 := L.a24; have z24 := L.z24; have v24 := L.v24; have t26 := L.t26; have a26 := L.a26; have z26 := L.z26; have v26 := L.v26; have t28 := L.t28; have a28 := L.a28; have z28 := L.z28; have v28 := L.v28
  have u0 := run_underlying L.t0; have u24 := run_underlying L.t24; have u26 := run_underlying L.t26; have u28 := run_underlying L.t28
  obtain ⟨_, _, FG⟩ := L.f6
  refine callsIn_of_wp FG rfl h6 ?_ hro
  simp only [SlBodyZ.n6_ntmps ρ, List.size_toArray, List.length_cons, List.length_nil, Nat.reduceAdd, Nat.reduceSub, Array.replicate_succ, Array.replicate_zero, List.push_toArray, List.append_toArray, List.nil_append, List.cons_append]
  gi_wp2_with (gi_at_fn (ρ.f 8); refine (collectV { L with } F (n - 1) h8 h11 hro (by omega) g lb hFg eg xs hN hNb _ hseq).mono ?_; rintro e W ⟨v, rfl, hrow, hnil, hb⟩)
  rcases hrow.2 with ⟨rfl, hz⟩ | ⟨gb, cap, cur, rfl, hbase, hgb, r1, r2, r3, r4⟩
  · have hss : xs = [] := List.eq_nil_of_length_eq_zero hz
    subst hss
    gi_wp2_with (gi_at_fn (ρ.f 9); refine (hsort.2 none 0 W).mono ?_; rintro e w' ⟨rfl, rfl⟩)
    go_ret
    exact ⟨.slice none 0 0, rfl, by simpa using hrow, hb⟩
  · have hH : Holds encStr W gb 0 xs.toArray := holds_of_block hgb (by simpa using r4)
    have hgl : gb < W.heap.size := (Array.getElem?_eq_some_iff.1 hgb).1
    have cS := hsort.1 gb 0 cap xs W hH hgl (by omega)
    gi_wp2_with (gi_at_fn (ρ.f 9); refine cS.mono ?_; rintro e w' ⟨rfl, nn, os, rfl⟩)
    go_ret
    exact ⟨_, rfl, ownsRow_sorted (by simp) hbase hgb r1 r2 r3, hb.grown (grownBy_sorted _) hb.size (fun j hj => by cases hj; exact hbase)⟩
end
/-- slices.Sort's contracts at this program -/
theorem sortsHere (m : Nat) : AnyZ.SortsIn Tryz.prog Tryz.sorted161_ren Fence.wide m :=
  ⟨fun b o cap ss W hH hb hsz => callsIn_wide.2 (Tryz.slices_Sort_string b o cap ss W hH hb hsz), fun p cap W => callsIn_wide.2 (Tryz.slices_Sort_string_none p cap W)⟩
/-- slices.Sorted at what slices.Values hands back: a box that holds the slice -/
theorem sortedVal_fn {w : World} {xs : List (List UInt8)} {A : Option Addr} {c g : Nat} (hR : Rd vs w A c xs) (hB : Bl w g 41 [.slice A xs.length c]) (hl : xs.length ≤ 1000000000) :
    Fn Tryz.prog 161 ⟨[.func (.func 180) #[] #[.pointer (some ⟨g, 0, none⟩)]]⟩ w fun v w' => ∃ A' c', v = .slice A' xs.length c' ∧ Own vs w' w.heap.size 9 A' c' (xs.mergeSort fun x y => decide (x ≤ y)) ∧ w.grownBy w' none := by
  refine ⟨by kernel_rfl, fun w1 e => ?_⟩
  have hR1 : Rd vs w1 A c xs := rd_eqv e hR
  have hB1 : Bl w1 g 41 [.slice A xs.length c] := bl_eqv e hB
  have hlt := hB1.lt
  have hg := values_gives A c xs g w1 hlt (by rw [hB1.cell]; rfl) hR1 (4 + 1 - 1 - 1 - 1) (by omega)
  have h := callsIn_wide.1 (sortedV (Tryz.sorted161) Fence.wide 5 trivial trivial trivial trivial rfl (by omega) (sortsHere _) (enters_of Tryz.func179 (by kernel_rfl) rfl) 180 #[.pointer (some ⟨g, 0, none⟩)] trivial (enters_of Tryz.func180 (by kernel_rfl) rfl) xs (by simp only [maxLen]; omega) (by omega) w1 hg)
  refine h.mono ?_
  rintro _ w' ⟨v, rfl, hrow, hb⟩
  have hlen : (xs.mergeSort fun x y => decide (x ≤ y)).length = xs.length := List.length_mergeSort xs
  have hg2 : w.grownBy w' none := eqv_gr e (gr_below hb none)
  have hO : ∃ A' c', v = .slice A' xs.length c' := by
    rcases hrow.2 with ⟨rfl, hz⟩ | ⟨gb, cap, cur, rfl, _⟩
    · exact ⟨none, 0, by rw [hz]⟩
    · exact ⟨_, _, rfl⟩
  obtain ⟨A', c', rfl⟩ := hO
  refine ⟨_, w', rfl, Eqv.refl _, A', c', rfl, ?_, hg2⟩
  unfold Own
  rw [hlen, ← e.heap]
  exact hrow
theorem valuesBox_fn {w : World} {A : Option Addr} {n c : Nat} : Fn Tryz.prog 162 ⟨[.slice A n c]⟩ w fun v w' => ∃ g, v = .func (.func 180) #[] #[.pointer (some ⟨g, 0, none⟩)] ∧ Bl w' g 41 [.slice A n c] ∧ w.grownBy w' none ∧ w.heap.size ≤ g := by
  refine Fn.enter (by kernel_rfl) Tryz.func162 rfl Tryz.ntmps162 rfl ?_
  refine WC.seq ?_
  refine WC.region ?_
  refine WL.box (us := [.slice A n c]) rfl rfl rfl (fun g w1 hB1 hg1 hl1 => ?_)
  refine WL.y rfl (Yld.pure tab_ok rfl) ?_
  refine WL.nil (WX.then_normal ?_)
  refine WC.seq ?_
  refine WC.region ?_
  refine WL.y rfl (Yld.mkf rfl) ?_
  refine WL.y rfl (Yld.pure tab_ok rfl) ?_
  refine WL.nil (WX.then_normal ?_)
  refine WC.ret ?_
  exact WX.ret1 rfl rfl ⟨g, rfl, hB1, hg1, hl1⟩
def M_slices_Sorted_string_slices_Values_string_string_1 (xs : List (List UInt8)) (K : List (List UInt8) → Prop) : Prop := xs.length ≤ 1000000000 ∧ K (xs.mergeSort fun x y => decide (x ≤ y))
theorem W_slices_Sorted_string_slices_Values_string_string_1 {w : World} {xs : List (List UInt8)} {A : Option Addr} {c n g : Nat} {K : List (List UInt8) → Prop} (hR : Rd vs w A c xs) (hn : n = xs.length) (hB : Bl w g 41 [.slice A n c]) (H : M_slices_Sorted_string_slices_Values_string_string_1 xs K) :
    Fn Tryz.prog 161 ⟨[.func (.func 180) #[] #[.pointer (some ⟨g, 0, none⟩)]]⟩ w (fun v w' => w.grownBy w' none ∧ ∃ (r : List (List UInt8)) (A : Option Addr) (c : Nat), v = .slice A r.length c ∧ Own vs w' w.heap.size 9 A c r ∧ K r) := by
  subst hn
  refine (sortedVal_fn hR hB H.1).mono ?_
  rintro v w' ⟨A', c', rfl, hO, hg⟩
  exact ⟨hg, _, A', c', by rw [List.length_mergeSort], hO, H.2⟩
end Go.Proofs.YtjhipfdbionpoaaGreatDoor


 namespace Go.Proofs.YtjhipfdbionpoaaGreatDoor
open Go Go.RowKit
attribute [local irreducible] WL WC WX WQ Yld Fn
theorem u64_and31 (k : Int) : bits BinOp.and IntKind.u64 (IntKind.u64.wrap k) 31 = k % 32 := by
  show IntKind.u64.wrap ((BitVec.ofInt 64 (IntKind.u64.wrap k) &&& BitVec.ofInt 64 31).toNat : Int) = _
  rw [BitVec.toNat_and]
  have e : (BitVec.ofInt 64 31).toNat = 2^5 - 1 := by decide
  rw [e, Nat.and_two_pow_sub_one_eq_mod, BitVec.toNat_ofInt, IntKind.wrap_u64, IntKind.wrap_u64]
  omega
/-- a word turned left, as_ the program reckons it -/
def rotl (x k : Int) : Int := bits .or .u32 (shlV .u32 x (k % 32).toNat) (shrV .u32 x (32 - k % 32).toNat)
theorem rot_fn (x k : Int) (w : World) : Fn Tryz.prog 191 ⟨[vu x, vi k]⟩ w fun v w' => v = vu (rotl x k) ∧ w' = w := by
  have hs := u64_and31 k
  refine Fn.enter (by kernel_rfl) Tryz.func191 rfl Tryz.ntmps191 rfl ?_
  repeat (first | refine WC.seq ?_ | refine WC.block ?_ | refine WC.region ?_ | refine WL.nil ?_ | refine WX.then_normal ?_ | refine WC.skip ?_ | refine WC.exit ?_ | refine WC.ret ?_ | refine WX.then_exit ?_ | refine WX.then_ret ?_ | refine WX.block_normal ?_ | refine WX.block_ret ?_ | refine WX.block_same ?_ | refine WX.block_other rfl ?_ | refine WC.label ?_ | refine WC.scope ?_ | refine WX.scope_normal ?_ | refine WX.scope_ret ?_ | refine WX.scope_exit ?_ | refine WL.y rfl (Yld.add rfl rfl (by simp only [In]; omega)) ?_ | refine WL.y rfl (Yld.sub rfl rfl (by simp only [In]; omega)) ?_ | refine WL.y rfl (Yld.mul rfl rfl (by simp only [In]; omega)) ?_ | refine WL.y rfl (Yld.convB tab_ok rfl rfl rfl rfl) ?_ | refine WL.y rfl (Yld.conv tab_ok rfl rfl rfl (by simp only [In]; omega)) ?_ | refine WL.y rfl (Yld.quo rfl rfl (by omega) (by omega) (by simp only [In]; omega)) ?_ | refine WL.y rfl (Yld.rem rfl rfl (by omega) (by omega)) ?_ | refine WL.y rfl (Yld.shl rfl rfl (by omega)) ?_ | refine WL.y rfl (Yld.shr rfl rfl (by omega)) ?_ | refine WL.y rfl (Yld.pure tab_ok rfl) ?_)
  rw [hs]
  repeat (first | refine WC.seq ?_ | refine WC.block ?_ | refine WC.region ?_ | refine WL.nil ?_ | refine WX.then_normal ?_ | refine WC.skip ?_ | refine WC.exit ?_ | refine WC.ret ?_ | refine WX.then_exit ?_ | refine WX.then_ret ?_ | refine WX.block_normal ?_ | refine WX.block_ret ?_ | refine WX.block_same ?_ | refine WX.block_other rfl ?_ | refine WC.label ?_ | refine WC.scope ?_ | refine WX.scope_normal ?_ | refine WX.scope_ret ?_ | refine WX.scope_exit ?_ | refine WL.y rfl (Yld.add rfl rfl (by simp only [In]; omega)) ?_ | refine WL.y rfl (Yld.sub rfl rfl (by simp only [In]; omega)) ?_ | refine WL.y rfl (Yld.mul rfl rfl (by simp only [In]; omega)) ?_ | refine WL.y rfl (Yld.convB tab_ok rfl rfl rfl rfl) ?_ | refine WL.y rfl (Yld.conv tab_ok rfl rfl rfl (by simp only [In]; omega)) ?_ | refine WL.y rfl (Yld.quo rfl rfl (by omega) (by omega) (by simp only [In]; omega)) ?_ | refine WL.y rfl (Yld.rem rfl rfl (by omega) (by omega)) ?_ | refine WL.y rfl (Yld.shl rfl rfl (by omega)) ?_ | refine WL.y rfl (Yld.shr rfl rfl (by omega)) ?_ | refine WL.y rfl (Yld.pure tab_ok rfl) ?_)
  exact WX.ret1 rfl rfl ⟨rfl, rfl⟩
/-- a word turned right -/
def rotr (x n : Int) : Int := rotl x (0 - n)
theorem right_fn (x n : Int) (w : World) (h0 : 0 ≤ n) (h1 : n ≤ 32) : Fn Tryz.prog 174 ⟨[vu x, vi n]⟩ w fun v w' => v = vu (rotr x n) ∧ w' = w := by
  have hs : IntKind.i64.wrap (0 - n) = 0 - n := In.wrap (by simp only [In]; omega)
  refine Fn.enter (by kernel_rfl) Tryz.func174 rfl Tryz.ntmps174 rfl ?_
  repeat (first | refine WC.seq ?_ | refine WC.block ?_ | refine WC.region ?_ | refine WL.nil ?_ | refine WX.then_normal ?_ | refine WC.skip ?_ | refine WC.exit ?_ | refine WC.ret ?_ | refine WX.then_exit ?_ | refine WX.then_ret ?_ | refine WX.block_normal ?_ | refine WX.block_ret ?_ | refine WX.block_same ?_ | refine WX.block_other rfl ?_ | refine WC.label ?_ | refine WC.scope ?_ | refine WX.scope_normal ?_ | refine WX.scope_ret ?_ | refine WX.scope_exit ?_ | refine WL.y rfl (Yld.add rfl rfl (by simp only [In]; omega)) ?_ | refine WL.y rfl (Yld.sub rfl rfl (by simp only [In]; omega)) ?_ | refine WL.y rfl (Yld.mul rfl rfl (by simp only [In]; omega)) ?_ | refine WL.y rfl (Yld.convB tab_ok rfl rfl rfl rfl) ?_ | refine WL.y rfl (Yld.conv tab_ok rfl rfl rfl (by simp only [In]; omega)) ?_ | refine WL.y rfl (Yld.quo rfl rfl (by omega) (by omega) (by simp only [In]; omega)) ?_ | refine WL.y rfl (Yld.rem rfl rfl (by omega) (by omega)) ?_ | refine WL.y rfl (Yld.shl rfl rfl (by omega)) ?_ | refine WL.y rfl (Yld.shr rfl rfl (by omega)) ?_ | refine WL.y rfl (Yld.pure tab_ok rfl) ?_)
  rw [hs]
  refine WL.call rfl rfl (rot_fn x (0 - n) w) ?_
  rintro v w' ⟨rfl, rfl⟩
  repeat (first | refine WC.seq ?_ | refine WC.block ?_ | refine WC.region ?_ | refine WL.nil ?_ | refine WX.then_normal ?_ | refine WC.skip ?_ | refine WC.exit ?_ | refine WC.ret ?_ | refine WX.then_exit ?_ | refine WX.then_ret ?_ | refine WX.block_normal ?_ | refine WX.block_ret ?_ | refine WX.block_same ?_ | refine WX.block_other rfl ?_ | refine WC.label ?_ | refine WC.scope ?_ | refine WX.scope_normal ?_ | refine WX.scope_ret ?_ | refine WX.scope_exit ?_ | refine WL.y rfl (Yld.add rfl rfl (by simp only [In]; omega)) ?_ | refine WL.y rfl (Yld.sub rfl rfl (by simp only [In]; omega)) ?_ | refine WL.y rfl (Yld.mul rfl rfl (by simp only [In]; omega)) ?_ | refine WL.y rfl (Yld.convB tab_ok rfl rfl rfl rfl) ?_ | refine WL.y rfl (Yld.conv tab_ok rfl rfl rfl (by simp only [In]; omega)) ?_ | refine WL.y rfl (Yld.quo rfl rfl (by omega) (by omega) (by simp only [In]; omega)) ?_ | refine WL.y rfl (Yld.rem rfl rfl (by omega) (by omega)) ?_ | refine WL.y rfl (Yld.shl rfl rfl (by omega)) ?_ | refine WL.y rfl (Yld.shr rfl rfl (by omega)) ?_ | refine WL.y rfl (Yld.pure tab_ok rfl) ?_)
  exact WX.ret1 rfl rfl ⟨rfl, rfl⟩
end Go.Proofs.YtjhipfdbionpoaaGreatDoor

 namespace Go.Proofs.YtjhipfdbionpoaaGreatDoor
open Go Go.RowKit
attribute [local irreducible] WL WC WX WQ Yld Fn

def ktab : List Int := [0x428a2f98, 0x71374491, 0xb5c0fbcf, 0xe9b5dba5, 0x3956c25b, 0x59f111f1, 0x923f82a4, 0xab1c5ed5,
  0xd807aa98, 0x12835b01, 0x243185be, 0x550c7dc3, 0x72be5d74, 0x80deb1fe, 0x9bdc06a7, 0xc19bf174,
  0xe49b69c1, 0xefbe4786, 0x0fc19dc6, 0x240ca1cc, 0x2de92c6f, 0x4a7484aa, 0x5cb0a9dc, 0x76f988da,
  0x983e5152, 0xa831c66d, 0xb00327c8, 0xbf597fc7, 0xc6e00bf3, 0xd5a79147, 0x06ca6351, 0x14292967,
  0x27b70a85, 0x2e1b2138, 0x4d2c6dfc, 0x53380d13, 0x650a7354, 0x766a0abb, 0x81c2c92e, 0x92722c85,
  0xa2bfe8a1, 0xa81a664b, 0xc24b8b70, 0xc76c51a3, 0xd192e819, 0xd6990624, 0xf40e3585, 0x106aa070,
  0x19a4c116, 0x1e376c08, 0x2748774c, 0x34b0bcb5, 0x391c0cb3, 0x4ed8aa4a, 0x5b9cca4f, 0x682e6ff3,
  0x748f82ee, 0x78a5636f, 0x84c87814, 0x8cc70208, 0x90befffa, 0xa4506ceb, 0xbef9a3f7, 0xc67178f2]
theorem oneM {α : Type} {f : α → Value} (hf : One f) (xs : List α) : ∀ u ∈ xs.map f, u.oneCell' = true := fun u hu => by
  obtain ⟨a, _, rfl⟩ := List.mem_map.1 hu
  exact hf a
theorem table_fn (w : World) : Fn Tryz.prog 173 ⟨[]⟩ w fun v w' => v = .agg ⟨ktab.map vu⟩ ∧ w.grownBy w' none := by
  refine Fn.enter (by kernel_rfl) Tryz.func173 rfl Tryz.ntmps173 rfl ?_
  repeat (first | refine WC.seq ?_ | refine WC.block ?_ | refine WC.region ?_ | refine WL.nil ?_ | refine WX.then_normal ?_ | refine WC.skip ?_ | refine WC.exit ?_ | refine WC.ret ?_ | refine WX.then_exit ?_ | refine WX.then_ret ?_ | refine WX.block_normal ?_ | refine WX.block_ret ?_ | refine WX.block_same ?_ | refine WX.block_other rfl ?_ | refine WC.label ?_ | refine WC.scope ?_ | refine WX.scope_normal ?_ | refine WX.scope_ret ?_ | refine WX.scope_exit ?_ | refine WL.y rfl (Yld.add rfl rfl (by simp only [In]; omega)) ?_ | refine WL.y rfl (Yld.sub rfl rfl (by simp only [In]; omega)) ?_ | refine WL.y rfl (Yld.mul rfl rfl (by simp only [In]; omega)) ?_ | refine WL.y rfl (Yld.convB tab_ok rfl rfl rfl rfl) ?_ | refine WL.y rfl (Yld.conv tab_ok rfl rfl rfl (by simp only [In]; omega)) ?_ | refine WL.y rfl (Yld.quo rfl rfl (by omega) (by omega) (by simp only [In]; omega)) ?_ | refine WL.y rfl (Yld.rem rfl rfl (by omega) (by omega)) ?_ | refine WL.y rfl (Yld.shl rfl rfl (by omega)) ?_ | refine WL.y rfl (Yld.shr rfl rfl (by omega)) ?_ | refine WL.y rfl (Yld.pure tab_ok rfl) ?_)
  refine WL.alloc rfl zero217 (fun g w1 hB hg _ => ?_)
  repeat (first | refine WC.seq ?_ | refine WC.block ?_ | refine WC.region ?_ | refine WL.nil ?_ | refine WX.then_normal ?_ | refine WC.skip ?_ | refine WC.exit ?_ | refine WC.ret ?_ | refine WX.then_exit ?_ | refine WX.then_ret ?_ | refine WX.block_normal ?_ | refine WX.block_ret ?_ | refine WX.block_same ?_ | refine WX.block_other rfl ?_ | refine WC.label ?_ | refine WC.scope ?_ | refine WX.scope_normal ?_ | refine WX.scope_ret ?_ | refine WX.scope_exit ?_ | refine WL.y rfl (Yld.add rfl rfl (by simp only [In]; omega)) ?_ | refine WL.y rfl (Yld.sub rfl rfl (by simp only [In]; omega)) ?_ | refine WL.y rfl (Yld.mul rfl rfl (by simp only [In]; omega)) ?_ | refine WL.y rfl (Yld.convB tab_ok rfl rfl rfl rfl) ?_ | refine WL.y rfl (Yld.conv tab_ok rfl rfl rfl (by simp only [In]; omega)) ?_ | refine WL.y rfl (Yld.quo rfl rfl (by omega) (by omega) (by simp only [In]; omega)) ?_ | refine WL.y rfl (Yld.rem rfl rfl (by omega) (by omega)) ?_ | refine WL.y rfl (Yld.shl rfl rfl (by omega)) ?_ | refine WL.y rfl (Yld.shr rfl rfl (by omega)) ?_ | refine WL.y rfl (Yld.pure tab_ok rfl) ?_)
  refine WL.y rfl (Yld.arr (us := ktab.map vu) tab_ok rfl zero217 rfl rfl (oneM One.u _) rfl) ?_
  refine WL.storeW tab_ok rfl rfl rfl (oneM One.u _) hB rfl rfl (fun w2 hB2 hg2 => ?_)
  repeat (first | refine WC.seq ?_ | refine WC.block ?_ | refine WC.region ?_ | refine WL.nil ?_ | refine WX.then_normal ?_ | refine WC.skip ?_ | refine WC.exit ?_ | refine WC.ret ?_ | refine WX.then_exit ?_ | refine WX.then_ret ?_ | refine WX.block_normal ?_ | refine WX.block_ret ?_ | refine WX.block_same ?_ | refine WX.block_other rfl ?_ | refine WC.label ?_ | refine WC.scope ?_ | refine WX.scope_normal ?_ | refine WX.scope_ret ?_ | refine WX.scope_exit ?_ | refine WL.y rfl (Yld.add rfl rfl (by simp only [In]; omega)) ?_ | refine WL.y rfl (Yld.sub rfl rfl (by simp only [In]; omega)) ?_ | refine WL.y rfl (Yld.mul rfl rfl (by simp only [In]; omega)) ?_ | refine WL.y rfl (Yld.convB tab_ok rfl rfl rfl rfl) ?_ | refine WL.y rfl (Yld.conv tab_ok rfl rfl rfl (by simp only [In]; omega)) ?_ | refine WL.y rfl (Yld.quo rfl rfl (by omega) (by omega) (by simp only [In]; omega)) ?_ | refine WL.y rfl (Yld.rem rfl rfl (by omega) (by omega)) ?_ | refine WL.y rfl (Yld.shl rfl rfl (by omega)) ?_ | refine WL.y rfl (Yld.shr rfl rfl (by omega)) ?_ | refine WL.y rfl (Yld.pure tab_ok rfl) ?_)
  exact WX.retc tab_ok rfl rfl rfl hB2 rfl ⟨rfl, gr_new hg hg2 (by assumption)⟩
def h0s : List Int := [0x6a09e667, 0xbb67ae85, 0x3c6ef372, 0xa54ff53a, 0x510e527f, 0x9b05688c, 0x1f83d9ab, 0x5be0cd19]
/-- a state's cells -/
def stc (hs : List Int) (A : Option Addr) (c : Nat) (r : List UInt8) (n : Int) : List Value := hs.map vu ++ [.slice A r.length c, .int .u64 n]
theorem new_fn (w : World) : Fn Tryz.prog 130 ⟨[]⟩ w fun v w' => ∃ g, v = .pointer (some ⟨g, 0, none⟩) ∧ Bl w' g 199 (stc h0s none 0 [] 0) ∧ w.grownBy w' none ∧ w.heap.size ≤ g := by
  refine Fn.enter (by kernel_rfl) Tryz.func130 rfl Tryz.ntmps130 rfl ?_
  repeat (first | refine WC.seq ?_ | refine WC.block ?_ | refine WC.region ?_ | refine WL.nil ?_ | refine WX.then_normal ?_ | refine WC.skip ?_ | refine WC.exit ?_ | refine WC.ret ?_ | refine WX.then_exit ?_ | refine WX.then_ret ?_ | refine WX.block_normal ?_ | refine WX.block_ret ?_ | refine WX.block_same ?_ | refine WX.block_other rfl ?_ | refine WC.label ?_ | refine WC.scope ?_ | refine WX.scope_normal ?_ | refine WX.scope_ret ?_ | refine WX.scope_exit ?_ | refine WL.y rfl (Yld.add rfl rfl (by simp only [In]; omega)) ?_ | refine WL.y rfl (Yld.sub rfl rfl (by simp only [In]; omega)) ?_ | refine WL.y rfl (Yld.mul rfl rfl (by simp only [In]; omega)) ?_ | refine WL.y rfl (Yld.convB tab_ok rfl rfl rfl rfl) ?_ | refine WL.y rfl (Yld.conv tab_ok rfl rfl rfl (by simp only [In]; omega)) ?_ | refine WL.y rfl (Yld.quo rfl rfl (by omega) (by omega) (by simp only [In]; omega)) ?_ | refine WL.y rfl (Yld.rem rfl rfl (by omega) (by omega)) ?_ | refine WL.y rfl (Yld.shl rfl rfl (by omega)) ?_ | refine WL.y rfl (Yld.shr rfl rfl (by omega)) ?_ | refine WL.y rfl (Yld.pure tab_ok rfl) ?_)
  refine WL.y rfl (Yld.arr (us := h0s.map vu) tab_ok rfl zero197 rfl rfl (oneM One.u _) rfl) ?_
  refine WL.y rfl (Yld.struct (us := stc h0s none 0 [] 0) zero199 places199 rfl rfl) ?_
  refine WL.box rfl rfl rfl (fun g w1 hB hg hs => ?_)
  repeat (first | refine WC.seq ?_ | refine WC.block ?_ | refine WC.region ?_ | refine WL.nil ?_ | refine WX.then_normal ?_ | refine WC.skip ?_ | refine WC.exit ?_ | refine WC.ret ?_ | refine WX.then_exit ?_ | refine WX.then_ret ?_ | refine WX.block_normal ?_ | refine WX.block_ret ?_ | refine WX.block_same ?_ | refine WX.block_other rfl ?_ | refine WC.label ?_ | refine WC.scope ?_ | refine WX.scope_normal ?_ | refine WX.scope_ret ?_ | refine WX.scope_exit ?_ | refine WL.y rfl (Yld.add rfl rfl (by simp only [In]; omega)) ?_ | refine WL.y rfl (Yld.sub rfl rfl (by simp only [In]; omega)) ?_ | refine WL.y rfl (Yld.mul rfl rfl (by simp only [In]; omega)) ?_ | refine WL.y rfl (Yld.convB tab_ok rfl rfl rfl rfl) ?_ | refine WL.y rfl (Yld.conv tab_ok rfl rfl rfl (by simp only [In]; omega)) ?_ | refine WL.y rfl (Yld.quo rfl rfl (by omega) (by omega) (by simp only [In]; omega)) ?_ | refine WL.y rfl (Yld.rem rfl rfl (by omega) (by omega)) ?_ | refine WL.y rfl (Yld.shl rfl rfl (by omega)) ?_ | refine WL.y rfl (Yld.shr rfl rfl (by omega)) ?_ | refine WL.y rfl (Yld.pure tab_ok rfl) ?_)
  exact WX.ret1 rfl rfl ⟨g, rfl, hB, hg, hs⟩
end Go.Proofs.YtjhipfdbionpoaaGreatDoor

 