/- Texts of this claim, joined by a program: GGa, PathA, PathB, PathC, PathD, PathE, PathF, GPr, See, PathG, Srt, PathH, SrtG, GrA, GrB, GrC, GrO. -/
import Derived.Test.YtlonpmajnglmoaaGreatDoorJ2
import Derived.Lib.Replace
import Derived.Lib.Join
import Derived.Lib.SlicesCompact
import Derived.Sort.Walk0
import Derived.Lib.Bytealg
import Derived.Shelf.SlSortCmp.Insertion
/- Printed by a program (wip/vg): what the functions mean, plainly, and their walks. -/
namespace Go.Proofs.YtlonpmajnglmoaaGreatDoor
open Go Go.RowKit
attribute [local irreducible] WL WC WX WQ WK WJ Yld Eff Ef0 Fn
def M_slices_Clone_string_string (s : List (List UInt8)) (K : (List (List UInt8)) → Prop) : Prop :=
 (s.length ≤ maxLen →
 ((s = [] → K []) ∧
 ((((([] : List (List UInt8))).length + s.length) * 16 ≤ 140737488355328) ∧
 K (([] : List (List UInt8)) ++ s))))

def M_slices_Clone_int_int (s : List Int) (K : (List Int) → Prop) : Prop :=
 (s.length ≤ maxLen →
 ((s = [] → K []) ∧
 ((((([] : List Int)).length + s.length) * 8 ≤ 140737488355328) ∧
 K (([] : List Int) ++ s))))

def M_slices_Index_int_int (s : List Int) (v : Int) (K : Int → Prop) : Prop :=
 (s.length ≤ maxLen →
 Lp1 (fun (t8 : Int) kont1 => ((t8 < (s.length : Int) → (0 ≤ t8 ∧ t8 < (s.length : Nat)) ∧
 ((v = (s.getD t8.toNat 0) → K t8) ∧
 (¬ (v = (s.getD t8.toNat 0)) → (In .i64 (t8 + (1 : Int))) ∧
 kont1 (t8 + (1 : Int))))) ∧
 (¬ (t8 < (s.length : Int)) → K (-1 : Int)))) (0 : Int))

def M_smithyref_Texts (l : List (List UInt8)) (K : (List (List UInt8)) → Prop) : Prop :=
 (l.length ≤ maxLen →
 (0 ≤ (l.length : Int) ∧ (l.length : Int) * 16 ≤ 140737488355328 ∧ (l.length : Int) ≤ 140737488355328) ∧
 Lp2 (fun (out : List (List UInt8)) (i : Int) kont1 => ((i < (l.length : Int) → (0 ≤ i ∧ i < (l.length : Nat)) ∧
 ((out.length + (([l.getD i.toNat []] : List (List UInt8))).length) * 16 ≤ 140737488355328) ∧
 (In .i64 (i + (1 : Int))) ∧
 kont1 (out ++ ([l.getD i.toNat []] : List (List UInt8))) (i + (1 : Int))) ∧
 (¬ (i < (l.length : Int)) → K out))) ([] : List (List UInt8)) (0 : Int))

def M_smithyref_SameInts (a : List Int) (b : List Int) (K : Bool → Prop) : Prop :=
 (a.length ≤ maxLen →
 (b.length ≤ maxLen →
 ((¬ ((a.length : Int) = (b.length : Int)) → K false) ∧
 ((a.length : Int) = (b.length : Int) → Lp1 (fun (i : Int) kont1 => ((i < (a.length : Int) → (0 ≤ i ∧ i < (a.length : Nat)) ∧
 (0 ≤ i ∧ i < (b.length : Nat)) ∧
 ((¬ ((a.getD i.toNat 0) = (b.getD i.toNat 0)) → K false) ∧
 ((a.getD i.toNat 0) = (b.getD i.toNat 0) → (In .i64 (i + (1 : Int))) ∧
 kont1 (i + (1 : Int))))) ∧
 (¬ (i < (a.length : Int)) → K true))) (0 : Int)))))

def M_smithylaw22_act (out : List UInt8) (in_ : List (List UInt8)) (K : Int → (List (List UInt8)) → (List (List UInt8)) → (List UInt8) → Prop) : Prop :=
 (in_.length ≤ maxLen →
 K (1 : Int) [] in_ out)

def M_graph_copied (x_Tool : Int) (x_Args : List (List UInt8)) (x_Inputs : List (List UInt8)) (x_Output : List UInt8) (K : Int → (List (List UInt8)) → (List (List UInt8)) → (List UInt8) → Prop) : Prop :=
 (x_Args.length ≤ maxLen →
 (x_Inputs.length ≤ maxLen →
 M_slices_Clone_string_string x_Args (fun (t5 : List (List UInt8)) =>
 M_slices_Clone_string_string x_Inputs (fun (t8 : List (List UInt8)) =>
 K x_Tool t5 t8 x_Output))))

def M_pgraph_Graph_fits_1 (s : List UInt8) (K : Bool → Prop) : Prop :=
 M_path_Valid s (fun (t4 : Bool) =>
 K (!t4))

def M_slices_IndexFunc_string_string_pgraph_Graph_fits_1 (s : List (List UInt8)) (K : Int → Prop) : Prop :=
 (s.length ≤ maxLen →
 Lp1 (fun (t8 : Int) kont1 => ((t8 < (s.length : Int) → (0 ≤ t8 ∧ t8 < (s.length : Nat)) ∧
 M_pgraph_Graph_fits_1 (s.getD t8.toNat []) (fun (t16 : Bool) =>
 ((t16 = true → K t8) ∧
 (t16 = false → (In .i64 (t8 + (1 : Int))) ∧
 kont1 (t8 + (1 : Int)))))) ∧
 (¬ (t8 < (s.length : Int)) → K (-1 : Int)))) (0 : Int))

def M_slices_ContainsFunc_string_string_pgraph_Graph_fits_1 (s : List (List UInt8)) (K : Bool → Prop) : Prop :=
 (s.length ≤ maxLen →
 M_slices_IndexFunc_string_string_pgraph_Graph_fits_1 s (fun (t7 : Int) =>
 K (decide ((0 : Int) ≤ t7))))

def M_pgraph_Graph_fits (g_l : List (Int × List (List UInt8) × List (List UInt8) × List UInt8)) (g_makers : List (List UInt8 × Int)) (g_before : List (List Int)) (g_after : List (List Int)) (x_Tool : Int) (x_Args : List (List UInt8)) (x_Inputs : List (List UInt8)) (x_Output : List UInt8) (K : Er → Prop) : Prop :=
 (g_l.length ≤ maxLen →
 (g_before.length ≤ maxLen →
 (g_after.length ≤ maxLen →
 (x_Args.length ≤ maxLen →
 (x_Inputs.length ≤ maxLen →
 ((((decide (x_Tool < (1 : Int))) || (decide ((5 : Int) < x_Tool))) = true → K (Er.e 10)) ∧
 (((decide (x_Tool < (1 : Int))) || (decide ((5 : Int) < x_Tool))) = false → M_path_Valid x_Output (fun (t18 : Bool) =>
 ∃ J1 : Bool → Prop, ((((!t18) = true → J1 true) ∧
 ((!t18) = false → M_slices_ContainsFunc_string_string_pgraph_Graph_fits_1 x_Inputs (fun (t23 : Bool) =>
 J1 t23)))) ∧
 (∀ q2 : Bool, J1 q2 → ((q2 = true → K (Er.e 11)) ∧
 (q2 = false → (x_Output.length ≤ maxLen) ∧
 ((((mget g_makers x_Output).isSome) = true → K (Er.e 6)) ∧
 (((mget g_makers x_Output).isSome) = false → K Er.ok)))))))))))))

def M_graph_New_1 (x_Tool : Int) (x_Args : List (List UInt8)) (x_Inputs : List (List UInt8)) (x_Output : List UInt8) (K : Bool → Prop) : Prop :=
 (x_Args.length ≤ maxLen →
 (x_Inputs.length ≤ maxLen →
 K ((decide ((1000 : Int) < (x_Inputs.length : Int))) || (decide ((1000 : Int) < (x_Args.length : Int))))))

def M_slices_IndexFunc_api_Action_api_Action_graph_New_1 (s : List (Int × List (List UInt8) × List (List UInt8) × List UInt8)) (K : Int → Prop) : Prop :=
 (s.length ≤ maxLen →
 Lp1 (fun (t8 : Int) kont1 => ((t8 < (s.length : Int) → (0 ≤ t8 ∧ t8 < (s.length : Nat)) ∧
 M_graph_New_1 ((s.getD t8.toNat (0, [], [], [])).1) ((s.getD t8.toNat (0, [], [], [])).2.1) ((s.getD t8.toNat (0, [], [], [])).2.2.1) ((s.getD t8.toNat (0, [], [], [])).2.2.2) (fun (t16 : Bool) =>
 ((t16 = true → K t8) ∧
 (t16 = false → (In .i64 (t8 + (1 : Int))) ∧
 kont1 (t8 + (1 : Int)))))) ∧
 (¬ (t8 < (s.length : Int)) → K (-1 : Int)))) (0 : Int))

def M_slices_ContainsFunc_api_Action_api_Action_graph_New_1 (s : List (Int × List (List UInt8) × List (List UInt8) × List UInt8)) (K : Bool → Prop) : Prop :=
 (s.length ≤ maxLen →
 M_slices_IndexFunc_api_Action_api_Action_graph_New_1 s (fun (t7 : Int) =>
 K (decide ((0 : Int) ≤ t7))))

def M_pgraph_Graph_reach (g_l : List (Int × List (List UInt8) × List (List UInt8) × List UInt8)) (g_makers : List (List UInt8 × Int)) (g_before : List (List Int)) (g_after : List (List Int)) (from_ : List Int) (K : (List Bool) → Prop) : Prop :=
 (g_l.length ≤ maxLen →
 (g_before.length ≤ maxLen →
 (g_after.length ≤ maxLen →
 (from_.length ≤ maxLen →
 (0 ≤ (g_l.length : Int) ∧ (g_l.length : Int) * 1 ≤ 140737488355328 ∧ (g_l.length : Int) ≤ 140737488355328) ∧
 M_slices_Clone_int_int from_ (fun (work : List Int) =>
 Lp2 (fun (work2 : List Int) (met : List Bool) kont1 => (g_l.length : Int).toNat = met.length → (((0 : Int) < (work2.length : Int) → (In .i64 ((work2.length : Int) - (1 : Int))) ∧
 (0 ≤ (work2.length : Int) - (1 : Int) ∧ (work2.length : Int) - (1 : Int) < (work2.length : Nat)) ∧
 (In .i64 ((work2.length : Int) - (1 : Int))) ∧
 (0 ≤ (work2.length : Int) - (1 : Int) ∧ (work2.length : Int) - (1 : Int) ≤ (work2.length : Nat)) ∧
 (0 ≤ work2.getD (((work2.length : Int) - (1 : Int)).toNat) 0 ∧ work2.getD (((work2.length : Int) - (1 : Int)).toNat) 0 < ((g_l.length : Int).toNat : Nat)) ∧
 (((!(met.getD ((work2.getD (((work2.length : Int) - (1 : Int)).toNat) 0).toNat) false)) = true → (0 ≤ work2.getD (((work2.length : Int) - (1 : Int)).toNat) 0 ∧ work2.getD (((work2.length : Int) - (1 : Int)).toNat) 0 < ((g_l.length : Int).toNat : Nat)) ∧
 (0 ≤ work2.getD (((work2.length : Int) - (1 : Int)).toNat) 0 ∧ work2.getD (((work2.length : Int) - (1 : Int)).toNat) 0 < (g_before.length : Nat)) ∧
 (((work2.take ((work2.length : Int) - (1 : Int)).toNat).length + (g_before.getD ((work2.getD (((work2.length : Int) - (1 : Int)).toNat) 0).toNat) []).length) * 8 ≤ 140737488355328) ∧
 kont1 ((work2.take ((work2.length : Int) - (1 : Int)).toNat) ++ (g_before.getD ((work2.getD (((work2.length : Int) - (1 : Int)).toNat) 0).toNat) [])) (met.set ((work2.getD (((work2.length : Int) - (1 : Int)).toNat) 0).toNat) true)) ∧
 ((!(met.getD ((work2.getD (((work2.length : Int) - (1 : Int)).toNat) 0).toNat) false)) = false → kont1 (work2.take ((work2.length : Int) - (1 : Int)).toNat) met))) ∧
 (¬ ((0 : Int) < (work2.length : Int)) → K met))) work (List.replicate (g_l.length : Int).toNat false))))))

def M_pgraph_Graph_After (g_l : List (Int × List (List UInt8) × List (List UInt8) × List UInt8)) (g_makers : List (List UInt8 × Int)) (g_before : List (List Int)) (g_after : List (List Int)) (i : Int) (K : (List Int) → Prop) : Prop :=
 (g_l.length ≤ maxLen →
 (g_before.length ≤ maxLen →
 (g_after.length ≤ maxLen →
 ((((decide (i < (0 : Int))) || (decide ((g_l.length : Int) ≤ i))) = true → K []) ∧
 (((decide (i < (0 : Int))) || (decide ((g_l.length : Int) ≤ i))) = false → (0 ≤ i ∧ i < (g_after.length : Nat)) ∧
 M_slices_Clone_int_int (g_after.getD i.toNat []) (fun (t4 : List Int) =>
 K t4))))))

def M_pgraph_Graph_Needs (g_l : List (Int × List (List UInt8) × List (List UInt8) × List UInt8)) (g_makers : List (List UInt8 × Int)) (g_before : List (List Int)) (g_after : List (List Int)) (outputs : List (List UInt8)) (K : (List Int) → Prop) : Prop :=
 (g_l.length ≤ maxLen →
 (g_before.length ≤ maxLen →
 (g_after.length ≤ maxLen →
 (outputs.length ≤ maxLen →
 Lp2 (fun (from_ : List Int) (t15 : Int) kont1 => ((t15 < (outputs.length : Int) → ∃ J1 : (List Int) → Prop, ((0 ≤ t15 ∧ t15 < (outputs.length : Nat)) ∧
 ((outputs.getD t15.toNat []).length ≤ maxLen) ∧
 ((((mget g_makers (outputs.getD t15.toNat [])).isSome) = true → ((from_.length + (([(mget g_makers (outputs.getD t15.toNat [])).getD 0] : List Int)).length) * 8 ≤ 140737488355328) ∧
 J1 (from_ ++ ([(mget g_makers (outputs.getD t15.toNat [])).getD 0] : List Int))) ∧
 (((mget g_makers (outputs.getD t15.toNat [])).isSome) = false → J1 from_))) ∧
 (∀ from_2 : List Int, J1 from_2 → (In .i64 (t15 + (1 : Int))) ∧
 kont1 from_2 (t15 + (1 : Int)))) ∧
 (¬ (t15 < (outputs.length : Int)) → M_pgraph_Graph_reach g_l g_makers g_before g_after from_ (fun (t36 : List Bool) =>
 Lp2 (fun (out : List Int) (t38 : Int) kont2 => ((t38 < (t36.length : Int) → ∃ J2 : (List Int) → Prop, ((0 ≤ t38 ∧ t38 < (t36.length : Nat)) ∧
 (((t36.getD t38.toNat false) = true → ((out.length + (([t38] : List Int)).length) * 8 ≤ 140737488355328) ∧
 J2 (out ++ ([t38] : List Int))) ∧
 ((t36.getD t38.toNat false) = false → J2 out))) ∧
 (∀ out2 : List Int, J2 out2 → (In .i64 (t38 + (1 : Int))) ∧
 kont2 out2 (t38 + (1 : Int)))) ∧
 (¬ (t38 < (t36.length : Int)) → K out))) [] (0 : Int))))) [] (0 : Int)))))

def M_pgraph_Graph_Order (g_l : List (Int × List (List UInt8) × List (List UInt8) × List UInt8)) (g_makers : List (List UInt8 × Int)) (g_before : List (List Int)) (g_after : List (List Int)) (K : (List Int) → Prop) : Prop :=
 (g_l.length ≤ maxLen →
 (g_before.length ≤ maxLen →
 (g_after.length ≤ maxLen →
 (0 ≤ (g_l.length : Int) ∧ (g_l.length : Int) * 8 ≤ 140737488355328 ∧ (g_l.length : Int) ≤ 140737488355328) ∧
 Lp2 (fun (t20 : Int) (left : List Int) kont1 => (g_l.length : Int).toNat = left.length → ((t20 < (g_l.length : Int) → (0 ≤ t20 ∧ t20 < (g_before.length : Nat)) ∧
 (0 ≤ t20 ∧ t20 < ((g_l.length : Int).toNat : Nat)) ∧
 (In .i64 (t20 + (1 : Int))) ∧
 kont1 (t20 + (1 : Int)) (left.set t20.toNat ((g_before.getD t20.toNat []).length : Int))) ∧
 (¬ (t20 < (g_l.length : Int)) → Lp3 (fun (out : List Int) (t40 : Int) (left2 : List Int) kont2 => (g_l.length : Int).toNat = left2.length → ((t40 < (g_l.length : Int) → M_slices_Index_int_int left2 (0 : Int) (fun (i : Int) =>
 (0 ≤ i ∧ i < ((g_l.length : Int).toNat : Nat)) ∧
 ((out.length + (([i] : List Int)).length) * 8 ≤ 140737488355328) ∧
 (0 ≤ i ∧ i < (g_after.length : Nat)) ∧
 Lp2 (fun (t59 : Int) (left3 : List Int) kont3 => (g_l.length : Int).toNat = left3.length → ((t59 < ((g_after.getD i.toNat []).length : Int) → (0 ≤ t59 ∧ t59 < ((g_after.getD i.toNat []).length : Nat)) ∧
 (0 ≤ (g_after.getD i.toNat []).getD t59.toNat 0 ∧ (g_after.getD i.toNat []).getD t59.toNat 0 < ((g_l.length : Int).toNat : Nat)) ∧
 (In .i64 ((left3.getD (((g_after.getD i.toNat []).getD t59.toNat 0).toNat) 0) - (1 : Int))) ∧
 (0 ≤ (g_after.getD i.toNat []).getD t59.toNat 0 ∧ (g_after.getD i.toNat []).getD t59.toNat 0 < ((g_l.length : Int).toNat : Nat)) ∧
 (In .i64 (t59 + (1 : Int))) ∧
 kont3 (t59 + (1 : Int)) (left3.set (((g_after.getD i.toNat []).getD t59.toNat 0).toNat) ((left3.getD (((g_after.getD i.toNat []).getD t59.toNat 0).toNat) 0) - (1 : Int)))) ∧
 (¬ (t59 < ((g_after.getD i.toNat []).length : Int)) → (In .i64 (t40 + (1 : Int))) ∧
 kont2 (out ++ ([i] : List Int)) (t40 + (1 : Int)) left3))) (0 : Int) (left2.set i.toNat (-1 : Int)))) ∧
 (¬ (t40 < (g_l.length : Int)) → K out))) [] (0 : Int) left))) (0 : Int) (List.replicate (g_l.length : Int).toNat 0))))

def M_graph_New (l : List (Int × List (List UInt8) × List (List UInt8) × List UInt8)) (K0 : Er → Prop) (K : (List (Int × List (List UInt8) × List (List UInt8) × List UInt8)) → (List (List UInt8 × Int)) → (List (List Int)) → (List (List Int)) → Er → Prop) : Prop :=
 (l.length ≤ maxLen →
 ∃ J1 : Bool → Prop, ((((decide ((1000 : Int) < (l.length : Int))) = true → J1 true) ∧
 ((decide ((1000 : Int) < (l.length : Int))) = false → M_slices_ContainsFunc_api_Action_api_Action_graph_New_1 l (fun (t26 : Bool) =>
 J1 t26)))) ∧
 (∀ q1 : Bool, J1 q1 → ((q1 = true → K0 (Er.e 9)) ∧
 (q1 = false → Lp3 (fun (t31 : Int) (t200 : List (Int × List (List UInt8) × List (List UInt8) × List UInt8)) (t201 : List (List UInt8 × Int)) kont1 => ((t31 < (l.length : Int) → (0 ≤ t31 ∧ t31 < (l.length : Nat)) ∧
 M_pgraph_Graph_fits t200 t201 [] [] ((l.getD t31.toNat (0, [], [], [])).1) ((l.getD t31.toNat (0, [], [], [])).2.1) ((l.getD t31.toNat (0, [], [], [])).2.2.1) ((l.getD t31.toNat (0, [], [], [])).2.2.2) (fun (err : Er) =>
 ((¬ (err = Er.ok) → ∃ n : Nat, err = Er.e n ∧
 K0 (Er.at_ t31 n)) ∧
 (err = Er.ok → (((l.getD t31.toNat (0, [], [], [])).2.2.2).length ≤ maxLen ∧ t201.length < maxLen) ∧
 M_graph_copied ((l.getD t31.toNat (0, [], [], [])).1) ((l.getD t31.toNat (0, [], [], [])).2.1) ((l.getD t31.toNat (0, [], [], [])).2.2.1) ((l.getD t31.toNat (0, [], [], [])).2.2.2) (fun (t59_Tool : Int) (t59_Args : List (List UInt8)) (t59_Inputs : List (List UInt8)) (t59_Output : List UInt8) =>
 ((t200.length + (([(t59_Tool, t59_Args, t59_Inputs, t59_Output)] : List (Int × List (List UInt8) × List (List UInt8) × List UInt8))).length) * 72 ≤ 140737488355328) ∧
 (In .i64 (t31 + (1 : Int))) ∧
 kont1 (t31 + (1 : Int)) (t200 ++ ([(t59_Tool, t59_Args, t59_Inputs, t59_Output)] : List (Int × List (List UInt8) × List (List UInt8) × List UInt8))) (mput t201 ((l.getD t31.toNat (0, [], [], [])).2.2.2) t31)))))) ∧
 (¬ (t31 < (l.length : Int)) → (0 ≤ (l.length : Int) ∧ (l.length : Int) * 24 ≤ 140737488355328 ∧ (l.length : Int) ≤ 140737488355328) ∧
 Lp3 (fun (t76 : Int) (t202 : List (List Int)) (t203 : List (List Int)) kont2 => ((t76 < (t200.length : Int) → (0 ≤ t76 ∧ t76 < (t200.length : Nat)) ∧
 Lp2 (fun (before : List Int) (t84 : Int) kont3 => ((t84 < (((t200.getD t76.toNat (0, [], [], [])).2.2.1).length : Int) → ∃ J2 : (List Int) → Prop, ((0 ≤ t84 ∧ t84 < (((t200.getD t76.toNat (0, [], [], [])).2.2.1).length : Nat)) ∧
 ((((t200.getD t76.toNat (0, [], [], [])).2.2.1).getD t84.toNat []).length ≤ maxLen) ∧
 ((((mget t201 (((t200.getD t76.toNat (0, [], [], [])).2.2.1).getD t84.toNat [])).isSome) = true → ((before.length + (([(mget t201 (((t200.getD t76.toNat (0, [], [], [])).2.2.1).getD t84.toNat [])).getD 0] : List Int)).length) * 8 ≤ 140737488355328) ∧
 J2 (before ++ ([(mget t201 (((t200.getD t76.toNat (0, [], [], [])).2.2.1).getD t84.toNat [])).getD 0] : List Int))) ∧
 (((mget t201 (((t200.getD t76.toNat (0, [], [], [])).2.2.1).getD t84.toNat [])).isSome) = false → J2 before))) ∧
 (∀ before2 : List Int, J2 before2 → (In .i64 (t84 + (1 : Int))) ∧
 kont3 before2 (t84 + (1 : Int)))) ∧
 (¬ (t84 < (((t200.getD t76.toNat (0, [], [], [])).2.2.1).length : Int)) → M_slices_Sort_int_int before (fun (ys : List Int) =>
 M_slices_Compact_int_int ys (fun (before3 : List Int) =>
 ((t202.length + (([before3] : List (List Int))).length) * 24 ≤ 140737488355328) ∧
 Lp2 (fun (t119 : Int) (t2032 : List (List Int)) kont4 => ((t119 < (before3.length : Int) → (0 ≤ t119 ∧ t119 < (before3.length : Nat)) ∧
 (0 ≤ before3.getD t119.toNat 0 ∧ before3.getD t119.toNat 0 < (t2032.length : Nat)) ∧
 (((t2032.getD ((before3.getD t119.toNat 0).toNat) []).length + (([t76] : List Int)).length) * 8 ≤ 140737488355328) ∧
 (0 ≤ before3.getD t119.toNat 0 ∧ before3.getD t119.toNat 0 < (t2032.length : Nat)) ∧
 (In .i64 (t119 + (1 : Int))) ∧
 kont4 (t119 + (1 : Int)) (t2032.set ((before3.getD t119.toNat 0).toNat) ((t2032.getD ((before3.getD t119.toNat 0).toNat) []) ++ ([t76] : List Int)))) ∧
 (¬ (t119 < (before3.length : Int)) → (In .i64 (t76 + (1 : Int))) ∧
 kont2 (t76 + (1 : Int)) (t202 ++ ([before3] : List (List Int))) t2032))) (0 : Int) t203))))) [] (0 : Int)) ∧
 (¬ (t76 < (t200.length : Int)) → Lp1 (fun (t146 : Int) kont5 => ((t146 < (t200.length : Int) → (0 ≤ t146 ∧ t146 < (t202.length : Nat)) ∧
 M_pgraph_Graph_reach t200 t201 t202 t203 (t202.getD t146.toNat []) (fun (t157 : List Bool) =>
 (0 ≤ t146 ∧ t146 < (t157.length : Nat)) ∧
 (((t157.getD t146.toNat false) = true → ∃ n2 : Nat, (Er.e 4) = Er.e n2 ∧
 K0 (Er.at_ t146 n2)) ∧
 ((t157.getD t146.toNat false) = false → (In .i64 (t146 + (1 : Int))) ∧
 kont5 (t146 + (1 : Int)))))) ∧
 (¬ (t146 < (t200.length : Int)) → K t200 t201 t202 t203 Er.ok))) (0 : Int)))) (0 : Int) [] (List.replicate (l.length : Int).toNat ([] : List Int))))) (0 : Int) [] ([] : List (List UInt8 × Int))))))

set_option maxHeartbeats 8000000 in
theorem W_slices_Clone_string_string {w : World} {s : List (List UInt8)} {A_s : Option Addr} {c_s : Nat} {n_s : Nat} {K : (List (List UInt8)) → Prop} (hs : Rd vs w A_s c_s s) (hn_s : n_s = s.length) (H : M_slices_Clone_string_string s K) : Fn Tryz.prog 143 ⟨[.slice A_s n_s c_s]⟩ w (fun v w' => w.grownBy w' none ∧ ∃ (r : List (List UInt8)), ∃ (A_r : Option Addr), ∃ (c_r : Nat), v = .slice A_r r.length c_r ∧ Own vs w' w.heap.size 9 A_r c_r r ∧ K r) := by
  subst hn_s
  unfold M_slices_Clone_string_string at H
  refine Fn.enter (by kernel_rfl) Tryz.func143 rfl Tryz.ntmps143 rfl ?_
  replace H := H (Nat.le_trans hs.cap hs.max)
  refine WC.seq ?_
  refine WC.region ?_
  refine WL.y rfl (Yld.pure tab_ok rfl) ?_
  refine WL.nil (WX.then_normal ?_)
  refine WC.seq ?_
  refine WC.seq ?_
  refine WC.region ?_
  refine WL.y rfl (Yld.pure tab_ok rfl) ?_
  refine WL.y rfl (Yld.sleqnil Tryz.underlying78 rfl) ?_
  refine WL.nil (WX.then_normal ?_)
  refine WC.cond rfl (fun b1 => ?_) (fun b1 => ?_)
  · replace H := H.1 (hs.nil_of b1)
    refine WC.seq ?_
    refine WC.region ?_
    refine WL.y rfl (Yld.pure tab_ok rfl) ?_
    refine WL.nil (WX.then_normal ?_)
    refine WC.ret (WX.then_ret ?_)
    exact WX.ret1 rfl rfl ⟨(gr_refl _ _), [], none, 0, rfl, (Own.nil vs w w.heap.size 9), H⟩
  · replace H := H.2
    refine WC.skip (WX.then_normal ?_)
    refine WC.seq ?_
    refine WC.region ?_
    refine WL.lit tab_ok rfl rfl rfl all1n rfl (by omega) (fun g1 w1 hB1 hg1 hl1 => ?_)
    have hO1 : Own vs w1 w.heap.size 9 (some ⟨g1, 0, none⟩) 0 ([] : List (List UInt8)) := Own.ofBl hB1 (Nat.le_trans (Nat.le_refl _) hl1) (by simp [maxLen]) rfl
    have gr1 := hg1
    refine WL.y rfl (Yld.pure tab_ok rfl) ?_
    obtain ⟨h1, H⟩ := H
    refine WL.append tab_ok rfl rfl One.s hO1 rfl rfl (hs.grown gr1) rfl rfl h1 (applen h1) (size_le gr1) (fun A_t2 c_t2 w2 hO2 hg2 hk1 => ?_)
    have gr2 := gr_mod gr1 hg2 hO1.ge'
    refine WL.y rfl (Yld.pure tab_ok rfl) ?_
    refine WL.nil (WX.then_normal ?_)
    refine WC.ret ?_
    exact WX.ret1 rfl rfl ⟨gr2, (([] : List (List UInt8)) ++ s), A_t2, c_t2, rfl, hO2, H⟩

set_option maxHeartbeats 8000000 in
theorem W_slices_Clone_int_int {w : World} {s : List Int} {A_s : Option Addr} {c_s : Nat} {n_s : Nat} {K : (List Int) → Prop} (hs : Rd vi w A_s c_s s) (hn_s : n_s = s.length) (H : M_slices_Clone_int_int s K) : Fn Tryz.prog 112 ⟨[.slice A_s n_s c_s]⟩ w (fun v w' => w.grownBy w' none ∧ ∃ (r : List Int), ∃ (A_r : Option Addr), ∃ (c_r : Nat), v = .slice A_r r.length c_r ∧ Own vi w' w.heap.size 3 A_r c_r r ∧ K r) := by
  subst hn_s
  unfold M_slices_Clone_int_int at H
  refine Fn.enter (by kernel_rfl) Tryz.func112 rfl Tryz.ntmps112 rfl ?_
  replace H := H (Nat.le_trans hs.cap hs.max)
  refine WC.seq ?_
  refine WC.region ?_
  refine WL.y rfl (Yld.pure tab_ok rfl) ?_
  refine WL.nil (WX.then_normal ?_)
  refine WC.seq ?_
  refine WC.seq ?_
  refine WC.region ?_
  refine WL.y rfl (Yld.pure tab_ok rfl) ?_
  refine WL.y rfl (Yld.sleqnil Tryz.underlying98 rfl) ?_
  refine WL.nil (WX.then_normal ?_)
  refine WC.cond rfl (fun b1 => ?_) (fun b1 => ?_)
  · replace H := H.1 (hs.nil_of b1)
    refine WC.seq ?_
    refine WC.region ?_
    refine WL.y rfl (Yld.pure tab_ok rfl) ?_
    refine WL.nil (WX.then_normal ?_)
    refine WC.ret (WX.then_ret ?_)
    exact WX.ret1 rfl rfl ⟨(gr_refl _ _), [], none, 0, rfl, (Own.nil vi w w.heap.size 3), H⟩
  · replace H := H.2
    refine WC.skip (WX.then_normal ?_)
    refine WC.seq ?_
    refine WC.region ?_
    refine WL.lit tab_ok rfl rfl rfl all1n rfl (by omega) (fun g1 w1 hB1 hg1 hl1 => ?_)
    have hO1 : Own vi w1 w.heap.size 3 (some ⟨g1, 0, none⟩) 0 ([] : List Int) := Own.ofBl hB1 (Nat.le_trans (Nat.le_refl _) hl1) (by simp [maxLen]) rfl
    have gr1 := hg1
    refine WL.y rfl (Yld.pure tab_ok rfl) ?_
    obtain ⟨h1, H⟩ := H
    refine WL.append tab_ok rfl rfl One.i hO1 rfl rfl (hs.grown gr1) rfl rfl h1 (applen h1) (size_le gr1) (fun A_t2 c_t2 w2 hO2 hg2 hk1 => ?_)
    have gr2 := gr_mod gr1 hg2 hO1.ge'
    refine WL.y rfl (Yld.pure tab_ok rfl) ?_
    refine WL.nil (WX.then_normal ?_)
    refine WC.ret ?_
    exact WX.ret1 rfl rfl ⟨gr2, (([] : List Int) ++ s), A_t2, c_t2, rfl, hO2, H⟩

set_option maxHeartbeats 8000000 in
theorem W_slices_Index_int_int {w : World} {s : List Int} {A_s : Option Addr} {c_s : Nat} {v : Int} {n_s : Nat} {K : Int → Prop} (hs : Rd vi w A_s c_s s) (hn_s : n_s = s.length) (H : M_slices_Index_int_int s v K) : Fn Tryz.prog 111 ⟨[.slice A_s n_s c_s, .int .i64 v]⟩ w (fun v w' => w = w' ∧ ∃ (r : Int), v = .int .i64 r ∧ K r) := by
  subst hn_s
  unfold M_slices_Index_int_int at H
  refine Fn.enter (by kernel_rfl) Tryz.func111 rfl Tryz.ntmps111 rfl ?_
  replace H := H (Nat.le_trans hs.cap hs.max)
  refine WC.seq ?_
  refine WC.region ?_
  refine WL.y rfl (Yld.pure tab_ok rfl) ?_
  refine WL.nil (WX.then_normal ?_)
  refine WC.seq ?_
  refine WC.seq ?_
  refine WC.region ?_
  refine WL.y rfl (Yld.pure tab_ok rfl) ?_
  refine WL.y rfl (Yld.pure tab_ok rfl) ?_
  refine WL.y rfl (Yld.pure tab_ok rfl) ?_
  refine WL.nil (WX.then_normal ?_)
  refine WC.block ?_
  obtain ⟨I1, mu1, h0_1, HR1⟩ := H
  refine WC.loopF (fun n' L' w' => ∃ (t8 : Int), n' = mu1 t8 ∧ L' = [(0, .slice A_s s.length c_s), (1, .int .i64 v), (7, .int .i64 (s.length : Int)), (8, .int .i64 t8)] ∧ I1 t8 ∧ w = w') _ _ ⟨(0 : Int), rfl, rfl, h0_1, rfl⟩ (by repeat (first | exact Sub.nil | refine Sub.cons rfl ?_)) ?_
  clear h0_1
  rintro _ _ _ ⟨t8, rfl, rfl, hI1, rfl⟩
  have H := HR1 t8 hI1
  refine WC.seq ?_
  refine WC.region ?_
  refine WL.y rfl (Yld.pure tab_ok rfl) ?_
  refine WL.nil (WX.then_normal ?_)
  refine WC.seq ?_
  refine WC.cond rfl (fun b1 => ?_) (fun b1 => ?_)
  · replace H := H.1 (of_decide_eq_true b1)
    refine WC.skip (WX.then_normal ?_)
    refine WC.seq ?_
    refine WC.block ?_
    refine WC.seq ?_
    refine WC.region ?_
    refine WL.y rfl (Yld.pure tab_ok rfl) ?_
    refine WL.y rfl (Yld.pure tab_ok rfl) ?_
    refine WL.nil (WX.then_normal ?_)
    refine WC.seq ?_
    refine WC.region ?_
    refine WL.y rfl (Yld.pure tab_ok rfl) ?_
    refine WL.y rfl (Yld.pure tab_ok rfl) ?_
    refine WL.y rfl (Yld.pure tab_ok rfl) ?_
    obtain ⟨h1, H⟩ := H
    refine WL.y rfl (Yld.iaddrW tab_ok hs rfl rfl rfl rfl h1.1 h1.2) ?_
    refine WL.y rfl (Yld.iload 0 tab_ok hs rfl rfl (iltN h1 rfl)) ?_
    refine WL.y rfl (Yld.pure tab_ok rfl) ?_
    refine WL.nil (WX.then_normal ?_)
    refine WC.cond rfl (fun b2 => ?_) (fun b2 => ?_)
    · replace H := H.1 (of_decide_eq_true b2)
      refine WC.seq ?_
      refine WC.region ?_
      refine WL.y rfl (Yld.pure tab_ok rfl) ?_
      refine WL.y rfl (Yld.pure tab_ok rfl) ?_
      refine WL.nil (WX.then_normal ?_)
      refine WC.ret (WX.block_ret (WX.then_ret (WX.then_ret (WX.block_ret (WX.then_ret ?_)))))
      exact WX.ret1 rfl rfl ⟨rfl, t8, rfl, H⟩
    · replace H := H.2 (of_decide_eq_false b2)
      refine WC.skip (WX.block_normal (WX.then_normal ?_))
      refine WC.region ?_
      obtain ⟨h2, H⟩ := H
      refine WL.y rfl (Yld.add rfl rfl h2) ?_
      refine WL.y rfl (Yld.pure tab_ok rfl) ?_
      refine WL.nil ?_
      exact WX.roundF _ ⟨t8 + (1 : Int), rfl, rfl, H.1, rfl⟩ (by repeat (first | exact Sub.nil | refine Sub.cons rfl ?_)) H.2
  · replace H := H.2 (of_decide_eq_false b1)
    refine WC.exit (WX.then_exit (WX.then_exit (WX.block_same (WX.then_normal ?_))))
    refine WC.seq ?_
    refine WC.region ?_
    refine WL.y rfl (Yld.pure tab_ok rfl) ?_
    refine WL.nil (WX.then_normal ?_)
    refine WC.ret ?_
    exact WX.ret1 rfl rfl ⟨rfl, (-1 : Int), rfl, H⟩

set_option maxHeartbeats 8000000 in
theorem W_smithyref_Texts {w : World} {l : List (List UInt8)} {A_l : Option Addr} {c_l : Nat} {n_l : Nat} {K : (List (List UInt8)) → Prop} (hl : Rd vs w A_l c_l l) (hn_l : n_l = l.length) (H : M_smithyref_Texts l K) : Fn Tryz.prog 66 ⟨[.slice A_l n_l c_l]⟩ w (fun v w' => w.grownBy w' none ∧ ∃ (r : List (List UInt8)), ∃ (A_r : Option Addr), ∃ (c_r : Nat), v = .slice A_r r.length c_r ∧ Own vs w' w.heap.size 9 A_r c_r r ∧ K r) := by
  subst hn_l
  unfold M_smithyref_Texts at H
  refine Fn.enter (by kernel_rfl) Tryz.func66 rfl Tryz.ntmps66 rfl ?_
  replace H := H (Nat.le_trans hl.cap hl.max)
  refine WC.seq ?_
  refine WC.region ?_
  refine WL.y rfl (Yld.pure tab_ok rfl) ?_
  refine WL.nil (WX.then_normal ?_)
  refine WC.seq ?_
  refine WC.region ?_
  refine WL.y rfl (Yld.pure tab_ok rfl) ?_
  refine WL.y rfl (Yld.pure tab_ok rfl) ?_
  obtain ⟨h1, H⟩ := H
  refine WL.makeCI (f := vs) (B := w.heap.size) tab_ok rfl rfl rfl rfl h1.1 h1.2.1 h1.2.2 (Nat.le_refl _) (fun g1 w1 hO1 hg1 hl1 => ?_)
  have gr1 := hg1
  refine WL.y rfl (Yld.pure tab_ok rfl) ?_
  refine WL.nil (WX.then_normal ?_)
  refine WC.seq ?_
  refine WC.seq ?_
  refine WC.region ?_
  refine WL.y rfl (Yld.pure tab_ok rfl) ?_
  refine WL.nil (WX.then_normal ?_)
  refine WC.block ?_
  obtain ⟨I1, mu1, h0_1, HR1⟩ := H
  refine WC.loopF (fun n' L' w' => ∃ (out : List (List UInt8)), ∃ (A_out : Option Addr), ∃ (c_out : Nat), ∃ (n_out : Nat), ∃ (i : Int), n' = mu1 out i ∧ L' = [(0, .slice A_l l.length c_l), (3, .slice A_out n_out c_out), (4, .int .i64 i)] ∧ I1 out i ∧ n_out = out.length ∧ w.grownBy w' none ∧ Own vs w' w.heap.size 9 A_out c_out out) _ _ ⟨([] : List (List UInt8)), (some ⟨g1, 0, none⟩), (l.length : Int).toNat, 0, (0 : Int), rfl, rfl, h0_1, rfl, gr1, hO1⟩ (by repeat (first | exact Sub.nil | refine Sub.cons rfl ?_)) ?_
  clear h0_1
  rintro _ _ w2 ⟨out, A_out, c_out, n_out, i, rfl, rfl, hI1, rfl, gr2, k1⟩
  have H := HR1 out i hI1
  refine WC.seq ?_
  refine WC.seq ?_
  refine WC.region ?_
  refine WL.y rfl (Yld.pure tab_ok rfl) ?_
  refine WL.y rfl (Yld.pure tab_ok rfl) ?_
  refine WL.y rfl (Yld.pure tab_ok rfl) ?_
  refine WL.y rfl (Yld.pure tab_ok rfl) ?_
  refine WL.nil (WX.then_normal ?_)
  refine WC.cond rfl (fun b1 => ?_) (fun b1 => ?_)
  · replace H := H.1 (of_decide_eq_true b1)
    refine WC.skip (WX.then_normal ?_)
    refine WC.seq ?_
    refine WC.block ?_
    refine WC.region ?_
    refine WL.y rfl (Yld.pure tab_ok rfl) ?_
    refine WL.y rfl (Yld.pure tab_ok rfl) ?_
    refine WL.y rfl (Yld.pure tab_ok rfl) ?_
    obtain ⟨h2, H⟩ := H
    refine WL.y rfl (Yld.iaddrW tab_ok (hl.grown gr2) rfl rfl rfl rfl h2.1 h2.2) ?_
    refine WL.y rfl (Yld.iload [] tab_ok (hl.grown gr2) rfl rfl (iltN h2 rfl)) ?_
    refine WL.lit tab_ok rfl rfl rfl (all1c rfl all1n) rfl (by omega) (fun g2 w3 hB1 hg2 hl2 => ?_)
    have hO2 : Own vs w3 w.heap.size 9 (some ⟨g2, 0, none⟩) 1 ([l.getD i.toNat []] : List (List UInt8)) := Own.ofBl hB1 (Nat.le_trans (size_le gr2) hl2) (by simp [maxLen]) rfl
    have gr3 := gr_trans gr2 hg2
    have k2 := k1.grown hg2
    obtain ⟨h3, H⟩ := H
    refine WL.append tab_ok rfl rfl One.s k2 rfl rfl hO2.rd rfl rfl h3 (applen h3) (size_le gr3) (fun A_out2 c_out2 w4 hO3 hg3 hk1 => ?_)
    have gr4 := gr_mod gr3 hg3 k2.ge'
    refine WL.y rfl (Yld.pure tab_ok rfl) ?_
    refine WL.nil (WX.block_normal (WX.then_normal ?_))
    refine WC.region ?_
    refine WL.y rfl (Yld.pure tab_ok rfl) ?_
    obtain ⟨h4, H⟩ := H
    refine WL.y rfl (Yld.add rfl rfl h4) ?_
    refine WL.y rfl (Yld.pure tab_ok rfl) ?_
    refine WL.nil ?_
    exact WX.roundF _ ⟨out ++ ([l.getD i.toNat []] : List (List UInt8)), A_out2, c_out2, (out ++ ([l.getD i.toNat []] : List (List UInt8))).length, i + (1 : Int), rfl, rfl, H.1, rfl, gr4, hO3⟩ (by repeat (first | exact Sub.nil | refine Sub.cons rfl ?_)) H.2
  · replace H := H.2 (of_decide_eq_false b1)
    refine WC.exit (WX.then_exit (WX.then_exit (WX.block_same (WX.then_normal ?_))))
    refine WC.seq ?_
    refine WC.region ?_
    refine WL.y rfl (Yld.pure tab_ok rfl) ?_
    refine WL.y rfl (Yld.pure tab_ok rfl) ?_
    refine WL.nil (WX.then_normal ?_)
    refine WC.ret ?_
    exact WX.ret1 rfl rfl ⟨gr2, out, A_out, c_out, rfl, k1, H⟩

set_option maxHeartbeats 8000000 in
theorem W_smithyref_SameInts {w : World} {a : List Int} {A_a : Option Addr} {c_a : Nat} {b : List Int} {A_b : Option Addr} {c_b : Nat} {n_a : Nat} {n_b : Nat} {K : Bool → Prop} (ha : Rd vi w A_a c_a a) (hn_a : n_a = a.length) (hb : Rd vi w A_b c_b b) (hn_b : n_b = b.length) (H : M_smithyref_SameInts a b K) : Fn Tryz.prog 50 ⟨[.slice A_a n_a c_a, .slice A_b n_b c_b]⟩ w (fun v w' => w = w' ∧ ∃ (r : Bool), v = .bool r ∧ K r) := by
  subst hn_a
  subst hn_b
  unfold M_smithyref_SameInts at H
  refine Fn.enter (by kernel_rfl) Tryz.func50 rfl Tryz.ntmps50 rfl ?_
  replace H := H (Nat.le_trans ha.cap ha.max)
  replace H := H (Nat.le_trans hb.cap hb.max)
  refine WC.seq ?_
  refine WC.region ?_
  refine WL.y rfl (Yld.pure tab_ok rfl) ?_
  refine WL.nil (WX.then_normal ?_)
  refine WC.seq ?_
  refine WC.seq ?_
  refine WC.region ?_
  refine WL.y rfl (Yld.pure tab_ok rfl) ?_
  refine WL.y rfl (Yld.pure tab_ok rfl) ?_
  refine WL.y rfl (Yld.pure tab_ok rfl) ?_
  refine WL.y rfl (Yld.pure tab_ok rfl) ?_
  refine WL.y rfl (Yld.pure tab_ok rfl) ?_
  refine WL.nil (WX.then_normal ?_)
  refine WC.cond rfl (fun b1 => ?_) (fun b1 => ?_)
  · replace H := H.1 (nd_true b1)
    refine WC.seq ?_
    refine WC.region ?_
    refine WL.y rfl (Yld.pure tab_ok rfl) ?_
    refine WL.nil (WX.then_normal ?_)
    refine WC.ret (WX.then_ret ?_)
    exact WX.ret1 rfl rfl ⟨rfl, false, rfl, H⟩
  · replace H := H.2 (nd_false b1)
    refine WC.skip (WX.then_normal ?_)
    refine WC.seq ?_
    refine WC.seq ?_
    refine WC.region ?_
    refine WL.y rfl (Yld.pure tab_ok rfl) ?_
    refine WL.nil (WX.then_normal ?_)
    refine WC.block ?_
    obtain ⟨I1, mu1, h0_1, HR1⟩ := H
    refine WC.loopF (fun n' L' w' => ∃ (i : Int), n' = mu1 i ∧ L' = [(0, .slice A_a a.length c_a), (1, .slice A_b b.length c_b), (5, .int .i64 i)] ∧ I1 i ∧ w = w') _ _ ⟨(0 : Int), rfl, rfl, h0_1, rfl⟩ (by repeat (first | exact Sub.nil | refine Sub.cons rfl ?_)) ?_
    clear h0_1
    rintro _ _ _ ⟨i, rfl, rfl, hI1, rfl⟩
    have H := HR1 i hI1
    refine WC.seq ?_
    refine WC.seq ?_
    refine WC.region ?_
    refine WL.y rfl (Yld.pure tab_ok rfl) ?_
    refine WL.y rfl (Yld.pure tab_ok rfl) ?_
    refine WL.y rfl (Yld.pure tab_ok rfl) ?_
    refine WL.y rfl (Yld.pure tab_ok rfl) ?_
    refine WL.nil (WX.then_normal ?_)
    refine WC.cond rfl (fun b2 => ?_) (fun b2 => ?_)
    · replace H := H.1 (of_decide_eq_true b2)
      refine WC.skip (WX.then_normal ?_)
      refine WC.seq ?_
      refine WC.block ?_
      refine WC.seq ?_
      refine WC.quiet mixed (by kernel_rfl) ?_
      refine WQ.y rfl (Yld.pure tab_ok rfl) ?_
      refine WQ.y rfl (Yld.pure tab_ok rfl) ?_
      obtain ⟨h1, H⟩ := H
      refine WQ.y rfl (Yld.iaddrW tab_ok ha rfl rfl rfl rfl h1.1 h1.2) ?_
      refine WQ.y rfl (Yld.iload 0 tab_ok ha rfl rfl (iltN h1 rfl)) ?_
      refine WQ.y rfl (Yld.pure tab_ok rfl) ?_
      refine WQ.y rfl (Yld.pure tab_ok rfl) ?_
      obtain ⟨h2, H⟩ := H
      refine WQ.y rfl (Yld.iaddrW tab_ok hb rfl rfl rfl rfl h2.1 h2.2) ?_
      refine WQ.y rfl (Yld.iload 0 tab_ok hb rfl rfl (iltN h2 rfl)) ?_
      refine WQ.y rfl (Yld.pure tab_ok rfl) ?_
      refine WQ.y rfl (Yld.pure tab_ok rfl) ?_
      refine WQ.nil (WX.then_normal ?_)
      refine WC.seq ?_
      refine WC.region ?_
      refine WL.y rfl (Yld.pure tab_ok rfl) ?_
      refine WL.y rfl (Yld.pure tab_ok rfl) ?_
      refine WL.nil (WX.then_normal ?_)
      refine WC.cond rfl (fun b3 => ?_) (fun b3 => ?_)
      · replace H := H.1 (nd_true b3)
        refine WC.seq ?_
        refine WC.region ?_
        refine WL.y rfl (Yld.pure tab_ok rfl) ?_
        refine WL.nil (WX.then_normal ?_)
        refine WC.ret (WX.block_ret (WX.then_ret (WX.then_ret (WX.block_ret (WX.then_ret ?_)))))
        exact WX.ret1 rfl rfl ⟨rfl, false, rfl, H⟩
      · replace H := H.2 (nd_false b3)
        refine WC.skip (WX.block_normal (WX.then_normal ?_))
        refine WC.region ?_
        refine WL.y rfl (Yld.pure tab_ok rfl) ?_
        obtain ⟨h3, H⟩ := H
        refine WL.y rfl (Yld.add rfl rfl h3) ?_
        refine WL.y rfl (Yld.pure tab_ok rfl) ?_
        refine WL.nil ?_
        exact WX.roundF _ ⟨i + (1 : Int), rfl, rfl, H.1, rfl⟩ (by repeat (first | exact Sub.nil | refine Sub.cons rfl ?_)) H.2
    · replace H := H.2 (of_decide_eq_false b2)
      refine WC.exit (WX.then_exit (WX.then_exit (WX.block_same (WX.then_normal ?_))))
      refine WC.seq ?_
      refine WC.region ?_
      refine WL.y rfl (Yld.pure tab_ok rfl) ?_
      refine WL.nil (WX.then_normal ?_)
      refine WC.ret ?_
      exact WX.ret1 rfl rfl ⟨rfl, true, rfl, H⟩

set_option maxHeartbeats 8000000 in
theorem W_smithylaw22_act {w : World} {out : List UInt8} {in_ : List (List UInt8)} {A_in : Option Addr} {c_in : Nat} {n_in_ : Nat} {K : Int → (List (List UInt8)) → (List (List UInt8)) → (List UInt8) → Prop} (hin_ : Rd vs w A_in c_in in_) (hn_in_ : n_in_ = in_.length) (H : M_smithylaw22_act out in_ K) : Fn Tryz.prog 97 ⟨[vs out, .slice A_in n_in_ c_in]⟩ w (fun v w' => w.grownBy w' none ∧ ∃ (r_Tool : Int), ∃ (r_Args : List (List UInt8)), ∃ (A_r_Args : Option Addr), ∃ (c_r_Args : Nat), ∃ (r_Inputs : List (List UInt8)), ∃ (A_r_Inputs : Option Addr), ∃ (c_r_Inputs : Nat), ∃ (r_Output : List UInt8), v = .agg ⟨[.int .i64 r_Tool, .slice A_r_Args r_Args.length c_r_Args, .slice A_r_Inputs r_Inputs.length c_r_Inputs, vs r_Output]⟩ ∧ Rd vs w' A_r_Args c_r_Args r_Args ∧ Orig (r_Args ≠ []) (blk A_r_Args) w.heap.size [(in_ ≠ [], blk A_in)] ∧ Rd vs w' A_r_Inputs c_r_Inputs r_Inputs ∧ Orig (r_Inputs ≠ []) (blk A_r_Inputs) w.heap.size [(in_ ≠ [], blk A_in)] ∧ K r_Tool r_Args r_Inputs r_Output) := by
  subst hn_in_
  unfold M_smithylaw22_act at H
  refine Fn.enter (by kernel_rfl) Tryz.func97 rfl Tryz.ntmps97 rfl ?_
  replace H := H (Nat.le_trans hin_.cap hin_.max)
  refine WC.seq ?_
  refine WC.region ?_
  refine WL.alloc rfl zero94 (fun g1 w1 hB1 hg1 hl1 => ?_)
  have gr1 := hg1
  refine WL.nil (WX.then_normal ?_)
  refine WC.seq ?_
  refine WC.region ?_
  refine WL.y rfl (Yld.pure tab_ok rfl) ?_
  refine WL.y rfl (Yld.pure tab_ok rfl) ?_
  refine WL.y rfl (Yld.struct (us := [.int .i64 (1 : Int), .slice none 0 0, .slice A_in in_.length c_in, vs out]) zero94 places94 rfl rfl) ?_
  refine WL.storeW (vs := [.int .i64 (1 : Int), .slice none 0 0, .slice A_in in_.length c_in, vs out]) tab_ok rfl rfl rfl (all1c rfl (all1c rfl (all1c rfl (all1c rfl all1n)))) hB1 rfl rfl (fun w2 hB2 hg2 => ?_)
  have gr2 := gr_mod gr1 hg2 (Ge.le (Ge.box hl1) (Nat.le_refl _))
  refine WL.nil (WX.then_normal ?_)
  refine WC.ret ?_
  exact WX.retc tab_ok rfl rfl rfl hB2 rfl ⟨gr2, (1 : Int), [], none, 0, in_, A_in, c_in, out, rfl, (Own.nil vs w2 w.heap.size 9).rd, (Orig.new Ge.none), (hin_.grown gr2), (Orig.par (List.Mem.head _)), H⟩

set_option maxHeartbeats 8000000 in
theorem W_graph_copied {w : World} {x_Tool : Int} {x_Args : List (List UInt8)} {A_x_Args : Option Addr} {c_x_Args : Nat} {x_Inputs : List (List UInt8)} {A_x_Inputs : Option Addr} {c_x_Inputs : Nat} {x_Output : List UInt8} {n_x_Args : Nat} {n_x_Inputs : Nat} {K : Int → (List (List UInt8)) → (List (List UInt8)) → (List UInt8) → Prop} (hx_Args : Rd vs w A_x_Args c_x_Args x_Args) (hn_x_Args : n_x_Args = x_Args.length) (hx_Inputs : Rd vs w A_x_Inputs c_x_Inputs x_Inputs) (hn_x_Inputs : n_x_Inputs = x_Inputs.length) (H : M_graph_copied x_Tool x_Args x_Inputs x_Output K) : Fn Tryz.prog 101 ⟨[.agg ⟨[.int .i64 x_Tool, .slice A_x_Args n_x_Args c_x_Args, .slice A_x_Inputs n_x_Inputs c_x_Inputs, vs x_Output]⟩]⟩ w (fun v w' => w.grownBy w' none ∧ ∃ (r_Tool : Int), ∃ (r_Args : List (List UInt8)), ∃ (A_r_Args : Option Addr), ∃ (c_r_Args : Nat), ∃ (r_Inputs : List (List UInt8)), ∃ (A_r_Inputs : Option Addr), ∃ (c_r_Inputs : Nat), ∃ (r_Output : List UInt8), v = .agg ⟨[.int .i64 r_Tool, .slice A_r_Args r_Args.length c_r_Args, .slice A_r_Inputs r_Inputs.length c_r_Inputs, vs r_Output]⟩ ∧ Own vs w' w.heap.size 9 A_r_Args c_r_Args r_Args ∧ Own vs w' w.heap.size 9 A_r_Inputs c_r_Inputs r_Inputs ∧ Dj (blk A_r_Args) (blk A_r_Inputs) ∧ K r_Tool r_Args r_Inputs r_Output) := by
  subst hn_x_Args
  subst hn_x_Inputs
  unfold M_graph_copied at H
  refine Fn.enter (by kernel_rfl) Tryz.func101 rfl Tryz.ntmps101 rfl ?_
  replace H := H (Nat.le_trans hx_Args.cap hx_Args.max)
  replace H := H (Nat.le_trans hx_Inputs.cap hx_Inputs.max)
  refine WC.seq ?_
  refine WC.region ?_
  refine WL.box (us := [.int .i64 x_Tool, .slice A_x_Args x_Args.length c_x_Args, .slice A_x_Inputs x_Inputs.length c_x_Inputs, vs x_Output]) rfl rfl rfl (fun g1 w1 hB1 hg1 hl1 => ?_)
  have gr1 := hg1
  refine WL.alloc rfl zero94 (fun g2 w2 hB2 hg2 hl2 => ?_)
  have gr2 := gr_trans gr1 hg2
  have k1 := hB1.g0 hg2
  refine WL.nil (WX.then_normal ?_)
  refine WC.seq ?_
  refine WC.chainF (fun k => !(Nat.beq k 2 || Nat.beq k 5 || Nat.beq k 7 || Nat.beq k 9)) (LD [1, 4] (fun w' => Bl w' g1 94 [.int .i64 x_Tool, .slice A_x_Args x_Args.length c_x_Args, .slice A_x_Inputs x_Inputs.length c_x_Inputs, vs x_Output])) mixed (by kernel_rfl) (fun k w' h _ => (bl_eqv h k1)) ?_
  refine WJ.y rfl rfl (fun w' hw' => Yld.pure tab_ok rfl) ?_
  refine WJ.y rfl rfl (fun w' hw' => Yld.bload tab_ok (hw' rfl) rfl rfl rfl) ?_
  refine WJ.call rfl (wants_none) rfl rfl (W_slices_Clone_string_string (hx_Args.grown gr2) rfl H) (fun v w' h w2 e => DD.keep (Bl.g0 k1 (gr_eqv h.1 e))) ?_
  rintro _ w3 ⟨hg3, t5, A_t5, c_t5, rfl, ht5, H⟩
  have hb1 := ht5.ge'
  have k2 := ht5.base (fun g hg => Nat.le_trans (size_le gr2) (hb1 g hg))
  have gr3 := gr_trans gr2 hg3
  have k3 := k1.g0 hg3
  have k4 := hB2.g0 hg3
  refine WJ.y rfl rfl (fun w' hw' => Yld.pure tab_ok rfl) ?_
  refine WJ.y rfl rfl (fun w' hw' => Yld.bload tab_ok (hw' rfl) rfl rfl rfl) ?_
  refine WJ.call rfl (wants_none) rfl rfl (W_slices_Clone_string_string (hx_Inputs.grown gr3) rfl H) (fun v w' h w2 e => DD.keep (Bl.g0 k3 (gr_eqv h.1 e))) ?_
  rintro _ w4 ⟨hg4, t8, A_t8, c_t8, rfl, ht8, H⟩
  have hb2 := ht8.ge'
  have k5 := ht8.base (fun g hg => Nat.le_trans (size_le gr3) (hb2 g hg))
  have gr4 := gr_trans gr3 hg4
  have k6 := k3.g0 hg4
  have k7 := k4.g0 hg4
  have k8 := k2.grown hg4
  refine WJ.y rfl rfl (fun w' hw' => Yld.pure tab_ok rfl) ?_
  refine WJ.eff rfl (Ef0.store1 one78 rfl rfl rfl k6 (by simp)) (fun w' h => DD.past (by kernel_rfl)) ?_
  rintro w5 ⟨hB4, hg5⟩
  have hB3 : Bl w5 g1 94 [.int .i64 x_Tool, .slice A_t5 t5.length c_t5, .slice A_x_Inputs x_Inputs.length c_x_Inputs, vs x_Output] := hB4
  have gr5 := gr_mod gr4 hg5 (Ge.le (Ge.box hl1) (Nat.le_refl _))
  have k9 := k7.go hg5 ((Dj.new hB1.lt' (Ge.box hl2)).symm)
  have k10 := k8.go hg5 ((Dj.new k1.lt' hb1).symm)
  have k11 := k5.go hg5 ((Dj.new k3.lt' hb2).symm)
  refine WJ.y rfl rfl (fun w' hw' => Yld.pure tab_ok rfl) ?_
  refine WJ.eff rfl (Ef0.store1 one78 rfl rfl rfl hB3 (by simp)) (fun w' h => DD.past (by kernel_rfl)) ?_
  rintro w6 ⟨hB6, hg6⟩
  have hB5 : Bl w6 g1 94 [.int .i64 x_Tool, .slice A_t5 t5.length c_t5, .slice A_t8 t8.length c_t8, vs x_Output] := hB6
  have gr6 := gr_mod gr5 hg6 (Ge.le (Ge.box hl1) (Nat.le_refl _))
  have k12 := k9.go hg6 ((Dj.new hB1.lt' (Ge.box hl2)).symm)
  have k13 := k10.go hg6 ((Dj.new k1.lt' hb1).symm)
  have k14 := k11.go hg6 ((Dj.new k3.lt' hb2).symm)
  refine WJ.nil (WX.then_normal ?_)
  refine WC.seq ?_
  refine WC.region ?_
  refine WL.y rfl (Yld.bagg (vs := [.int .i64 x_Tool, .slice A_t5 t5.length c_t5, .slice A_t8 t8.length c_t8, vs x_Output]) tab_ok hB5 rfl rfl rfl rfl) ?_
  refine WL.storeW (vs := [.int .i64 x_Tool, .slice A_t5 t5.length c_t5, .slice A_t8 t8.length c_t8, vs x_Output]) tab_ok rfl rfl rfl (all1c rfl (all1c rfl (all1c rfl (all1c rfl all1n)))) k12 rfl rfl (fun w7 hB7 hg7 => ?_)
  have gr7 := gr_mod gr6 hg7 (Ge.le (Ge.box hl2) (size_le gr1))
  have k15 := k13.go hg7 ((Dj.new hB2.lt' hb1).symm)
  have k16 := k14.go hg7 ((Dj.new k4.lt' hb2).symm)
  refine WL.nil (WX.then_normal ?_)
  refine WC.ret ?_
  exact WX.retc tab_ok rfl rfl rfl hB7 rfl ⟨gr7, x_Tool, t5, A_t5, c_t5, t8, A_t8, c_t8, x_Output, rfl, k15, k16, (Dj.new k2.lt' hb2), H⟩

set_option maxHeartbeats 8000000 in
theorem W_pgraph_Graph_fits_1 {S : List Nat} {w : World} {s : List UInt8} {K : Bool → Prop} (hG : GOK S w) (hS100 : 100 ∈ S) (H : M_pgraph_Graph_fits_1 s K) : Fn Tryz.prog 142 ⟨[vs s]⟩ w (fun v w' => w.grownBy w' none ∧ ∃ (r : Bool), v = .bool r ∧ K r) := by
  unfold M_pgraph_Graph_fits_1 at H
  refine Fn.enter (by kernel_rfl) Tryz.func142 rfl Tryz.ntmps142 rfl ?_
  refine WC.seq ?_
  refine WC.region ?_
  refine WL.y rfl (Yld.pure tab_ok rfl) ?_
  refine WL.nil (WX.then_normal ?_)
  refine WC.seq ?_
  refine WC.region ?_
  refine WL.y rfl (Yld.pure tab_ok rfl) ?_
  refine WL.call rfl rfl (W_path_Valid hG hS100 H) ?_
  rintro _ w1 ⟨hg1, t4, rfl, H⟩
  have gr1 := hg1
  refine WL.y rfl (Yld.pure tab_ok rfl) ?_
  refine WL.y rfl (Yld.pure tab_ok rfl) ?_
  refine WL.nil (WX.then_normal ?_)
  refine WC.ret ?_
  exact WX.ret1 rfl rfl ⟨gr1, !t4, rfl, H⟩

set_option maxHeartbeats 8000000 in
theorem W_slices_IndexFunc_string_string_pgraph_Graph_fits_1 {S : List Nat} {w : World} {s : List (List UInt8)} {A_s : Option Addr} {c_s : Nat} {n_s : Nat} {K : Int → Prop} (hG : GOK S w) (hS100 : 100 ∈ S) (hs : Rd vs w A_s c_s s) (hn_s : n_s = s.length) (H : M_slices_IndexFunc_string_string_pgraph_Graph_fits_1 s K) : Fn Tryz.prog 173 ⟨[.slice A_s n_s c_s, .func (.func 142) #[] #[]]⟩ w (fun v w' => w.grownBy w' none ∧ ∃ (r : Int), v = .int .i64 r ∧ K r) := by
  subst hn_s
  unfold M_slices_IndexFunc_string_string_pgraph_Graph_fits_1 at H
  refine Fn.enter (by kernel_rfl) Tryz.func173 rfl Tryz.ntmps173 rfl ?_
  replace H := H (Nat.le_trans hs.cap hs.max)
  refine WC.seq ?_
  refine WC.region ?_
  refine WL.y rfl (Yld.pure tab_ok rfl) ?_
  refine WL.nil (WX.then_normal ?_)
  refine WC.seq ?_
  refine WC.seq ?_
  refine WC.region ?_
  refine WL.y rfl (Yld.pure tab_ok rfl) ?_
  refine WL.y rfl (Yld.pure tab_ok rfl) ?_
  refine WL.y rfl (Yld.pure tab_ok rfl) ?_
  refine WL.nil (WX.then_normal ?_)
  refine WC.block ?_
  obtain ⟨I1, mu1, h0_1, HR1⟩ := H
  refine WC.loopF (fun n' L' w' => ∃ (t8 : Int), n' = mu1 t8 ∧ L' = [(0, .slice A_s s.length c_s), (1, .func (.func 142) #[] #[]), (7, .int .i64 (s.length : Int)), (8, .int .i64 t8)] ∧ I1 t8 ∧ w.grownBy w' none) _ _ ⟨(0 : Int), rfl, rfl, h0_1, (gr_refl _ _)⟩ (by repeat (first | exact Sub.nil | refine Sub.cons rfl ?_)) ?_
  clear h0_1
  rintro _ _ w1 ⟨t8, rfl, rfl, hI1, gr1⟩
  have H := HR1 t8 hI1
  refine WC.seq ?_
  refine WC.region ?_
  refine WL.y rfl (Yld.pure tab_ok rfl) ?_
  refine WL.nil (WX.then_normal ?_)
  refine WC.seq ?_
  refine WC.cond rfl (fun b1 => ?_) (fun b1 => ?_)
  · replace H := H.1 (of_decide_eq_true b1)
    refine WC.skip (WX.then_normal ?_)
    refine WC.seq ?_
    refine WC.block ?_
    refine WC.seq ?_
    refine WC.region ?_
    refine WL.y rfl (Yld.pure tab_ok rfl) ?_
    refine WL.y rfl (Yld.pure tab_ok rfl) ?_
    refine WL.nil (WX.then_normal ?_)
    refine WC.seq ?_
    refine WC.region ?_
    refine WL.y rfl (Yld.pure tab_ok rfl) ?_
    refine WL.y rfl (Yld.pure tab_ok rfl) ?_
    refine WL.y rfl (Yld.pure tab_ok rfl) ?_
    obtain ⟨h1, H⟩ := H
    refine WL.y rfl (Yld.iaddrW tab_ok (hs.grown gr1) rfl rfl rfl rfl h1.1 h1.2) ?_
    refine WL.y rfl (Yld.iload [] tab_ok (hs.grown gr1) rfl rfl (iltN h1 rfl)) ?_
    refine WL.callv rfl rfl rfl (W_pgraph_Graph_fits_1 (hG.grown gr1) hS100 H) ?_
    rintro _ w2 ⟨hg1, t16, rfl, H⟩
    have gr2 := gr_trans gr1 hg1
    refine WL.nil (WX.then_normal ?_)
    refine WC.cond rfl (fun b2 => ?_) (fun b2 => ?_)
    · replace H := H.1 (b2)
      refine WC.seq ?_
      refine WC.region ?_
      refine WL.y rfl (Yld.pure tab_ok rfl) ?_
      refine WL.y rfl (Yld.pure tab_ok rfl) ?_
      refine WL.nil (WX.then_normal ?_)
      refine WC.ret (WX.block_ret (WX.then_ret (WX.then_ret (WX.block_ret (WX.then_ret ?_)))))
      exact WX.ret1 rfl rfl ⟨gr2, t8, rfl, H⟩
    · replace H := H.2 (b2)
      refine WC.skip (WX.block_normal (WX.then_normal ?_))
      refine WC.region ?_
      obtain ⟨h2, H⟩ := H
      refine WL.y rfl (Yld.add rfl rfl h2) ?_
      refine WL.y rfl (Yld.pure tab_ok rfl) ?_
      refine WL.nil ?_
      exact WX.roundF _ ⟨t8 + (1 : Int), rfl, rfl, H.1, gr2⟩ (by repeat (first | exact Sub.nil | refine Sub.cons rfl ?_)) H.2
  · replace H := H.2 (of_decide_eq_false b1)
    refine WC.exit (WX.then_exit (WX.then_exit (WX.block_same (WX.then_normal ?_))))
    refine WC.seq ?_
    refine WC.region ?_
    refine WL.y rfl (Yld.pure tab_ok rfl) ?_
    refine WL.nil (WX.then_normal ?_)
    refine WC.ret ?_
    exact WX.ret1 rfl rfl ⟨gr1, (-1 : Int), rfl, H⟩

set_option maxHeartbeats 8000000 in
theorem W_slices_ContainsFunc_string_string_pgraph_Graph_fits_1 {S : List Nat} {w : World} {s : List (List UInt8)} {A_s : Option Addr} {c_s : Nat} {n_s : Nat} {K : Bool → Prop} (hG : GOK S w) (hS100 : 100 ∈ S) (hs : Rd vs w A_s c_s s) (hn_s : n_s = s.length) (H : M_slices_ContainsFunc_string_string_pgraph_Graph_fits_1 s K) : Fn Tryz.prog 141 ⟨[.slice A_s n_s c_s, .func (.func 142) #[] #[]]⟩ w (fun v w' => w.grownBy w' none ∧ ∃ (r : Bool), v = .bool r ∧ K r) := by
  subst hn_s
  unfold M_slices_ContainsFunc_string_string_pgraph_Graph_fits_1 at H
  refine Fn.enter (by kernel_rfl) Tryz.func141 rfl Tryz.ntmps141 rfl ?_
  replace H := H (Nat.le_trans hs.cap hs.max)
  refine WC.seq ?_
  refine WC.region ?_
  refine WL.y rfl (Yld.pure tab_ok rfl) ?_
  refine WL.nil (WX.then_normal ?_)
  refine WC.seq ?_
  refine WC.region ?_
  refine WL.y rfl (Yld.pure tab_ok rfl) ?_
  refine WL.y rfl (Yld.pure tab_ok rfl) ?_
  refine WL.call rfl rfl (W_slices_IndexFunc_string_string_pgraph_Graph_fits_1 hG hS100 hs rfl H) ?_
  rintro _ w1 ⟨hg1, t7, rfl, H⟩
  have gr1 := hg1
  refine WL.y rfl (Yld.pure tab_ok rfl) ?_
  refine WL.y rfl (Yld.pure tab_ok rfl) ?_
  refine WL.nil (WX.then_normal ?_)
  refine WC.ret ?_
  exact WX.ret1 rfl rfl ⟨gr1, decide ((0 : Int) ≤ t7), rfl, H⟩

set_option maxHeartbeats 8000000 in
theorem W_pgraph_Graph_fits {S : List Nat} {w : World} {g_g : Nat} {g_l : List (Int × List (List UInt8) × List (List UInt8) × List UInt8)} {A_g_l : Option Addr} {c_g_l : Nat} {hs_g_l : List (Int × Hdr × Hdr × List UInt8)} {g_g_makers : Nat} {g_makers : List (List UInt8 × Int)} {g_before : List (List Int)} {A_g_before : Option Addr} {c_g_before : Nat} {hs_g_before : List Hdr} {g_after : List (List Int)} {A_g_after : Option Addr} {c_g_after : Nat} {hs_g_after : List Hdr} {x_Tool : Int} {x_Args : List (List UInt8)} {A_x_Args : Option Addr} {c_x_Args : Nat} {x_Inputs : List (List UInt8)} {A_x_Inputs : Option Addr} {c_x_Inputs : Nat} {x_Output : List UInt8} {n_g_l : Nat} {n_g_before : Nat} {n_g_after : Nat} {n_x_Args : Nat} {n_x_Inputs : Nat} {K : Er → Prop} (hG : GOK S w) (hS6 : 6 ∈ S) (hS10 : 10 ∈ S) (hS11 : 11 ∈ S) (hS100 : 100 ∈ S) (hg_l : RdK 4 encH94 w A_g_l c_g_l hs_g_l) (hn_g_l : n_g_l = g_l.length) (hr_g_l : RelD de94 w hs_g_l g_l) (hg_makers : MapB vs okS vi w g_g_makers g_makers) (hg_before : Rd vh w A_g_before c_g_before hs_g_before) (hn_g_before : n_g_before = g_before.length) (hr_g_before : RelD de98 w hs_g_before g_before) (hg_after : Rd vh w A_g_after c_g_after hs_g_after) (hn_g_after : n_g_after = g_after.length) (hr_g_after : RelD de98 w hs_g_after g_after) (hg : Bl w g_g 169 [.slice A_g_l n_g_l c_g_l, .map (some g_g_makers), .slice A_g_before n_g_before c_g_before, .slice A_g_after n_g_after c_g_after]) (hx_Args : Rd vs w A_x_Args c_x_Args x_Args) (hn_x_Args : n_x_Args = x_Args.length) (hx_Inputs : Rd vs w A_x_Inputs c_x_Inputs x_Inputs) (hn_x_Inputs : n_x_Inputs = x_Inputs.length) (H : M_pgraph_Graph_fits g_l g_makers g_before g_after x_Tool x_Args x_Inputs x_Output K) : Fn Tryz.prog 100 ⟨[.pointer (some ⟨g_g, 0, none⟩), .agg ⟨[.int .i64 x_Tool, .slice A_x_Args n_x_Args c_x_Args, .slice A_x_Inputs n_x_Inputs c_x_Inputs, vs x_Output]⟩]⟩ w (fun v w' => w.grownBy w' none ∧ ∃ (v_r : Value), ∃ (r : Er), v = v_r ∧ ErrR S w' v_r r ∧ K r) := by
  subst hn_g_l
  subst hn_g_before
  subst hn_g_after
  subst hn_x_Args
  subst hn_x_Inputs
  unfold M_pgraph_Graph_fits at H
  refine Fn.enter (by kernel_rfl) Tryz.func100 rfl Tryz.ntmps100 rfl ?_
  replace H := H (by rw [← hr_g_l.1]; exact Nat.le_trans hg_l.cap hg_l.max)
  replace H := H (by rw [← hr_g_before.1]; exact Nat.le_trans hg_before.cap hg_before.max)
  replace H := H (by rw [← hr_g_after.1]; exact Nat.le_trans hg_after.cap hg_after.max)
  replace H := H (Nat.le_trans hx_Args.cap hx_Args.max)
  replace H := H (Nat.le_trans hx_Inputs.cap hx_Inputs.max)
  refine WC.seq ?_
  refine WC.region ?_
  refine WL.box (us := [.int .i64 x_Tool, .slice A_x_Args x_Args.length c_x_Args, .slice A_x_Inputs x_Inputs.length c_x_Inputs, vs x_Output]) rfl rfl rfl (fun g1 w1 hB1 hg1 hl1 => ?_)
  have gr1 := hg1
  refine WL.y rfl (Yld.pure tab_ok rfl) ?_
  refine WL.nil (WX.then_normal ?_)
  refine WC.seq ?_
  refine WC.seq ?_
  refine WC.region ?_
  refine WL.y rfl (Yld.pure tab_ok rfl) ?_
  refine WL.y rfl (Yld.bload tab_ok hB1 rfl rfl rfl) ?_
  refine WL.y rfl (Yld.pure tab_ok rfl) ?_
  refine WL.y rfl (Yld.pure tab_ok rfl) ?_
  refine WL.midF 4 (fun L' w' => ∃ q1 : Bool, L' = [(14, .bool q1), (0, .pointer (some ⟨g_g, 0, none⟩)), (3, .pointer (some ⟨g1, 0, none⟩))] ∧ ((decide (x_Tool < (1 : Int))) || (decide ((5 : Int) < x_Tool))) = q1 ∧ w1 = w') ?_ (fun hQ => ?_)
  · rintro _ _ ⟨q1, rfl, rfl, rfl⟩
    refine WL.nil (WX.then_normal ?_)
    refine WC.cond rfl (fun b1 => ?_) (fun b1 => ?_)
    · replace H := H.1 (b1)
      refine WC.seq ?_
      refine WC.region ?_
      obtain ⟨vE1, _, hE1⟩ := GOK.get (hG.grown gr1) 10 3 hS10 rfl rfl
      refine WL.y rfl (Yld.cell tab_ok (ErrR.cell hE1 rfl) rfl rfl) ?_
      refine WL.y rfl (Yld.pure tab_ok rfl) ?_
      refine WL.nil (WX.then_normal ?_)
      refine WC.ret (WX.then_ret ?_)
      exact WX.ret1 rfl rfl ⟨gr1, vE1, (Er.e 10), rfl, hE1, H⟩
    · replace H := H.2 (b1)
      refine WC.skip (WX.then_normal ?_)
      refine WC.seq ?_
      refine WC.seq ?_
      refine WC.region ?_
      refine WL.y rfl (Yld.pure tab_ok rfl) ?_
      refine WL.y rfl (Yld.bload tab_ok hB1 rfl rfl rfl) ?_
      refine WL.call rfl rfl (W_path_Valid (hG.grown gr1) hS100 H) ?_
      rintro _ w2 ⟨hg2, t18, rfl, H⟩
      have gr2 := gr_trans gr1 hg2
      have k1 := hB1.g0 hg2
      refine WL.y rfl (Yld.pure tab_ok rfl) ?_
      refine WL.y rfl (Yld.pure tab_ok rfl) ?_
      obtain ⟨J1, H, hJ1⟩ := H
      refine WL.midF 4 (fun L' w' => ∃ q2 : Bool, L' = [(24, .bool q2), (0, .pointer (some ⟨g_g, 0, none⟩)), (3, .pointer (some ⟨g1, 0, none⟩))] ∧ J1 q2 ∧ w.grownBy w' none ∧ Bl w' g1 94 [.int .i64 x_Tool, .slice A_x_Args x_Args.length c_x_Args, .slice A_x_Inputs x_Inputs.length c_x_Inputs, vs x_Output]) ?_ (fun hQ => ?_)
      · clear H
        rintro _ w3 ⟨q2, rfl, H, gr3, k2⟩
        replace H := hJ1 q2 H
        refine WL.nil (WX.then_normal ?_)
        refine WC.cond rfl (fun b2 => ?_) (fun b2 => ?_)
        · replace H := H.1 (b2)
          refine WC.seq ?_
          refine WC.region ?_
          obtain ⟨vE2, _, hE2⟩ := GOK.get (hG.grown gr3) 11 0 hS11 rfl rfl
          refine WL.y rfl (Yld.cell tab_ok (ErrR.cell hE2 rfl) rfl rfl) ?_
          refine WL.y rfl (Yld.pure tab_ok rfl) ?_
          refine WL.nil (WX.then_normal ?_)
          refine WC.ret (WX.then_ret ?_)
          exact WX.ret1 rfl rfl ⟨gr3, vE2, (Er.e 11), rfl, hE2, H⟩
        · replace H := H.2 (b2)
          refine WC.skip (WX.then_normal ?_)
          refine WC.seq ?_
          refine WC.seq ?_
          refine WC.quiet mixed (by kernel_rfl) ?_
          refine WQ.y rfl (Yld.pure tab_ok rfl) ?_
          refine WQ.y rfl (Yld.pure tab_ok rfl) ?_
          refine WQ.y rfl (Yld.pure tab_ok rfl) ?_
          refine WQ.y rfl (Yld.bload tab_ok (hg.g0 gr3) rfl rfl rfl) ?_
          refine WQ.y rfl (Yld.pure tab_ok rfl) ?_
          refine WQ.y rfl (Yld.bload tab_ok k2 rfl rfl rfl) ?_
          obtain ⟨h1, H⟩ := H
          refine WQ.y rfl (Yld.lookOk (z := 0) (keyF_s Tryz.underlying9) Tryz.underlying166 (fun _ => by kernel_rfl) (hg_makers.g0 gr3) rfl rfl h1) ?_
          refine WQ.y rfl (Yld.pure tab_ok rfl) ?_
          refine WQ.y rfl (Yld.pure tab_ok rfl) ?_
          refine WQ.y rfl (Yld.pure tab_ok rfl) ?_
          refine WQ.y rfl (Yld.pure tab_ok rfl) ?_
          refine WQ.y rfl (Yld.pure tab_ok rfl) ?_
          refine WQ.nil (WX.then_normal ?_)
          refine WC.seq ?_
          refine WC.region ?_
          refine WL.y rfl (Yld.pure tab_ok rfl) ?_
          refine WL.nil (WX.then_normal ?_)
          refine WC.cond rfl (fun b3 => ?_) (fun b3 => ?_)
          · replace H := H.1 (b3)
            refine WC.seq ?_
            refine WC.region ?_
            obtain ⟨vE3, _, hE3⟩ := GOK.get (hG.grown gr3) 6 4 hS6 rfl rfl
            refine WL.y rfl (Yld.cell tab_ok (ErrR.cell hE3 rfl) rfl rfl) ?_
            refine WL.y rfl (Yld.pure tab_ok rfl) ?_
            refine WL.nil (WX.then_normal ?_)
            refine WC.ret (WX.then_ret ?_)
            exact WX.ret1 rfl rfl ⟨gr3, vE3, (Er.e 6), rfl, hE3, H⟩
          · replace H := H.2 (b3)
            refine WC.skip (WX.then_normal ?_)
            refine WC.seq ?_
            refine WC.region ?_
            refine WL.y rfl (Yld.pure tab_ok rfl) ?_
            refine WL.nil (WX.then_normal ?_)
            refine WC.ret ?_
            exact WX.ret1 rfl rfl ⟨gr3, .nilIface, Er.ok, rfl, (ErrR.okR (S := S) (w := w3)), H⟩
      · clear hJ1
        rcases Bool.eq_false_or_eq_true (!t18) with b4 | b4
        · replace H := H.1 b4
          refine WL.gno rfl rfl (okb b4) rfl ?_
          refine WL.gno rfl rfl (okb b4) rfl ?_
          refine WL.gno rfl rfl (okb b4) rfl ?_
          refine WL.y rfl (Yld.pickT (okb b4) rfl) ?_
          exact WL.weaken (by repeat (first | exact Sub.nil | refine Sub.cons rfl ?_)) (hQ _ _ ⟨true, rfl, H, gr2, k1⟩)
        · replace H := H.2 b4
          refine WL.gyes rfl rfl (okb b4) rfl (Yld.pure tab_ok rfl) ?_
          refine WL.gyes rfl rfl (okb b4) rfl (Yld.bload tab_ok k1 rfl rfl rfl) ?_
          refine WL.callw (wants_some rfl rfl (okb b4)) rfl rfl (W_slices_ContainsFunc_string_string_pgraph_Graph_fits_1 (hG.grown gr2) hS100 (hx_Inputs.grown gr2) rfl H) ?_
          rintro _ w4 ⟨hg3, t23, rfl, H⟩
          have gr4 := gr_trans gr2 hg3
          have k3 := k1.g0 hg3
          refine WL.y rfl (Yld.pickF (okb b4) rfl) ?_
          exact WL.weaken (by repeat (first | exact Sub.nil | refine Sub.cons rfl ?_)) (hQ _ _ ⟨t23, rfl, H, gr4, k3⟩)
  · clear H
    rcases Bool.eq_false_or_eq_true (decide (x_Tool < (1 : Int))) with b5 | b5
    · refine WL.gno rfl rfl (okb b5) rfl ?_
      refine WL.gno rfl rfl (okb b5) rfl ?_
      refine WL.gno rfl rfl (okb b5) rfl ?_
      refine WL.y rfl (Yld.pickT (okb b5) rfl) ?_
      exact WL.weaken (by repeat (first | exact Sub.nil | refine Sub.cons rfl ?_)) (hQ _ _ ⟨true, rfl, by rw [b5] <;> rfl, rfl⟩)
    · refine WL.gyes rfl rfl (okb b5) rfl (Yld.pure tab_ok rfl) ?_
      refine WL.gyes rfl rfl (okb b5) rfl (Yld.bload tab_ok hB1 rfl rfl rfl) ?_
      refine WL.gyes rfl rfl (okb b5) rfl (Yld.pure tab_ok rfl) ?_
      refine WL.y rfl (Yld.pickF (okb b5) rfl) ?_
      exact WL.weaken (by repeat (first | exact Sub.nil | refine Sub.cons rfl ?_)) (hQ _ _ ⟨decide ((5 : Int) < x_Tool), rfl, by rw [b5] <;> rfl, rfl⟩)

set_option maxHeartbeats 8000000 in
theorem W_graph_New_1 {w : World} {x_Tool : Int} {x_Args : List (List UInt8)} {A_x_Args : Option Addr} {c_x_Args : Nat} {x_Inputs : List (List UInt8)} {A_x_Inputs : Option Addr} {c_x_Inputs : Nat} {x_Output : List UInt8} {n_x_Args : Nat} {n_x_Inputs : Nat} {K : Bool → Prop} (hx_Args : Rd vs w A_x_Args c_x_Args x_Args) (hn_x_Args : n_x_Args = x_Args.length) (hx_Inputs : Rd vs w A_x_Inputs c_x_Inputs x_Inputs) (hn_x_Inputs : n_x_Inputs = x_Inputs.length) (H : M_graph_New_1 x_Tool x_Args x_Inputs x_Output K) : Fn Tryz.prog 99 ⟨[.agg ⟨[.int .i64 x_Tool, .slice A_x_Args n_x_Args c_x_Args, .slice A_x_Inputs n_x_Inputs c_x_Inputs, vs x_Output]⟩]⟩ w (fun v w' => w.grownBy w' none ∧ ∃ (r : Bool), v = .bool r ∧ K r) := by
  subst hn_x_Args
  subst hn_x_Inputs
  unfold M_graph_New_1 at H
  refine Fn.enter (by kernel_rfl) Tryz.func99 rfl Tryz.ntmps99 rfl ?_
  replace H := H (Nat.le_trans hx_Args.cap hx_Args.max)
  replace H := H (Nat.le_trans hx_Inputs.cap hx_Inputs.max)
  refine WC.seq ?_
  refine WC.region ?_
  refine WL.box (us := [.int .i64 x_Tool, .slice A_x_Args x_Args.length c_x_Args, .slice A_x_Inputs x_Inputs.length c_x_Inputs, vs x_Output]) rfl rfl rfl (fun g1 w1 hB1 hg1 hl1 => ?_)
  have gr1 := hg1
  refine WL.y rfl (Yld.pure tab_ok rfl) ?_
  refine WL.nil (WX.then_normal ?_)
  refine WC.seq ?_
  refine WC.region ?_
  refine WL.y rfl (Yld.pure tab_ok rfl) ?_
  refine WL.y rfl (Yld.bload tab_ok hB1 rfl rfl rfl) ?_
  refine WL.y rfl (Yld.pure tab_ok rfl) ?_
  refine WL.y rfl (Yld.pure tab_ok rfl) ?_
  refine WL.y rfl (Yld.pure tab_ok rfl) ?_
  refine WL.midF 5 (fun L' w' => ∃ q1 : Bool, L' = [(12, .bool q1)] ∧ ((decide ((1000 : Int) < (x_Inputs.length : Int))) || (decide ((1000 : Int) < (x_Args.length : Int)))) = q1 ∧ w1 = w') ?_ (fun hQ => ?_)
  · rintro _ _ ⟨q1, rfl, rfl, rfl⟩
    refine WL.y rfl (Yld.pure tab_ok rfl) ?_
    refine WL.nil (WX.then_normal ?_)
    refine WC.ret ?_
    exact WX.ret1 rfl rfl ⟨gr1, (decide ((1000 : Int) < (x_Inputs.length : Int))) || (decide ((1000 : Int) < (x_Args.length : Int))), rfl, H⟩
  · clear H
    rcases Bool.eq_false_or_eq_true (decide ((1000 : Int) < (x_Inputs.length : Int))) with b1 | b1
    · refine WL.gno rfl rfl (okb b1) rfl ?_
      refine WL.gno rfl rfl (okb b1) rfl ?_
      refine WL.gno rfl rfl (okb b1) rfl ?_
      refine WL.gno rfl rfl (okb b1) rfl ?_
      refine WL.y rfl (Yld.pickT (okb b1) rfl) ?_
      exact WL.weaken (by repeat (first | exact Sub.nil | refine Sub.cons rfl ?_)) (hQ _ _ ⟨true, rfl, by rw [b1] <;> rfl, rfl⟩)
    · refine WL.gyes rfl rfl (okb b1) rfl (Yld.pure tab_ok rfl) ?_
      refine WL.gyes rfl rfl (okb b1) rfl (Yld.bload tab_ok hB1 rfl rfl rfl) ?_
      refine WL.gyes rfl rfl (okb b1) rfl (Yld.pure tab_ok rfl) ?_
      refine WL.gyes rfl rfl (okb b1) rfl (Yld.pure tab_ok rfl) ?_
      refine WL.y rfl (Yld.pickF (okb b1) rfl) ?_
      exact WL.weaken (by repeat (first | exact Sub.nil | refine Sub.cons rfl ?_)) (hQ _ _ ⟨decide ((1000 : Int) < (x_Args.length : Int)), rfl, by rw [b1] <;> rfl, rfl⟩)

set_option maxHeartbeats 8000000 in
theorem W_slices_IndexFunc_api_Action_api_Action_graph_New_1 {w : World} {s : List (Int × List (List UInt8) × List (List UInt8) × List UInt8)} {A_s : Option Addr} {c_s : Nat} {hs_s : List (Int × Hdr × Hdr × List UInt8)} {n_s : Nat} {K : Int → Prop} (hs : RdK 4 encH94 w A_s c_s hs_s) (hn_s : n_s = s.length) (hr_s : RelD de94 w hs_s s) (H : M_slices_IndexFunc_api_Action_api_Action_graph_New_1 s K) : Fn Tryz.prog 140 ⟨[.slice A_s n_s c_s, .func (.func 99) #[] #[]]⟩ w (fun v w' => w.grownBy w' none ∧ ∃ (r : Int), v = .int .i64 r ∧ K r) := by
  subst hn_s
  unfold M_slices_IndexFunc_api_Action_api_Action_graph_New_1 at H
  refine Fn.enter (by kernel_rfl) Tryz.func140 rfl Tryz.ntmps140 rfl ?_
  replace H := H (by rw [← hr_s.1]; exact Nat.le_trans hs.cap hs.max)
  refine WC.seq ?_
  refine WC.region ?_
  refine WL.y rfl (Yld.pure tab_ok rfl) ?_
  refine WL.nil (WX.then_normal ?_)
  refine WC.seq ?_
  refine WC.seq ?_
  refine WC.region ?_
  refine WL.y rfl (Yld.pure tab_ok rfl) ?_
  refine WL.y rfl (Yld.pure tab_ok rfl) ?_
  refine WL.y rfl (Yld.pure tab_ok rfl) ?_
  refine WL.nil (WX.then_normal ?_)
  refine WC.block ?_
  obtain ⟨I1, mu1, h0_1, HR1⟩ := H
  refine WC.loopF (fun n' L' w' => ∃ (t8 : Int), n' = mu1 t8 ∧ L' = [(0, .slice A_s s.length c_s), (1, .func (.func 99) #[] #[]), (7, .int .i64 (s.length : Int)), (8, .int .i64 t8)] ∧ I1 t8 ∧ w.grownBy w' none) _ _ ⟨(0 : Int), rfl, rfl, h0_1, (gr_refl _ _)⟩ (by repeat (first | exact Sub.nil | refine Sub.cons rfl ?_)) ?_
  clear h0_1
  rintro _ _ w1 ⟨t8, rfl, rfl, hI1, gr1⟩
  have H := HR1 t8 hI1
  refine WC.seq ?_
  refine WC.region ?_
  refine WL.y rfl (Yld.pure tab_ok rfl) ?_
  refine WL.nil (WX.then_normal ?_)
  refine WC.seq ?_
  refine WC.cond rfl (fun b1 => ?_) (fun b1 => ?_)
  · replace H := H.1 (of_decide_eq_true b1)
    refine WC.skip (WX.then_normal ?_)
    refine WC.seq ?_
    refine WC.block ?_
    refine WC.seq ?_
    refine WC.region ?_
    refine WL.y rfl (Yld.pure tab_ok rfl) ?_
    refine WL.y rfl (Yld.pure tab_ok rfl) ?_
    refine WL.nil (WX.then_normal ?_)
    refine WC.seq ?_
    refine WC.region ?_
    refine WL.y rfl (Yld.pure tab_ok rfl) ?_
    refine WL.y rfl (Yld.pure tab_ok rfl) ?_
    refine WL.y rfl (Yld.pure tab_ok rfl) ?_
    obtain ⟨h1, H⟩ := H
    refine WL.y rfl (Yld.iaddrK tab_ok (hs.grown gr1) rfl rfl hr_s.1.symm rfl h1.1 h1.2) ?_
    obtain ⟨⟨f1, ⟨A_el, n1, c_el⟩, ⟨A_el2, n2, c_el2⟩, f2⟩, eh1, ⟨en1, ⟨en2, hR1⟩, ⟨en3, hR2⟩, en4⟩⟩ := RelD.at hr_s (0, hd0, hd0, []) (0, [], [], []) (j := t8.toNat) (Nat.lt_of_lt_of_eq (iltN h1 hr_s.1.symm) hr_s.1)
    have en1 : f1 = (s.getD t8.toNat (0, [], [], [])).1 := en1
    subst en1
    have en2 : n1 = ((s.getD t8.toNat (0, [], [], [])).2.1).length := en2
    subst en2
    have en3 : n2 = ((s.getD t8.toNat (0, [], [], [])).2.2.1).length := en3
    subst en3
    have en4 : f2 = (s.getD t8.toNat (0, [], [], [])).2.2.2 := en4
    subst en4
    refine WL.y rfl (Yld.to (v := .agg ⟨[.int .i64 ((s.getD t8.toNat (0, [], [], [])).1), .slice A_el (((s.getD t8.toNat (0, [], [], [])).2.1).length) c_el, .slice A_el2 (((s.getD t8.toNat (0, [], [], [])).2.2.1).length) c_el2, vs ((s.getD t8.toNat (0, [], [], [])).2.2.2)]⟩) (Yld.iloadK (0, hd0, hd0, []) tab_ok (hs.grown gr1) rfl rfl (iltN h1 hr_s.1.symm)) (by rw [eh1]; rfl)) ?_
    refine WL.callv rfl rfl rfl (W_graph_New_1 (hR1.grown gr1) rfl (hR2.grown gr1) rfl H) ?_
    rintro _ w2 ⟨hg1, t16, rfl, H⟩
    have gr2 := gr_trans gr1 hg1
    refine WL.nil (WX.then_normal ?_)
    refine WC.cond rfl (fun b2 => ?_) (fun b2 => ?_)
    · replace H := H.1 (b2)
      refine WC.seq ?_
      refine WC.region ?_
      refine WL.y rfl (Yld.pure tab_ok rfl) ?_
      refine WL.y rfl (Yld.pure tab_ok rfl) ?_
      refine WL.nil (WX.then_normal ?_)
      refine WC.ret (WX.block_ret (WX.then_ret (WX.then_ret (WX.block_ret (WX.then_ret ?_)))))
      exact WX.ret1 rfl rfl ⟨gr2, t8, rfl, H⟩
    · replace H := H.2 (b2)
      refine WC.skip (WX.block_normal (WX.then_normal ?_))
      refine WC.region ?_
      obtain ⟨h2, H⟩ := H
      refine WL.y rfl (Yld.add rfl rfl h2) ?_
      refine WL.y rfl (Yld.pure tab_ok rfl) ?_
      refine WL.nil ?_
      exact WX.roundF _ ⟨t8 + (1 : Int), rfl, rfl, H.1, gr2⟩ (by repeat (first | exact Sub.nil | refine Sub.cons rfl ?_)) H.2
  · replace H := H.2 (of_decide_eq_false b1)
    refine WC.exit (WX.then_exit (WX.then_exit (WX.block_same (WX.then_normal ?_))))
    refine WC.seq ?_
    refine WC.region ?_
    refine WL.y rfl (Yld.pure tab_ok rfl) ?_
    refine WL.nil (WX.then_normal ?_)
    refine WC.ret ?_
    exact WX.ret1 rfl rfl ⟨gr1, (-1 : Int), rfl, H⟩

set_option maxHeartbeats 8000000 in
theorem W_slices_ContainsFunc_api_Action_api_Action_graph_New_1 {w : World} {s : List (Int × List (List UInt8) × List (List UInt8) × List UInt8)} {A_s : Option Addr} {c_s : Nat} {hs_s : List (Int × Hdr × Hdr × List UInt8)} {n_s : Nat} {K : Bool → Prop} (hs : RdK 4 encH94 w A_s c_s hs_s) (hn_s : n_s = s.length) (hr_s : RelD de94 w hs_s s) (H : M_slices_ContainsFunc_api_Action_api_Action_graph_New_1 s K) : Fn Tryz.prog 98 ⟨[.slice A_s n_s c_s, .func (.func 99) #[] #[]]⟩ w (fun v w' => w.grownBy w' none ∧ ∃ (r : Bool), v = .bool r ∧ K r) := by
  subst hn_s
  unfold M_slices_ContainsFunc_api_Action_api_Action_graph_New_1 at H
  refine Fn.enter (by kernel_rfl) Tryz.func98 rfl Tryz.ntmps98 rfl ?_
  replace H := H (by rw [← hr_s.1]; exact Nat.le_trans hs.cap hs.max)
  refine WC.seq ?_
  refine WC.region ?_
  refine WL.y rfl (Yld.pure tab_ok rfl) ?_
  refine WL.nil (WX.then_normal ?_)
  refine WC.seq ?_
  refine WC.region ?_
  refine WL.y rfl (Yld.pure tab_ok rfl) ?_
  refine WL.y rfl (Yld.pure tab_ok rfl) ?_
  refine WL.call rfl rfl (W_slices_IndexFunc_api_Action_api_Action_graph_New_1 hs rfl hr_s H) ?_
  rintro _ w1 ⟨hg1, t7, rfl, H⟩
  have gr1 := hg1
  refine WL.y rfl (Yld.pure tab_ok rfl) ?_
  refine WL.y rfl (Yld.pure tab_ok rfl) ?_
  refine WL.nil (WX.then_normal ?_)
  refine WC.ret ?_
  exact WX.ret1 rfl rfl ⟨gr1, decide ((0 : Int) ≤ t7), rfl, H⟩

set_option maxHeartbeats 8000000 in
theorem W_pgraph_Graph_reach {w : World} {g_g : Nat} {g_l : List (Int × List (List UInt8) × List (List UInt8) × List UInt8)} {A_g_l : Option Addr} {c_g_l : Nat} {hs_g_l : List (Int × Hdr × Hdr × List UInt8)} {g_g_makers : Nat} {g_makers : List (List UInt8 × Int)} {g_before : List (List Int)} {A_g_before : Option Addr} {c_g_before : Nat} {hs_g_before : List Hdr} {g_after : List (List Int)} {A_g_after : Option Addr} {c_g_after : Nat} {hs_g_after : List Hdr} {from_ : List Int} {A_from : Option Addr} {c_from : Nat} {n_g_l : Nat} {n_g_before : Nat} {n_g_after : Nat} {n_from_ : Nat} {K : (List Bool) → Prop} (hg_l : RdK 4 encH94 w A_g_l c_g_l hs_g_l) (hn_g_l : n_g_l = g_l.length) (hr_g_l : RelD de94 w hs_g_l g_l) (hg_makers : MapB vs okS vi w g_g_makers g_makers) (hg_before : Rd vh w A_g_before c_g_before hs_g_before) (hn_g_before : n_g_before = g_before.length) (hr_g_before : RelD de98 w hs_g_before g_before) (hg_after : Rd vh w A_g_after c_g_after hs_g_after) (hn_g_after : n_g_after = g_after.length) (hr_g_after : RelD de98 w hs_g_after g_after) (hg : Bl w g_g 169 [.slice A_g_l n_g_l c_g_l, .map (some g_g_makers), .slice A_g_before n_g_before c_g_before, .slice A_g_after n_g_after c_g_after]) (hfrom_ : Rd vi w A_from c_from from_) (hn_from_ : n_from_ = from_.length) (H : M_pgraph_Graph_reach g_l g_makers g_before g_after from_ K) : Fn Tryz.prog 104 ⟨[.pointer (some ⟨g_g, 0, none⟩), .slice A_from n_from_ c_from]⟩ w (fun v w' => w.grownBy w' none ∧ ∃ (r : List Bool), ∃ (A_r : Option Addr), ∃ (c_r : Nat), v = .slice A_r r.length c_r ∧ Own vB w' w.heap.size 4 A_r c_r r ∧ K r) := by
  subst hn_g_l
  subst hn_g_before
  subst hn_g_after
  subst hn_from_
  unfold M_pgraph_Graph_reach at H
  refine Fn.enter (by kernel_rfl) Tryz.func104 rfl Tryz.ntmps104 rfl ?_
  replace H := H (by rw [← hr_g_l.1]; exact Nat.le_trans hg_l.cap hg_l.max)
  replace H := H (by rw [← hr_g_before.1]; exact Nat.le_trans hg_before.cap hg_before.max)
  replace H := H (by rw [← hr_g_after.1]; exact Nat.le_trans hg_after.cap hg_after.max)
  replace H := H (Nat.le_trans hfrom_.cap hfrom_.max)
  refine WC.seq ?_
  refine WC.region ?_
  refine WL.y rfl (Yld.pure tab_ok rfl) ?_
  refine WL.nil (WX.then_normal ?_)
  refine WC.seq ?_
  refine WC.region ?_
  refine WL.y rfl (Yld.pure tab_ok rfl) ?_
  refine WL.y rfl (Yld.pure tab_ok rfl) ?_
  refine WL.y rfl (Yld.pure tab_ok rfl) ?_
  refine WL.y rfl (Yld.bload tab_ok hg rfl rfl rfl) ?_
  refine WL.y rfl (Yld.pure tab_ok rfl) ?_
  obtain ⟨h1, H⟩ := H
  refine WL.makeZI (f := vB) (z := false) (B := w.heap.size) tab_ok rfl rfl zero4 rfl rfl h1.1 h1.2.1 h1.2.2 (Nat.le_refl _) (fun g1 w1 hO1 hg1 hl1 => ?_)
  have gr1 := hg1
  refine WL.y rfl (Yld.pure tab_ok rfl) ?_
  refine WL.nil (WX.then_normal ?_)
  refine WC.seq ?_
  refine WC.region ?_
  refine WL.y rfl (Yld.pure tab_ok rfl) ?_
  refine WL.call rfl rfl (W_slices_Clone_int_int (hfrom_.grown gr1) rfl H) ?_
  rintro _ w2 ⟨hg2, work, A_work, c_work, rfl, hwork, H⟩
  have hb1 := hwork.ge'
  have k1 := hwork.base (fun g hg => Nat.le_trans (size_le gr1) (hb1 g hg))
  have gr2 := gr_trans gr1 hg2
  have k2 := hO1.grown hg2
  refine WL.y rfl (Yld.pure tab_ok rfl) ?_
  refine WL.nil (WX.then_normal ?_)
  refine WC.seq ?_
  refine WC.block ?_
  obtain ⟨I1, mu1, h0_1, HR1⟩ := H
  refine WC.loopF (fun n' L' w' => ∃ (work2 : List Int), ∃ (A_work2 : Option Addr), ∃ (c_work2 : Nat), ∃ (n_work : Nat), ∃ (met : List Bool), n' = mu1 work2 met ∧ L' = [(0, .pointer (some ⟨g_g, 0, none⟩)), (5, .slice (some ⟨g1, 0, none⟩) ((g_l.length : Int).toNat) ((g_l.length : Int).toNat)), (6, .slice A_work2 n_work c_work2)] ∧ I1 work2 met ∧ (g_l.length : Int).toNat = met.length ∧ n_work = work2.length ∧ w.grownBy w' none ∧ Own vB w' w.heap.size 4 (some ⟨g1, 0, none⟩) ((g_l.length : Int).toNat) met ∧ Own vi w' w.heap.size 3 A_work2 c_work2 work2 ∧ Dj (blk (some ⟨g1, 0, none⟩)) (blk A_work2)) _ _ ⟨work, A_work, c_work, work.length, (List.replicate (g_l.length : Int).toNat false), rfl, rfl, h0_1, (List.length_replicate).symm, rfl, gr2, k2, k1, (Dj.new hO1.lt' hb1)⟩ (by repeat (first | exact Sub.nil | refine Sub.cons rfl ?_)) ?_
  clear h0_1
  rintro _ _ w3 ⟨work2, A_work2, c_work2, n_work, met, rfl, rfl, hI1, hn_met, rfl, gr3, k3, k4, dj1⟩
  have H := HR1 work2 met hI1
  replace H := H hn_met
  refine WC.seq ?_
  refine WC.seq ?_
  refine WC.region ?_
  refine WL.y rfl (Yld.pure tab_ok rfl) ?_
  refine WL.y rfl (Yld.pure tab_ok rfl) ?_
  refine WL.y rfl (Yld.pure tab_ok rfl) ?_
  refine WL.nil (WX.then_normal ?_)
  refine WC.cond rfl (fun b1 => ?_) (fun b1 => ?_)
  · replace H := H.1 (of_decide_eq_true b1)
    refine WC.skip (WX.then_normal ?_)
    refine WC.block ?_
    refine WC.seq ?_
    refine WC.region ?_
    refine WL.y rfl (Yld.pure tab_ok rfl) ?_
    refine WL.y rfl (Yld.pure tab_ok rfl) ?_
    refine WL.y rfl (Yld.pure tab_ok rfl) ?_
    obtain ⟨h2, H⟩ := H
    refine WL.y rfl (Yld.sub rfl rfl h2) ?_
    obtain ⟨h3, H⟩ := H
    refine WL.y rfl (Yld.iaddrW tab_ok k4.rd rfl rfl rfl rfl h3.1 h3.2) ?_
    refine WL.y rfl (Yld.iload 0 tab_ok k4.rd rfl rfl (iltN h3 rfl)) ?_
    refine WL.y rfl (Yld.pure tab_ok rfl) ?_
    refine WL.nil (WX.then_normal ?_)
    refine WC.seq ?_
    refine WC.region ?_
    refine WL.y rfl (Yld.pure tab_ok rfl) ?_
    refine WL.y rfl (Yld.pure tab_ok rfl) ?_
    refine WL.y rfl (Yld.pure tab_ok rfl) ?_
    obtain ⟨h4, H⟩ := H
    refine WL.y rfl (Yld.sub rfl rfl h4) ?_
    obtain ⟨h5, H⟩ := H
    refine WL.ocut tab_ok rfl rfl k4 rfl rfl rfl rfl h5.1 h5.2 (fun hO2 => ?_)
    refine WL.y rfl (Yld.pure tab_ok rfl) ?_
    refine WL.nil (WX.then_normal ?_)
    refine WC.seq ?_
    refine WC.region ?_
    refine WL.y rfl (Yld.pure tab_ok rfl) ?_
    refine WL.y rfl (Yld.pure tab_ok rfl) ?_
    obtain ⟨h6, H⟩ := H
    refine WL.y rfl (Yld.iaddrW tab_ok k3.rd rfl rfl hn_met rfl h6.1 h6.2) ?_
    refine WL.y rfl (Yld.iload false tab_ok k3.rd rfl rfl (iltN h6 hn_met)) ?_
    refine WL.y rfl (Yld.pure tab_ok rfl) ?_
    refine WL.nil (WX.then_normal ?_)
    refine WC.cond rfl (fun b2 => ?_) (fun b2 => ?_)
    · replace H := H.1 (b2)
      refine WC.seq ?_
      refine WC.region ?_
      refine WL.y rfl (Yld.pure tab_ok rfl) ?_
      refine WL.y rfl (Yld.pure tab_ok rfl) ?_
      obtain ⟨h7, H⟩ := H
      refine WL.y rfl (Yld.iaddrW tab_ok k3.rd rfl rfl hn_met rfl h7.1 h7.2) ?_
      refine WL.ostore (v := true) one4 One.B k3 rfl rfl (iltN h7 hn_met) (fun w4 hO3 hg3 => ?_)
      have gr4 := gr_mod gr3 hg3 k3.ge'
      have k5 := hO2.go hg3 dj1.symm
      refine WL.nil (WX.then_normal ?_)
      refine WC.region ?_
      refine WL.y rfl (Yld.pure tab_ok rfl) ?_
      refine WL.y rfl (Yld.pure tab_ok rfl) ?_
      refine WL.y rfl (Yld.pure tab_ok rfl) ?_
      refine WL.y rfl (Yld.pure tab_ok rfl) ?_
      refine WL.y rfl (Yld.bload tab_ok (hg.g0 gr4) rfl rfl rfl) ?_
      refine WL.y rfl (Yld.pure tab_ok rfl) ?_
      obtain ⟨h8, H⟩ := H
      refine WL.y rfl (Yld.iaddrW tab_ok (hg_before.grown gr4) rfl rfl hr_g_before.1.symm rfl h8.1 h8.2) ?_
      obtain ⟨⟨A_el, n1, c_el⟩, eh1, ⟨en1, hR1⟩⟩ := RelD.at hr_g_before hd0 [] (j := (work2.getD (((work2.length : Int) - (1 : Int)).toNat) 0).toNat) (Nat.lt_of_lt_of_eq (iltN h8 hr_g_before.1.symm) hr_g_before.1)
      have en1 : n1 = (g_before.getD ((work2.getD (((work2.length : Int) - (1 : Int)).toNat) 0).toNat) []).length := en1
      subst en1
      refine WL.y rfl (Yld.to (v := .slice A_el ((g_before.getD ((work2.getD (((work2.length : Int) - (1 : Int)).toNat) 0).toNat) []).length) c_el) (Yld.iload hd0 tab_ok (hg_before.grown gr4) rfl rfl (iltN h8 hr_g_before.1.symm)) (by rw [eh1]; rfl)) ?_
      obtain ⟨h9, H⟩ := H
      refine WL.append tab_ok rfl rfl One.i k5 rfl rfl (hR1.grown gr4) rfl rfl h9 (applen h9) (size_le gr4) (fun A_work3 c_work3 w5 hO4 hg4 hk1 => ?_)
      have gr5 := gr_mod gr4 hg4 k5.ge'
      have k6 := hO3.go hg4 dj1
      refine WL.y rfl (Yld.pure tab_ok rfl) ?_
      refine WL.nil (WX.block_normal ?_)
      exact WX.roundF _ ⟨(work2.take ((work2.length : Int) - (1 : Int)).toNat) ++ (g_before.getD ((work2.getD (((work2.length : Int) - (1 : Int)).toNat) 0).toNat) []), A_work3, c_work3, ((work2.take ((work2.length : Int) - (1 : Int)).toNat) ++ (g_before.getD ((work2.getD (((work2.length : Int) - (1 : Int)).toNat) 0).toNat) [])).length, met.set ((work2.getD (((work2.length : Int) - (1 : Int)).toNat) 0).toNat) true, rfl, rfl, H.1, (hn_met.trans List.length_set.symm), rfl, gr5, k6, hO4, (Dj.app dj1.symm hO3.lt' hk1).symm⟩ (by repeat (first | exact Sub.nil | refine Sub.cons rfl ?_)) H.2
    · replace H := H.2 (b2)
      refine WC.skip (WX.block_normal ?_)
      exact WX.roundF _ ⟨work2.take ((work2.length : Int) - (1 : Int)).toNat, A_work2, c_work2, (work2.take ((work2.length : Int) - (1 : Int)).toNat).length, met, rfl, rfl, H.1, hn_met, rfl, gr3, k3, hO2, dj1⟩ (by repeat (first | exact Sub.nil | refine Sub.cons rfl ?_)) H.2
  · replace H := H.2 (of_decide_eq_false b1)
    refine WC.exit (WX.then_exit (WX.then_exit (WX.block_same (WX.then_normal ?_))))
    refine WC.seq ?_
    refine WC.region ?_
    refine WL.y rfl (Yld.pure tab_ok rfl) ?_
    refine WL.y rfl (Yld.pure tab_ok rfl) ?_
    refine WL.nil (WX.then_normal ?_)
    refine WC.ret ?_
    exact WX.ret1 rfl rfl ⟨gr3, met, (some ⟨g1, 0, none⟩), (g_l.length : Int).toNat, (by rw [hn_met]), k3, H⟩

set_option maxHeartbeats 8000000 in
theorem W_pgraph_Graph_After {w : World} {g_g : Nat} {g_l : List (Int × List (List UInt8) × List (List UInt8) × List UInt8)} {A_g_l : Option Addr} {c_g_l : Nat} {hs_g_l : List (Int × Hdr × Hdr × List UInt8)} {g_g_makers : Nat} {g_makers : List (List UInt8 × Int)} {g_before : List (List Int)} {A_g_before : Option Addr} {c_g_before : Nat} {hs_g_before : List Hdr} {g_after : List (List Int)} {A_g_after : Option Addr} {c_g_after : Nat} {hs_g_after : List Hdr} {i : Int} {n_g_l : Nat} {n_g_before : Nat} {n_g_after : Nat} {K : (List Int) → Prop} (hg_l : RdK 4 encH94 w A_g_l c_g_l hs_g_l) (hn_g_l : n_g_l = g_l.length) (hr_g_l : RelD de94 w hs_g_l g_l) (hg_makers : MapB vs okS vi w g_g_makers g_makers) (hg_before : Rd vh w A_g_before c_g_before hs_g_before) (hn_g_before : n_g_before = g_before.length) (hr_g_before : RelD de98 w hs_g_before g_before) (hg_after : Rd vh w A_g_after c_g_after hs_g_after) (hn_g_after : n_g_after = g_after.length) (hr_g_after : RelD de98 w hs_g_after g_after) (hg : Bl w g_g 169 [.slice A_g_l n_g_l c_g_l, .map (some g_g_makers), .slice A_g_before n_g_before c_g_before, .slice A_g_after n_g_after c_g_after]) (H : M_pgraph_Graph_After g_l g_makers g_before g_after i K) : Fn Tryz.prog 57 ⟨[.pointer (some ⟨g_g, 0, none⟩), .int .i64 i]⟩ w (fun v w' => w.grownBy w' none ∧ ∃ (r : List Int), ∃ (A_r : Option Addr), ∃ (c_r : Nat), v = .slice A_r r.length c_r ∧ Own vi w' w.heap.size 3 A_r c_r r ∧ K r) := by
  subst hn_g_l
  subst hn_g_before
  subst hn_g_after
  unfold M_pgraph_Graph_After at H
  refine Fn.enter (by kernel_rfl) Tryz.func57 rfl Tryz.ntmps57 rfl ?_
  replace H := H (by rw [← hr_g_l.1]; exact Nat.le_trans hg_l.cap hg_l.max)
  replace H := H (by rw [← hr_g_before.1]; exact Nat.le_trans hg_before.cap hg_before.max)
  replace H := H (by rw [← hr_g_after.1]; exact Nat.le_trans hg_after.cap hg_after.max)
  refine WC.seq ?_
  refine WC.region ?_
  refine WL.y rfl (Yld.pure tab_ok rfl) ?_
  refine WL.nil (WX.then_normal ?_)
  refine WC.seq ?_
  refine WC.seq ?_
  refine WC.region ?_
  refine WL.y rfl (Yld.pure tab_ok rfl) ?_
  refine WL.y rfl (Yld.pure tab_ok rfl) ?_
  refine WL.y rfl (Yld.pure tab_ok rfl) ?_
  refine WL.midF 8 (fun L' w' => ∃ q1 : Bool, L' = [(15, .bool q1), (0, .pointer (some ⟨g_g, 0, none⟩)), (1, .int .i64 i)] ∧ ((decide (i < (0 : Int))) || (decide ((g_l.length : Int) ≤ i))) = q1 ∧ w = w') ?_ (fun hQ => ?_)
  · rintro _ _ ⟨q1, rfl, rfl, rfl⟩
    refine WL.nil (WX.then_normal ?_)
    refine WC.cond rfl (fun b1 => ?_) (fun b1 => ?_)
    · replace H := H.1 (b1)
      refine WC.seq ?_
      refine WC.region ?_
      refine WL.y rfl (Yld.pure tab_ok rfl) ?_
      refine WL.nil (WX.then_normal ?_)
      refine WC.ret (WX.then_ret ?_)
      exact WX.ret1 rfl rfl ⟨(gr_refl _ _), [], none, 0, rfl, (Own.nil vi w w.heap.size 3), H⟩
    · replace H := H.2 (b1)
      refine WC.skip (WX.then_normal ?_)
      refine WC.seq ?_
      refine WC.region ?_
      refine WL.y rfl (Yld.pure tab_ok rfl) ?_
      refine WL.y rfl (Yld.pure tab_ok rfl) ?_
      refine WL.y rfl (Yld.pure tab_ok rfl) ?_
      refine WL.y rfl (Yld.bload tab_ok hg rfl rfl rfl) ?_
      refine WL.y rfl (Yld.pure tab_ok rfl) ?_
      obtain ⟨h1, H⟩ := H
      refine WL.y rfl (Yld.iaddrW tab_ok hg_after rfl rfl hr_g_after.1.symm rfl h1.1 h1.2) ?_
      obtain ⟨⟨A_el, n1, c_el⟩, eh1, ⟨en1, hR1⟩⟩ := RelD.at hr_g_after hd0 [] (j := i.toNat) (Nat.lt_of_lt_of_eq (iltN h1 hr_g_after.1.symm) hr_g_after.1)
      have en1 : n1 = (g_after.getD i.toNat []).length := en1
      subst en1
      refine WL.y rfl (Yld.to (v := .slice A_el ((g_after.getD i.toNat []).length) c_el) (Yld.iload hd0 tab_ok hg_after rfl rfl (iltN h1 hr_g_after.1.symm)) (by rw [eh1]; rfl)) ?_
      refine WL.call rfl rfl (W_slices_Clone_int_int hR1 rfl H) ?_
      rintro _ w1 ⟨hg1, t4, A_t4, c_t4, rfl, ht4, H⟩
      have hb1 := ht4.ge'
      have k1 := ht4.base (fun g hg => Nat.le_trans (Nat.le_refl _) (hb1 g hg))
      have gr1 := hg1
      refine WL.y rfl (Yld.pure tab_ok rfl) ?_
      refine WL.nil (WX.then_normal ?_)
      refine WC.ret ?_
      exact WX.ret1 rfl rfl ⟨gr1, t4, A_t4, c_t4, rfl, k1, H⟩
  · clear H
    rcases Bool.eq_false_or_eq_true (decide (i < (0 : Int))) with b2 | b2
    · refine WL.gno rfl rfl (okb b2) rfl ?_
      refine WL.gno rfl rfl (okb b2) rfl ?_
      refine WL.gno rfl rfl (okb b2) rfl ?_
      refine WL.gno rfl rfl (okb b2) rfl ?_
      refine WL.gno rfl rfl (okb b2) rfl ?_
      refine WL.gno rfl rfl (okb b2) rfl ?_
      refine WL.gno rfl rfl (okb b2) rfl ?_
      refine WL.y rfl (Yld.pickT (okb b2) rfl) ?_
      exact WL.weaken (by repeat (first | exact Sub.nil | refine Sub.cons rfl ?_)) (hQ _ _ ⟨true, rfl, by rw [b2] <;> rfl, rfl⟩)
    · refine WL.gyes rfl rfl (okb b2) rfl (Yld.pure tab_ok rfl) ?_
      refine WL.gyes rfl rfl (okb b2) rfl (Yld.pure tab_ok rfl) ?_
      refine WL.gyes rfl rfl (okb b2) rfl (Yld.pure tab_ok rfl) ?_
      refine WL.gyes rfl rfl (okb b2) rfl (Yld.pure tab_ok rfl) ?_
      refine WL.gyes rfl rfl (okb b2) rfl (Yld.bload tab_ok hg rfl rfl rfl) ?_
      refine WL.gyes rfl rfl (okb b2) rfl (Yld.pure tab_ok rfl) ?_
      refine WL.gyes rfl rfl (okb b2) rfl (Yld.pure tab_ok rfl) ?_
      refine WL.y rfl (Yld.pickF (okb b2) rfl) ?_
      exact WL.weaken (by repeat (first | exact Sub.nil | refine Sub.cons rfl ?_)) (hQ _ _ ⟨decide ((g_l.length : Int) ≤ i), rfl, by rw [b2] <;> rfl, rfl⟩)

set_option maxHeartbeats 8000000 in
theorem W_pgraph_Graph_Needs {w : World} {g_g : Nat} {g_l : List (Int × List (List UInt8) × List (List UInt8) × List UInt8)} {A_g_l : Option Addr} {c_g_l : Nat} {hs_g_l : List (Int × Hdr × Hdr × List UInt8)} {g_g_makers : Nat} {g_makers : List (List UInt8 × Int)} {g_before : List (List Int)} {A_g_before : Option Addr} {c_g_before : Nat} {hs_g_before : List Hdr} {g_after : List (List Int)} {A_g_after : Option Addr} {c_g_after : Nat} {hs_g_after : List Hdr} {outputs : List (List UInt8)} {A_outputs : Option Addr} {c_outputs : Nat} {n_g_l : Nat} {n_g_before : Nat} {n_g_after : Nat} {n_outputs : Nat} {K : (List Int) → Prop} (hg_l : RdK 4 encH94 w A_g_l c_g_l hs_g_l) (hn_g_l : n_g_l = g_l.length) (hr_g_l : RelD de94 w hs_g_l g_l) (hg_makers : MapB vs okS vi w g_g_makers g_makers) (hg_before : Rd vh w A_g_before c_g_before hs_g_before) (hn_g_before : n_g_before = g_before.length) (hr_g_before : RelD de98 w hs_g_before g_before) (hg_after : Rd vh w A_g_after c_g_after hs_g_after) (hn_g_after : n_g_after = g_after.length) (hr_g_after : RelD de98 w hs_g_after g_after) (hg : Bl w g_g 169 [.slice A_g_l n_g_l c_g_l, .map (some g_g_makers), .slice A_g_before n_g_before c_g_before, .slice A_g_after n_g_after c_g_after]) (houtputs : Rd vs w A_outputs c_outputs outputs) (hn_outputs : n_outputs = outputs.length) (H : M_pgraph_Graph_Needs g_l g_makers g_before g_after outputs K) : Fn Tryz.prog 59 ⟨[.pointer (some ⟨g_g, 0, none⟩), .slice A_outputs n_outputs c_outputs]⟩ w (fun v w' => w.grownBy w' none ∧ ∃ (r : List Int), ∃ (A_r : Option Addr), ∃ (c_r : Nat), v = .slice A_r r.length c_r ∧ Own vi w' w.heap.size 3 A_r c_r r ∧ K r) := by
  subst hn_g_l
  subst hn_g_before
  subst hn_g_after
  subst hn_outputs
  unfold M_pgraph_Graph_Needs at H
  refine Fn.enter (by kernel_rfl) Tryz.func59 rfl Tryz.ntmps59 rfl ?_
  replace H := H (by rw [← hr_g_l.1]; exact Nat.le_trans hg_l.cap hg_l.max)
  replace H := H (by rw [← hr_g_before.1]; exact Nat.le_trans hg_before.cap hg_before.max)
  replace H := H (by rw [← hr_g_after.1]; exact Nat.le_trans hg_after.cap hg_after.max)
  replace H := H (Nat.le_trans houtputs.cap houtputs.max)
  refine WC.seq ?_
  refine WC.region ?_
  refine WL.y rfl (Yld.pure tab_ok rfl) ?_
  refine WL.nil (WX.then_normal ?_)
  refine WC.seq ?_
  refine WC.region ?_
  refine WL.y rfl (Yld.pure tab_ok rfl) ?_
  refine WL.y rfl (Yld.pure tab_ok rfl) ?_
  refine WL.nil (WX.then_normal ?_)
  refine WC.seq ?_
  refine WC.seq ?_
  refine WC.region ?_
  refine WL.y rfl (Yld.pure tab_ok rfl) ?_
  refine WL.y rfl (Yld.pure tab_ok rfl) ?_
  refine WL.y rfl (Yld.pure tab_ok rfl) ?_
  refine WL.nil (WX.then_normal ?_)
  refine WC.block ?_
  obtain ⟨I1, mu1, h0_1, HR1⟩ := H
  refine WC.loopF (fun n' L' w' => ∃ (from_ : List Int), ∃ (A_from : Option Addr), ∃ (c_from : Nat), ∃ (n_from : Nat), ∃ (t15 : Int), n' = mu1 from_ t15 ∧ L' = [(0, .pointer (some ⟨g_g, 0, none⟩)), (5, .slice A_from n_from c_from), (6, .slice none 0 0), (13, .slice A_outputs outputs.length c_outputs), (14, .int .i64 (outputs.length : Int)), (15, .int .i64 t15)] ∧ I1 from_ t15 ∧ n_from = from_.length ∧ w.grownBy w' none ∧ Own vi w' w.heap.size 3 A_from c_from from_) _ _ ⟨[], none, 0, 0, (0 : Int), rfl, rfl, h0_1, rfl, (gr_refl _ _), (Own.nil vi w w.heap.size 3)⟩ (by repeat (first | exact Sub.nil | refine Sub.cons rfl ?_)) ?_
  clear h0_1
  rintro _ _ w1 ⟨from_, A_from, c_from, n_from, t15, rfl, rfl, hI1, rfl, gr1, k1⟩
  have H := HR1 from_ t15 hI1
  refine WC.seq ?_
  refine WC.region ?_
  refine WL.y rfl (Yld.pure tab_ok rfl) ?_
  refine WL.nil (WX.then_normal ?_)
  refine WC.seq ?_
  refine WC.cond rfl (fun b1 => ?_) (fun b1 => ?_)
  · replace H := H.1 (of_decide_eq_true b1)
    refine WC.skip (WX.then_normal ?_)
    refine WC.seq ?_
    obtain ⟨J1, H, hJ1⟩ := H
    refine WC.midF (fun L' w' => ∃ (from_2 : List Int), ∃ (A_from2 : Option Addr), ∃ (c_from2 : Nat), ∃ (n_from2 : Nat), L' = [(0, .pointer (some ⟨g_g, 0, none⟩)), (5, .slice A_from2 n_from2 c_from2), (6, .slice none 0 0), (13, .slice A_outputs outputs.length c_outputs), (14, .int .i64 (outputs.length : Int)), (15, .int .i64 t15)] ∧ J1 from_2 ∧ n_from2 = from_2.length ∧ w.grownBy w' none ∧ Own vi w' w.heap.size 3 A_from2 c_from2 from_2) ?_ (fun hQ => ?_)
    · clear H
      rintro _ w2 ⟨from_2, A_from2, c_from2, n_from2, rfl, H, rfl, gr2, k2⟩
      replace H := hJ1 from_2 H
      refine WX.then_normal ?_
      refine WC.region ?_
      obtain ⟨h1, H⟩ := H
      refine WL.y rfl (Yld.add rfl rfl h1) ?_
      refine WL.y rfl (Yld.pure tab_ok rfl) ?_
      refine WL.nil ?_
      exact WX.roundF _ ⟨from_2, A_from2, c_from2, from_2.length, t15 + (1 : Int), rfl, rfl, H.1, rfl, gr2, k2⟩ (by repeat (first | exact Sub.nil | refine Sub.cons rfl ?_)) H.2
    · clear hJ1
      refine WC.block ?_
      refine WC.seq ?_
      refine WC.region ?_
      obtain ⟨h2, H⟩ := H
      refine WL.y rfl (Yld.iaddrW tab_ok (houtputs.grown gr1) rfl rfl rfl rfl h2.1 h2.2) ?_
      refine WL.y rfl (Yld.iload [] tab_ok (houtputs.grown gr1) rfl rfl (iltN h2 rfl)) ?_
      refine WL.y rfl (Yld.pure tab_ok rfl) ?_
      refine WL.nil (WX.then_normal ?_)
      refine WC.seq ?_
      refine WC.region ?_
      refine WL.y rfl (Yld.pure tab_ok rfl) ?_
      refine WL.y rfl (Yld.pure tab_ok rfl) ?_
      refine WL.y rfl (Yld.pure tab_ok rfl) ?_
      refine WL.y rfl (Yld.bload tab_ok (hg.g0 gr1) rfl rfl rfl) ?_
      refine WL.y rfl (Yld.pure tab_ok rfl) ?_
      obtain ⟨h3, H⟩ := H
      refine WL.y rfl (Yld.lookOk (z := 0) (keyF_s Tryz.underlying9) Tryz.underlying166 (fun _ => by kernel_rfl) (hg_makers.g0 gr1) rfl rfl h3) ?_
      refine WL.y rfl (Yld.pure tab_ok rfl) ?_
      refine WL.y rfl (Yld.pure tab_ok rfl) ?_
      refine WL.y rfl (Yld.pure tab_ok rfl) ?_
      refine WL.y rfl (Yld.pure tab_ok rfl) ?_
      refine WL.y rfl (Yld.pure tab_ok rfl) ?_
      refine WL.nil (WX.then_normal ?_)
      refine WC.seq ?_
      refine WC.region ?_
      refine WL.y rfl (Yld.pure tab_ok rfl) ?_
      refine WL.nil (WX.then_normal ?_)
      refine WC.cond rfl (fun b2 => ?_) (fun b2 => ?_)
      · replace H := H.1 (b2)
        refine WC.region ?_
        refine WL.y rfl (Yld.pure tab_ok rfl) ?_
        refine WL.y rfl (Yld.pure tab_ok rfl) ?_
        refine WL.lit tab_ok rfl rfl rfl (all1c rfl all1n) rfl (by omega) (fun g1 w3 hB1 hg1 hl1 => ?_)
        have hO1 : Own vi w3 w.heap.size 3 (some ⟨g1, 0, none⟩) 1 ([(mget g_makers (outputs.getD t15.toNat [])).getD 0] : List Int) := Own.ofBl hB1 (Nat.le_trans (size_le gr1) hl1) (by simp [maxLen]) rfl
        have gr3 := gr_trans gr1 hg1
        have k3 := k1.grown hg1
        obtain ⟨h4, H⟩ := H
        refine WL.append tab_ok rfl rfl One.i k3 rfl rfl hO1.rd rfl rfl h4 (applen h4) (size_le gr3) (fun A_from3 c_from3 w4 hO2 hg2 hk1 => ?_)
        have gr4 := gr_mod gr3 hg2 k3.ge'
        refine WL.y rfl (Yld.pure tab_ok rfl) ?_
        refine WL.nil (WX.block_normal ?_)
        exact WX.weaken (by repeat (first | exact Sub.nil | refine Sub.cons rfl ?_)) (hQ _ _ ⟨from_ ++ ([(mget g_makers (outputs.getD t15.toNat [])).getD 0] : List Int), A_from3, c_from3, (from_ ++ ([(mget g_makers (outputs.getD t15.toNat [])).getD 0] : List Int)).length, rfl, H, rfl, gr4, hO2⟩)
      · replace H := H.2 (b2)
        refine WC.skip (WX.block_normal ?_)
        exact WX.weaken (by repeat (first | exact Sub.nil | refine Sub.cons rfl ?_)) (hQ _ _ ⟨from_, A_from, c_from, from_.length, rfl, H, rfl, gr1, k1⟩)
  · replace H := H.2 (of_decide_eq_false b1)
    refine WC.exit (WX.then_exit (WX.then_exit (WX.block_same (WX.then_normal ?_))))
    refine WC.seq ?_
    refine WC.seq ?_
    refine WC.region ?_
    refine WL.y rfl (Yld.pure tab_ok rfl) ?_
    refine WL.y rfl (Yld.pure tab_ok rfl) ?_
    refine WL.call rfl rfl (W_pgraph_Graph_reach (hg_l.grown gr1) rfl (hr_g_l.grown gr1) (hg_makers.g0 gr1) (hg_before.grown gr1) rfl (hr_g_before.grown gr1) (hg_after.grown gr1) rfl (hr_g_after.grown gr1) (hg.g0 gr1) k1.rd rfl H) ?_
    rintro _ w5 ⟨hg3, t36, A_t36, c_t36, rfl, ht36, H⟩
    have hb1 := ht36.ge'
    have k4 := ht36.base (fun g hg => Nat.le_trans (size_le gr1) (hb1 g hg))
    have gr5 := gr_trans gr1 hg3
    refine WL.y rfl (Yld.pure tab_ok rfl) ?_
    refine WL.y rfl (Yld.pure tab_ok rfl) ?_
    refine WL.nil (WX.then_normal ?_)
    refine WC.block ?_
    obtain ⟨I2, mu2, h0_2, HR2⟩ := H
    refine WC.loopF (fun n' L' w' => ∃ (out : List Int), ∃ (A_out : Option Addr), ∃ (c_out : Nat), ∃ (n_out : Nat), ∃ (t38 : Int), n' = mu2 out t38 ∧ L' = [(6, .slice A_out n_out c_out), (36, .slice A_t36 t36.length c_t36), (37, .int .i64 (t36.length : Int)), (38, .int .i64 t38)] ∧ I2 out t38 ∧ n_out = out.length ∧ w.grownBy w' none ∧ Own vB w' w.heap.size 4 A_t36 c_t36 t36 ∧ Own vi w' w.heap.size 3 A_out c_out out ∧ Dj (blk A_t36) (blk A_out)) _ _ ⟨[], none, 0, 0, (0 : Int), rfl, rfl, h0_2, rfl, gr5, k4, (Own.nil vi w5 w.heap.size 3), Dj.nr⟩ (by repeat (first | exact Sub.nil | refine Sub.cons rfl ?_)) ?_
    clear h0_2
    rintro _ _ w6 ⟨out, A_out, c_out, n_out, t38, rfl, rfl, hI2, rfl, gr6, k5, k6, dj1⟩
    have H := HR2 out t38 hI2
    refine WC.seq ?_
    refine WC.region ?_
    refine WL.y rfl (Yld.pure tab_ok rfl) ?_
    refine WL.nil (WX.then_normal ?_)
    refine WC.seq ?_
    refine WC.cond rfl (fun b3 => ?_) (fun b3 => ?_)
    · replace H := H.1 (of_decide_eq_true b3)
      refine WC.skip (WX.then_normal ?_)
      refine WC.seq ?_
      obtain ⟨J2, H, hJ2⟩ := H
      refine WC.midF (fun L' w' => ∃ (out2 : List Int), ∃ (A_out2 : Option Addr), ∃ (c_out2 : Nat), ∃ (n_out2 : Nat), L' = [(6, .slice A_out2 n_out2 c_out2), (36, .slice A_t36 t36.length c_t36), (37, .int .i64 (t36.length : Int)), (38, .int .i64 t38)] ∧ J2 out2 ∧ n_out2 = out2.length ∧ w.grownBy w' none ∧ Own vB w' w.heap.size 4 A_t36 c_t36 t36 ∧ Own vi w' w.heap.size 3 A_out2 c_out2 out2 ∧ Dj (blk A_t36) (blk A_out2)) ?_ (fun hQ => ?_)
      · clear H
        rintro _ w7 ⟨out2, A_out2, c_out2, n_out2, rfl, H, rfl, gr7, k7, k8, dj2⟩
        replace H := hJ2 out2 H
        refine WX.then_normal ?_
        refine WC.region ?_
        obtain ⟨h5, H⟩ := H
        refine WL.y rfl (Yld.add rfl rfl h5) ?_
        refine WL.y rfl (Yld.pure tab_ok rfl) ?_
        refine WL.nil ?_
        exact WX.roundF _ ⟨out2, A_out2, c_out2, out2.length, t38 + (1 : Int), rfl, rfl, H.1, rfl, gr7, k7, k8, dj2⟩ (by repeat (first | exact Sub.nil | refine Sub.cons rfl ?_)) H.2
      · clear hJ2
        refine WC.block ?_
        refine WC.seq ?_
        refine WC.region ?_
        refine WL.y rfl (Yld.pure tab_ok rfl) ?_
        obtain ⟨h6, H⟩ := H
        refine WL.y rfl (Yld.iaddrW tab_ok k5.rd rfl rfl rfl rfl h6.1 h6.2) ?_
        refine WL.y rfl (Yld.iload false tab_ok k5.rd rfl rfl (iltN h6 rfl)) ?_
        refine WL.y rfl (Yld.pure tab_ok rfl) ?_
        refine WL.y rfl (Yld.pure tab_ok rfl) ?_
        refine WL.nil (WX.then_normal ?_)
        refine WC.seq ?_
        refine WC.region ?_
        refine WL.y rfl (Yld.pure tab_ok rfl) ?_
        refine WL.nil (WX.then_normal ?_)
        refine WC.cond rfl (fun b4 => ?_) (fun b4 => ?_)
        · replace H := H.1 (b4)
          refine WC.region ?_
          refine WL.y rfl (Yld.pure tab_ok rfl) ?_
          refine WL.y rfl (Yld.pure tab_ok rfl) ?_
          refine WL.lit tab_ok rfl rfl rfl (all1c rfl all1n) rfl (by omega) (fun g2 w8 hB2 hg4 hl2 => ?_)
          have hO3 : Own vi w8 w.heap.size 3 (some ⟨g2, 0, none⟩) 1 ([t38] : List Int) := Own.ofBl hB2 (Nat.le_trans (size_le gr6) hl2) (by simp [maxLen]) rfl
          have gr8 := gr_trans gr6 hg4
          have k9 := k5.grown hg4
          have k10 := k6.grown hg4
          obtain ⟨h7, H⟩ := H
          refine WL.append tab_ok rfl rfl One.i k10 rfl rfl hO3.rd rfl rfl h7 (applen h7) (size_le gr8) (fun A_out3 c_out3 w9 hO4 hg5 hk2 => ?_)
          have gr9 := gr_mod gr8 hg5 k10.ge'
          have k11 := k9.go hg5 dj1
          refine WL.y rfl (Yld.pure tab_ok rfl) ?_
          refine WL.nil (WX.block_normal ?_)
          exact WX.weaken (by repeat (first | exact Sub.nil | refine Sub.cons rfl ?_)) (hQ _ _ ⟨out ++ ([t38] : List Int), A_out3, c_out3, (out ++ ([t38] : List Int)).length, rfl, H, rfl, gr9, k11, hO4, (Dj.app dj1.symm k9.lt' hk2).symm⟩)
        · replace H := H.2 (b4)
          refine WC.skip (WX.block_normal ?_)
          exact WX.weaken (by repeat (first | exact Sub.nil | refine Sub.cons rfl ?_)) (hQ _ _ ⟨out, A_out, c_out, out.length, rfl, H, rfl, gr6, k5, k6, dj1⟩)
    · replace H := H.2 (of_decide_eq_false b3)
      refine WC.exit (WX.then_exit (WX.then_exit (WX.block_same (WX.then_normal ?_))))
      refine WC.seq ?_
      refine WC.region ?_
      refine WL.y rfl (Yld.pure tab_ok rfl) ?_
      refine WL.y rfl (Yld.pure tab_ok rfl) ?_
      refine WL.nil (WX.then_normal ?_)
      refine WC.ret ?_
      exact WX.ret1 rfl rfl ⟨gr6, out, A_out, c_out, rfl, k6, H⟩

set_option maxHeartbeats 8000000 in
theorem W_pgraph_Graph_Order {w : World} {g_g : Nat} {g_l : List (Int × List (List UInt8) × List (List UInt8) × List UInt8)} {A_g_l : Option Addr} {c_g_l : Nat} {hs_g_l : List (Int × Hdr × Hdr × List UInt8)} {g_g_makers : Nat} {g_makers : List (List UInt8 × Int)} {g_before : List (List Int)} {A_g_before : Option Addr} {c_g_before : Nat} {hs_g_before : List Hdr} {g_after : List (List Int)} {A_g_after : Option Addr} {c_g_after : Nat} {hs_g_after : List Hdr} {n_g_l : Nat} {n_g_before : Nat} {n_g_after : Nat} {K : (List Int) → Prop} (hg_l : RdK 4 encH94 w A_g_l c_g_l hs_g_l) (hn_g_l : n_g_l = g_l.length) (hr_g_l : RelD de94 w hs_g_l g_l) (hg_makers : MapB vs okS vi w g_g_makers g_makers) (hg_before : Rd vh w A_g_before c_g_before hs_g_before) (hn_g_before : n_g_before = g_before.length) (hr_g_before : RelD de98 w hs_g_before g_before) (hg_after : Rd vh w A_g_after c_g_after hs_g_after) (hn_g_after : n_g_after = g_after.length) (hr_g_after : RelD de98 w hs_g_after g_after) (hg : Bl w g_g 169 [.slice A_g_l n_g_l c_g_l, .map (some g_g_makers), .slice A_g_before n_g_before c_g_before, .slice A_g_after n_g_after c_g_after]) (H : M_pgraph_Graph_Order g_l g_makers g_before g_after K) : Fn Tryz.prog 49 ⟨[.pointer (some ⟨g_g, 0, none⟩)]⟩ w (fun v w' => w.grownBy w' none ∧ ∃ (r : List Int), ∃ (A_r : Option Addr), ∃ (c_r : Nat), v = .slice A_r r.length c_r ∧ Own vi w' w.heap.size 3 A_r c_r r ∧ K r) := by
  subst hn_g_l
  subst hn_g_before
  subst hn_g_after
  unfold M_pgraph_Graph_Order at H
  refine Fn.enter (by kernel_rfl) Tryz.func49 rfl Tryz.ntmps49 rfl ?_
  replace H := H (by rw [← hr_g_l.1]; exact Nat.le_trans hg_l.cap hg_l.max)
  replace H := H (by rw [← hr_g_before.1]; exact Nat.le_trans hg_before.cap hg_before.max)
  replace H := H (by rw [← hr_g_after.1]; exact Nat.le_trans hg_after.cap hg_after.max)
  refine WC.seq ?_
  refine WC.region ?_
  refine WL.y rfl (Yld.pure tab_ok rfl) ?_
  refine WL.nil (WX.then_normal ?_)
  refine WC.seq ?_
  refine WC.region ?_
  refine WL.y rfl (Yld.pure tab_ok rfl) ?_
  refine WL.nil (WX.then_normal ?_)
  refine WC.seq ?_
  refine WC.region ?_
  refine WL.y rfl (Yld.pure tab_ok rfl) ?_
  refine WL.y rfl (Yld.pure tab_ok rfl) ?_
  refine WL.y rfl (Yld.pure tab_ok rfl) ?_
  refine WL.y rfl (Yld.bload tab_ok hg rfl rfl rfl) ?_
  refine WL.y rfl (Yld.pure tab_ok rfl) ?_
  obtain ⟨h1, H⟩ := H
  refine WL.makeZI (f := vi) (z := 0) (B := w.heap.size) tab_ok rfl rfl zero3 rfl rfl h1.1 h1.2.1 h1.2.2 (Nat.le_refl _) (fun g1 w1 hO1 hg1 hl1 => ?_)
  have gr1 := hg1
  refine WL.y rfl (Yld.pure tab_ok rfl) ?_
  refine WL.nil (WX.then_normal ?_)
  refine WC.seq ?_
  refine WC.seq ?_
  refine WC.region ?_
  refine WL.y rfl (Yld.pure tab_ok rfl) ?_
  refine WL.y rfl (Yld.pure tab_ok rfl) ?_
  refine WL.y rfl (Yld.pure tab_ok rfl) ?_
  refine WL.y rfl (Yld.bload tab_ok (hg.g0 gr1) rfl rfl rfl) ?_
  refine WL.y rfl (Yld.pure tab_ok rfl) ?_
  refine WL.y rfl (Yld.pure tab_ok rfl) ?_
  refine WL.nil (WX.then_normal ?_)
  refine WC.block ?_
  obtain ⟨I1, mu1, h0_1, HR1⟩ := H
  refine WC.loopF (fun n' L' w' => ∃ (t20 : Int), ∃ (left : List Int), n' = mu1 t20 left ∧ L' = [(0, .pointer (some ⟨g_g, 0, none⟩)), (3, .slice none 0 0), (4, .slice (some ⟨g1, 0, none⟩) ((g_l.length : Int).toNat) ((g_l.length : Int).toNat)), (19, .int .i64 (g_l.length : Int)), (20, .int .i64 t20)] ∧ I1 t20 left ∧ (g_l.length : Int).toNat = left.length ∧ w.grownBy w' none ∧ Own vi w' w.heap.size 3 (some ⟨g1, 0, none⟩) ((g_l.length : Int).toNat) left) _ _ ⟨(0 : Int), (List.replicate (g_l.length : Int).toNat 0), rfl, rfl, h0_1, (List.length_replicate).symm, gr1, hO1⟩ (by repeat (first | exact Sub.nil | refine Sub.cons rfl ?_)) ?_
  clear h0_1
  rintro _ _ w2 ⟨t20, left, rfl, rfl, hI1, hn_left, gr2, k1⟩
  have H := HR1 t20 left hI1
  replace H := H hn_left
  refine WC.seq ?_
  refine WC.region ?_
  refine WL.y rfl (Yld.pure tab_ok rfl) ?_
  refine WL.nil (WX.then_normal ?_)
  refine WC.seq ?_
  refine WC.cond rfl (fun b1 => ?_) (fun b1 => ?_)
  · replace H := H.1 (of_decide_eq_true b1)
    refine WC.skip (WX.then_normal ?_)
    refine WC.seq ?_
    refine WC.block ?_
    refine WC.seq ?_
    refine WC.region ?_
    refine WL.y rfl (Yld.pure tab_ok rfl) ?_
    refine WL.y rfl (Yld.pure tab_ok rfl) ?_
    refine WL.nil (WX.then_normal ?_)
    refine WC.region ?_
    refine WL.y rfl (Yld.pure tab_ok rfl) ?_
    refine WL.y rfl (Yld.pure tab_ok rfl) ?_
    refine WL.y rfl (Yld.pure tab_ok rfl) ?_
    refine WL.y rfl (Yld.pure tab_ok rfl) ?_
    refine WL.y rfl (Yld.pure tab_ok rfl) ?_
    refine WL.y rfl (Yld.bload tab_ok (hg.g0 gr2) rfl rfl rfl) ?_
    refine WL.y rfl (Yld.pure tab_ok rfl) ?_
    obtain ⟨h2, H⟩ := H
    refine WL.y rfl (Yld.iaddrW tab_ok (hg_before.grown gr2) rfl rfl hr_g_before.1.symm rfl h2.1 h2.2) ?_
    obtain ⟨⟨A_el, n1, c_el⟩, eh1, ⟨en1, hR1⟩⟩ := RelD.at hr_g_before hd0 [] (j := t20.toNat) (Nat.lt_of_lt_of_eq (iltN h2 hr_g_before.1.symm) hr_g_before.1)
    have en1 : n1 = (g_before.getD t20.toNat []).length := en1
    subst en1
    refine WL.y rfl (Yld.to (v := .slice A_el ((g_before.getD t20.toNat []).length) c_el) (Yld.iload hd0 tab_ok (hg_before.grown gr2) rfl rfl (iltN h2 hr_g_before.1.symm)) (by rw [eh1]; rfl)) ?_
    refine WL.y rfl (Yld.pure tab_ok rfl) ?_
    obtain ⟨h3, H⟩ := H
    refine WL.y rfl (Yld.iaddrW tab_ok k1.rd rfl rfl hn_left rfl h3.1 h3.2) ?_
    refine WL.ostore (v := ((g_before.getD t20.toNat []).length : Int)) one3 One.i k1 rfl rfl (iltN h3 hn_left) (fun w3 hO2 hg2 => ?_)
    have gr3 := gr_mod gr2 hg2 k1.ge'
    refine WL.nil (WX.block_normal (WX.then_normal ?_))
    refine WC.region ?_
    obtain ⟨h4, H⟩ := H
    refine WL.y rfl (Yld.add rfl rfl h4) ?_
    refine WL.y rfl (Yld.pure tab_ok rfl) ?_
    refine WL.nil ?_
    exact WX.roundF _ ⟨t20 + (1 : Int), left.set t20.toNat ((g_before.getD t20.toNat []).length : Int), rfl, rfl, H.1, (hn_left.trans List.length_set.symm), gr3, hO2⟩ (by repeat (first | exact Sub.nil | refine Sub.cons rfl ?_)) H.2
  · replace H := H.2 (of_decide_eq_false b1)
    refine WC.exit (WX.then_exit (WX.then_exit (WX.block_same (WX.then_normal ?_))))
    refine WC.seq ?_
    refine WC.seq ?_
    refine WC.region ?_
    refine WL.y rfl (Yld.pure tab_ok rfl) ?_
    refine WL.y rfl (Yld.pure tab_ok rfl) ?_
    refine WL.y rfl (Yld.pure tab_ok rfl) ?_
    refine WL.y rfl (Yld.bload tab_ok (hg.g0 gr2) rfl rfl rfl) ?_
    refine WL.y rfl (Yld.pure tab_ok rfl) ?_
    refine WL.y rfl (Yld.pure tab_ok rfl) ?_
    refine WL.nil (WX.then_normal ?_)
    refine WC.block ?_
    obtain ⟨I2, mu2, h0_2, HR2⟩ := H
    refine WC.loopF (fun n' L' w' => ∃ (out : List Int), ∃ (A_out : Option Addr), ∃ (c_out : Nat), ∃ (n_out : Nat), ∃ (t40 : Int), ∃ (left2 : List Int), n' = mu2 out t40 left2 ∧ L' = [(0, .pointer (some ⟨g_g, 0, none⟩)), (3, .slice A_out n_out c_out), (4, .slice (some ⟨g1, 0, none⟩) ((g_l.length : Int).toNat) ((g_l.length : Int).toNat)), (39, .int .i64 (g_l.length : Int)), (40, .int .i64 t40)] ∧ I2 out t40 left2 ∧ (g_l.length : Int).toNat = left2.length ∧ n_out = out.length ∧ w.grownBy w' none ∧ Own vi w' w.heap.size 3 (some ⟨g1, 0, none⟩) ((g_l.length : Int).toNat) left2 ∧ Own vi w' w.heap.size 3 A_out c_out out ∧ Dj (blk (some ⟨g1, 0, none⟩)) (blk A_out)) _ _ ⟨[], none, 0, 0, (0 : Int), left, rfl, rfl, h0_2, hn_left, rfl, gr2, k1, (Own.nil vi w2 w.heap.size 3), Dj.nr⟩ (by repeat (first | exact Sub.nil | refine Sub.cons rfl ?_)) ?_
    clear h0_2
    rintro _ _ w4 ⟨out, A_out, c_out, n_out, t40, left2, rfl, rfl, hI2, hn_left2, rfl, gr4, k2, k3, dj1⟩
    have H := HR2 out t40 left2 hI2
    replace H := H hn_left2
    refine WC.seq ?_
    refine WC.region ?_
    refine WL.y rfl (Yld.pure tab_ok rfl) ?_
    refine WL.nil (WX.then_normal ?_)
    refine WC.seq ?_
    refine WC.cond rfl (fun b2 => ?_) (fun b2 => ?_)
    · replace H := H.1 (of_decide_eq_true b2)
      refine WC.skip (WX.then_normal ?_)
      refine WC.seq ?_
      refine WC.block ?_
      refine WC.seq ?_
      refine WC.region ?_
      refine WL.y rfl (Yld.pure tab_ok rfl) ?_
      refine WL.call rfl rfl (W_slices_Index_int_int k2.rd hn_left2 H) ?_
      rintro _ _ ⟨rfl, i, rfl, H⟩
      refine WL.y rfl (Yld.pure tab_ok rfl) ?_
      refine WL.nil (WX.then_normal ?_)
      refine WC.seq ?_
      refine WC.region ?_
      refine WL.y rfl (Yld.pure tab_ok rfl) ?_
      refine WL.y rfl (Yld.pure tab_ok rfl) ?_
      obtain ⟨h5, H⟩ := H
      refine WL.y rfl (Yld.iaddrW tab_ok k2.rd rfl rfl hn_left2 rfl h5.1 h5.2) ?_
      refine WL.ostore (v := (-1 : Int)) one3 One.i k2 rfl rfl (iltN h5 hn_left2) (fun w5 hO3 hg3 => ?_)
      have gr5 := gr_mod gr4 hg3 k2.ge'
      have k4 := k3.go hg3 dj1.symm
      refine WL.nil (WX.then_normal ?_)
      refine WC.seq ?_
      refine WC.region ?_
      refine WL.y rfl (Yld.pure tab_ok rfl) ?_
      refine WL.y rfl (Yld.pure tab_ok rfl) ?_
      refine WL.lit tab_ok rfl rfl rfl (all1c rfl all1n) rfl (by omega) (fun g2 w6 hB1 hg4 hl2 => ?_)
      have hO4 : Own vi w6 w.heap.size 3 (some ⟨g2, 0, none⟩) 1 ([i] : List Int) := Own.ofBl hB1 (Nat.le_trans (size_le gr5) hl2) (by simp [maxLen]) rfl
      have gr6 := gr_trans gr5 hg4
      have k5 := hO3.grown hg4
      have k6 := k4.grown hg4
      obtain ⟨h6, H⟩ := H
      refine WL.append tab_ok rfl rfl One.i k6 rfl rfl hO4.rd rfl rfl h6 (applen h6) (size_le gr6) (fun A_out2 c_out2 w7 hO5 hg5 hk1 => ?_)
      have gr7 := gr_mod gr6 hg5 k6.ge'
      have k7 := k5.go hg5 dj1
      refine WL.y rfl (Yld.pure tab_ok rfl) ?_
      refine WL.nil (WX.then_normal ?_)
      refine WC.seq ?_
      refine WC.region ?_
      refine WL.y rfl (Yld.pure tab_ok rfl) ?_
      refine WL.y rfl (Yld.pure tab_ok rfl) ?_
      refine WL.y rfl (Yld.pure tab_ok rfl) ?_
      refine WL.y rfl (Yld.bload tab_ok (hg.g0 gr7) rfl rfl rfl) ?_
      refine WL.y rfl (Yld.pure tab_ok rfl) ?_
      obtain ⟨h7, H⟩ := H
      refine WL.y rfl (Yld.iaddrW tab_ok (hg_after.grown gr7) rfl rfl hr_g_after.1.symm rfl h7.1 h7.2) ?_
      obtain ⟨⟨A_el2, n2, c_el2⟩, eh2, ⟨en2, hR2⟩⟩ := RelD.at hr_g_after hd0 [] (j := i.toNat) (Nat.lt_of_lt_of_eq (iltN h7 hr_g_after.1.symm) hr_g_after.1)
      have en2 : n2 = (g_after.getD i.toNat []).length := en2
      subst en2
      refine WL.y rfl (Yld.to (v := .slice A_el2 ((g_after.getD i.toNat []).length) c_el2) (Yld.iload hd0 tab_ok (hg_after.grown gr7) rfl rfl (iltN h7 hr_g_after.1.symm)) (by rw [eh2]; rfl)) ?_
      refine WL.y rfl (Yld.pure tab_ok rfl) ?_
      refine WL.y rfl (Yld.pure tab_ok rfl) ?_
      refine WL.nil (WX.then_normal ?_)
      refine WC.block ?_
      obtain ⟨I3, mu3, h0_3, HR3⟩ := H
      refine WC.loopF (fun n' L' w' => ∃ (t59 : Int), ∃ (left3 : List Int), n' = mu3 t59 left3 ∧ L' = [(0, .pointer (some ⟨g_g, 0, none⟩)), (3, .slice A_out2 ((out ++ ([i] : List Int)).length) c_out2), (4, .slice (some ⟨g1, 0, none⟩) ((g_l.length : Int).toNat) ((g_l.length : Int).toNat)), (39, .int .i64 (g_l.length : Int)), (40, .int .i64 t40), (57, .slice A_el2 ((g_after.getD i.toNat []).length) c_el2), (58, .int .i64 ((g_after.getD i.toNat []).length : Int)), (59, .int .i64 t59)] ∧ I3 t59 left3 ∧ (g_l.length : Int).toNat = left3.length ∧ w.grownBy w' none ∧ Own vi w' w.heap.size 3 (some ⟨g1, 0, none⟩) ((g_l.length : Int).toNat) left3 ∧ Own vi w' w.heap.size 3 A_out2 c_out2 (out ++ ([i] : List Int)) ∧ Dj (blk (some ⟨g1, 0, none⟩)) (blk A_out2)) _ _ ⟨(0 : Int), left2.set i.toNat (-1 : Int), rfl, rfl, h0_3, (hn_left2.trans List.length_set.symm), gr7, k7, hO5, (Dj.app dj1.symm k5.lt' hk1).symm⟩ (by repeat (first | exact Sub.nil | refine Sub.cons rfl ?_)) ?_
      clear h0_3
      rintro _ _ w8 ⟨t59, left3, rfl, rfl, hI3, hn_left3, gr8, k8, k9, dj2⟩
      have H := HR3 t59 left3 hI3
      replace H := H hn_left3
      refine WC.seq ?_
      refine WC.region ?_
      refine WL.y rfl (Yld.pure tab_ok rfl) ?_
      refine WL.nil (WX.then_normal ?_)
      refine WC.seq ?_
      refine WC.cond rfl (fun b3 => ?_) (fun b3 => ?_)
      · replace H := H.1 (of_decide_eq_true b3)
        refine WC.skip (WX.then_normal ?_)
        refine WC.seq ?_
        refine WC.block ?_
        refine WC.seq ?_
        refine WC.region ?_
        obtain ⟨h8, H⟩ := H
        refine WL.y rfl (Yld.iaddrW tab_ok (hR2.grown gr8) rfl rfl rfl rfl h8.1 h8.2) ?_
        refine WL.y rfl (Yld.iload 0 tab_ok (hR2.grown gr8) rfl rfl (iltN h8 rfl)) ?_
        refine WL.y rfl (Yld.pure tab_ok rfl) ?_
        refine WL.nil (WX.then_normal ?_)
        refine WC.region ?_
        refine WL.y rfl (Yld.pure tab_ok rfl) ?_
        refine WL.y rfl (Yld.pure tab_ok rfl) ?_
        obtain ⟨h9, H⟩ := H
        refine WL.y rfl (Yld.iaddrW tab_ok k8.rd rfl rfl hn_left3 rfl h9.1 h9.2) ?_
        refine WL.y rfl (Yld.iload 0 tab_ok k8.rd rfl rfl (iltN h9 hn_left3)) ?_
        obtain ⟨h10, H⟩ := H
        refine WL.y rfl (Yld.sub rfl rfl h10) ?_
        obtain ⟨h11, H⟩ := H
        refine WL.y rfl (Yld.iaddrW tab_ok k8.rd rfl rfl hn_left3 rfl h11.1 h11.2) ?_
        refine WL.ostore (v := (left3.getD (((g_after.getD i.toNat []).getD t59.toNat 0).toNat) 0) - (1 : Int)) one3 One.i k8 rfl rfl (iltN h11 hn_left3) (fun w9 hO6 hg6 => ?_)
        have gr9 := gr_mod gr8 hg6 k8.ge'
        have k10 := k9.go hg6 dj2.symm
        refine WL.nil (WX.block_normal (WX.then_normal ?_))
        refine WC.region ?_
        obtain ⟨h12, H⟩ := H
        refine WL.y rfl (Yld.add rfl rfl h12) ?_
        refine WL.y rfl (Yld.pure tab_ok rfl) ?_
        refine WL.nil ?_
        exact WX.roundF _ ⟨t59 + (1 : Int), left3.set (((g_after.getD i.toNat []).getD t59.toNat 0).toNat) ((left3.getD (((g_after.getD i.toNat []).getD t59.toNat 0).toNat) 0) - (1 : Int)), rfl, rfl, H.1, (hn_left3.trans List.length_set.symm), gr9, hO6, k10, dj2⟩ (by repeat (first | exact Sub.nil | refine Sub.cons rfl ?_)) H.2
      · replace H := H.2 (of_decide_eq_false b3)
        refine WC.exit (WX.then_exit (WX.then_exit (WX.block_same (WX.block_normal (WX.then_normal ?_)))))
        refine WC.region ?_
        obtain ⟨h13, H⟩ := H
        refine WL.y rfl (Yld.add rfl rfl h13) ?_
        refine WL.y rfl (Yld.pure tab_ok rfl) ?_
        refine WL.nil ?_
        exact WX.roundF _ ⟨out ++ ([i] : List Int), A_out2, c_out2, (out ++ ([i] : List Int)).length, t40 + (1 : Int), left3, rfl, rfl, H.1, hn_left3, rfl, gr8, k8, k9, dj2⟩ (by repeat (first | exact Sub.nil | refine Sub.cons rfl ?_)) H.2
    · replace H := H.2 (of_decide_eq_false b2)
      refine WC.exit (WX.then_exit (WX.then_exit (WX.block_same (WX.then_normal ?_))))
      refine WC.seq ?_
      refine WC.region ?_
      refine WL.y rfl (Yld.pure tab_ok rfl) ?_
      refine WL.y rfl (Yld.pure tab_ok rfl) ?_
      refine WL.nil (WX.then_normal ?_)
      refine WC.ret ?_
      exact WX.ret1 rfl rfl ⟨gr4, out, A_out, c_out, rfl, k3, H⟩

set_option maxHeartbeats 8000000 in
theorem W_graph_New {S : List Nat} {w : World} {l : List (Int × List (List UInt8) × List (List UInt8) × List UInt8)} {A_l : Option Addr} {c_l : Nat} {hs_l : List (Int × Hdr × Hdr × List UInt8)} {n_l : Nat} {K0 : Er → Prop} {K : (List (Int × List (List UInt8) × List (List UInt8) × List UInt8)) → (List (List UInt8 × Int)) → (List (List Int)) → (List (List Int)) → Er → Prop} (hG : GOK S w) (hS4 : 4 ∈ S) (hS6 : 6 ∈ S) (hS9 : 9 ∈ S) (hS10 : 10 ∈ S) (hS11 : 11 ∈ S) (hS100 : 100 ∈ S) (hl : RdK 4 encH94 w A_l c_l hs_l) (hn_l : n_l = l.length) (hr_l : RelD de94 w hs_l l) (H : M_graph_New l K0 K) : Fn Tryz.prog 41 ⟨[.slice A_l n_l c_l]⟩ w (fun v w' => w.grownBy w' none ∧ ((∃ (v_r12 : Value), ∃ (r12 : Er), v = .tuple #[.pointer none, v_r12] ∧ ErrR S w' v_r12 r12 ∧ K0 r12) ∨ (∃ (g_r0 : Nat), ∃ (r0_l : List (Int × List (List UInt8) × List (List UInt8) × List UInt8)), ∃ (A_r0_l : Option Addr), ∃ (c_r0_l : Nat), ∃ (hs_r0_l : List (Int × Hdr × Hdr × List UInt8)), ∃ (g_r0_makers : Nat), ∃ (r0_makers : List (List UInt8 × Int)), ∃ (r0_before : List (List Int)), ∃ (A_r0_before : Option Addr), ∃ (c_r0_before : Nat), ∃ (hs_r0_before : List Hdr), ∃ (r0_after : List (List Int)), ∃ (A_r0_after : Option Addr), ∃ (c_r0_after : Nat), ∃ (hs_r0_after : List Hdr), ∃ (v_r1 : Value), ∃ (r1 : Er), v = .tuple #[.pointer (some ⟨g_r0, 0, none⟩), v_r1] ∧ OwnK 4 encH94 w' w.heap.size 94 A_r0_l c_r0_l hs_r0_l ∧ RelD de94 w' hs_r0_l r0_l ∧ NewD de94 hs_r0_l r0_l w.heap.size ∧ DnD de94 hs_r0_l r0_l (blk A_r0_l) ∧ Own vh w' w.heap.size 98 A_r0_before c_r0_before hs_r0_before ∧ RelD de98 w' hs_r0_before r0_before ∧ NewD de98 hs_r0_before r0_before w.heap.size ∧ DnD de98 hs_r0_before r0_before (blk A_r0_before) ∧ Own vh w' w.heap.size 98 A_r0_after c_r0_after hs_r0_after ∧ RelD de98 w' hs_r0_after r0_after ∧ NewD de98 hs_r0_after r0_after w.heap.size ∧ DnD de98 hs_r0_after r0_after (blk A_r0_after) ∧ ErrR S w' v_r1 r1 ∧ MapB vs okS vi w' g_r0_makers r0_makers ∧ Ge (some g_r0_makers) w.heap.size ∧ Bl w' g_r0 169 [.slice A_r0_l r0_l.length c_r0_l, .map (some g_r0_makers), .slice A_r0_before r0_before.length c_r0_before, .slice A_r0_after r0_after.length c_r0_after] ∧ Ge (some g_r0) w.heap.size ∧ DnD de94 hs_r0_l r0_l (blk A_r0_l) ∧ DnD de94 hs_r0_l r0_l (blk A_r0_before) ∧ DnD de94 hs_r0_l r0_l (blk A_r0_after) ∧ DnD de94 hs_r0_l r0_l (some g_r0_makers) ∧ DnD de94 hs_r0_l r0_l (some g_r0) ∧ DnD de98 hs_r0_before r0_before (blk A_r0_l) ∧ DnD de98 hs_r0_before r0_before (blk A_r0_before) ∧ DnD de98 hs_r0_before r0_before (blk A_r0_after) ∧ DnD de98 hs_r0_before r0_before (some g_r0_makers) ∧ DnD de98 hs_r0_before r0_before (some g_r0) ∧ DnD de98 hs_r0_after r0_after (blk A_r0_l) ∧ DnD de98 hs_r0_after r0_after (blk A_r0_before) ∧ DnD de98 hs_r0_after r0_after (blk A_r0_after) ∧ DnD de98 hs_r0_after r0_after (some g_r0_makers) ∧ DnD de98 hs_r0_after r0_after (some g_r0) ∧ Dj (blk A_r0_l) (blk A_r0_before) ∧ Dj (blk A_r0_l) (blk A_r0_after) ∧ Dj (blk A_r0_l) (some g_r0_makers) ∧ Dj (blk A_r0_l) (some g_r0) ∧ Dj (blk A_r0_before) (blk A_r0_after) ∧ Dj (blk A_r0_before) (some g_r0_makers) ∧ Dj (blk A_r0_before) (some g_r0) ∧ Dj (blk A_r0_after) (some g_r0_makers) ∧ Dj (blk A_r0_after) (some g_r0) ∧ Dj (some g_r0_makers) (some g_r0) ∧ K r0_l r0_makers r0_before r0_after r1))) := by
  subst hn_l
  unfold M_graph_New at H
  refine Fn.enter (by kernel_rfl) Tryz.func41 rfl Tryz.ntmps41 rfl ?_
  replace H := H (by rw [← hr_l.1]; exact Nat.le_trans hl.cap hl.max)
  refine WC.seq ?_
  refine WC.region ?_
  refine WL.y rfl (Yld.pure tab_ok rfl) ?_
  refine WL.y rfl (Yld.pure tab_ok rfl) ?_
  refine WL.nil (WX.then_normal ?_)
  refine WC.seq ?_
  refine WC.region ?_
  refine WL.putw wants_none rfl (Eff.makeMap vs okS vi) ?_
  rintro _ w1 ⟨rfl, hB1, hg1⟩
  have gr1 := hg1
  refine WL.y rfl (Yld.struct (us := [.slice none 0 0, .map (some w.heap.size), .slice none 0 0, .slice none 0 0]) zero169 places169 rfl rfl) ?_
  refine WL.box (us := [.slice none 0 0, .map (some w.heap.size), .slice none 0 0, .slice none 0 0]) rfl rfl rfl (fun g1 w2 hB2 hg2 hl2 => ?_)
  have gr2 := gr_trans gr1 hg2
  have k1 := hB1.g0 hg2
  refine WL.y rfl (Yld.pure tab_ok rfl) ?_
  refine WL.nil (WX.then_normal ?_)
  refine WC.seq ?_
  refine WC.seq ?_
  refine WC.region ?_
  refine WL.y rfl (Yld.pure tab_ok rfl) ?_
  refine WL.y rfl (Yld.pure tab_ok rfl) ?_
  refine WL.y rfl (Yld.pure tab_ok rfl) ?_
  refine WL.y rfl (Yld.pure tab_ok rfl) ?_
  obtain ⟨J1, H, hJ1⟩ := H
  refine WL.midF 3 (fun L' w' => ∃ q1 : Bool, L' = [(27, .bool q1), (0, .slice A_l l.length c_l), (4, .pointer (some ⟨g1, 0, none⟩))] ∧ J1 q1 ∧ w.grownBy w' none ∧ MapB vs okS vi w' w.heap.size ([] : List (List UInt8 × Int)) ∧ Bl w' g1 169 [.slice none 0 0, .map (some w.heap.size), .slice none 0 0, .slice none 0 0]) ?_ (fun hQ => ?_)
  · clear H
    rintro _ w3 ⟨q1, rfl, H, gr3, k2, k3⟩
    replace H := hJ1 q1 H
    refine WL.nil (WX.then_normal ?_)
    refine WC.cond rfl (fun b1 => ?_) (fun b1 => ?_)
    · replace H := H.1 (b1)
      refine WC.seq ?_
      refine WC.quiet mixed (by kernel_rfl) ?_
      obtain ⟨vE1, _, hE1⟩ := GOK.get (hG.grown gr3) 9 1 hS9 rfl rfl
      refine WQ.y rfl (Yld.cell tab_ok (ErrR.cell hE1 rfl) rfl rfl) ?_
      refine WQ.y rfl (Yld.pure tab_ok rfl) ?_
      refine WQ.y rfl (Yld.pure tab_ok rfl) ?_
      refine WQ.nil (WX.then_normal ?_)
      refine WC.ret (WX.then_ret ?_)
      exact WX.ret2 rfl rfl rfl ⟨gr3, Or.inl ⟨vE1, (Er.e 9), rfl, hE1, H⟩⟩
    · replace H := H.2 (b1)
      refine WC.skip (WX.then_normal ?_)
      refine WC.seq ?_
      refine WC.seq ?_
      refine WC.region ?_
      refine WL.y rfl (Yld.pure tab_ok rfl) ?_
      refine WL.y rfl (Yld.pure tab_ok rfl) ?_
      refine WL.y rfl (Yld.pure tab_ok rfl) ?_
      refine WL.nil (WX.then_normal ?_)
      refine WC.block ?_
      obtain ⟨I1, mu1, h0_1, HR1⟩ := H
      refine WC.loopF (fun n' L' w' => ∃ (t31 : Int), ∃ (t200 : List (Int × List (List UInt8) × List (List UInt8) × List UInt8)), ∃ (A_t200 : Option Addr), ∃ (c_t200 : Nat), ∃ (n_t200 : Nat), ∃ (hs_t200 : List (Int × Hdr × Hdr × List UInt8)), ∃ (t201 : List (List UInt8 × Int)), n' = mu1 t31 t200 t201 ∧ L' = [(0, .slice A_l l.length c_l), (4, .pointer (some ⟨g1, 0, none⟩)), (29, .slice A_l l.length c_l), (30, .int .i64 (l.length : Int)), (31, .int .i64 t31)] ∧ I1 t31 t200 t201 ∧ n_t200 = t200.length ∧ w.grownBy w' none ∧ Bl w' g1 169 [.slice A_t200 n_t200 c_t200, .map (some w.heap.size), .slice none 0 0, .slice none 0 0] ∧ OwnK 4 encH94 w' w.heap.size 94 A_t200 c_t200 hs_t200 ∧ RelD de94 w' hs_t200 t200 ∧ MapB vs okS vi w' w.heap.size t201 ∧ Dj (some g1) (blk A_t200) ∧ Dj (some g1) (some w.heap.size) ∧ Dj (blk A_t200) (some w.heap.size) ∧ DnD de94 hs_t200 t200 (some g1) ∧ DnD de94 hs_t200 t200 (blk A_t200) ∧ DnD de94 hs_t200 t200 (some w.heap.size) ∧ NewD de94 hs_t200 t200 w.heap.size) _ _ ⟨(0 : Int), [], none, 0, 0, [], ([] : List (List UInt8 × Int)), rfl, rfl, h0_1, rfl, gr3, k3, (OwnK.nil encH94_ok w3 w.heap.size 94), (RelD.nil (d := de94) (w := w3)), k2, Dj.nr, (Dj.new hB1.lt' (Ge.box hl2)).symm, Dj.nl, DnD.nil, DnD.nil, DnD.nil, (NewD.nil (d := de94))⟩ (by repeat (first | exact Sub.nil | refine Sub.cons rfl ?_)) ?_
      clear h0_1
      rintro _ _ w4 ⟨t31, t200, A_t200, c_t200, n_t200, hs_t200, t201, rfl, rfl, hI1, rfl, gr4, k4, k5, k6, k7, dj1, dj2, dj3, dj4, dj5, dj6, or1⟩
      have H := HR1 t31 t200 t201 hI1
      refine WC.seq ?_
      refine WC.region ?_
      refine WL.y rfl (Yld.pure tab_ok rfl) ?_
      refine WL.nil (WX.then_normal ?_)
      refine WC.seq ?_
      refine WC.cond rfl (fun b2 => ?_) (fun b2 => ?_)
      · replace H := H.1 (of_decide_eq_true b2)
        refine WC.skip (WX.then_normal ?_)
        refine WC.seq ?_
        refine WC.block ?_
        refine WC.seq ?_
        refine WC.region ?_
        refine WL.y rfl (Yld.pure tab_ok rfl) ?_
        obtain ⟨h1, H⟩ := H
        refine WL.y rfl (Yld.iaddrK tab_ok (hl.grown gr4) rfl rfl hr_l.1.symm rfl h1.1 h1.2) ?_
        obtain ⟨⟨f1, ⟨A_el, n1, c_el⟩, ⟨A_el2, n2, c_el2⟩, f2⟩, eh1, ⟨en1, ⟨en2, hR1⟩, ⟨en3, hR2⟩, en4⟩⟩ := RelD.at hr_l (0, hd0, hd0, []) (0, [], [], []) (j := t31.toNat) (Nat.lt_of_lt_of_eq (iltN h1 hr_l.1.symm) hr_l.1)
        have en1 : f1 = (l.getD t31.toNat (0, [], [], [])).1 := en1
        subst en1
        have en2 : n1 = ((l.getD t31.toNat (0, [], [], [])).2.1).length := en2
        subst en2
        have en3 : n2 = ((l.getD t31.toNat (0, [], [], [])).2.2.1).length := en3
        subst en3
        have en4 : f2 = (l.getD t31.toNat (0, [], [], [])).2.2.2 := en4
        subst en4
        refine WL.y rfl (Yld.to (v := .agg ⟨[.int .i64 ((l.getD t31.toNat (0, [], [], [])).1), .slice A_el (((l.getD t31.toNat (0, [], [], [])).2.1).length) c_el, .slice A_el2 (((l.getD t31.toNat (0, [], [], [])).2.2.1).length) c_el2, vs ((l.getD t31.toNat (0, [], [], [])).2.2.2)]⟩) (Yld.iloadK (0, hd0, hd0, []) tab_ok (hl.grown gr4) rfl rfl (iltN h1 hr_l.1.symm)) (by rw [eh1]; rfl)) ?_
        refine WL.alloc rfl zero94 (fun g2 w5 hB3 hg3 hl3 => ?_)
        have gr5 := gr_trans gr4 hg3
        have k8 := k4.g0 hg3
        have k9 := k5.grown hg3
        have k10 := k6.grown hg3
        have k11 := k7.g0 hg3
        refine WL.y rfl (Yld.pure tab_ok rfl) ?_
        refine WL.storeW (vs := [.int .i64 ((l.getD t31.toNat (0, [], [], [])).1), .slice A_el (((l.getD t31.toNat (0, [], [], [])).2.1).length) c_el, .slice A_el2 (((l.getD t31.toNat (0, [], [], [])).2.2.1).length) c_el2, vs ((l.getD t31.toNat (0, [], [], [])).2.2.2)]) tab_ok rfl rfl rfl (all1c rfl (all1c rfl (all1c rfl (all1c rfl all1n)))) hB3 rfl rfl (fun w6 hB4 hg4 => ?_)
        have gr6 := gr_mod gr5 hg4 (Ge.le (Ge.box hl3) (size_le gr4))
        have k12 := k8.go hg4 (Dj.new k4.lt' (Ge.box hl3))
        have k13 := k9.go hg4 (Dj.new k5.lt' (Ge.box hl3))
        have k14 := k10.go hg4 (k6.new (Ge.box hl3))
        have k15 := k11.go hg4 (Dj.new k7.lt' (Ge.box hl3))
        refine WL.nil (WX.then_normal ?_)
        refine WC.seq ?_
        refine WC.seq ?_
        refine WC.region ?_
        refine WL.y rfl (Yld.pure tab_ok rfl) ?_
        refine WL.y rfl (Yld.bagg (vs := [.int .i64 ((l.getD t31.toNat (0, [], [], [])).1), .slice A_el (((l.getD t31.toNat (0, [], [], [])).2.1).length) c_el, .slice A_el2 (((l.getD t31.toNat (0, [], [], [])).2.2.1).length) c_el2, vs ((l.getD t31.toNat (0, [], [], [])).2.2.2)]) tab_ok hB4 rfl rfl rfl rfl) ?_
        refine WL.call rfl rfl (W_pgraph_Graph_fits (hG.grown gr6) hS6 hS10 hS11 hS100 k13.rd rfl k14 k15 (Own.nil vh w6 w.heap.size 98).rd rfl (RelD.nil (d := de98) (w := w6)) (Own.nil vh w6 w.heap.size 98).rd rfl (RelD.nil (d := de98) (w := w6)) k12 (hR1.grown gr6) rfl (hR2.grown gr6) rfl H) ?_
        rintro v_err w7 ⟨hg5, _, err, rfl, herr, H⟩
        have gr7 := gr_trans gr6 hg5
        have k16 := k12.g0 hg5
        have k17 := k13.grown hg5
        have k18 := k14.grown hg5
        have k19 := k15.g0 hg5
        have k20 := hB4.g0 hg5
        refine WL.y rfl (Yld.pure tab_ok rfl) ?_
        refine WL.nil (WX.then_normal ?_)
        refine WC.seq ?_
        refine WC.region ?_
        refine WL.y rfl (Yld.pure tab_ok rfl) ?_
        refine WL.y rfl (Yld.errneq Tryz.underlying26 herr rfl) ?_
        refine WL.nil (WX.then_normal ?_)
        refine WC.cond rfl (fun b3 => ?_) (fun b3 => ?_)
        · replace H := H.1 (nd_true b3)
          refine WC.seq ?_
          refine WC.region ?_
          refine WL.y rfl (Yld.pure tab_ok rfl) ?_
          refine WL.y rfl (Yld.pure tab_ok rfl) ?_
          refine WL.y rfl (Yld.struct (us := [.int .i64 t31, v_err]) (vs := [(0, .int .i64 t31), (1, v_err)]) zero175 places175 rfl (by simp only [fillL, cells1 (ErrR.one herr)]; rfl)) ?_
          refine WL.box (us := [.int .i64 t31, v_err]) rfl rfl rfl (fun g3 w8 hB5 hg6 hl4 => ?_)
          have gr8 := gr_trans gr7 hg6
          have k21 := herr.grown hg6
          obtain ⟨n, he1, H⟩ := H
          have hE2 := ErrR.mkAt hB5 (he1 ▸ k21)
          refine WL.y rfl (Yld.mki Tryz.underlying173 rfl rfl) ?_
          refine WL.y rfl (Yld.pure tab_ok rfl) ?_
          refine WL.y rfl (Yld.pure tab_ok rfl) ?_
          refine WL.nil (WX.then_normal ?_)
          refine WC.ret (WX.then_ret (WX.block_ret (WX.then_ret (WX.then_ret (WX.block_ret (WX.then_ret ?_))))))
          exact WX.ret2 rfl rfl rfl ⟨gr8, Or.inl ⟨(.iface 173 (.pointer (some ⟨g3, 0, none⟩))), (Er.at_ t31 n), rfl, hE2, H⟩⟩
        · replace H := H.2 (nd_false b3)
          refine WC.skip (WX.then_normal ?_)
          refine WC.seq ?_
          refine WC.chainF (fun k => !(Nat.beq k 7)) (LD [3, 5] (fun w' => Bl w' g1 169 [.slice A_t200 t200.length c_t200, .map (some w.heap.size), .slice none 0 0, .slice none 0 0] ∧ Bl w' g2 94 [.int .i64 ((l.getD t31.toNat (0, [], [], [])).1), .slice A_el (((l.getD t31.toNat (0, [], [], [])).2.1).length) c_el, .slice A_el2 (((l.getD t31.toNat (0, [], [], [])).2.2.1).length) c_el2, vs ((l.getD t31.toNat (0, [], [], [])).2.2.2)])) mixed (by kernel_rfl) (fun k w' h _ => ⟨(bl_eqv h k16), (bl_eqv h k20)⟩) ?_
          refine WJ.y rfl rfl (fun w' hw' => Yld.pure tab_ok rfl) ?_
          refine WJ.y rfl rfl (fun w' hw' => Yld.pure tab_ok rfl) ?_
          refine WJ.y rfl rfl (fun w' hw' => Yld.pure tab_ok rfl) ?_
          refine WJ.y rfl rfl (fun w' hw' => Yld.bload tab_ok (hw' rfl).1 rfl rfl rfl) ?_
          refine WJ.y rfl rfl (fun w' hw' => Yld.pure tab_ok rfl) ?_
          refine WJ.y rfl rfl (fun w' hw' => Yld.bload tab_ok (hw' rfl).2 rfl rfl rfl) ?_
          refine WJ.y rfl rfl (fun w' hw' => Yld.pure tab_ok rfl) ?_
          obtain ⟨h2, H⟩ := H
          refine WJ.eff rfl (Ef0.mapPut (keyF_s Tryz.underlying9) Tryz.underlying166 k19 h2.2 rfl rfl h2.1 rfl) (fun w' h => DD.keep (⟨(Bl.go k16 (gr_eqv h.2 (Eqv.refl _)) dj2), (Bl.go k20 (gr_eqv h.2 (Eqv.refl _)) (Dj.new k7.lt' (Ge.box hl3)).symm)⟩)) ?_
          rintro w9 ⟨hB6, hg7⟩
          have gr9 := gr_mod gr7 hg7 (Ge.le (Ge.box (Nat.le_refl _)) (Nat.le_refl _))
          have k22 := k16.go hg7 dj2
          have k23 := k17.go hg7 dj3
          have k24 := k18.go hg7 dj6
          have k25 := k20.go hg7 ((Dj.new k7.lt' (Ge.box hl3)).symm)
          refine WJ.nil (WX.then_normal ?_)
          refine WC.chainF (fun k => !(Nat.beq k 6 || Nat.beq k 7 || Nat.beq k 8 || Nat.beq k 11)) (LD [4, 5] (fun w' => Bl w' g1 169 [.slice A_t200 t200.length c_t200, .map (some w.heap.size), .slice none 0 0, .slice none 0 0] ∧ Bl w' g2 94 [.int .i64 ((l.getD t31.toNat (0, [], [], [])).1), .slice A_el (((l.getD t31.toNat (0, [], [], [])).2.1).length) c_el, .slice A_el2 (((l.getD t31.toNat (0, [], [], [])).2.2.1).length) c_el2, vs ((l.getD t31.toNat (0, [], [], [])).2.2.2)])) mixed (by kernel_rfl) (fun k w' h _ => ⟨(bl_eqv h k22), (bl_eqv h k25)⟩) ?_
          refine WJ.y rfl rfl (fun w' hw' => Yld.pure tab_ok rfl) ?_
          refine WJ.y rfl rfl (fun w' hw' => Yld.pure tab_ok rfl) ?_
          refine WJ.y rfl rfl (fun w' hw' => Yld.pure tab_ok rfl) ?_
          refine WJ.y rfl rfl (fun w' hw' => Yld.pure tab_ok rfl) ?_
          refine WJ.y rfl rfl (fun w' hw' => Yld.bload tab_ok (hw' rfl).1 rfl rfl rfl) ?_
          refine WJ.y rfl rfl (fun w' hw' => Yld.bagg (vs := [.int .i64 ((l.getD t31.toNat (0, [], [], [])).1), .slice A_el (((l.getD t31.toNat (0, [], [], [])).2.1).length) c_el, .slice A_el2 (((l.getD t31.toNat (0, [], [], [])).2.2.1).length) c_el2, vs ((l.getD t31.toNat (0, [], [], [])).2.2.2)]) tab_ok (hw' rfl).2 rfl rfl rfl rfl) ?_
          refine WJ.call rfl (wants_none) rfl rfl (W_graph_copied (hR1.grown gr9) rfl (hR2.grown gr9) rfl H) (fun v w' h w2 e => DD.keep (⟨(Bl.g0 k22 (gr_eqv h.1 e)), (Bl.g0 k25 (gr_eqv h.1 e))⟩)) ?_
          rintro _ w10 ⟨hg8, t59_Tool, t59_Args, A_t59_Args, c_t59_Args, t59_Inputs, A_t59_Inputs, c_t59_Inputs, t59_Output, rfl, ht59_Args, ht59_Inputs, dj7, H⟩
          have hb1 := ht59_Args.ge'
          have k26 := ht59_Args.base (fun g hg => Nat.le_trans (size_le gr9) (hb1 g hg))
          have hb2 := ht59_Inputs.ge'
          have k27 := ht59_Inputs.base (fun g hg => Nat.le_trans (size_le gr9) (hb2 g hg))
          have gr10 := gr_trans gr9 hg8
          have k28 := k22.g0 hg8
          have k29 := k23.grown hg8
          have k30 := k24.grown hg8
          have k31 := hB6.g0 hg8
          have k32 := k25.g0 hg8
          refine WJ.putw rfl (wants_none) rfl (Eff.litK (f := encH94) (xs := ([(t59_Tool, ⟨A_t59_Args, t59_Args.length, c_t59_Args⟩, ⟨A_t59_Inputs, t59_Inputs.length, c_t59_Inputs⟩, t59_Output)] : List (Int × Hdr × Hdr × List UInt8))) encH94_ok ow77 rfl rfl rfl) (fun v w' ⟨_, _, h⟩ => DD.keep (⟨(Bl.g0 k28 (gr_eqv h (Eqv.refl _))), (Bl.g0 k32 (gr_eqv h (Eqv.refl _)))⟩)) ?_
          rintro _ w11 ⟨rfl, hB7, hg9⟩
          obtain ⟨g4, hl5⟩ : ∃ g, g = w10.heap.size := ⟨_, rfl⟩
          rw [← hl5] at hB7
          rw [← hl5]
          have hO1 : OwnK 4 encH94 w11 w.heap.size 94 (some ⟨g4, 0, none⟩) 1 ([(t59_Tool, ⟨A_t59_Args, t59_Args.length, c_t59_Args⟩, ⟨A_t59_Inputs, t59_Inputs.length, c_t59_Inputs⟩, t59_Output)] : List (Int × Hdr × Hdr × List UInt8)) := OwnK.ofBl encH94_ok hB7 (Nat.le_trans (size_le gr10) (Nat.le_of_eq hl5.symm)) (by simp [maxLen]) rfl
          have gr11 := gr_trans gr10 hg9
          have k33 := k28.g0 hg9
          have k34 := k29.grown hg9
          have k35 := k30.grown hg9
          have k36 := k31.g0 hg9
          have k37 := k32.g0 hg9
          have k38 := k26.grown hg9
          have k39 := k27.grown hg9
          have hr1 : RelD de94 w11 ([(t59_Tool, ⟨A_t59_Args, t59_Args.length, c_t59_Args⟩, ⟨A_t59_Inputs, t59_Inputs.length, c_t59_Inputs⟩, t59_Output)] : List (Int × Hdr × Hdr × List UInt8)) ([(t59_Tool, t59_Args, t59_Inputs, t59_Output)] : List (Int × List (List UInt8) × List (List UInt8) × List UInt8)) := (RelD.cons ⟨rfl, ⟨rfl, k38.rd⟩, ⟨rfl, k39.rd⟩, rfl⟩ RelD.nil)
          have nd1 : NewD de94 ([(t59_Tool, ⟨A_t59_Args, t59_Args.length, c_t59_Args⟩, ⟨A_t59_Inputs, t59_Inputs.length, c_t59_Inputs⟩, t59_Output)] : List (Int × Hdr × Hdr × List UInt8)) ([(t59_Tool, t59_Args, t59_Inputs, t59_Output)] : List (Int × List (List UInt8) × List (List UInt8) × List UInt8)) w.heap.size := (NewD.cons (d := de94) (fun p_ hp_ => ⟨trivial, (Dn.of (Dj.new hp_ k38.ge').symm), (Dn.of (Dj.new hp_ k39.ge').symm), trivial⟩) NewD.nil)
          have dj8 : DnD de94 ([(t59_Tool, ⟨A_t59_Args, t59_Args.length, c_t59_Args⟩, ⟨A_t59_Inputs, t59_Inputs.length, c_t59_Inputs⟩, t59_Output)] : List (Int × Hdr × Hdr × List UInt8)) ([(t59_Tool, t59_Args, t59_Inputs, t59_Output)] : List (Int × List (List UInt8) × List (List UInt8) × List UInt8)) (some g1) := (DnD.cons (d := de94) ⟨trivial, (Dn.of (Dj.new k22.lt' hb1).symm), (Dn.of (Dj.new k22.lt' hb2).symm), trivial⟩ DnD.nil)
          have dj9 : DnD de94 ([(t59_Tool, ⟨A_t59_Args, t59_Args.length, c_t59_Args⟩, ⟨A_t59_Inputs, t59_Inputs.length, c_t59_Inputs⟩, t59_Output)] : List (Int × Hdr × Hdr × List UInt8)) ([(t59_Tool, t59_Args, t59_Inputs, t59_Output)] : List (Int × List (List UInt8) × List (List UInt8) × List UInt8)) (blk A_t200) := (DnD.cons (d := de94) ⟨trivial, (Dn.of (Dj.new k23.lt' hb1).symm), (Dn.of (Dj.new k23.lt' hb2).symm), trivial⟩ DnD.nil)
          have dj10 : DnD de94 ([(t59_Tool, ⟨A_t59_Args, t59_Args.length, c_t59_Args⟩, ⟨A_t59_Inputs, t59_Inputs.length, c_t59_Inputs⟩, t59_Output)] : List (Int × Hdr × Hdr × List UInt8)) ([(t59_Tool, t59_Args, t59_Inputs, t59_Output)] : List (Int × List (List UInt8) × List (List UInt8) × List UInt8)) (some w.heap.size) := (DnD.cons (d := de94) ⟨trivial, (Dn.of (Dj.new hB6.lt' hb1).symm), (Dn.of (Dj.new hB6.lt' hb2).symm), trivial⟩ DnD.nil)
          have dj11 : DnD de94 ([(t59_Tool, ⟨A_t59_Args, t59_Args.length, c_t59_Args⟩, ⟨A_t59_Inputs, t59_Inputs.length, c_t59_Inputs⟩, t59_Output)] : List (Int × Hdr × Hdr × List UInt8)) ([(t59_Tool, t59_Args, t59_Inputs, t59_Output)] : List (Int × List (List UInt8) × List (List UInt8) × List UInt8)) (some g2) := (DnD.cons (d := de94) ⟨trivial, (Dn.of (Dj.new k25.lt' hb1).symm), (Dn.of (Dj.new k25.lt' hb2).symm), trivial⟩ DnD.nil)
          have dj12 : DnD de94 ([(t59_Tool, ⟨A_t59_Args, t59_Args.length, c_t59_Args⟩, ⟨A_t59_Inputs, t59_Inputs.length, c_t59_Inputs⟩, t59_Output)] : List (Int × Hdr × Hdr × List UInt8)) ([(t59_Tool, t59_Args, t59_Inputs, t59_Output)] : List (Int × List (List UInt8) × List (List UInt8) × List UInt8)) (blk (some ⟨g4, 0, none⟩)) := (DnD.cons (d := de94) ⟨trivial, (Dn.of (Dj.new k26.lt' (Ge.box (Nat.le_of_eq hl5.symm)))), (Dn.of (Dj.new k27.lt' (Ge.box (Nat.le_of_eq hl5.symm)))), trivial⟩ DnD.nil)
          obtain ⟨h3, H⟩ := H
          have h4 : ((hs_t200 : List (Int × Hdr × Hdr × List UInt8)).length + ([(t59_Tool, ⟨A_t59_Args, t59_Args.length, c_t59_Args⟩, ⟨A_t59_Inputs, t59_Inputs.length, c_t59_Inputs⟩, t59_Output)] : List (Int × Hdr × Hdr × List UInt8)).length) * 72 ≤ 140737488355328 := by rw [k35.1, hr1.1]; exact h3
          refine WJ.putw rfl (wants_none) rfl (Eff.appendK ow77 k34 rfl k6.1.symm hO1.rd rfl rfl h4 (applen h4) (size_le gr11)) (fun v w' ⟨_, _, _, _, h, _⟩ => DD.keep (⟨(Bl.go k33 (gr_eqv h (Eqv.refl _)) dj1), (Bl.go k37 (gr_eqv h (Eqv.refl _)) (Dj.new k5.lt' (Ge.box hl3)).symm)⟩)) ?_
          rintro _ w12 ⟨A_t61, c_t61, rfl, hO2, hg10, hk1⟩
          have el1 : (hs_t200 ++ ([(t59_Tool, ⟨A_t59_Args, t59_Args.length, c_t59_Args⟩, ⟨A_t59_Inputs, t59_Inputs.length, c_t59_Inputs⟩, t59_Output)] : List (Int × Hdr × Hdr × List UInt8))).length = (t200 ++ ([(t59_Tool, t59_Args, t59_Inputs, t59_Output)] : List (Int × List (List UInt8) × List (List UInt8) × List UInt8))).length := by rw [List.length_append, List.length_append, k35.1, hr1.1]
          rw [el1]
          have gr12 := gr_mod gr11 hg10 k34.ge'
          have k40 := k33.go hg10 dj1
          have k41 := k35.go hg10 dj5
          have k42 := k36.go hg10 dj3.symm
          have k43 := k37.go hg10 ((Dj.new k5.lt' (Ge.box hl3)).symm)
          have k44 := hr1.go hg10 dj9
          have hr2 : RelD de94 w12 (hs_t200 ++ ([(t59_Tool, ⟨A_t59_Args, t59_Args.length, c_t59_Args⟩, ⟨A_t59_Inputs, t59_Inputs.length, c_t59_Inputs⟩, t59_Output)] : List (Int × Hdr × Hdr × List UInt8))) (t200 ++ ([(t59_Tool, t59_Args, t59_Inputs, t59_Output)] : List (Int × List (List UInt8) × List (List UInt8) × List UInt8))) := RelD.append k41 k44
          have nd2 : NewD de94 (hs_t200 ++ ([(t59_Tool, ⟨A_t59_Args, t59_Args.length, c_t59_Args⟩, ⟨A_t59_Inputs, t59_Inputs.length, c_t59_Inputs⟩, t59_Output)] : List (Int × Hdr × Hdr × List UInt8))) (t200 ++ ([(t59_Tool, t59_Args, t59_Inputs, t59_Output)] : List (Int × List (List UInt8) × List (List UInt8) × List UInt8))) w.heap.size := NewD.append k35.1 or1 nd1
          have dj13 : DnD de94 (hs_t200 ++ ([(t59_Tool, ⟨A_t59_Args, t59_Args.length, c_t59_Args⟩, ⟨A_t59_Inputs, t59_Inputs.length, c_t59_Inputs⟩, t59_Output)] : List (Int × Hdr × Hdr × List UInt8))) (t200 ++ ([(t59_Tool, t59_Args, t59_Inputs, t59_Output)] : List (Int × List (List UInt8) × List (List UInt8) × List UInt8))) (some g1) := (DnD.append k35.1 dj4 dj8)
          have dj14 : DnD de94 (hs_t200 ++ ([(t59_Tool, ⟨A_t59_Args, t59_Args.length, c_t59_Args⟩, ⟨A_t59_Inputs, t59_Inputs.length, c_t59_Inputs⟩, t59_Output)] : List (Int × Hdr × Hdr × List UInt8))) (t200 ++ ([(t59_Tool, t59_Args, t59_Inputs, t59_Output)] : List (Int × List (List UInt8) × List (List UInt8) × List UInt8))) (some w.heap.size) := (DnD.append k35.1 dj6 dj10)
          have dj15 : DnD de94 (hs_t200 ++ ([(t59_Tool, ⟨A_t59_Args, t59_Args.length, c_t59_Args⟩, ⟨A_t59_Inputs, t59_Inputs.length, c_t59_Inputs⟩, t59_Output)] : List (Int × Hdr × Hdr × List UInt8))) (t200 ++ ([(t59_Tool, t59_Args, t59_Inputs, t59_Output)] : List (Int × List (List UInt8) × List (List UInt8) × List UInt8))) (some g2) := (DnD.append k35.1 (k6.new (Ge.box hl3)) dj11)
          have dj16 : DnD de94 (hs_t200 ++ ([(t59_Tool, ⟨A_t59_Args, t59_Args.length, c_t59_Args⟩, ⟨A_t59_Inputs, t59_Inputs.length, c_t59_Inputs⟩, t59_Output)] : List (Int × Hdr × Hdr × List UInt8))) (t200 ++ ([(t59_Tool, t59_Args, t59_Inputs, t59_Output)] : List (Int × List (List UInt8) × List (List UInt8) × List UInt8))) (blk (some ⟨g4, 0, none⟩)) := (DnD.append k35.1 (k30.new (Ge.box (Nat.le_of_eq hl5.symm))) dj12)
          have dj17 : DnD de94 (hs_t200 ++ ([(t59_Tool, ⟨A_t59_Args, t59_Args.length, c_t59_Args⟩, ⟨A_t59_Inputs, t59_Inputs.length, c_t59_Inputs⟩, t59_Output)] : List (Int × Hdr × Hdr × List UInt8))) (t200 ++ ([(t59_Tool, t59_Args, t59_Inputs, t59_Output)] : List (Int × List (List UInt8) × List (List UInt8) × List UInt8))) (blk A_t61) := (DnD.append k35.1 (RelD.app k35 dj5 hk1) (RelD.app hr1 dj9 hk1))
          refine WJ.y rfl rfl (fun w' hw' => Yld.pure tab_ok rfl) ?_
          refine WJ.y rfl rfl (fun w' hw' => Yld.pure tab_ok rfl) ?_
          refine WJ.eff rfl (Ef0.store1 one77 rfl rfl rfl k40 (by simp)) (fun w' h => DD.past (by kernel_rfl)) ?_
          rintro w13 ⟨hB9, hg11⟩
          have hB8 : Bl w13 g1 169 [.slice A_t61 ((t200 ++ ([(t59_Tool, t59_Args, t59_Inputs, t59_Output)] : List (Int × List (List UInt8) × List (List UInt8) × List UInt8))).length) c_t61, .map (some w.heap.size), .slice none 0 0, .slice none 0 0] := hB9
          have gr13 := gr_mod gr12 hg11 (Ge.le (Ge.box hl2) (size_le gr1))
          have k45 := k42.go hg11 dj2.symm
          have k46 := k43.go hg11 ((Dj.new k4.lt' (Ge.box hl3)).symm)
          have k47 := hO2.go hg11 (Dj.app dj1.symm k33.lt' hk1)
          have k48 := hr2.go hg11 dj13
          refine WJ.nil (WX.block_normal (WX.then_normal ?_))
          refine WC.region ?_
          obtain ⟨h5, H⟩ := H
          refine WL.y rfl (Yld.add rfl rfl h5) ?_
          refine WL.y rfl (Yld.pure tab_ok rfl) ?_
          refine WL.nil ?_
          exact WX.roundF _ ⟨t31 + (1 : Int), t200 ++ ([(t59_Tool, t59_Args, t59_Inputs, t59_Output)] : List (Int × List (List UInt8) × List (List UInt8) × List UInt8)), A_t61, c_t61, (t200 ++ ([(t59_Tool, t59_Args, t59_Inputs, t59_Output)] : List (Int × List (List UInt8) × List (List UInt8) × List UInt8))).length, hs_t200 ++ ([(t59_Tool, ⟨A_t59_Args, t59_Args.length, c_t59_Args⟩, ⟨A_t59_Inputs, t59_Inputs.length, c_t59_Inputs⟩, t59_Output)] : List (Int × Hdr × Hdr × List UInt8)), mput t201 ((l.getD t31.toNat (0, [], [], [])).2.2.2) t31, rfl, rfl, H.1, rfl, gr13, hB8, k47, k48, k45, (Dj.app dj1.symm k33.lt' hk1).symm, dj2, (Dj.app dj3 k36.lt' hk1), dj13, dj17, dj14, nd2⟩ (by repeat (first | exact Sub.nil | refine Sub.cons rfl ?_)) H.2
      · replace H := H.2 (of_decide_eq_false b2)
        refine WC.exit (WX.then_exit (WX.then_exit (WX.block_same (WX.then_normal ?_))))
        refine WC.seq ?_
        refine WC.region ?_
        refine WL.y rfl (Yld.pure tab_ok rfl) ?_
        refine WL.y rfl (Yld.pure tab_ok rfl) ?_
        refine WL.y rfl (Yld.pure tab_ok rfl) ?_
        obtain ⟨h6, H⟩ := H
        refine WL.makeZI (f := hv) (z := (([], hz) : List Int × Hd)) (B := w.heap.size) tab_ok rfl rfl zero98 rfl rfl h6.1 h6.2.1 h6.2.2 (size_le gr4) (fun g5 w14 hO3 hg12 hl6 => ?_)
        have gr14 := gr_trans gr4 hg12
        have k49 := k4.g0 hg12
        have k50 := k5.grown hg12
        have k51 := k6.grown hg12
        have k52 := k7.g0 hg12
        have k53 : DeepO vi w14 w.heap.size 98 3 (some ⟨g5, 0, none⟩) ((l.length : Int).toNat) (List.replicate (l.length : Int).toNat hz) (List.replicate (l.length : Int).toNat ([] : List Int)) none := DeepO.rep hO3
        have dj18 : AllP (Dj (some g1)) (FPd (some ⟨g5, 0, none⟩) (List.replicate (l.length : Int).toNat hz) none) := FPd.rep (Q := Dj (some g1)) (Dj.new k4.lt' (Ge.box hl6)) (Dj.nr)
        have dj19 : AllP (Dj (blk A_t200)) (FPd (some ⟨g5, 0, none⟩) (List.replicate (l.length : Int).toNat hz) none) := FPd.rep (Q := Dj (blk A_t200)) (Dj.new k5.lt' (Ge.box hl6)) (Dj.nr)
        have dj20 : AllP (Dj (some w.heap.size)) (FPd (some ⟨g5, 0, none⟩) (List.replicate (l.length : Int).toNat hz) none) := FPd.rep (Q := Dj (some w.heap.size)) (Dj.new k7.lt' (Ge.box hl6)) (Dj.nr)
        have dj21 : AllP (DnD de94 hs_t200 t200) (FPd (some ⟨g5, 0, none⟩) (List.replicate (l.length : Int).toNat hz) none) := FPd.rep (Q := DnD de94 hs_t200 t200) (k6.new (Ge.box hl6)) (DnD.none k51)
        refine WL.y rfl (Yld.pure tab_ok rfl) ?_
        refine WL.y rfl (Yld.pure tab_ok rfl) ?_
        refine WL.store1 one167 rfl rfl rfl k49 (by simp) (fun w15 hB11 hg13 => ?_)
        have hB10 : Bl w15 g1 169 [.slice A_t200 t200.length c_t200, .map (some w.heap.size), .slice none 0 0, .slice (some ⟨g5, 0, none⟩) ((l.length : Int).toNat) ((l.length : Int).toNat)] := hB11
        have gr15 := gr_mod gr14 hg13 (Ge.le (Ge.box hl2) (size_le gr1))
        have k54 := k50.go hg13 dj1.symm
        have k55 := k51.go hg13 dj4
        have k56 := k52.go hg13 dj2.symm
        have k57 := k53.go hg13 dj18
        refine WL.nil (WX.then_normal ?_)
        refine WC.seq ?_
        refine WC.seq ?_
        refine WC.region ?_
        refine WL.y rfl (Yld.pure tab_ok rfl) ?_
        refine WL.y rfl (Yld.pure tab_ok rfl) ?_
        refine WL.y rfl (Yld.pure tab_ok rfl) ?_
        refine WL.y rfl (Yld.bload tab_ok hB10 rfl rfl rfl) ?_
        refine WL.y rfl (Yld.pure tab_ok rfl) ?_
        refine WL.y rfl (Yld.pure tab_ok rfl) ?_
        refine WL.nil (WX.then_normal ?_)
        refine WC.block ?_
        obtain ⟨I2, mu2, h0_2, HR2⟩ := H
        refine WC.loopF (fun n' L' w' => ∃ (t76 : Int), ∃ (t202 : List (List Int)), ∃ (A_t202 : Option Addr), ∃ (c_t202 : Nat), ∃ (n_t202 : Nat), ∃ (hs_t202 : List Hdr), ∃ (t203 : List (List Int)), ∃ (hs_t203 : List Hd), ∃ (n_t203 : Nat), n' = mu2 t76 t202 t203 ∧ L' = [(4, .pointer (some ⟨g1, 0, none⟩)), (74, .slice A_t200 t200.length c_t200), (75, .int .i64 (t200.length : Int)), (76, .int .i64 t76)] ∧ I2 t76 t202 t203 ∧ n_t202 = t202.length ∧ n_t203 = t203.length ∧ w.grownBy w' none ∧ Bl w' g1 169 [.slice A_t200 t200.length c_t200, .map (some w.heap.size), .slice A_t202 n_t202 c_t202, .slice (some ⟨g5, 0, none⟩) n_t203 ((l.length : Int).toNat)] ∧ OwnK 4 encH94 w' w.heap.size 94 A_t200 c_t200 hs_t200 ∧ RelD de94 w' hs_t200 t200 ∧ MapB vs okS vi w' w.heap.size t201 ∧ Own vh w' w.heap.size 98 A_t202 c_t202 hs_t202 ∧ RelD de98 w' hs_t202 t202 ∧ DeepO vi w' w.heap.size 98 3 (some ⟨g5, 0, none⟩) ((l.length : Int).toNat) hs_t203 t203 none ∧ Dj (some g1) (blk A_t200) ∧ Dj (some g1) (some w.heap.size) ∧ Dj (some g1) (blk A_t202) ∧ AllP (Dj (some g1)) (FPd (some ⟨g5, 0, none⟩) hs_t203 none) ∧ Dj (blk A_t200) (some w.heap.size) ∧ Dj (blk A_t200) (blk A_t202) ∧ AllP (Dj (blk A_t200)) (FPd (some ⟨g5, 0, none⟩) hs_t203 none) ∧ DnD de94 hs_t200 t200 (some g1) ∧ DnD de94 hs_t200 t200 (blk A_t200) ∧ DnD de94 hs_t200 t200 (some w.heap.size) ∧ DnD de94 hs_t200 t200 (blk A_t202) ∧ AllP (DnD de94 hs_t200 t200) (FPd (some ⟨g5, 0, none⟩) hs_t203 none) ∧ Dj (some w.heap.size) (blk A_t202) ∧ AllP (Dj (some w.heap.size)) (FPd (some ⟨g5, 0, none⟩) hs_t203 none) ∧ AllP (Dj (blk A_t202)) (FPd (some ⟨g5, 0, none⟩) hs_t203 none) ∧ DnD de98 hs_t202 t202 (some g1) ∧ DnD de98 hs_t202 t202 (blk A_t200) ∧ DnD de98 hs_t202 t202 (some w.heap.size) ∧ DnD de98 hs_t202 t202 (blk A_t202) ∧ AllP (DnD de98 hs_t202 t202) (FPd (some ⟨g5, 0, none⟩) hs_t203 none) ∧ NewD de94 hs_t200 t200 w.heap.size ∧ NewD de98 hs_t202 t202 w.heap.size ∧ AllP (fun p => Ge p w.heap.size) (FPd (some ⟨g5, 0, none⟩) hs_t203 none)) _ _ ⟨(0 : Int), [], none, 0, 0, [], (List.replicate (l.length : Int).toNat ([] : List Int)), (List.replicate (l.length : Int).toNat hz), (l.length : Int).toNat, rfl, rfl, h0_2, rfl, (List.length_replicate).symm, gr15, hB10, k54, k55, k56, (Own.nil vh w15 w.heap.size 98), (RelD.nil (d := de98) (w := w15)), k57, dj1, dj2, Dj.nr, dj18, dj3, Dj.nr, dj19, dj4, dj5, dj6, (DnD.none k55), dj21, Dj.nr, dj20, apNl, DnD.nil, DnD.nil, DnD.nil, DnD.nil, (fun _ _ => DnD.nil), or1, (NewD.nil (d := de98)), (k57.ge')⟩ (by repeat (first | exact Sub.nil | refine Sub.cons rfl ?_)) ?_
        clear h0_2
        rintro _ _ w16 ⟨t76, t202, A_t202, c_t202, n_t202, hs_t202, t203, hs_t203, n_t203, rfl, rfl, hI2, rfl, rfl, gr16, k58, k59, k60, k61, k62, k63, k64, dj22, dj23, dj24, dj25, dj26, dj27, dj28, dj29, dj30, dj31, dj32, dj33, dj34, dj35, dj36, dj37, dj38, dj39, dj40, dj41, or2, or3, hi1⟩
        have H := HR2 t76 t202 t203 hI2
        refine WC.seq ?_
        refine WC.region ?_
        refine WL.y rfl (Yld.pure tab_ok rfl) ?_
        refine WL.nil (WX.then_normal ?_)
        refine WC.seq ?_
        refine WC.cond rfl (fun b4 => ?_) (fun b4 => ?_)
        · replace H := H.1 (of_decide_eq_true b4)
          refine WC.skip (WX.then_normal ?_)
          refine WC.seq ?_
          refine WC.block ?_
          refine WC.seq ?_
          refine WC.region ?_
          refine WL.y rfl (Yld.pure tab_ok rfl) ?_
          obtain ⟨h7, H⟩ := H
          refine WL.y rfl (Yld.iaddrK tab_ok k59.rd rfl rfl k6.1.symm rfl h7.1 h7.2) ?_
          obtain ⟨⟨f3, ⟨A_el3, n3, c_el3⟩, ⟨A_el4, n4, c_el4⟩, f4⟩, eh2, ⟨en5, ⟨en6, hR3⟩, ⟨en7, hR4⟩, en8⟩⟩ := RelD.at k60 (0, hd0, hd0, []) (0, [], [], []) (j := t76.toNat) (Nat.lt_of_lt_of_eq (iltN h7 k6.1.symm) k60.1)
          have en5 : f3 = (t200.getD t76.toNat (0, [], [], [])).1 := en5
          subst en5
          have en6 : n3 = ((t200.getD t76.toNat (0, [], [], [])).2.1).length := en6
          subst en6
          have en7 : n4 = ((t200.getD t76.toNat (0, [], [], [])).2.2.1).length := en7
          subst en7
          have en8 : f4 = (t200.getD t76.toNat (0, [], [], [])).2.2.2 := en8
          subst en8
          refine WL.y rfl (Yld.to (v := .agg ⟨[.int .i64 ((t200.getD t76.toNat (0, [], [], [])).1), .slice A_el3 (((t200.getD t76.toNat (0, [], [], [])).2.1).length) c_el3, .slice A_el4 (((t200.getD t76.toNat (0, [], [], [])).2.2.1).length) c_el4, vs ((t200.getD t76.toNat (0, [], [], [])).2.2.2)]⟩) (Yld.iloadK (0, hd0, hd0, []) tab_ok k59.rd rfl rfl (iltN h7 k6.1.symm)) (by rw [eh2]; rfl)) ?_
          refine WL.alloc rfl zero94 (fun g6 w17 hB12 hg14 hl7 => ?_)
          have gr17 := gr_trans gr16 hg14
          have k65 := k58.g0 hg14
          have k66 := k59.grown hg14
          have k67 := k60.grown hg14
          have k68 := k61.g0 hg14
          have k69 := k62.grown hg14
          have k70 := k63.grown hg14
          have k71 := k64.g0 hg14
          have k72 := hR3.grown hg14
          have k73 := hR4.grown hg14
          refine WL.y rfl (Yld.pure tab_ok rfl) ?_
          refine WL.storeW (vs := [.int .i64 ((t200.getD t76.toNat (0, [], [], [])).1), .slice A_el3 (((t200.getD t76.toNat (0, [], [], [])).2.1).length) c_el3, .slice A_el4 (((t200.getD t76.toNat (0, [], [], [])).2.2.1).length) c_el4, vs ((t200.getD t76.toNat (0, [], [], [])).2.2.2)]) tab_ok rfl rfl rfl (all1c rfl (all1c rfl (all1c rfl (all1c rfl all1n)))) hB12 rfl rfl (fun w18 hB13 hg15 => ?_)
          have gr18 := gr_mod gr17 hg15 (Ge.le (Ge.box hl7) (size_le gr16))
          have k74 := k65.go hg15 (Dj.new k58.lt' (Ge.box hl7))
          have k75 := k66.go hg15 (Dj.new k59.lt' (Ge.box hl7))
          have k76 := k67.go hg15 (k60.new (Ge.box hl7))
          have k77 := k68.go hg15 (Dj.new k61.lt' (Ge.box hl7))
          have k78 := k69.go hg15 (Dj.new k62.lt' (Ge.box hl7))
          have k79 := k70.go hg15 (k63.new (Ge.box hl7))
          have k80 := k71.go hg15 (k64.new (Ge.box hl7))
          have k81 := k72.go hg15 (Dn.new (fun hx => hR3.lt' hx) (Ge.box hl7))
          have k82 := k73.go hg15 (Dn.new (fun hx => hR4.lt' hx) (Ge.box hl7))
          refine WL.nil (WX.then_normal ?_)
          refine WC.seq ?_
          refine WC.region ?_
          refine WL.y rfl (Yld.pure tab_ok rfl) ?_
          refine WL.nil (WX.then_normal ?_)
          refine WC.seq ?_
          refine WC.seq ?_
          refine WC.region ?_
          refine WL.y rfl (Yld.pure tab_ok rfl) ?_
          refine WL.y rfl (Yld.bload tab_ok hB13 rfl rfl rfl) ?_
          refine WL.y rfl (Yld.pure tab_ok rfl) ?_
          refine WL.y rfl (Yld.pure tab_ok rfl) ?_
          refine WL.nil (WX.then_normal ?_)
          refine WC.block ?_
          obtain ⟨I3, mu3, h0_3, HR3⟩ := H
          refine WC.loopF (fun n' L' w' => ∃ (before : List Int), ∃ (A_before : Option Addr), ∃ (c_before : Nat), ∃ (n_before : Nat), ∃ (t84 : Int), n' = mu3 before t84 ∧ L' = [(4, .pointer (some ⟨g1, 0, none⟩)), (8, .int .i64 t76), (10, .slice A_before n_before c_before), (74, .slice A_t200 t200.length c_t200), (75, .int .i64 (t200.length : Int)), (76, .int .i64 t76), (82, .slice A_el4 (((t200.getD t76.toNat (0, [], [], [])).2.2.1).length) c_el4), (83, .int .i64 (((t200.getD t76.toNat (0, [], [], [])).2.2.1).length : Int)), (84, .int .i64 t84)] ∧ I3 before t84 ∧ n_before = before.length ∧ w.grownBy w' none ∧ Bl w' g1 169 [.slice A_t200 t200.length c_t200, .map (some w.heap.size), .slice A_t202 t202.length c_t202, .slice (some ⟨g5, 0, none⟩) t203.length ((l.length : Int).toNat)] ∧ OwnK 4 encH94 w' w.heap.size 94 A_t200 c_t200 hs_t200 ∧ RelD de94 w' hs_t200 t200 ∧ MapB vs okS vi w' w.heap.size t201 ∧ Own vh w' w.heap.size 98 A_t202 c_t202 hs_t202 ∧ RelD de98 w' hs_t202 t202 ∧ DeepO vi w' w.heap.size 98 3 (some ⟨g5, 0, none⟩) ((l.length : Int).toNat) hs_t203 t203 none ∧ Rd vs w' A_el4 c_el4 ((t200.getD t76.toNat (0, [], [], [])).2.2.1) ∧ Own vi w' w.heap.size 3 A_before c_before before ∧ Dj (some g1) (blk A_t200) ∧ Dj (some g1) (some w.heap.size) ∧ Dj (some g1) (blk A_t202) ∧ AllP (Dj (some g1)) (FPd (some ⟨g5, 0, none⟩) hs_t203 none) ∧ Dj (some g1) (blk A_before) ∧ Dj (blk A_t200) (some w.heap.size) ∧ Dj (blk A_t200) (blk A_t202) ∧ AllP (Dj (blk A_t200)) (FPd (some ⟨g5, 0, none⟩) hs_t203 none) ∧ Dj (blk A_t200) (blk A_before) ∧ DnD de94 hs_t200 t200 (some g1) ∧ DnD de94 hs_t200 t200 (blk A_t200) ∧ DnD de94 hs_t200 t200 (some w.heap.size) ∧ DnD de94 hs_t200 t200 (blk A_t202) ∧ AllP (DnD de94 hs_t200 t200) (FPd (some ⟨g5, 0, none⟩) hs_t203 none) ∧ DnD de94 hs_t200 t200 (blk A_before) ∧ Dj (some w.heap.size) (blk A_t202) ∧ AllP (Dj (some w.heap.size)) (FPd (some ⟨g5, 0, none⟩) hs_t203 none) ∧ Dj (some w.heap.size) (blk A_before) ∧ AllP (Dj (blk A_t202)) (FPd (some ⟨g5, 0, none⟩) hs_t203 none) ∧ Dj (blk A_t202) (blk A_before) ∧ DnD de98 hs_t202 t202 (some g1) ∧ DnD de98 hs_t202 t202 (blk A_t200) ∧ DnD de98 hs_t202 t202 (some w.heap.size) ∧ DnD de98 hs_t202 t202 (blk A_t202) ∧ AllP (DnD de98 hs_t202 t202) (FPd (some ⟨g5, 0, none⟩) hs_t203 none) ∧ DnD de98 hs_t202 t202 (blk A_before) ∧ AllP (Dj (blk A_before)) (FPd (some ⟨g5, 0, none⟩) hs_t203 none) ∧ Dn ((t200.getD t76.toNat (0, [], [], [])).2.2.1) (blk A_el4) (some g1) ∧ Dn ((t200.getD t76.toNat (0, [], [], [])).2.2.1) (blk A_el4) (blk A_t200) ∧ Dn ((t200.getD t76.toNat (0, [], [], [])).2.2.1) (blk A_el4) (some w.heap.size) ∧ Dn ((t200.getD t76.toNat (0, [], [], [])).2.2.1) (blk A_el4) (blk A_t202) ∧ AllP (Dn ((t200.getD t76.toNat (0, [], [], [])).2.2.1) (blk A_el4)) (FPd (some ⟨g5, 0, none⟩) hs_t203 none) ∧ Dn ((t200.getD t76.toNat (0, [], [], [])).2.2.1) (blk A_el4) (blk A_before) ∧ NewD de94 hs_t200 t200 w.heap.size ∧ NewD de98 hs_t202 t202 w.heap.size ∧ AllP (fun p => Ge p w.heap.size) (FPd (some ⟨g5, 0, none⟩) hs_t203 none)) _ _ ⟨[], none, 0, 0, (0 : Int), rfl, rfl, h0_3, rfl, gr18, k74, k75, k76, k77, k78, k79, k80, k82, (Own.nil vi w18 w.heap.size 3), dj22, dj23, dj24, dj25, Dj.nr, dj26, dj27, dj28, Dj.nr, dj29, dj30, dj31, dj32, dj33, (DnD.none k76), dj34, dj35, Dj.nr, dj36, Dj.nr, dj37, dj38, dj39, dj40, dj41, (DnD.none k79), apNl, (DnD.at dj29 k60.1 (Nat.lt_of_lt_of_eq (iltN h7 k6.1.symm) k60.1) eh2).2.2.1, (DnD.at dj30 k60.1 (Nat.lt_of_lt_of_eq (iltN h7 k6.1.symm) k60.1) eh2).2.2.1, (DnD.at dj31 k60.1 (Nat.lt_of_lt_of_eq (iltN h7 k6.1.symm) k60.1) eh2).2.2.1, (DnD.at dj32 k60.1 (Nat.lt_of_lt_of_eq (iltN h7 k6.1.symm) k60.1) eh2).2.2.1, (fun p_ hp_ => (DnD.at (dj33 p_ hp_) k60.1 (Nat.lt_of_lt_of_eq (iltN h7 k6.1.symm) k60.1) eh2).2.2.1), Dn.nr, or2, or3, (k80.ge')⟩ (by repeat (first | exact Sub.nil | refine Sub.cons rfl ?_)) ?_
          clear h0_3
          rintro _ _ w19 ⟨before, A_before, c_before, n_before, t84, rfl, rfl, hI3, rfl, gr19, k83, k84, k85, k86, k87, k88, k89, k90, k91, dj42, dj43, dj44, dj45, dj46, dj47, dj48, dj49, dj50, dj51, dj52, dj53, dj54, dj55, dj56, dj57, dj58, dj59, dj60, dj61, dj62, dj63, dj64, dj65, dj66, dj67, dj68, dj69, dj70, dj71, dj72, dj73, dj74, or4, or5, hi2⟩
          have H := HR3 before t84 hI3
          refine WC.seq ?_
          refine WC.region ?_
          refine WL.y rfl (Yld.pure tab_ok rfl) ?_
          refine WL.nil (WX.then_normal ?_)
          refine WC.seq ?_
          refine WC.cond rfl (fun b5 => ?_) (fun b5 => ?_)
          · replace H := H.1 (of_decide_eq_true b5)
            refine WC.skip (WX.then_normal ?_)
            refine WC.seq ?_
            obtain ⟨J2, H, hJ2⟩ := H
            refine WC.midF (fun L' w' => ∃ (before2 : List Int), ∃ (A_before2 : Option Addr), ∃ (c_before2 : Nat), ∃ (n_before2 : Nat), L' = [(4, .pointer (some ⟨g1, 0, none⟩)), (8, .int .i64 t76), (10, .slice A_before2 n_before2 c_before2), (74, .slice A_t200 t200.length c_t200), (75, .int .i64 (t200.length : Int)), (76, .int .i64 t76), (82, .slice A_el4 (((t200.getD t76.toNat (0, [], [], [])).2.2.1).length) c_el4), (83, .int .i64 (((t200.getD t76.toNat (0, [], [], [])).2.2.1).length : Int)), (84, .int .i64 t84)] ∧ J2 before2 ∧ n_before2 = before2.length ∧ w.grownBy w' none ∧ Bl w' g1 169 [.slice A_t200 t200.length c_t200, .map (some w.heap.size), .slice A_t202 t202.length c_t202, .slice (some ⟨g5, 0, none⟩) t203.length ((l.length : Int).toNat)] ∧ OwnK 4 encH94 w' w.heap.size 94 A_t200 c_t200 hs_t200 ∧ RelD de94 w' hs_t200 t200 ∧ MapB vs okS vi w' w.heap.size t201 ∧ Own vh w' w.heap.size 98 A_t202 c_t202 hs_t202 ∧ RelD de98 w' hs_t202 t202 ∧ DeepO vi w' w.heap.size 98 3 (some ⟨g5, 0, none⟩) ((l.length : Int).toNat) hs_t203 t203 none ∧ Rd vs w' A_el4 c_el4 ((t200.getD t76.toNat (0, [], [], [])).2.2.1) ∧ Own vi w' w.heap.size 3 A_before2 c_before2 before2 ∧ Dj (some g1) (blk A_t200) ∧ Dj (some g1) (some w.heap.size) ∧ Dj (some g1) (blk A_t202) ∧ AllP (Dj (some g1)) (FPd (some ⟨g5, 0, none⟩) hs_t203 none) ∧ Dj (some g1) (blk A_before2) ∧ Dj (blk A_t200) (some w.heap.size) ∧ Dj (blk A_t200) (blk A_t202) ∧ AllP (Dj (blk A_t200)) (FPd (some ⟨g5, 0, none⟩) hs_t203 none) ∧ Dj (blk A_t200) (blk A_before2) ∧ DnD de94 hs_t200 t200 (some g1) ∧ DnD de94 hs_t200 t200 (blk A_t200) ∧ DnD de94 hs_t200 t200 (some w.heap.size) ∧ DnD de94 hs_t200 t200 (blk A_t202) ∧ AllP (DnD de94 hs_t200 t200) (FPd (some ⟨g5, 0, none⟩) hs_t203 none) ∧ DnD de94 hs_t200 t200 (blk A_before2) ∧ Dj (some w.heap.size) (blk A_t202) ∧ AllP (Dj (some w.heap.size)) (FPd (some ⟨g5, 0, none⟩) hs_t203 none) ∧ Dj (some w.heap.size) (blk A_before2) ∧ AllP (Dj (blk A_t202)) (FPd (some ⟨g5, 0, none⟩) hs_t203 none) ∧ Dj (blk A_t202) (blk A_before2) ∧ DnD de98 hs_t202 t202 (some g1) ∧ DnD de98 hs_t202 t202 (blk A_t200) ∧ DnD de98 hs_t202 t202 (some w.heap.size) ∧ DnD de98 hs_t202 t202 (blk A_t202) ∧ AllP (DnD de98 hs_t202 t202) (FPd (some ⟨g5, 0, none⟩) hs_t203 none) ∧ DnD de98 hs_t202 t202 (blk A_before2) ∧ AllP (Dj (blk A_before2)) (FPd (some ⟨g5, 0, none⟩) hs_t203 none) ∧ Dn ((t200.getD t76.toNat (0, [], [], [])).2.2.1) (blk A_el4) (some g1) ∧ Dn ((t200.getD t76.toNat (0, [], [], [])).2.2.1) (blk A_el4) (blk A_t200) ∧ Dn ((t200.getD t76.toNat (0, [], [], [])).2.2.1) (blk A_el4) (some w.heap.size) ∧ Dn ((t200.getD t76.toNat (0, [], [], [])).2.2.1) (blk A_el4) (blk A_t202) ∧ AllP (Dn ((t200.getD t76.toNat (0, [], [], [])).2.2.1) (blk A_el4)) (FPd (some ⟨g5, 0, none⟩) hs_t203 none) ∧ Dn ((t200.getD t76.toNat (0, [], [], [])).2.2.1) (blk A_el4) (blk A_before2) ∧ NewD de94 hs_t200 t200 w.heap.size ∧ NewD de98 hs_t202 t202 w.heap.size ∧ AllP (fun p => Ge p w.heap.size) (FPd (some ⟨g5, 0, none⟩) hs_t203 none)) ?_ (fun hQ => ?_)
            · clear H
              rintro _ w20 ⟨before2, A_before2, c_before2, n_before2, rfl, H, rfl, gr20, k92, k93, k94, k95, k96, k97, k98, k99, k100, dj75, dj76, dj77, dj78, dj79, dj80, dj81, dj82, dj83, dj84, dj85, dj86, dj87, dj88, dj89, dj90, dj91, dj92, dj93, dj94, dj95, dj96, dj97, dj98, dj99, dj100, dj101, dj102, dj103, dj104, dj105, dj106, dj107, or6, or7, hi3⟩
              replace H := hJ2 before2 H
              refine WX.then_normal ?_
              refine WC.region ?_
              obtain ⟨h8, H⟩ := H
              refine WL.y rfl (Yld.add rfl rfl h8) ?_
              refine WL.y rfl (Yld.pure tab_ok rfl) ?_
              refine WL.nil ?_
              exact WX.roundF _ ⟨before2, A_before2, c_before2, before2.length, t84 + (1 : Int), rfl, rfl, H.1, rfl, gr20, k92, k93, k94, k95, k96, k97, k98, k99, k100, dj75, dj76, dj77, dj78, dj79, dj80, dj81, dj82, dj83, dj84, dj85, dj86, dj87, dj88, dj89, dj90, dj91, dj92, dj93, dj94, dj95, dj96, dj97, dj98, dj99, dj100, dj101, dj102, dj103, dj104, dj105, dj106, dj107, or6, or7, (k98.ge')⟩ (by repeat (first | exact Sub.nil | refine Sub.cons rfl ?_)) H.2
            · clear hJ2
              refine WC.block ?_
              refine WC.seq ?_
              refine WC.region ?_
              obtain ⟨h9, H⟩ := H
              refine WL.y rfl (Yld.iaddrW tab_ok k90 rfl rfl rfl rfl h9.1 h9.2) ?_
              refine WL.y rfl (Yld.iload [] tab_ok k90 rfl rfl (iltN h9 rfl)) ?_
              refine WL.y rfl (Yld.pure tab_ok rfl) ?_
              refine WL.nil (WX.then_normal ?_)
              refine WC.seq ?_
              refine WC.region ?_
              refine WL.y rfl (Yld.pure tab_ok rfl) ?_
              refine WL.y rfl (Yld.pure tab_ok rfl) ?_
              refine WL.y rfl (Yld.pure tab_ok rfl) ?_
              refine WL.y rfl (Yld.bload tab_ok k83 rfl rfl rfl) ?_
              refine WL.y rfl (Yld.pure tab_ok rfl) ?_
              obtain ⟨h10, H⟩ := H
              refine WL.y rfl (Yld.lookOk (z := 0) (keyF_s Tryz.underlying9) Tryz.underlying166 (fun _ => by kernel_rfl) k86 rfl rfl h10) ?_
              refine WL.y rfl (Yld.pure tab_ok rfl) ?_
              refine WL.y rfl (Yld.pure tab_ok rfl) ?_
              refine WL.y rfl (Yld.pure tab_ok rfl) ?_
              refine WL.y rfl (Yld.pure tab_ok rfl) ?_
              refine WL.y rfl (Yld.pure tab_ok rfl) ?_
              refine WL.nil (WX.then_normal ?_)
              refine WC.seq ?_
              refine WC.region ?_
              refine WL.y rfl (Yld.pure tab_ok rfl) ?_
              refine WL.nil (WX.then_normal ?_)
              refine WC.cond rfl (fun b6 => ?_) (fun b6 => ?_)
              · replace H := H.1 (b6)
                refine WC.region ?_
                refine WL.y rfl (Yld.pure tab_ok rfl) ?_
                refine WL.y rfl (Yld.pure tab_ok rfl) ?_
                refine WL.lit tab_ok rfl rfl rfl (all1c rfl all1n) rfl (by omega) (fun g7 w21 hB14 hg16 hl8 => ?_)
                have hO4 : Own vi w21 w.heap.size 3 (some ⟨g7, 0, none⟩) 1 ([(mget t201 (((t200.getD t76.toNat (0, [], [], [])).2.2.1).getD t84.toNat [])).getD 0] : List Int) := Own.ofBl hB14 (Nat.le_trans (size_le gr19) hl8) (by simp [maxLen]) rfl
                have gr21 := gr_trans gr19 hg16
                have k101 := k83.g0 hg16
                have k102 := k84.grown hg16
                have k103 := k85.grown hg16
                have k104 := k86.g0 hg16
                have k105 := k87.grown hg16
                have k106 := k88.grown hg16
                have k107 := k89.g0 hg16
                have k108 := k90.grown hg16
                have k109 := k91.grown hg16
                obtain ⟨h11, H⟩ := H
                refine WL.append tab_ok rfl rfl One.i k109 rfl rfl hO4.rd rfl rfl h11 (applen h11) (size_le gr21) (fun A_before3 c_before3 w22 hO5 hg17 hk2 => ?_)
                have gr22 := gr_mod gr21 hg17 k109.ge'
                have k110 := k101.go hg17 dj46
                have k111 := k102.go hg17 dj50
                have k112 := k103.go hg17 dj56
                have k113 := k104.go hg17 dj59
                have k114 := k105.go hg17 dj61
                have k115 := k106.go hg17 dj67
                have k116 := k107.go hg17 dj68
                have k117 := k108.go hg17 dj74
                refine WL.y rfl (Yld.pure tab_ok rfl) ?_
                refine WL.nil (WX.block_normal ?_)
                exact WX.weaken (by repeat (first | exact Sub.nil | refine Sub.cons rfl ?_)) (hQ _ _ ⟨before ++ ([(mget t201 (((t200.getD t76.toNat (0, [], [], [])).2.2.1).getD t84.toNat [])).getD 0] : List Int), A_before3, c_before3, (before ++ ([(mget t201 (((t200.getD t76.toNat (0, [], [], [])).2.2.1).getD t84.toNat [])).getD 0] : List Int)).length, rfl, H, rfl, gr22, k110, k111, k112, k113, k114, k115, k116, k117, hO5, dj42, dj43, dj44, dj45, (Dj.app dj46.symm k101.lt' hk2).symm, dj47, dj48, dj49, (Dj.app dj50.symm k102.lt' hk2).symm, dj51, dj52, dj53, dj54, dj55, (RelD.app k103 dj56 hk2), dj57, dj58, (Dj.app dj59.symm k104.lt' hk2).symm, dj60, (Dj.app dj61.symm k105.lt' hk2).symm, dj62, dj63, dj64, dj65, dj66, (RelD.app k106 dj67 hk2), (DeepO.app k107 dj68 hk2), dj69, dj70, dj71, dj72, dj73, (Dn.app dj74 (fun hx => k108.lt' hx) hk2), or4, or5, (k116.ge')⟩)
              · replace H := H.2 (b6)
                refine WC.skip (WX.block_normal ?_)
                exact WX.weaken (by repeat (first | exact Sub.nil | refine Sub.cons rfl ?_)) (hQ _ _ ⟨before, A_before, c_before, before.length, rfl, H, rfl, gr19, k83, k84, k85, k86, k87, k88, k89, k90, k91, dj42, dj43, dj44, dj45, dj46, dj47, dj48, dj49, dj50, dj51, dj52, dj53, dj54, dj55, dj56, dj57, dj58, dj59, dj60, dj61, dj62, dj63, dj64, dj65, dj66, dj67, dj68, dj69, dj70, dj71, dj72, dj73, dj74, or4, or5, (k89.ge')⟩)
          · replace H := H.2 (of_decide_eq_false b5)
            refine WC.exit (WX.then_exit (WX.then_exit (WX.block_same (WX.then_normal ?_))))
            refine WC.seq ?_
            refine WC.region ?_
            refine WL.y rfl (Yld.pure tab_ok rfl) ?_
            refine WL.call rfl rfl (W_slices_Sort_int_int k91 rfl H) ?_
            rintro _ w23 ⟨ys, rfl, hO6, hg18, hl9, H⟩
            have gr23 := gr_mod gr19 hg18 k91.ge'
            have k118 := k83.go hg18 dj46
            have k119 := k84.go hg18 dj50
            have k120 := k85.go hg18 dj56
            have k121 := k86.go hg18 dj59
            have k122 := k87.go hg18 dj61
            have k123 := k88.go hg18 dj67
            have k124 := k89.go hg18 dj68
            refine WL.nil (WX.then_normal ?_)
            refine WC.seq ?_
            refine WC.region ?_
            refine WL.y rfl (Yld.pure tab_ok rfl) ?_
            refine WL.call rfl rfl (W_slices_Compact_int_int hO6 ((rfl : before.length = before.length).trans hl9.symm) H) ?_
            rintro _ w24 ⟨before3, rfl, hO7, hg19, H⟩
            have gr24 := gr_mod gr23 hg19 hO6.ge'
            have k125 := k118.go hg19 dj46
            have k126 := k119.go hg19 dj50
            have k127 := k120.go hg19 dj56
            have k128 := k121.go hg19 dj59
            have k129 := k122.go hg19 dj61
            have k130 := k123.go hg19 dj67
            have k131 := k124.go hg19 dj68
            refine WL.y rfl (Yld.pure tab_ok rfl) ?_
            refine WL.nil (WX.then_normal ?_)
            refine WC.seq ?_
            refine WC.region ?_
            refine WL.y rfl (Yld.pure tab_ok rfl) ?_
            refine WL.y rfl (Yld.pure tab_ok rfl) ?_
            refine WL.y rfl (Yld.pure tab_ok rfl) ?_
            refine WL.y rfl (Yld.pure tab_ok rfl) ?_
            refine WL.y rfl (Yld.bload tab_ok k125 rfl rfl rfl) ?_
            refine WL.y rfl (Yld.pure tab_ok rfl) ?_
            refine WL.lit (us := [.slice A_before before3.length c_before]) tab_ok rfl rfl rfl (all1c rfl all1n) rfl (by omega) (fun g9 w26 hB16 hg21 hl12 => ?_)
            have hO9 : Own vh w26 w.heap.size 98 (some ⟨g9, 0, none⟩) 1 ([⟨A_before, before3.length, c_before⟩] : List Hdr) := Own.ofBl hB16 (Nat.le_trans (size_le gr24) hl12) (by simp [maxLen]) rfl
            have gr25 := gr_trans gr24 hg21
            have k132 := k125.g0 hg21
            have k133 := k126.grown hg21
            have k134 := k127.grown hg21
            have k135 := k128.g0 hg21
            have k136 := k129.grown hg21
            have k137 := k130.grown hg21
            have k138 := k131.g0 hg21
            have k139 := hO7.grown hg21
            have hr3 : RelD de98 w26 ([⟨A_before, before3.length, c_before⟩] : List Hdr) ([before3] : List (List Int)) := (RelD.cons ⟨rfl, k139.rd⟩ RelD.nil)
            have nd3 : NewD de98 ([⟨A_before, before3.length, c_before⟩] : List Hdr) ([before3] : List (List Int)) w.heap.size := (NewD.cons (d := de98) (fun p_ hp_ => (Dn.of (Dj.new hp_ k139.ge').symm)) NewD.nil)
            have dj108 : DnD de98 ([⟨A_before, before3.length, c_before⟩] : List Hdr) ([before3] : List (List Int)) (some g1) := (DnD.cons (d := de98) (Dn.of dj46.symm) DnD.nil)
            have dj109 : DnD de98 ([⟨A_before, before3.length, c_before⟩] : List Hdr) ([before3] : List (List Int)) (blk A_t200) := (DnD.cons (d := de98) (Dn.of dj50.symm) DnD.nil)
            have dj110 : DnD de98 ([⟨A_before, before3.length, c_before⟩] : List Hdr) ([before3] : List (List Int)) (some w.heap.size) := (DnD.cons (d := de98) (Dn.of dj59.symm) DnD.nil)
            have dj111 : DnD de98 ([⟨A_before, before3.length, c_before⟩] : List Hdr) ([before3] : List (List Int)) (blk A_t202) := (DnD.cons (d := de98) (Dn.of dj61.symm) DnD.nil)
            have dj112 : AllP (DnD de98 ([⟨A_before, before3.length, c_before⟩] : List Hdr) ([before3] : List (List Int))) (FPd (some ⟨g5, 0, none⟩) hs_t203 none) := (fun p_ hp_ => (DnD.cons (d := de98) (Dn.of (dj68 p_ hp_)) DnD.nil))
            have dj113 : DnD de98 ([⟨A_before, before3.length, c_before⟩] : List Hdr) ([before3] : List (List Int)) (blk (some ⟨g9, 0, none⟩)) := (DnD.cons (d := de98) (Dn.of (Dj.new hO7.lt' (Ge.box hl12))) DnD.nil)
            obtain ⟨h12, H⟩ := H
            have h13 : ((hs_t202 : List Hdr).length + ([⟨A_before, before3.length, c_before⟩] : List Hdr).length) * 24 ≤ 140737488355328 := by rw [k137.1, hr3.1]; exact h12
            refine WL.append tab_ok rfl rfl One.h k136 rfl k63.1.symm hO9.rd rfl rfl h13 (applen h13) (size_le gr25) (fun A_t114 c_t114 w27 hO10 hg22 hk3 => ?_)
            have el2 : (hs_t202 ++ ([⟨A_before, before3.length, c_before⟩] : List Hdr)).length = (t202 ++ ([before3] : List (List Int))).length := by rw [List.length_append, List.length_append, k137.1, hr3.1]
            rw [el2]
            have gr26 := gr_mod gr25 hg22 k136.ge'
            have k140 := k132.go hg22 dj44
            have k141 := k133.go hg22 dj48
            have k142 := k134.go hg22 dj54
            have k143 := k135.go hg22 dj57
            have k144 := k137.go hg22 dj65
            have k145 := k138.go hg22 dj60
            have k146 := k139.go hg22 dj61.symm
            have k147 := hr3.go hg22 dj111
            have hr4 : RelD de98 w27 (hs_t202 ++ ([⟨A_before, before3.length, c_before⟩] : List Hdr)) (t202 ++ ([before3] : List (List Int))) := RelD.append k144 k147
            have nd4 : NewD de98 (hs_t202 ++ ([⟨A_before, before3.length, c_before⟩] : List Hdr)) (t202 ++ ([before3] : List (List Int))) w.heap.size := NewD.append k137.1 or5 nd3
            have dj114 : DnD de98 (hs_t202 ++ ([⟨A_before, before3.length, c_before⟩] : List Hdr)) (t202 ++ ([before3] : List (List Int))) (some g1) := (DnD.append k137.1 dj62 dj108)
            have dj115 : DnD de98 (hs_t202 ++ ([⟨A_before, before3.length, c_before⟩] : List Hdr)) (t202 ++ ([before3] : List (List Int))) (blk A_t200) := (DnD.append k137.1 dj63 dj109)
            have dj116 : DnD de98 (hs_t202 ++ ([⟨A_before, before3.length, c_before⟩] : List Hdr)) (t202 ++ ([before3] : List (List Int))) (some w.heap.size) := (DnD.append k137.1 dj64 dj110)
            have dj117 : AllP (DnD de98 (hs_t202 ++ ([⟨A_before, before3.length, c_before⟩] : List Hdr)) (t202 ++ ([before3] : List (List Int)))) (FPd (some ⟨g5, 0, none⟩) hs_t203 none) := (fun p_ hp_ => DnD.append k137.1 (dj66 p_ hp_) (dj112 p_ hp_))
            have dj118 : DnD de98 (hs_t202 ++ ([⟨A_before, before3.length, c_before⟩] : List Hdr)) (t202 ++ ([before3] : List (List Int))) (blk (some ⟨g9, 0, none⟩)) := (DnD.append k137.1 (k130.new (Ge.box hl12)) dj113)
            have dj119 : DnD de98 (hs_t202 ++ ([⟨A_before, before3.length, c_before⟩] : List Hdr)) (t202 ++ ([before3] : List (List Int))) (blk A_t114) := (DnD.append k137.1 (RelD.app k137 dj65 hk3) (RelD.app hr3 dj111 hk3))
            refine WL.y rfl (Yld.pure tab_ok rfl) ?_
            refine WL.y rfl (Yld.pure tab_ok rfl) ?_
            refine WL.store1 one167 rfl rfl rfl k140 (by simp) (fun w28 hB18 hg23 => ?_)
            have hB17 : Bl w28 g1 169 [.slice A_t200 t200.length c_t200, .map (some w.heap.size), .slice A_t114 ((t202 ++ ([before3] : List (List Int))).length) c_t114, .slice (some ⟨g5, 0, none⟩) t203.length ((l.length : Int).toNat)] := hB18
            have gr27 := gr_mod gr26 hg23 (Ge.le (Ge.box hl2) (size_le gr1))
            have k148 := k141.go hg23 dj42.symm
            have k149 := k142.go hg23 dj51
            have k150 := k143.go hg23 dj43.symm
            have k151 := k145.go hg23 dj45
            have k152 := k146.go hg23 dj46.symm
            have k153 := hO10.go hg23 (Dj.app dj44.symm k132.lt' hk3)
            have k154 := hr4.go hg23 dj114
            refine WL.nil (WX.then_normal ?_)
            refine WC.seq ?_
            refine WC.region ?_
            refine WL.y rfl (Yld.pure tab_ok rfl) ?_
            refine WL.y rfl (Yld.pure tab_ok rfl) ?_
            refine WL.y rfl (Yld.pure tab_ok rfl) ?_
            refine WL.nil (WX.then_normal ?_)
            refine WC.block ?_
            obtain ⟨I4, mu4, h0_4, HR4⟩ := H
            refine WC.loopF (fun n' L' w' => ∃ (t119 : Int), ∃ (t2032 : List (List Int)), ∃ (hs_t2032 : List Hd), ∃ (n_t2032 : Nat), n' = mu4 t119 t2032 ∧ L' = [(4, .pointer (some ⟨g1, 0, none⟩)), (8, .int .i64 t76), (74, .slice A_t200 t200.length c_t200), (75, .int .i64 (t200.length : Int)), (76, .int .i64 t76), (117, .slice A_before before3.length c_before), (118, .int .i64 (before3.length : Int)), (119, .int .i64 t119)] ∧ I4 t119 t2032 ∧ n_t2032 = t2032.length ∧ w.grownBy w' none ∧ Bl w' g1 169 [.slice A_t200 t200.length c_t200, .map (some w.heap.size), .slice A_t114 ((t202 ++ ([before3] : List (List Int))).length) c_t114, .slice (some ⟨g5, 0, none⟩) n_t2032 ((l.length : Int).toNat)] ∧ OwnK 4 encH94 w' w.heap.size 94 A_t200 c_t200 hs_t200 ∧ RelD de94 w' hs_t200 t200 ∧ MapB vs okS vi w' w.heap.size t201 ∧ Own vi w' w.heap.size 3 A_before c_before before3 ∧ Own vh w' w.heap.size 98 A_t114 c_t114 (hs_t202 ++ ([⟨A_before, before3.length, c_before⟩] : List Hdr)) ∧ RelD de98 w' (hs_t202 ++ ([⟨A_before, before3.length, c_before⟩] : List Hdr)) (t202 ++ ([before3] : List (List Int))) ∧ DeepO vi w' w.heap.size 98 3 (some ⟨g5, 0, none⟩) ((l.length : Int).toNat) hs_t2032 t2032 none ∧ Dj (some g1) (blk A_t200) ∧ Dj (some g1) (some w.heap.size) ∧ Dj (some g1) (blk A_before) ∧ Dj (some g1) (blk A_t114) ∧ AllP (Dj (some g1)) (FPd (some ⟨g5, 0, none⟩) hs_t2032 none) ∧ Dj (blk A_t200) (some w.heap.size) ∧ Dj (blk A_t200) (blk A_before) ∧ Dj (blk A_t200) (blk A_t114) ∧ AllP (Dj (blk A_t200)) (FPd (some ⟨g5, 0, none⟩) hs_t2032 none) ∧ DnD de94 hs_t200 t200 (some g1) ∧ DnD de94 hs_t200 t200 (blk A_t200) ∧ DnD de94 hs_t200 t200 (some w.heap.size) ∧ DnD de94 hs_t200 t200 (blk A_before) ∧ DnD de94 hs_t200 t200 (blk A_t114) ∧ AllP (DnD de94 hs_t200 t200) (FPd (some ⟨g5, 0, none⟩) hs_t2032 none) ∧ Dj (some w.heap.size) (blk A_before) ∧ Dj (some w.heap.size) (blk A_t114) ∧ AllP (Dj (some w.heap.size)) (FPd (some ⟨g5, 0, none⟩) hs_t2032 none) ∧ Dj (blk A_before) (blk A_t114) ∧ AllP (Dj (blk A_before)) (FPd (some ⟨g5, 0, none⟩) hs_t2032 none) ∧ AllP (Dj (blk A_t114)) (FPd (some ⟨g5, 0, none⟩) hs_t2032 none) ∧ DnD de98 (hs_t202 ++ ([⟨A_before, before3.length, c_before⟩] : List Hdr)) (t202 ++ ([before3] : List (List Int))) (some g1) ∧ DnD de98 (hs_t202 ++ ([⟨A_before, before3.length, c_before⟩] : List Hdr)) (t202 ++ ([before3] : List (List Int))) (blk A_t200) ∧ DnD de98 (hs_t202 ++ ([⟨A_before, before3.length, c_before⟩] : List Hdr)) (t202 ++ ([before3] : List (List Int))) (some w.heap.size) ∧ DnD de98 (hs_t202 ++ ([⟨A_before, before3.length, c_before⟩] : List Hdr)) (t202 ++ ([before3] : List (List Int))) (blk A_t114) ∧ AllP (DnD de98 (hs_t202 ++ ([⟨A_before, before3.length, c_before⟩] : List Hdr)) (t202 ++ ([before3] : List (List Int)))) (FPd (some ⟨g5, 0, none⟩) hs_t2032 none) ∧ NewD de94 hs_t200 t200 w.heap.size ∧ AllP (fun p => Ge p w.heap.size) (FPd (some ⟨g5, 0, none⟩) hs_t2032 none)) _ _ ⟨(0 : Int), t203, hs_t203, t203.length, rfl, rfl, h0_4, rfl, gr27, hB17, k148, k149, k150, k152, k153, k154, k151, dj42, dj43, dj46, (Dj.app dj44.symm k132.lt' hk3).symm, dj45, dj47, dj50, (Dj.app dj48.symm k133.lt' hk3).symm, dj49, dj51, dj52, dj53, dj56, (RelD.app k134 dj54 hk3), dj55, dj59, (Dj.app dj57.symm k135.lt' hk3).symm, dj58, (Dj.app dj61 k139.lt' hk3).symm, dj68, (DeepO.app k138 dj60 hk3), dj114, dj115, dj116, dj119, dj117, or4, (k151.ge')⟩ (by repeat (first | exact Sub.nil | refine Sub.cons rfl ?_)) ?_
            clear h0_4
            rintro _ _ w29 ⟨t119, t2032, hs_t2032, n_t2032, rfl, rfl, hI4, rfl, gr28, k155, k156, k157, k158, k159, k160, k161, k162, dj120, dj121, dj122, dj123, dj124, dj125, dj126, dj127, dj128, dj129, dj130, dj131, dj132, dj133, dj134, dj135, dj136, dj137, dj138, dj139, dj140, dj141, dj142, dj143, dj144, dj145, or8, hi4⟩
            have H := HR4 t119 t2032 hI4
            refine WC.seq ?_
            refine WC.region ?_
            refine WL.y rfl (Yld.pure tab_ok rfl) ?_
            refine WL.nil (WX.then_normal ?_)
            refine WC.seq ?_
            refine WC.cond rfl (fun b7 => ?_) (fun b7 => ?_)
            · replace H := H.1 (of_decide_eq_true b7)
              refine WC.skip (WX.then_normal ?_)
              refine WC.seq ?_
              refine WC.block ?_
              refine WC.seq ?_
              refine WC.region ?_
              obtain ⟨h14, H⟩ := H
              refine WL.y rfl (Yld.iaddrW tab_ok k159.rd rfl rfl rfl rfl h14.1 h14.2) ?_
              refine WL.y rfl (Yld.iload 0 tab_ok k159.rd rfl rfl (iltN h14 rfl)) ?_
              refine WL.y rfl (Yld.pure tab_ok rfl) ?_
              refine WL.nil (WX.then_normal ?_)
              refine WC.chainF (fun k => !(Nat.beq k 13 || Nat.beq k 14 || Nat.beq k 16)) (LD [3, 8, 11] (fun w' => Bl w' g1 169 [.slice A_t200 t200.length c_t200, .map (some w.heap.size), .slice A_t114 ((t202 ++ ([before3] : List (List Int))).length) c_t114, .slice (some ⟨g5, 0, none⟩) t2032.length ((l.length : Int).toNat)] ∧ Rd hv w' (some ⟨g5, 0, none⟩) ((l.length : Int).toNat) (t2032.zip hs_t2032))) mixed (by kernel_rfl) (fun k w' h _ => ⟨(bl_eqv h k155), (rd_eqv h k162.out.rd)⟩) ?_
              refine WJ.y rfl rfl (fun w' hw' => Yld.pure tab_ok rfl) ?_
              refine WJ.y rfl rfl (fun w' hw' => Yld.pure tab_ok rfl) ?_
              refine WJ.y rfl rfl (fun w' hw' => Yld.pure tab_ok rfl) ?_
              refine WJ.y rfl rfl (fun w' hw' => Yld.bload tab_ok (hw' rfl).1 rfl rfl rfl) ?_
              refine WJ.y rfl rfl (fun w' hw' => Yld.pure tab_ok rfl) ?_
              refine WJ.y rfl rfl (fun w' hw' => Yld.pure tab_ok rfl) ?_
              refine WJ.y rfl rfl (fun w' hw' => Yld.pure tab_ok rfl) ?_
              refine WJ.y rfl rfl (fun w' hw' => Yld.pure tab_ok rfl) ?_
              refine WJ.y rfl rfl (fun w' hw' => Yld.bload tab_ok (hw' rfl).1 rfl rfl rfl) ?_
              refine WJ.y rfl rfl (fun w' hw' => Yld.pure tab_ok rfl) ?_
              obtain ⟨h15, H⟩ := H
              refine WJ.y rfl rfl (fun w' hw' => Yld.iaddrW tab_ok k162.out.rd rfl rfl ((rfl : t2032.length = _).trans k162.zl.symm) rfl h15.1 h15.2) ?_
              refine WJ.y rfl rfl (fun w' hw' => Yld.dloadR tab_ok (hw' rfl).2 k162.len rfl rfl (iltN h15 rfl)) ?_
              refine WJ.y rfl rfl (fun w' hw' => Yld.pure tab_ok rfl) ?_
              refine WJ.putw rfl (wants_none) rfl (Eff.lit tab_ok rfl rfl (all1c rfl all1n) rfl (by omega)) (fun v w' ⟨_, _, h⟩ => DD.keep (⟨(Bl.g0 k155 (gr_eqv h (Eqv.refl _))), (Rd.grown k162.out.rd (gr_eqv h (Eqv.refl _)))⟩)) ?_
              rintro _ w30 ⟨rfl, hB19, hg24⟩
              obtain ⟨g_t136, hl13⟩ : ∃ g, g = w29.heap.size := ⟨_, rfl⟩
              rw [← hl13] at hB19
              rw [← hl13]
              have hO11 : Own vi w30 w.heap.size 3 (some ⟨g_t136, 0, none⟩) 1 ([t76] : List Int) := Own.ofBl hB19 (Nat.le_trans (size_le gr28) (Nat.le_of_eq hl13.symm)) (by simp [maxLen]) rfl
              have gr29 := gr_trans gr28 hg24
              have k163 := k155.g0 hg24
              have k164 := k156.grown hg24
              have k165 := k157.grown hg24
              have k166 := k158.g0 hg24
              have k167 := k159.grown hg24
              have k168 := k160.grown hg24
              have k169 := k161.grown hg24
              have k170 := k162.g0 hg24
              obtain ⟨hO12, k171, dj146⟩ := DeepO.open k170 (iltN h15 rfl)
              have dj147 := DeepO.at (Q := DnD de94 hs_t200 t200) k170 (iltN h15 rfl) dj134
              have dj148 := FPd.sub (j := ((before3.getD t119.toNat 0).toNat)) (Q := DnD de94 hs_t200 t200) dj134
              have dj149 := DeepO.at (Q := DnD de98 (hs_t202 ++ ([⟨A_before, before3.length, c_before⟩] : List Hdr)) (t202 ++ ([before3] : List (List Int)))) k170 (iltN h15 rfl) dj145
              have dj150 := FPd.sub (j := ((before3.getD t119.toNat 0).toNat)) (Q := DnD de98 (hs_t202 ++ ([⟨A_before, before3.length, c_before⟩] : List Hdr)) (t202 ++ ([before3] : List (List Int)))) dj145
              have dj151 := DeepO.at (Q := Dj (some g1)) k170 (iltN h15 rfl) dj124
              have dj152 := FPd.sub (j := ((before3.getD t119.toNat 0).toNat)) (Q := Dj (some g1)) dj124
              have dj153 := DeepO.at (Q := Dj (blk A_t200)) k170 (iltN h15 rfl) dj128
              have dj154 := FPd.sub (j := ((before3.getD t119.toNat 0).toNat)) (Q := Dj (blk A_t200)) dj128
              have dj155 := DeepO.at (Q := Dj (some w.heap.size)) k170 (iltN h15 rfl) dj137
              have dj156 := FPd.sub (j := ((before3.getD t119.toNat 0).toNat)) (Q := Dj (some w.heap.size)) dj137
              have dj157 := DeepO.at (Q := Dj (blk A_before)) k170 (iltN h15 rfl) dj139
              have dj158 := FPd.sub (j := ((before3.getD t119.toNat 0).toNat)) (Q := Dj (blk A_before)) dj139
              have dj159 := DeepO.at (Q := Dj (blk A_t114)) k170 (iltN h15 rfl) dj140
              have dj160 := FPd.sub (j := ((before3.getD t119.toNat 0).toNat)) (Q := Dj (blk A_t114)) dj140
              have dj161 := DeepO.at (Q := Dj (blk (some ⟨g_t136, 0, none⟩))) k170 (iltN h15 rfl) (k162.new (Ge.box (Nat.le_of_eq hl13.symm)))
              have dj162 := FPd.sub (j := ((before3.getD t119.toNat 0).toNat)) (Q := Dj (blk (some ⟨g_t136, 0, none⟩))) (k162.new (Ge.box (Nat.le_of_eq hl13.symm)))
              obtain ⟨h16, H⟩ := H
              refine WJ.putw rfl (wants_none) rfl (Eff.append tab_ok rfl One.i hO12 rfl rfl hO11.rd rfl rfl h16 (applen h16) (size_le gr29)) (fun v w' ⟨_, _, _, _, h, _⟩ => DD.keep (⟨(Bl.go k163 (gr_eqv h (Eqv.refl _)) dj151), (Rd.go k171.out.rd (gr_eqv h (Eqv.refl _)) (Dn.of (apH dj146).symm))⟩)) ?_
              rintro _ w31 ⟨A_t137, c_t137, rfl, hO13, hg25, hk4⟩
              have gr30 := gr_mod gr29 hg25 hO12.ge'
              have k172 := k163.go hg25 dj151
              have k173 := k164.go hg25 dj153
              have k174 := k165.go hg25 dj147
              have k175 := k166.go hg25 dj155
              have k176 := k167.go hg25 dj157
              have k177 := k168.go hg25 dj159
              have k178 := k169.go hg25 dj149
              have k179 := k171.go hg25 dj146
              obtain ⟨h17, H⟩ := H
              refine WJ.y rfl rfl (fun w' hw' => Yld.iaddrW tab_ok k179.out.rd rfl rfl ((rfl : t2032.length = _).trans k179.zl.symm) rfl h17.1 h17.2) ?_
              have dj163 := FPd.closeA (A' := A_t137) (c' := c_t137) (Q := DnD de94 hs_t200 t200) dj148 (RelD.app k165 dj147 hk4)
              have dj164 := FPd.closeA (A' := A_t137) (c' := c_t137) (Q := DnD de98 (hs_t202 ++ ([⟨A_before, before3.length, c_before⟩] : List Hdr)) (t202 ++ ([before3] : List (List Int)))) dj150 (RelD.app k169 dj149 hk4)
              have dj165 := FPd.closeA (A' := A_t137) (c' := c_t137) (Q := Dj (some g1)) dj152 (Dj.app dj151.symm k163.lt' hk4).symm
              have dj166 := FPd.closeA (A' := A_t137) (c' := c_t137) (Q := Dj (blk A_t200)) dj154 (Dj.app dj153.symm k164.lt' hk4).symm
              have dj167 := FPd.closeA (A' := A_t137) (c' := c_t137) (Q := Dj (some w.heap.size)) dj156 (Dj.app dj155.symm k166.lt' hk4).symm
              have dj168 := FPd.closeA (A' := A_t137) (c' := c_t137) (Q := Dj (blk A_before)) dj158 (Dj.app dj157.symm k167.lt' hk4).symm
              have dj169 := FPd.closeA (A' := A_t137) (c' := c_t137) (Q := Dj (blk A_t114)) dj160 (Dj.app dj159.symm k168.lt' hk4).symm
              refine WJ.eff rfl (Ef0.dstore (ys := ((t2032.getD ((before3.getD t119.toNat 0).toNat) []) ++ ([t76] : List Int))) one98 k179 rfl rfl rfl (iltN h17 rfl) hO13 (DeepO.app k171 dj146 hk4)) (fun w' h => DD.past (by kernel_rfl)) ?_
              rintro w33 ⟨hD1, hg27⟩
              have gr31 := gr_mod gr30 hg27 (apH (k179.ge'))
              have k180 := k172.go hg27 (apH dj152)
              have k181 := k173.go hg27 (apH dj154)
              have k182 := k174.go hg27 (apH dj148)
              have k183 := k175.go hg27 (apH dj156)
              have k184 := k176.go hg27 (apH dj158)
              have k185 := k177.go hg27 (apH dj160)
              have k186 := k178.go hg27 (apH dj150)
              refine WJ.nil (WX.block_normal (WX.then_normal ?_))
              refine WC.region ?_
              obtain ⟨h18, H⟩ := H
              refine WL.y rfl (Yld.add rfl rfl h18) ?_
              refine WL.y rfl (Yld.pure tab_ok rfl) ?_
              refine WL.nil ?_
              exact WX.roundF _ ⟨t119 + (1 : Int), t2032.set ((before3.getD t119.toNat 0).toNat) ((t2032.getD ((before3.getD t119.toNat 0).toNat) []) ++ ([t76] : List Int)), hs_t2032.set ((before3.getD t119.toNat 0).toNat) (A_t137, c_t137), t2032.length, rfl, rfl, H.1, ((rfl : t2032.length = _).trans List.length_set.symm), gr31, k180, k181, k182, k183, k184, k185, k186, hD1, dj120, dj121, dj122, dj123, dj165, dj125, dj126, dj127, dj166, dj129, dj130, dj131, dj132, dj133, dj163, dj135, dj136, dj167, dj138, dj168, dj169, dj141, dj142, dj143, dj144, dj164, or8, (hD1.ge')⟩ (by repeat (first | exact Sub.nil | refine Sub.cons rfl ?_)) H.2
            · replace H := H.2 (of_decide_eq_false b7)
              refine WC.exit (WX.then_exit (WX.then_exit (WX.block_same (WX.block_normal (WX.then_normal ?_)))))
              refine WC.region ?_
              obtain ⟨h19, H⟩ := H
              refine WL.y rfl (Yld.add rfl rfl h19) ?_
              refine WL.y rfl (Yld.pure tab_ok rfl) ?_
              refine WL.nil ?_
              exact WX.roundF _ ⟨t76 + (1 : Int), t202 ++ ([before3] : List (List Int)), A_t114, c_t114, (t202 ++ ([before3] : List (List Int))).length, hs_t202 ++ ([⟨A_before, before3.length, c_before⟩] : List Hdr), t2032, hs_t2032, t2032.length, rfl, rfl, H.1, rfl, rfl, gr28, k155, k156, k157, k158, k160, k161, k162, dj120, dj121, dj123, dj124, dj125, dj127, dj128, dj129, dj130, dj131, dj133, dj134, dj136, dj137, dj140, dj141, dj142, dj143, dj144, dj145, or8, nd4, (k162.ge')⟩ (by repeat (first | exact Sub.nil | refine Sub.cons rfl ?_)) H.2
        · replace H := H.2 (of_decide_eq_false b4)
          refine WC.exit (WX.then_exit (WX.then_exit (WX.block_same (WX.then_normal ?_))))
          refine WC.seq ?_
          refine WC.seq ?_
          refine WC.region ?_
          refine WL.y rfl (Yld.pure tab_ok rfl) ?_
          refine WL.y rfl (Yld.pure tab_ok rfl) ?_
          refine WL.y rfl (Yld.pure tab_ok rfl) ?_
          refine WL.y rfl (Yld.bload tab_ok k58 rfl rfl rfl) ?_
          refine WL.y rfl (Yld.pure tab_ok rfl) ?_
          refine WL.y rfl (Yld.pure tab_ok rfl) ?_
          refine WL.nil (WX.then_normal ?_)
          refine WC.block ?_
          obtain ⟨I5, mu5, h0_5, HR5⟩ := H
          refine WC.loopF (fun n' L' w' => ∃ (t146 : Int), n' = mu5 t146 ∧ L' = [(4, .pointer (some ⟨g1, 0, none⟩)), (145, .int .i64 (t200.length : Int)), (146, .int .i64 t146)] ∧ I5 t146 ∧ w.grownBy w' none ∧ Bl w' g1 169 [.slice A_t200 t200.length c_t200, .map (some w.heap.size), .slice A_t202 t202.length c_t202, .slice (some ⟨g5, 0, none⟩) t203.length ((l.length : Int).toNat)] ∧ OwnK 4 encH94 w' w.heap.size 94 A_t200 c_t200 hs_t200 ∧ RelD de94 w' hs_t200 t200 ∧ MapB vs okS vi w' w.heap.size t201 ∧ Own vh w' w.heap.size 98 A_t202 c_t202 hs_t202 ∧ RelD de98 w' hs_t202 t202 ∧ DeepO vi w' w.heap.size 98 3 (some ⟨g5, 0, none⟩) ((l.length : Int).toNat) hs_t203 t203 none ∧ Dj (some g1) (blk A_t200) ∧ Dj (some g1) (some w.heap.size) ∧ Dj (some g1) (blk A_t202) ∧ AllP (Dj (some g1)) (FPd (some ⟨g5, 0, none⟩) hs_t203 none) ∧ Dj (blk A_t200) (some w.heap.size) ∧ Dj (blk A_t200) (blk A_t202) ∧ AllP (Dj (blk A_t200)) (FPd (some ⟨g5, 0, none⟩) hs_t203 none) ∧ DnD de94 hs_t200 t200 (some g1) ∧ DnD de94 hs_t200 t200 (blk A_t200) ∧ DnD de94 hs_t200 t200 (some w.heap.size) ∧ DnD de94 hs_t200 t200 (blk A_t202) ∧ AllP (DnD de94 hs_t200 t200) (FPd (some ⟨g5, 0, none⟩) hs_t203 none) ∧ Dj (some w.heap.size) (blk A_t202) ∧ AllP (Dj (some w.heap.size)) (FPd (some ⟨g5, 0, none⟩) hs_t203 none) ∧ AllP (Dj (blk A_t202)) (FPd (some ⟨g5, 0, none⟩) hs_t203 none) ∧ DnD de98 hs_t202 t202 (some g1) ∧ DnD de98 hs_t202 t202 (blk A_t200) ∧ DnD de98 hs_t202 t202 (some w.heap.size) ∧ DnD de98 hs_t202 t202 (blk A_t202) ∧ AllP (DnD de98 hs_t202 t202) (FPd (some ⟨g5, 0, none⟩) hs_t203 none) ∧ NewD de94 hs_t200 t200 w.heap.size ∧ NewD de98 hs_t202 t202 w.heap.size ∧ AllP (fun p => Ge p w.heap.size) (FPd (some ⟨g5, 0, none⟩) hs_t203 none)) _ _ ⟨(0 : Int), rfl, rfl, h0_5, gr16, k58, k59, k60, k61, k62, k63, k64, dj22, dj23, dj24, dj25, dj26, dj27, dj28, dj29, dj30, dj31, dj32, dj33, dj34, dj35, dj36, dj37, dj38, dj39, dj40, dj41, or2, or3, (k64.ge')⟩ (by repeat (first | exact Sub.nil | refine Sub.cons rfl ?_)) ?_
          clear h0_5
          rintro _ _ w34 ⟨t146, rfl, rfl, hI5, gr32, k187, k188, k189, k190, k191, k192, k193, dj170, dj171, dj172, dj173, dj174, dj175, dj176, dj177, dj178, dj179, dj180, dj181, dj182, dj183, dj184, dj185, dj186, dj187, dj188, dj189, or9, or10, hi5⟩
          have H := HR5 t146 hI5
          refine WC.seq ?_
          refine WC.region ?_
          refine WL.y rfl (Yld.pure tab_ok rfl) ?_
          refine WL.nil (WX.then_normal ?_)
          refine WC.seq ?_
          refine WC.cond rfl (fun b8 => ?_) (fun b8 => ?_)
          · replace H := H.1 (of_decide_eq_true b8)
            refine WC.skip (WX.then_normal ?_)
            refine WC.seq ?_
            refine WC.block ?_
            refine WC.seq ?_
            refine WC.region ?_
            refine WL.y rfl (Yld.pure tab_ok rfl) ?_
            refine WL.y rfl (Yld.pure tab_ok rfl) ?_
            refine WL.nil (WX.then_normal ?_)
            refine WC.seq ?_
            refine WC.region ?_
            refine WL.y rfl (Yld.pure tab_ok rfl) ?_
            refine WL.y rfl (Yld.pure tab_ok rfl) ?_
            refine WL.y rfl (Yld.pure tab_ok rfl) ?_
            refine WL.y rfl (Yld.pure tab_ok rfl) ?_
            refine WL.y rfl (Yld.bload tab_ok k187 rfl rfl rfl) ?_
            refine WL.y rfl (Yld.pure tab_ok rfl) ?_
            obtain ⟨h20, H⟩ := H
            refine WL.y rfl (Yld.iaddrW tab_ok k191.rd rfl rfl k63.1.symm rfl h20.1 h20.2) ?_
            obtain ⟨⟨A_el5, n5, c_el5⟩, eh3, ⟨en9, hR5⟩⟩ := RelD.at k192 hd0 [] (j := t146.toNat) (Nat.lt_of_lt_of_eq (iltN h20 k63.1.symm) k192.1)
            have en9 : n5 = (t202.getD t146.toNat []).length := en9
            subst en9
            refine WL.y rfl (Yld.to (v := .slice A_el5 ((t202.getD t146.toNat []).length) c_el5) (Yld.iload hd0 tab_ok k191.rd rfl rfl (iltN h20 k63.1.symm)) (by rw [eh3]; rfl)) ?_
            refine WL.call rfl rfl (W_pgraph_Graph_reach k188.rd rfl k189 k190 k191.rd rfl k192 (k193.fdo).rd rfl k193.fdr k187 hR5 rfl H) ?_
            rintro _ w35 ⟨hg28, t157, A_t157, c_t157, rfl, ht157, H⟩
            have hb3 := ht157.ge'
            have k194 := ht157.base (fun g hg => Nat.le_trans (size_le gr32) (hb3 g hg))
            have gr33 := gr_trans gr32 hg28
            have k195 := k187.g0 hg28
            have k196 := k188.grown hg28
            have k197 := k189.grown hg28
            have k198 := k190.g0 hg28
            have k199 := k191.grown hg28
            have k200 := k192.grown hg28
            have k201 := k193.g0 hg28
            refine WL.y rfl (Yld.pure tab_ok rfl) ?_
            obtain ⟨h21, H⟩ := H
            refine WL.y rfl (Yld.iaddrW tab_ok k194.rd rfl rfl rfl rfl h21.1 h21.2) ?_
            refine WL.y rfl (Yld.iload false tab_ok k194.rd rfl rfl (iltN h21 rfl)) ?_
            refine WL.nil (WX.then_normal ?_)
            refine WC.cond rfl (fun b9 => ?_) (fun b9 => ?_)
            · replace H := H.1 (b9)
              refine WC.seq ?_
              obtain ⟨vE2, _, hE3⟩ := GOK.get (hG.grown gr33) 4 2 hS4 rfl rfl
              refine WC.chainF (fun k => !(Nat.beq k 3)) (LD [1] (fun w' => w'.cell? ⟨2, 0, none⟩ = some vE2)) mixed (by kernel_rfl) (fun k w' h _ => ((h.cell _).trans (ErrR.cell hE3 rfl))) ?_
              refine WJ.y rfl rfl (fun w' hw' => Yld.pure tab_ok rfl) ?_
              refine WJ.y rfl rfl (fun w' hw' => Yld.cell tab_ok (hw' rfl) rfl rfl) ?_
              refine WJ.y rfl rfl (fun w' hw' => Yld.struct (us := [.int .i64 t146, vE2]) (vs := [(0, .int .i64 t146), (1, vE2)]) zero175 places175 rfl (by simp only [fillL, cells1 (ErrR.one hE3)]; rfl)) ?_
              refine WJ.putw rfl wants_none rfl (Eff.box (us := [.int .i64 t146, vE2]) rfl rfl) (fun v w' h => DD.keep (cell_g0 (ErrR.cell hE3 rfl) (gr_eqv h.2.2 (Eqv.refl _)))) ?_
              rintro _ w36 ⟨rfl, hB20, hg29⟩
              have gr34 := gr_trans gr33 hg29
              have k202 := hE3.grown hg29
              obtain ⟨n2, he2, H⟩ := H
              have hE4 := ErrR.mkAt hB20 (he2 ▸ k202)
              refine WJ.y rfl rfl (fun w' hw' => Yld.mki Tryz.underlying173 rfl rfl) ?_
              refine WJ.y rfl rfl (fun w' hw' => Yld.pure tab_ok rfl) ?_
              refine WJ.y rfl rfl (fun w' hw' => Yld.pure tab_ok rfl) ?_
              refine WJ.nil (WX.then_normal ?_)
              refine WC.ret (WX.block_ret (WX.then_ret (WX.then_ret (WX.block_ret (WX.then_ret ?_)))))
              exact WX.ret2 rfl rfl rfl ⟨gr34, Or.inl ⟨(.iface 173 (.pointer (some ⟨w35.heap.size, 0, none⟩))), (Er.at_ t146 n2), rfl, hE4, H⟩⟩
            · replace H := H.2 (b9)
              refine WC.skip (WX.block_normal (WX.then_normal ?_))
              refine WC.region ?_
              obtain ⟨h22, H⟩ := H
              refine WL.y rfl (Yld.add rfl rfl h22) ?_
              refine WL.y rfl (Yld.pure tab_ok rfl) ?_
              refine WL.nil ?_
              exact WX.roundF _ ⟨t146 + (1 : Int), rfl, rfl, H.1, gr33, k195, k196, k197, k198, k199, k200, k201, dj170, dj171, dj172, dj173, dj174, dj175, dj176, dj177, dj178, dj179, dj180, dj181, dj182, dj183, dj184, dj185, dj186, dj187, dj188, dj189, or9, or10, (k201.ge')⟩ (by repeat (first | exact Sub.nil | refine Sub.cons rfl ?_)) H.2
          · replace H := H.2 (of_decide_eq_false b8)
            refine WC.exit (WX.then_exit (WX.then_exit (WX.block_same (WX.then_normal ?_))))
            refine WC.seq ?_
            refine WC.region ?_
            refine WL.y rfl (Yld.pure tab_ok rfl) ?_
            refine WL.y rfl (Yld.pure tab_ok rfl) ?_
            refine WL.y rfl (Yld.pure tab_ok rfl) ?_
            refine WL.nil (WX.then_normal ?_)
            refine WC.ret ?_
            have hO14 : Own vh w34 w.heap.size 98 (some ⟨g5, 0, none⟩) ((l.length : Int).toNat) (zipH hs_t203 t203) := k193.fdo
            have hr5 : RelD de98 w34 (zipH hs_t203 t203) t203 := k193.fdr
            exact WX.ret2 rfl rfl rfl ⟨gr32, Or.inr ⟨g1, t200, A_t200, c_t200, hs_t200, w.heap.size, t201, t202, A_t202, c_t202, hs_t202, t203, (some ⟨g5, 0, none⟩), (l.length : Int).toNat, (zipH hs_t203 t203), .nilIface, Er.ok, rfl, k188, k189, or9, dj178, k191, k192, or10, dj188, hO14, hr5, (fun p_ hp_ => k193.dnd (fun q_ hq_ => Dj.new hp_ ((k193.ge') q_ hq_))), k193.dself, (ErrR.okR (S := S) (w := w34)), k190, (Ge.le (Ge.box (Nat.le_refl _)) (Nat.le_refl _)), k187, (Ge.le (Ge.box hl2) (size_le gr1)), dj178, dj180, (apH dj181), dj179, dj177, dj186, dj188, (apH dj189), dj187, dj185, (k193.dnd dj176), (k193.dnd dj184), k193.dself, (k193.dnd dj183), (k193.dnd dj173), dj175, (apH dj176), dj174, dj170.symm, (apH dj184), dj182.symm, dj172.symm, (apH dj183).symm, (apH dj173).symm, dj171.symm, H⟩⟩
  · clear hJ1
    rcases Bool.eq_false_or_eq_true (decide ((1000 : Int) < (l.length : Int))) with b10 | b10
    · replace H := H.1 b10
      refine WL.gno rfl rfl (okb b10) rfl ?_
      refine WL.gno rfl rfl (okb b10) rfl ?_
      refine WL.y rfl (Yld.pickT (okb b10) rfl) ?_
      exact WL.weaken (by repeat (first | exact Sub.nil | refine Sub.cons rfl ?_)) (hQ _ _ ⟨true, rfl, H, gr2, k1, hB2⟩)
    · replace H := H.2 b10
      refine WL.gyes rfl rfl (okb b10) rfl (Yld.pure tab_ok rfl) ?_
      refine WL.callw (wants_some rfl rfl (okb b10)) rfl rfl (W_slices_ContainsFunc_api_Action_api_Action_graph_New_1 (hl.grown gr2) rfl (hr_l.grown gr2) H) ?_
      rintro _ w37 ⟨hg30, t26, rfl, H⟩
      have gr35 := gr_trans gr2 hg30
      have k203 := k1.g0 hg30
      have k204 := hB2.g0 hg30
      refine WL.y rfl (Yld.pickF (okb b10) rfl) ?_
      exact WL.weaken (by repeat (first | exact Sub.nil | refine Sub.cons rfl ?_)) (hQ _ _ ⟨t26, rfl, H, gr35, k203, k204⟩)

end Go.Proofs.YtlonpmajnglmoaaGreatDoor

 /- Paths, plainly: cut at slashes, fair parts, what is valid. -/
namespace Go.Proofs.YtlonpmajnglmoaaGreatDoor
open Go Go.RowKit
def cuts : List UInt8 → List (List UInt8)
  | [] => [[]]
  | c :: s => if c = 47 then [] :: cuts s else match cuts s with
    | [] => [[c]]
    | h :: t => (c :: h) :: t
theorem cuts_ne (s : List UInt8) : cuts s ≠ [] := by
  cases s with
  | nil => simp [cuts]
  | cons c s =>
    unfold cuts
    split
    · simp
    · split <;> simp
theorem split_cuts : ∀ s : List UInt8, Lib.split s [47] = cuts s
  | [] => by simp [Lib.split, Lib.count_miss, Lib.index, Lib.splitK, cuts]
  | c :: s => by
    have ih := split_cuts s
    unfold Lib.split at ih ⊢
    by_cases hc : c = 47
    · subst hc
      have hix : Lib.index (47 :: s) [47] = 0 := by rw [Lib.index]; simp [List.isPrefixOf]
      rw [Lib.count_cons_eq, Nat.add_comm, Lib.splitK, if_neg (by rw [hix]; decide), hix]
      simp only [cuts, if_true]
      rw [← ih]
      simp
    · have hp : ([47] : List UInt8).isPrefixOf (c :: s) = false := by simp [List.isPrefixOf, Ne.symm hc]
      have hix : Lib.index (c :: s) [47] = if Lib.index s [47] == -1 then -1 else Lib.index s [47] + 1 := by rw [Lib.index, hp]; simp
      rw [Lib.count_cons_ne c 47 s hc]
      simp only [cuts, if_neg hc]
      rw [← ih]
      cases hk : Lib.count s [47] with
      | zero => simp [Lib.splitK]
      | succ k =>
        have hne : Lib.index s [47] ≠ -1 := fun e => by rw [Lib.count_miss e] at hk; cases hk
        have hge := Lib.index_ge s [47]
        obtain ⟨j, hj⟩ : ∃ j : Nat, Lib.index s [47] = j := ⟨(Lib.index s [47]).toNat, by omega⟩
        have hix' : Lib.index (c :: s) [47] = ((j + 1 : Nat) : Int) := by rw [hix, if_neg (fun e => hne (beq_iff_eq.1 e)), hj]; omega
        rw [Lib.splitK, Lib.splitK, if_neg (fun e => hne (beq_iff_eq.1 e)), if_neg (by rw [hix']; simp; omega), hix', hj]
        simp
theorem splitL_cuts (s : List UInt8) : splitL [47] s = cuts s := split_cuts s
theorem cuts_length (s : List UInt8) : (cuts s).length ≤ s.length + 1 := by
  induction s with
  | nil => simp [cuts]
  | cons c s ih =>
    unfold cuts
    split
    · simp; omega
    · split
      · simp
      · rename_i h t e; rw [e] at ih; simp at ih ⊢; omega
theorem split_M {s : List UInt8} {K : List (List UInt8) → Prop} (hs : s.length ≤ 4000000000) (h : K (cuts s)) : M_strings_Split s [47] K :=
  ⟨by omega, by simp, by rw [splitL_cuts]; exact h⟩
/-- a byte that may be in a part -/
def letB (c : UInt8) : Bool := (((decide (48 ≤ c.toNat) && decide (c.toNat ≤ 57)) || (decide (65 ≤ c.toNat) && decide (c.toNat ≤ 90))) || (decide (97 ≤ c.toNat) && decide (c.toNat ≤ 122))) || ([33, 35, 37, 43, 44, 45, 46, 61, 64, 95, 126] : List UInt8).contains c
theorem indexByte_contains (l : List UInt8) (c : UInt8) : decide (0 ≤ Lib.indexByte l c) = l.contains c := by
  induction l with
  | nil => simp [Lib.indexByte]
  | cons b l ih =>
    unfold Lib.indexByte
    by_cases h : b = c
    · subst h; simp
    · have hge := Lib.indexByte_ge l c
      rw [if_neg (by simpa using h)]
      have hc : (b :: l).contains c = l.contains c := by simp [Ne.symm h]
      rw [hc, ← ih]
      by_cases h1 : Lib.indexByte l c = -1
      · rw [if_pos (by simpa using h1), h1]
      · rw [if_neg (by simpa using h1), decide_eq_decide]; omega
theorem letter_M {c : UInt8} {K : Bool → Prop} (h : K (letB c)) : M_path_letter (c.toNat : Int) K := by
  have e : ((((decide ((48 : Int) ≤ (c.toNat : Int))) && (decide ((c.toNat : Int) ≤ (57 : Int)))) || ((decide ((65 : Int) ≤ (c.toNat : Int))) && (decide ((c.toNat : Int) ≤ (90 : Int))))) || ((decide ((97 : Int) ≤ (c.toNat : Int))) && (decide ((c.toNat : Int) ≤ (122 : Int))))) = (((decide (48 ≤ c.toNat) && decide (c.toNat ≤ 57)) || (decide (65 ≤ c.toNat) && decide (c.toNat ≤ 90))) || (decide (97 ≤ c.toNat) && decide (c.toNat ≤ 122))) := by
    have d : ∀ a b : Nat, decide ((a : Int) ≤ (b : Int)) = decide (a ≤ b) := fun a b => by rw [decide_eq_decide]; omega
    have d1 : decide ((48 : Int) ≤ (c.toNat : Int)) = decide (48 ≤ c.toNat) := d 48 c.toNat
    have d2 : decide ((c.toNat : Int) ≤ (57 : Int)) = decide (c.toNat ≤ 57) := d c.toNat 57
    have d3 : decide ((65 : Int) ≤ (c.toNat : Int)) = decide (65 ≤ c.toNat) := d 65 c.toNat
    have d4 : decide ((c.toNat : Int) ≤ (90 : Int)) = decide (c.toNat ≤ 90) := d c.toNat 90
    have d5 : decide ((97 : Int) ≤ (c.toNat : Int)) = decide (97 ≤ c.toNat) := d 97 c.toNat
    have d6 : decide ((c.toNat : Int) ≤ (122 : Int)) = decide (c.toNat ≤ 122) := d c.toNat 122
    rw [d1, d2, d3, d4, d5, d6]
  unfold M_path_letter
  rw [e]
  unfold letB at h
  refine ⟨fun h1 => ?_, fun h1 => ?_⟩
  · rw [h1] at h; exact h
  · rw [h1, Bool.false_or] at h
    unfold M_strings_IndexByte
    rw [show ((c.toNat : Int).toNat.toUInt8) = c by simp]
    show K (decide (0 ≤ Lib.indexByte _ _))
    rw [indexByte_contains]
    exact h
def dotsB (s : List UInt8) : Bool := (decide (s = []) || decide (s = [46])) || decide (s = [46, 46])
def fairB (s : List UInt8) : Bool := s.all letB && !dotsB s
theorem take_all_succ {p : UInt8 → Bool} {s : List UInt8} {k : Nat} (h : (s.take k).all p = true) (hk : k < s.length) (hp : p (s.getD k 0) = true) : (s.take (k + 1)).all p = true := by
  rw [List.take_succ_eq_append_getElem hk, List.all_append, h]
  simpa [List.getD, hk] using hp
theorem fair_M {s : List UInt8} {K : Bool → Prop} (hs : s.length ≤ 4000000000) (h : K (fairB s)) : M_path_fair s K := by
  unfold M_path_fair
  refine ⟨fun i => ∃ k : Nat, i = k ∧ k ≤ s.length ∧ (s.take k).all letB = true, fun i => (s.length - i.toNat), ⟨0, rfl, by omega, by simp⟩, ?_⟩
  rintro _ ⟨k, rfl, hk, hall⟩
  refine ⟨fun hlt => ⟨by omega, letter_M ?_⟩, fun hge => ?_⟩
  · have hk' : k < s.length := by omega
    rw [Int.toNat_natCast]
    cases hl : letB (s.getD k 0) with
    | false =>
      refine ⟨fun _ => ?_, fun h1 => by simp at h1⟩
      have : s.all letB = false := by
        rw [List.all_eq_false]
        exact ⟨s.getD k 0, by simp [List.getD, hk'], by rw [hl]; simp⟩
      unfold fairB at h
      rw [this] at h
      exact h
    | true => exact ⟨fun h1 => by simp at h1, fun _ => ⟨by simp only [In]; omega, ⟨k + 1, by omega, by omega, take_all_succ hall hk' hl⟩, by dsimp only; omega⟩⟩
  · obtain rfl : k = s.length := by omega
    rw [List.take_length] at hall
    unfold fairB at h
    rw [hall, Bool.true_and] at h
    exact h
def validB (p : List UInt8) : Bool := decide (p.length ≤ 200) && (cuts p).all fairB
theorem cuts_part {s x : List UInt8} (h : x ∈ cuts s) : x.length ≤ s.length := by
  induction s generalizing x with
  | nil => simp [cuts] at h; subst h; simp
  | cons c s ih =>
    unfold cuts at h
    split at h
    · rcases List.mem_cons.1 h with rfl | h
      · simp
      · have := ih h; simp; omega
    · split at h
      · rename_i e; exact absurd e (cuts_ne s)
      · rename_i y t e
        rcases List.mem_cons.1 h with rfl | h
        · have := ih (x := y) (by rw [e]; simp); simp; omega
        · have := ih (x := x) (by rw [e]; simp [h]); simp; omega
theorem getD_mem {α : Type} {l : List α} {k : Nat} {d : α} (h : k < l.length) : l.getD k d ∈ l := by
  simp [List.getD, h]
theorem valid_M {p : List UInt8} {K : Bool → Prop} (hp : p.length ≤ 4000000000) (h : K (validB p)) : M_path_Valid p K := by
  unfold M_path_Valid
  unfold validB at h
  refine ⟨fun h1 => ?_, fun h1 => split_M hp ?_⟩
  · rw [decide_eq_false (by omega : ¬ p.length ≤ 200)] at h; exact h
  rw [decide_eq_true (by omega : p.length ≤ 200), Bool.true_and] at h
  refine ⟨fun i => ∃ k : Nat, i = k ∧ k ≤ (cuts p).length ∧ ((cuts p).take k).all fairB = true, fun i => ((cuts p).length - i.toNat), ⟨0, rfl, by omega, by simp⟩, ?_⟩
  have hcl := cuts_length p
  rintro _ ⟨k, rfl, hk, hall⟩
  refine ⟨fun hlt => ⟨by omega, ?_⟩, fun hge => ?_⟩
  · have hk' : k < (cuts p).length := by omega
    rw [Int.toNat_natCast]
    have hm : (cuts p).getD k [] ∈ cuts p := getD_mem hk'
    have hx := cuts_part hm
    refine fair_M (by omega) ?_
    cases hl : fairB ((cuts p).getD k []) with
    | false =>
      refine ⟨fun _ => ?_, fun h1 => by simp at h1⟩
      have : (cuts p).all fairB = false := by
        rw [List.all_eq_false]
        exact ⟨_, hm, by rw [hl]; simp⟩
      rw [this] at h
      exact h
    | true =>
      refine ⟨fun h1 => by simp at h1, fun _ => ⟨by simp only [In]; omega, ⟨k + 1, by omega, by omega, ?_⟩, by dsimp only; omega⟩⟩
      rw [List.take_succ_eq_append_getElem hk', List.all_append, hall]
      simpa [List.getD, hk'] using hl
  · obtain rfl : k = (cuts p).length := by omega
    rw [List.take_length] at hall
    rw [hall] at h
    exact h
end Go.Proofs.YtlonpmajnglmoaaGreatDoor


 /- Patterns, plainly: one table for bytes and for parts. -/
namespace Go.Proofs.YtlonpmajnglmoaaGreatDoor
open Go Go.RowKit
section
variable (star : Nat → Bool) (eq : Nat → Nat → Bool) (i j : Nat)
end
def bt (p : List UInt8) (i : Nat) : UInt8 := p.getD i 0
end Go.Proofs.YtlonpmajnglmoaaGreatDoor


 /- Paths, plainly: clean, match. -/
namespace Go.Proofs.YtlonpmajnglmoaaGreatDoor
open Go Go.RowKit
end Go.Proofs.YtlonpmajnglmoaaGreatDoor


 /- smithylaw1.first; Dir, Base, Under; PathDirs. -/
namespace Go.Proofs.YtlonpmajnglmoaaGreatDoor
open Go Go.RowKit
end Go.Proofs.YtlonpmajnglmoaaGreatDoor


 /- Patterns at work: PathStars. -/
namespace Go.Proofs.YtlonpmajnglmoaaGreatDoor
open Go Go.RowKit
end Go.Proofs.YtlonpmajnglmoaaGreatDoor


 /- Clean twice: PathAgain. -/
namespace Go.Proofs.YtlonpmajnglmoaaGreatDoor
open Go Go.RowKit
end Go.Proofs.YtlonpmajnglmoaaGreatDoor


 /- Printed by a program (wip/vg): what the functions mean, plainly, and their walks. -/
namespace Go.Proofs.YtlonpmajnglmoaaGreatDoor
open Go Go.RowKit
attribute [local irreducible] WL WC WX WQ WK WJ Yld Eff Ef0 Fn
end Go.Proofs.YtlonpmajnglmoaaGreatDoor

 /- smithysee.Is, plainly. -/
namespace Go.Proofs.YtlonpmajnglmoaaGreatDoor
open Go Go.RowKit
end Go.Proofs.YtlonpmajnglmoaaGreatDoor


 /- The chapter's own words for paths (smithyref1), and PathSays. -/
namespace Go.Proofs.YtlonpmajnglmoaaGreatDoor
open Go Go.RowKit
end Go.Proofs.YtlonpmajnglmoaaGreatDoor


 /- Texts in order, each once: plain, no program. -/
namespace Go.Proofs.YtlonpmajnglmoaaGreatDoor
open Go
abbrev Bs := List UInt8
def Strict (l : List Bs) : Prop := l.Pairwise (· < ·)
theorem Strict.nodup {l : List Bs} (h : Strict l) : l.Nodup := List.Pairwise.imp (fun {a b} (hab : a < b) (e : a = b) => List.lt_irrefl b (e ▸ hab)) h
def sortB (l : List Bs) : List Bs := l.mergeSort fun x y => decide (x ≤ y)
theorem sortB_le (l : List Bs) : (sortB l).Pairwise (· ≤ ·) := by
  have h := List.pairwise_mergeSort (le := fun (x y : Bs) => decide (x ≤ y)) (fun a b c h k => by
    simp only [decide_eq_true_eq] at h k ⊢
    exact List.le_trans h k) (fun a b => by
    simp only [Bool.or_eq_true, decide_eq_true_eq]
    exact List.le_total a b) l
  exact h.imp fun h => by simpa using h
theorem compactUpTo_len {α : Type} [Inhabited α] [DecidableEq α] (d : Array α) (m : Nat) : (Lib.compactUpTo d m).length ≤ m := by
  unfold Lib.compactUpTo
  rw [List.length_map]
  exact Nat.le_trans (List.length_filter_le _ _) (by simp)
end Go.Proofs.YtlonpmajnglmoaaGreatDoor


 /- Globs: the plain side. -/
namespace Go.Proofs.YtlonpmajnglmoaaGreatDoor
open Go Go.RowKit
end Go.Proofs.YtlonpmajnglmoaaGreatDoor


 /- What is in order, each once, by any order that parts what is not one: plain, no program. -/
namespace Go.Proofs.YtlonpmajnglmoaaGreatDoor
open Go
/-- an order that parts whatever two things that are not one -/
structure LtT {α : Type} (lt : α → α → Bool) : Prop where
  irrefl : ∀ x, lt x x = false
  trans : ∀ x y z, lt x y = true → lt y z = true → lt x z = true
  tot : ∀ x y, lt x y = false → lt y x = false → x = y
section
variable {α : Type} {lt : α → α → Bool}
theorem LtT.asymm (T : LtT lt) {x y : α} (h : lt x y = true) : lt y x = false := by
  cases k : lt y x with
  | false => rfl
  | true => have := T.trans x y x h k; rw [T.irrefl] at this; cases this
theorem LtT.ntrans (T : LtT lt) (x y z : α) (h : lt x y = false) (k : lt y z = false) : lt x z = false := by
  cases e : lt x z with
  | false => rfl
  | true =>
    cases f : lt z y with
    | true => rw [T.trans x z y e f] at h; cases h
    | false => have := T.tot y z k f; subst this; rw [e] at h; cases h
theorem LtT.le_lt (T : LtT lt) {x y z : α} (h : lt y x = false) (k : lt y z = true) : lt x z = true := by
  cases e : lt x y with
  | true => exact T.trans x y z e k
  | false => have := T.tot x y e h; subst this; exact k
def StrictG (lt : α → α → Bool) (l : List α) : Prop := l.Pairwise fun a b => lt a b = true
theorem StrictG.nodup (T : LtT lt) {l : List α} (h : StrictG lt l) : l.Nodup := List.Pairwise.imp (fun {a b} (hab : lt a b = true) (e : a = b) => by rw [e, T.irrefl] at hab; cases hab) h
theorem strictG_uniq (T : LtT lt) : ∀ {a b : List α}, StrictG lt a → StrictG lt b → (∀ x, x ∈ a ↔ x ∈ b) → a = b
  | [], [], _, _, _ => rfl
  | [], y :: b, _, _, h => by have := (h y).2 (by simp); simp at this
  | x :: a, [], _, _, h => by have := (h x).1 (by simp); simp at this
  | x :: a, y :: b, ha, hb, h => by
    have ha' := List.pairwise_cons.1 ha
    have hb' := List.pairwise_cons.1 hb
    have hxy : x = y := by
      rcases List.mem_cons.1 ((h x).1 (by simp)) with e | hx
      · exact e
      · rcases List.mem_cons.1 ((h y).2 (by simp)) with e | hy
        · exact e.symm
        · have h1 := T.asymm (hb'.1 x hx); rw [ha'.1 y hy] at h1; cases h1
    subst hxy
    rw [strictG_uniq T ha'.2 hb'.2 (fun z => ?_)]
    constructor
    · intro hz
      rcases List.mem_cons.1 ((h z).1 (by simp [hz])) with e | hz'
      · subst e; have := ha'.1 z hz; rw [T.irrefl] at this; cases this
      · exact hz'
    · intro hz
      rcases List.mem_cons.1 ((h z).2 (by simp [hz])) with e | hz'
      · subst e; have := hb'.1 z hz; rw [T.irrefl] at this; cases this
      · exact hz'
def sortG (lt : α → α → Bool) (l : List α) : List α := l.mergeSort fun x y => !(lt y x)
theorem sortG_le (T : LtT lt) (l : List α) : (sortG lt l).Pairwise fun a b => lt b a = false := by
  have h := List.pairwise_mergeSort (le := fun (x y : α) => !(lt y x)) (fun a b c h k => by
    simp only [Bool.not_eq_true'] at h k ⊢
    exact T.ntrans c b a k h) (fun a b => by
    cases e : lt b a with
    | false => simp
    | true => simp [T.asymm e]) l
  exact h.imp fun h => by simpa using h
theorem sortG_perm (l : List α) : (sortG lt l).Perm l := List.mergeSort_perm l _
theorem sortG_mem (l : List α) (x : α) : x ∈ sortG lt l ↔ x ∈ l := (sortG_perm l).mem_iff
theorem sortG_length (l : List α) : (sortG lt l).length = l.length := List.length_mergeSort l
theorem compactUpTo_strictG [Inhabited α] [DecidableEq α] (T : LtT lt) {ys : List α} (h : ys.Pairwise fun a b => lt b a = false) : ∀ m, m ≤ ys.length → StrictG lt (Lib.compactUpTo ys.toArray m) ∧ ∀ x, x ∈ Lib.compactUpTo ys.toArray m ↔ x ∈ ys.take m
  | 0, _ => ⟨List.Pairwise.nil, fun x => by simp [Lib.compactUpTo]⟩
  | m + 1, hm => by
    obtain ⟨h1, h2⟩ := compactUpTo_strictG T h m (by omega)
    have hget : ∀ i, (hi : i < ys.length) → ys.toArray[i]! = ys[i] := fun i hi => by simp [hi]
    have hlast : ys.take (m + 1) = ys.take m ++ [ys[m]'(by omega)] := by rw [List.take_succ_eq_append_getElem (by omega)]
    rw [Lib.compactUpTo_succ, hlast, hget m (by omega)]
    have hpw := List.pairwise_iff_getElem.1 h
    cases hk : Lib.keeps ys.toArray m with
    | true =>
      simp only [if_true]
      refine ⟨List.pairwise_append.2 ⟨h1, List.pairwise_singleton _ _, fun x hx y hy => ?_⟩, fun x => by rw [List.mem_append, List.mem_append, h2]⟩
      simp only [List.mem_singleton] at hy
      subst hy
      have hx' := (h2 x).1 hx
      obtain ⟨i, hi, he⟩ := List.getElem_of_mem hx'
      simp only [List.length_take] at hi
      simp only [List.getElem_take] at he
      have h0 : m ≠ 0 := by omega
      simp only [Lib.keeps, h0, false_or, decide_eq_true_eq, ne_eq] at hk
      rw [hget m (by omega), hget (m - 1) (by omega)] at hk
      have hle : lt (ys[m - 1]'(by omega)) x = false := by
        rw [← he]
        by_cases e : i = m - 1
        · subst e; exact T.irrefl _
        · exact hpw i (m - 1) (by omega) (by omega) (by omega)
      have h3 := hpw (m - 1) m (by omega) (by omega) (by omega)
      have h4 : lt (ys[m - 1]'(by omega)) (ys[m]'(by omega)) = true := by
        cases e : lt (ys[m - 1]'(by omega)) (ys[m]'(by omega)) with
        | true => rfl
        | false => exact absurd (T.tot _ _ h3 e) hk
      exact T.le_lt hle h4
    | false =>
      simp only [Bool.false_eq_true, if_false, List.append_nil]
      refine ⟨h1, fun x => ?_⟩
      rw [h2, List.mem_append]
      refine ⟨.inl, fun hx => hx.elim id fun hx => ?_⟩
      simp only [List.mem_singleton] at hx
      subst hx
      simp only [Lib.keeps, decide_eq_false_iff_not, not_or, ne_eq, Classical.not_not] at hk
      have h0 : m ≠ 0 := hk.1
      have he := hk.2
      rw [hget m (by omega), hget (m - 1) (by omega)] at he
      rw [he]
      have : ys[m - 1]'(by omega) = (ys.take m)[m - 1]'(by simp; omega) := by simp
      rw [this]
      exact List.getElem_mem _
/-- sorted, each once -/
def uniqG [Inhabited α] [DecidableEq α] (lt : α → α → Bool) (l : List α) : List α := Lib.compact (sortG lt l)
theorem uniqG_strict [Inhabited α] [DecidableEq α] (T : LtT lt) (l : List α) : StrictG lt (uniqG lt l) := (compactUpTo_strictG T (sortG_le T l) _ (Nat.le_refl _)).1
theorem uniqG_mem [Inhabited α] [DecidableEq α] (T : LtT lt) (l : List α) (x : α) : x ∈ uniqG lt l ↔ x ∈ l := by
  have := (compactUpTo_strictG T (sortG_le T l) _ (Nat.le_refl _)).2 x
  rw [List.take_length, sortG_mem] at this
  exact this
end
end Go.Proofs.YtlonpmajnglmoaaGreatDoor


 /- A graph of actions, plainly. -/
namespace Go.Proofs.YtlonpmajnglmoaaGreatDoor
open Go Go.RowKit
abbrev TL := List (List UInt8)
abbrev GAct := Int × TL × TL × List UInt8
abbrev MK := List (List UInt8 × Int)
def az : GAct := (0, [], [], [])
theorem clone_M {s : TL} {K : TL → Prop} (hs : s.length ≤ 1000000000) (h : K s) : M_slices_Clone_string_string s K := by
  intro _
  exact ⟨fun e => e ▸ h, by simp only [List.length_nil]; omega, by rw [List.nil_append]; exact h⟩
theorem cloneI_M {s : List Int} {K : List Int → Prop} (hs : s.length ≤ 1000000000) (h : K s) : M_slices_Clone_int_int s K := by
  intro _
  exact ⟨fun e => e ▸ h, by simp only [List.length_nil]; omega, by rw [List.nil_append]; exact h⟩
theorem gtexts_M {l : TL} {K : TL → Prop} (hl : l.length ≤ 1000000000) (h : K l) : M_smithyref_Texts l K := by
  intro _
  refine ⟨by omega, fun out i => 0 ≤ i ∧ i ≤ l.length ∧ out = l.take i.toNat, fun _ i => l.length - i.toNat, ⟨by omega, by omega, by simp⟩, fun out i ⟨h0, h1, h2⟩ => ⟨fun hlt => ⟨by omega, ?_, by simp only [In]; omega, ⟨by omega, by omega, ?_⟩, by (try dsimp only); omega⟩, fun hge => ?_⟩⟩
  · subst h2
    simp only [List.length_take, List.length_cons, List.length_nil]
    omega
  · subst h2
    rw [show (i + 1).toNat = i.toNat + 1 by omega, List.take_succ_eq_append_getElem (by omega)]
    simp [List.getD, show i.toNat < l.length by omega]
  · have : i.toNat = l.length := by omega
    rw [h2, this, List.take_length]
    exact h
theorem sameInts_M {a b : List Int} {K : Bool → Prop} (ha : a.length ≤ 1000000000) (h : K (decide (a = b))) : M_smithyref_SameInts a b K := by
  intro _ _
  refine ⟨fun hne => ?_, fun he => ?_⟩
  · have : a ≠ b := fun e => hne (by rw [e])
    rwa [decide_eq_false this] at h
  · refine ⟨fun i => 0 ≤ i ∧ i ≤ a.length ∧ ∀ j, j < i.toNat → a.getD j 0 = b.getD j 0, fun i => a.length - i.toNat, ⟨by omega, by omega, by intro j hj; simp at hj⟩, fun i ⟨h0, h1, h2⟩ => ⟨fun hlt => ⟨by omega, by omega, fun hne => ?_, fun heq => ⟨by simp only [In]; omega, ⟨by omega, by omega, fun j hj => ?_⟩, by (try dsimp only); omega⟩⟩, fun hge => ?_⟩⟩
    · have : a ≠ b := fun e => hne (by rw [e])
      rwa [decide_eq_false this] at h
    · by_cases e : j = i.toNat
      · rw [e]; exact heq
      · exact h2 j (by omega)
    · have e : a = b := List.ext_getElem (by omega) fun j h3 h4 => by
        have := h2 j (by omega)
        simpa [List.getD, h3, h4] using this
      rw [decide_eq_true e] at h
      exact h
theorem copied_M {t : Int} {a i : TL} {o : List UInt8} {K : Int → TL → TL → List UInt8 → Prop} (ha : a.length ≤ 1000000) (hi : i.length ≤ 1000000) (h : K t a i o) : M_graph_copied t a i o K := by
  intro _ _
  exact clone_M (by omega) (clone_M (by omega) h)
/-! ### fits -/
def inval (xs : TL) : Bool := xs.any fun s => !validB s
theorem any_take {α : Type} {p : α → Bool} {xs : List α} {d : α} (h : ∀ j, j < xs.length → p (xs.getD j d) = false) : xs.any p = false := by
  rw [List.any_eq_false]
  intro x hx
  obtain ⟨j, hj, rfl⟩ := List.getElem_of_mem hx
  have := h j hj
  simp only [List.getD, List.getElem?_eq_getElem hj, Option.getD_some] at this
  simp [this]
theorem getD_mem2 {α : Type} {l : List α} {k : Nat} {d : α} (h : k < l.length) : l.getD k d ∈ l := by simp [List.getD, h]
theorem contF_M {xs : TL} {K : Bool → Prop} (hl : xs.length ≤ 1000000) (hx : ∀ s ∈ xs, s.length ≤ 4000000000) (h : K (inval xs)) : M_slices_ContainsFunc_string_string_pgraph_Graph_fits_1 xs K := by
  intro _ _
  refine ⟨fun i => 0 ≤ i ∧ i ≤ xs.length ∧ ∀ j, j < i.toNat → (!validB (xs.getD j [])) = false, fun i => xs.length - i.toNat, ⟨by omega, by omega, by intro j hj; simp at hj⟩, fun i ⟨a0, a1, a2⟩ => ⟨fun hlt => ⟨⟨a0, hlt⟩, valid_M (hx _ (getD_mem2 (by omega))) ⟨fun ht => ?_, fun hf => ⟨by simp only [In]; omega, ⟨by omega, by omega, fun j hj => ?_⟩, by (try dsimp only); omega⟩⟩⟩, fun hge => ?_⟩⟩
  · have : inval xs = true := List.any_eq_true.2 ⟨_, getD_mem2 (by omega), ht⟩
    rw [this] at h
    show K (decide (0 ≤ i))
    rw [decide_eq_true a0]; exact h
  · by_cases e : j = i.toNat
    · rw [e]; exact hf
    · exact a2 j (by omega)
  · have : inval xs = false := any_take (d := []) fun j hj => a2 j (by omega)
    rw [this] at h
    exact h
def fitsP (mk : MK) (a : GAct) : Er :=
  if a.1 < 1 ∨ 5 < a.1 then .e 10 else if validB a.2.2.2 = false ∨ inval a.2.2.1 = true then .e 11 else if (mget mk a.2.2.2).isSome = true then .e 6 else .ok
theorem fits_M {gl : List GAct} {mk : MK} {gb ga : List (List Int)} {a : GAct} {K : Er → Prop} (hi : a.2.2.1.length ≤ 1000000) (hx : ∀ s ∈ a.2.2.1, s.length ≤ 4000000000) (ho : a.2.2.2.length ≤ 4000000000) (h : K (fitsP mk a)) : M_pgraph_Graph_fits gl mk gb ga a.1 a.2.1 a.2.2.1 a.2.2.2 K := by
  intro _ _ _ _ _
  unfold fitsP at h
  refine ⟨fun hb => ?_, fun hb => ?_⟩
  · have : a.1 < 1 ∨ 5 < a.1 := by simpa using hb
    rwa [if_pos this] at h
  · have : ¬ (a.1 < 1 ∨ 5 < a.1) := fun hn => by
      rw [Bool.or_eq_false_iff, decide_eq_false_iff_not, decide_eq_false_iff_not] at hb
      exact hn.elim hb.1 hb.2
    rw [if_neg this] at h
    refine valid_M ho ⟨fun b => b = decide (validB a.2.2.2 = false ∨ inval a.2.2.1 = true), ⟨fun hv => ?_, fun hv => contF_M hi hx ?_⟩, fun q hq => ⟨fun ht => ?_, fun hf => ⟨by unfold maxLen; omega, fun hs => ?_, fun hs => ?_⟩⟩⟩
    · have : validB a.2.2.2 = false := by simpa using hv
      rw [decide_eq_true (.inl this)]
    · have hv' : validB a.2.2.2 = true := by simpa using hv
      cases hin : inval a.2.2.1 <;> simp [hv']
    · rw [hq, decide_eq_true_eq] at ht
      rwa [if_pos ht] at h
    · rw [hq, decide_eq_false_iff_not] at hf
      rwa [if_neg hf, if_pos hs] at h
    · rw [hq, decide_eq_false_iff_not] at hf
      rwa [if_neg hf, if_neg (by rw [hs]; simp)] at h
def manyA (a : GAct) : Bool := decide ((1000 : Int) < (a.2.2.1.length : Int)) || decide ((1000 : Int) < (a.2.1.length : Int))
theorem contA_M {l : List GAct} {K : Bool → Prop} (hl : l.length ≤ 1000000) (h : K (l.any manyA)) : M_slices_ContainsFunc_api_Action_api_Action_graph_New_1 l K := by
  intro _ _
  refine ⟨fun i => 0 ≤ i ∧ i ≤ l.length ∧ ∀ j, j < i.toNat → manyA (l.getD j az) = false, fun i => l.length - i.toNat, ⟨by omega, by omega, by intro j hj; simp at hj⟩, fun i ⟨a0, a1, a2⟩ => ⟨fun hlt => ⟨⟨a0, hlt⟩, fun _ _ => ⟨fun ht => ?_, fun hf => ⟨by simp only [In]; omega, ⟨by omega, by omega, fun j hj => ?_⟩, by (try dsimp only); omega⟩⟩⟩, fun hge => ?_⟩⟩
  · have : l.any manyA = true := List.any_eq_true.2 ⟨_, getD_mem2 (d := az) (by omega), ht⟩
    rw [this] at h
    show K (decide (0 ≤ i))
    rw [decide_eq_true a0]; exact h
  · by_cases e : j = i.toNat
    · rw [e]; exact hf
    · exact a2 j (by omega)
  · have : l.any manyA = false := any_take (d := az) fun j hj => a2 j (by omega)
    rw [this] at h
    exact h
/-! ### what is reached -/
theorem getD_setG {α : Type} {l : List α} {i j : Nat} {x d : α} (hi : i < l.length) : (l.set i x).getD j d = if i = j then x else l.getD j d := by
  simp only [List.getD, List.getElem?_set]
  by_cases e : i = j
  · subst e; simp [hi]
  · simp [e]
inductive Rch (bef : List (List Int)) (fr : List Int) : Int → Prop
  | base {k : Int} : k ∈ fr → Rch bef fr k
  | step {j k : Int} : Rch bef fr j → k ∈ bef.getD j.toNat [] → Rch bef fr k
def unm (bef : List (List Int)) (met : List Bool) : Nat → Nat
  | 0 => 0
  | m + 1 => unm bef met m + if met.getD m false = true then 0 else (bef.getD m []).length
def tot (bef : List (List Int)) : Nat → Nat
  | 0 => 0
  | m + 1 => tot bef m + (bef.getD m []).length
theorem unm_le (bef : List (List Int)) (met : List Bool) : ∀ m, unm bef met m ≤ tot bef m
  | 0 => Nat.le_refl _
  | m + 1 => by
    have := unm_le bef met m
    unfold unm tot
    split <;> omega
theorem unm_set (bef : List (List Int)) {met : List Bool} {k : Nat} (hk : k < met.length) (hf : met.getD k false = false) : ∀ m, m ≤ met.length → unm bef (met.set k true) m + (if k < m then (bef.getD k []).length else 0) = unm bef met m
  | 0, _ => by rw [if_neg (Nat.not_lt_zero _)]; rfl
  | m + 1, h => by
    have ih := unm_set bef hk hf m (by omega)
    unfold unm
    rw [getD_setG hk]
    by_cases e : k = m
    · subst e
      rw [if_neg (Nat.lt_irrefl _)] at ih
      rw [if_pos rfl, if_pos rfl, if_pos (by omega), hf]
      simp only [Bool.false_eq_true, if_false]
      omega
    · rw [if_neg e]
      generalize (if met.getD m false = true then 0 else (bef.getD m []).length) = z
      by_cases h2 : k < m
      · have h3 : k < m + 1 := by omega
        rw [if_pos h2] at ih
        rw [if_pos h3]; omega
      · have h3 : ¬ k < m + 1 := by omega
        rw [if_neg h2] at ih
        rw [if_neg h3]; omega
theorem reach_M {gl : List GAct} {mk : MK} {bef ga : List (List Int)} {fr : List Int} {K : List Bool → Prop} (hn : gl.length ≤ 1000000) (hb : bef.length = gl.length) (hr : ∀ j, j < bef.length → ∀ k ∈ bef.getD j [], 0 ≤ k ∧ k < gl.length) (hf : ∀ k ∈ fr, 0 ≤ k ∧ k < (gl.length : Int)) (hs : fr.length + tot bef gl.length ≤ 100000000)
    (h : ∀ met : List Bool, met.length = gl.length → (∀ k : Nat, k < gl.length → (met.getD k false = true ↔ Rch bef fr k)) → K met) : M_pgraph_Graph_reach gl mk bef ga fr K := by
  intro _ _ _ _
  refine ⟨⟨by omega, by omega, by omega⟩, cloneI_M (by omega) ?_⟩
  refine ⟨fun work met => met.length = gl.length ∧ (∀ k ∈ work, Rch bef fr k ∧ 0 ≤ k ∧ k < (gl.length : Int)) ∧ (∀ k : Nat, k < gl.length → met.getD k false = true → Rch bef fr k) ∧ (∀ f ∈ fr, f ∈ work ∨ met.getD f.toNat false = true) ∧ (∀ k : Nat, k < gl.length → met.getD k false = true → ∀ j ∈ bef.getD k [], j ∈ work ∨ met.getD j.toNat false = true) ∧ work.length + unm bef met gl.length ≤ fr.length + tot bef gl.length, fun work met => work.length + unm bef met gl.length, ⟨by simp, fun k hk => ⟨.base hk, hf k hk⟩, fun k hk hm => ?_, fun f hf => .inl hf, fun k hk hm => ?_, ?_⟩, fun work met ⟨a0, a1, a2, a3, a4, a5⟩ _ => ⟨fun hpos => ?_, fun hz => ?_⟩⟩
  · simp [List.getD, List.getElem?_replicate, hk] at hm
  · simp [List.getD, List.getElem?_replicate, hk] at hm
  · have := unm_le bef (List.replicate (gl.length : Int).toNat false) gl.length
    omega
  · have hne : work ≠ [] := fun e => by rw [e] at hpos; simp at hpos
    obtain ⟨w', k, rfl⟩ : ∃ w' k, work = w' ++ [k] := ⟨work.dropLast, work.getLast hne, (List.dropLast_concat_getLast hne).symm⟩
    have hwl : (w' ++ [k]).length = w'.length + 1 := by simp
    have ht : (((w' ++ [k]).length : Int) - 1).toNat = w'.length := by omega
    have hg : (w' ++ [k]).getD w'.length 0 = k := by simp [List.getD]
    have htk : (w' ++ [k]).take w'.length = w' := List.take_left' rfl
    obtain ⟨k1, k2, k3⟩ := a1 k (by simp)
    have hkn : k.toNat < gl.length := by omega
    have hkk : ((k.toNat : Nat) : Int) = k := by omega
    have hnn : ((gl.length : Int).toNat : Int) = gl.length := by omega
    rw [ht, hg, htk]
    refine ⟨by simp only [In]; omega, ⟨by omega, by omega⟩, by simp only [In]; omega, ⟨by omega, by omega⟩, ⟨k2, by omega⟩, fun hm => ?_, fun hm => ?_⟩
    · have hm' : met.getD k.toNat false = false := by simpa using hm
      have hu := unm_set bef (met := met) (by omega) hm' gl.length (by omega)
      rw [if_pos hkn] at hu
      refine ⟨⟨k2, by omega⟩, ⟨k2, by omega⟩, by omega, ⟨by rw [List.length_set, a0], fun j hj => ?_, fun j hj hmj => ?_, fun f hf => ?_, fun j hj hmj x hx => ?_, by rw [List.length_append]; omega⟩, by (try dsimp only); rw [List.length_append]; omega⟩
      · rcases List.mem_append.1 hj with hj | hj
        · exact a1 j (List.mem_append_left _ hj)
        · exact ⟨.step k1 hj, hr _ (by omega) j hj⟩
      · rw [getD_setG (by omega)] at hmj
        by_cases e : k.toNat = j
        · rw [← e, hkk]; exact k1
        · rw [if_neg e] at hmj; exact a2 j hj hmj
      · rcases a3 f hf with hf' | hf'
        · rcases List.mem_append.1 hf' with hf' | hf'
          · exact .inl (List.mem_append_left _ hf')
          · right
            rw [List.mem_singleton.1 hf', getD_setG (by omega), if_pos rfl]
        · right
          rw [getD_setG (by omega)]
          split
          · rfl
          · exact hf'
      · rw [getD_setG (by omega)] at hmj
        by_cases e : k.toNat = j
        · rw [← e] at hx
          exact .inl (List.mem_append_right _ hx)
        · rw [if_neg e] at hmj
          rcases a4 j hj hmj x hx with hx' | hx'
          · rcases List.mem_append.1 hx' with hx' | hx'
            · exact .inl (List.mem_append_left _ hx')
            · right
              rw [List.mem_singleton.1 hx', getD_setG (by omega), if_pos rfl]
          · right
            rw [getD_setG (by omega)]
            split
            · rfl
            · exact hx'
    · have hm' : met.getD k.toNat false = true := by simpa using hm
      refine ⟨⟨a0, fun j hj => a1 j (List.mem_append_left _ hj), a2, fun f hf => ?_, fun j hj hmj x hx => ?_, by omega⟩, by (try dsimp only); omega⟩
      · rcases a3 f hf with hf' | hf'
        · rcases List.mem_append.1 hf' with hf' | hf'
          · exact .inl hf'
          · right; rw [List.mem_singleton.1 hf']; exact hm'
        · exact .inr hf'
      · rcases a4 j hj hmj x hx with hx' | hx'
        · rcases List.mem_append.1 hx' with hx' | hx'
          · exact .inl hx'
          · right; rw [List.mem_singleton.1 hx']; exact hm'
        · exact .inr hx'
  · have hw : work = [] := List.eq_nil_of_length_eq_zero (by omega)
    subst hw
    have hin : ∀ k, Rch bef fr k → 0 ≤ k ∧ k < (gl.length : Int) ∧ met.getD k.toNat false = true := fun k hk => by
      induction hk with
      | base hf' => 
        obtain ⟨h1, h2⟩ := hf _ hf'
        exact ⟨h1, h2, (a3 _ hf').resolve_left (by simp)⟩
      | step _ hj ih =>
        obtain ⟨i1, i2, i3⟩ := ih
        obtain ⟨h1, h2⟩ := hr _ (by omega) _ hj
        exact ⟨h1, h2, (a4 _ (by omega) i3 _ hj).resolve_left (by simp)⟩
    exact h met a0 fun k hk => ⟨fun hm => a2 k hk hm, fun hR => by have := (hin _ hR).2.2; simpa using this⟩
end Go.Proofs.YtlonpmajnglmoaaGreatDoor


 /- A graph of actions, plainly: made, and asked. -/
namespace Go.Proofs.YtlonpmajnglmoaaGreatDoor
open Go Go.RowKit
def ltI (a b : Int) : Bool := decide (a < b)
theorem ltI_T : LtT ltI := ⟨fun x => by simp [ltI], fun x y z h k => by simp [ltI] at *; omega, fun x y h k => by simp [ltI] at *; omega⟩
theorem sortI_eq (xs : List Int) : (xs.mergeSort fun x y => decide (x ≤ y)) = sortG ltI xs := by
  unfold sortG ltI
  congr 1
  funext x y
  rw [Bool.eq_iff_iff]
  simp
theorem uniqG_len {xs : List Int} : (uniqG ltI xs).length ≤ xs.length := by
  unfold uniqG Lib.compact
  have h := compactUpTo_len (sortG ltI xs).toArray (sortG ltI xs).length
  have h2 := sortG_length (lt := ltI) xs
  omega
def mkP (l : List GAct) : Nat → MK
  | 0 => []
  | i + 1 => mput (mkP l i) (l.getD i az).2.2.2 (i : Int)
def fitsAt (l : List GAct) (i : Nat) : Er := fitsP (mkP l i) (l.getD i az)
def befA (mk : MK) (inp : TL) : List Int := uniqG ltI (inp.filterMap (mget mk))
def bsP (l : List GAct) (i : Nat) : List Int := befA (mkP l l.length) (l.getD i az).2.2.1
def befL (l : List GAct) (m : Nat) : List (List Int) := (List.range m).map (bsP l)
def aftK (l : List GAct) (i k : Nat) : List Int := ((List.range i).filter fun j => decide ((k : Int) ∈ bsP l j)).map fun (j : Nat) => (j : Int)
def aftL (l : List GAct) (i : Nat) : List (List Int) := (List.range l.length).map (aftK l i)
theorem rng_getD {β : Type} {f : Nat → β} {n k : Nat} {d : β} (h : k < n) : ((List.range n).map f).getD k d = f k := by simp [List.getD, h]
theorem rng_set {β : Type} {f : Nat → β} {n k : Nat} {v : β} : ((List.range n).map f).set k v = (List.range n).map fun j => if k = j then v else f j := by
  refine List.ext_getElem (by simp) fun i h1 h2 => ?_
  simp only [List.getElem_set, List.getElem_map, List.getElem_range]
theorem mkP_succ (l : List GAct) (i : Nat) : mkP l (i + 1) = mput (mkP l i) (l.getD i az).2.2.2 (i : Int) := rfl
theorem mkP_len (l : List GAct) : ∀ i, (mkP l i).length ≤ i
  | 0 => Nat.le_refl _
  | i + 1 => by
    have := mkP_len l i
    unfold mkP
    rw [mput_len]; split <;> omega
theorem mkP_val {l : List GAct} {s : List UInt8} {v : Int} : ∀ {i : Nat}, mget (mkP l i) s = some v → ∃ j, j < i ∧ v = (j : Int) ∧ (l.getD j az).2.2.2 = s
  | 0, h => by simp [mkP, mget] at h
  | i + 1, h => by
    unfold mkP at h
    rw [mget_mput] at h
    split at h
    · rename_i e
      simp only [Option.some.injEq] at h
      exact ⟨i, by omega, h.symm, e⟩
    · obtain ⟨j, h1, h2, h3⟩ := mkP_val h
      exact ⟨j, by omega, h2, h3⟩
theorem bsP_mem {l : List GAct} {i : Nat} {k : Int} : k ∈ bsP l i ↔ ∃ s ∈ (l.getD i az).2.2.1, mget (mkP l l.length) s = some k := by
  unfold bsP befA
  rw [uniqG_mem ltI_T, List.mem_filterMap]
theorem bsP_in {l : List GAct} {i : Nat} {k : Int} (h : k ∈ bsP l i) : 0 ≤ k ∧ k < (l.length : Int) := by
  obtain ⟨s, _, hs⟩ := bsP_mem.1 h
  obtain ⟨j, h1, h2, _⟩ := mkP_val hs
  omega
theorem bsP_nodup (l : List GAct) (i : Nat) : (bsP l i).Nodup := StrictG.nodup ltI_T (uniqG_strict ltI_T _)
theorem bsP_len (l : List GAct) (i : Nat) : (bsP l i).length ≤ (l.getD i az).2.2.1.length := Nat.le_trans uniqG_len (List.length_filterMap_le _ _)
theorem tot_le {bef : List (List Int)} {c : Nat} (h : ∀ j, (bef.getD j []).length ≤ c) : ∀ m, tot bef m ≤ c * m
  | 0 => by simp [tot]
  | m + 1 => by
    have h1 := tot_le h m
    have h2 := h m
    unfold tot
    rw [Nat.mul_succ]; omega
theorem befL_getD {l : List GAct} {m j : Nat} : (befL l m).getD j [] = if j < m then bsP l j else [] := by
  unfold befL
  split
  · rename_i h; exact rng_getD h
  · rename_i h
    simp [List.getD, h]
theorem aftK_succ (l : List GAct) (i k : Nat) : aftK l (i + 1) k = aftK l i k ++ if (k : Int) ∈ bsP l i then [(i : Int)] else [] := by
  unfold aftK
  rw [List.range_succ, List.filter_append, List.map_append]
  congr 1
  rw [List.filter_cons, List.filter_nil]
  by_cases h : (k : Int) ∈ bsP l i
  · rw [if_pos h, if_pos (decide_eq_true h)]; rfl
  · rw [if_neg h, if_neg (by simpa using h)]; rfl
theorem aftK_len (l : List GAct) (i k : Nat) : (aftK l i k).length ≤ i := by
  unfold aftK
  rw [List.length_map]
  exact Nat.le_trans (List.length_filter_le _ _) (by simp)
theorem fitsP_cases (mk : MK) (a : GAct) : fitsP mk a = .ok ∨ ∃ n, fitsP mk a = .e n := by
  unfold fitsP
  split
  · exact .inr ⟨_, rfl⟩
  · split
    · exact .inr ⟨_, rfl⟩
    · split
      · exact .inr ⟨_, rfl⟩
      · exact .inl rfl
theorem take_succ_getD {α : Type} {xs : List α} {t : Nat} (d : α) (h : t < xs.length) : xs.take (t + 1) = xs.take t ++ [xs.getD t d] := by
  rw [List.take_succ_eq_append_getElem h]
  simp [List.getD, h]
theorem new_M {l : List GAct} {K0 : Er → Prop} {K : List GAct → MK → List (List Int) → List (List Int) → Er → Prop} (hl : l.length ≤ 1000000) (hsz : ∀ a ∈ l, (∀ s ∈ a.2.2.1, s.length ≤ 4000000000) ∧ a.2.2.2.length ≤ 4000000000)
    (hmany : 1000 < l.length ∨ l.any manyA = true → K0 (.e 9))
    (hfit : l.length ≤ 1000 → l.any manyA = false → ∀ i n, i < l.length → (∀ j, j < i → fitsAt l j = .ok) → fitsAt l i = .e n → K0 (.at_ i n))
    (hcyc : l.length ≤ 1000 → l.any manyA = false → (∀ j, j < l.length → fitsAt l j = .ok) → ∀ i, i < l.length → (∀ j, j < i → ¬ Rch (befL l l.length) (bsP l j) (j : Int)) → Rch (befL l l.length) (bsP l i) (i : Int) → K0 (.at_ i 4))
    (hok : l.length ≤ 1000 → l.any manyA = false → (∀ j, j < l.length → fitsAt l j = .ok) → (∀ j, j < l.length → ¬ Rch (befL l l.length) (bsP l j) (j : Int)) → K l (mkP l l.length) (befL l l.length) (aftL l l.length) .ok) : M_graph_New l K0 K := by
  intro _
  refine ⟨fun b => b = (decide ((1000 : Int) < (l.length : Int)) || l.any manyA), ⟨fun h => by rw [h]; rfl, fun h => contA_M (by omega) (by rw [h]; rfl)⟩, fun q hq => ⟨fun ht => hmany ?_, fun hf => ?_⟩⟩
  · rw [hq, Bool.or_eq_true, decide_eq_true_eq] at ht
    exact ht.imp (fun h => by omega) id
  rw [hq, Bool.or_eq_false_iff, decide_eq_false_iff_not] at hf
  have hl1 : l.length ≤ 1000 := by omega
  have hm := hf.2
  have hfit := hfit hl1 hm
  have hcyc := hcyc hl1 hm
  have hok := hok hl1 hm
  have hge : ∀ i, i < l.length → (∀ s ∈ (l.getD i az).2.2.1, s.length ≤ 4000000000) ∧ (l.getD i az).2.2.2.length ≤ 4000000000 ∧ (l.getD i az).2.2.1.length ≤ 1000 ∧ (l.getD i az).2.1.length ≤ 1000 := fun i hi => by
    have h1 := hsz _ (getD_mem2 (d := az) hi)
    have h2 := List.any_eq_false.1 hm _ (getD_mem2 (d := az) hi)
    have h3 : manyA (l.getD i az) = false := by simpa using h2
    unfold manyA at h3
    rw [Bool.or_eq_false_iff, decide_eq_false_iff_not, decide_eq_false_iff_not] at h3
    exact ⟨h1.1, h1.2, by omega, by omega⟩
  clear hf hm hmany hq
  refine ⟨fun i l' mk => 0 ≤ i ∧ i ≤ l.length ∧ l' = l.take i.toNat ∧ mk = mkP l i.toNat ∧ ∀ j, j < i.toNat → fitsAt l j = .ok, fun i _ _ => l.length - i.toNat, ⟨by omega, by omega, rfl, rfl, fun j hj => by simp at hj⟩, fun i l' mk ⟨a0, a1, a2, a3, a4⟩ => ⟨fun hlt => ?_, fun hge2 => ?_⟩⟩
  · have hi : i.toNat < l.length := by omega
    obtain ⟨g1, g2, g3, g4⟩ := hge _ hi
    have hii : (i.toNat : Int) = i := by omega
    have hml := mkP_len l i.toNat
    refine ⟨⟨a0, hlt⟩, fits_M (a := l.getD i.toNat az) (by omega) g1 g2 ⟨fun hne => ?_, fun he => ⟨⟨by unfold maxLen; exact Nat.le_trans g2 (by omega), by unfold maxLen; rw [a3]; omega⟩, copied_M (by show (l.getD i.toNat az).2.1.length ≤ _; omega) (by show (l.getD i.toNat az).2.2.1.length ≤ _; omega) ⟨?_, by simp only [In]; omega, ⟨by omega, by omega, ?_, ?_, fun j hj => ?_⟩, by (try dsimp only); omega⟩⟩⟩⟩
    · rw [a3] at hne
      rcases fitsP_cases (mkP l i.toNat) (l.getD i.toNat az) with h | ⟨n, h⟩
      · exact absurd h hne
      · refine ⟨n, by rw [a3]; exact h, ?_⟩
        have := hfit i.toNat n hi a4 h
        rwa [hii] at this
    · rw [a2, List.length_take, List.length_singleton]; omega
    · rw [show (i + 1).toNat = i.toNat + 1 by omega, List.take_succ_eq_append_getElem hi, a2]
      have : l.getD i.toNat az = l[i.toNat] := by simp [List.getD, hi]
      show l.take i.toNat ++ [l.getD i.toNat az] = _
      rw [this]
    · rw [show (i + 1).toNat = i.toNat + 1 by omega, a3]
      rw [mkP_succ, hii]; rfl
    · by_cases e : j = i.toNat
      · rw [e]; rw [a3] at he; exact he
      · exact a4 j (by omega)
  · obtain rfl : i = l.length := by omega
    have e1 : l' = l := by rw [a2]; simp
    have e2 : mk = mkP l l.length := by rw [a3]; simp
    have hfits : ∀ j, j < l.length → fitsAt l j = .ok := fun j hj => a4 j (by omega)
    rw [e1, e2]
    clear a0 a1 a2 a3 a4 e1 e2 hge2 hfit
    have hnn : ((l.length : Nat) : Int).toNat = l.length := by omega
    have hbin : ∀ i, i < l.length → (bsP l i).length ≤ 1000 := fun i hi => Nat.le_trans (bsP_len l i) (hge i hi).2.2.1
    rw [hnn]
    refine ⟨⟨by omega, by omega, by omega⟩, fun i bef aft => 0 ≤ i ∧ i ≤ l.length ∧ bef = befL l i.toNat ∧ aft = aftL l i.toNat, fun i _ _ => l.length - i.toNat, ⟨by omega, by omega, rfl, ?_⟩, fun i bef aft ⟨a0, a1, a2, a3⟩ => ⟨fun hlt => ?_, fun hge2 => ?_⟩⟩
    · unfold aftL
      refine List.ext_getElem (by simp) fun k h1 h2 => ?_
      simp [aftK]
    · have hi : i.toNat < l.length := by omega
      have hii : (i.toNat : Int) = i := by omega
      obtain ⟨g1, g2, g3, g4⟩ := hge _ hi
      refine ⟨⟨a0, hlt⟩, ?_⟩
      show Lp2 (fun before t84 kont3 => ((t84 < ((l.getD i.toNat az).2.2.1.length : Int) → _) ∧ _)) _ _
      refine ⟨fun before t => 0 ≤ t ∧ t ≤ (l.getD i.toNat az).2.2.1.length ∧ before = ((l.getD i.toNat az).2.2.1.take t.toNat).filterMap (mget (mkP l l.length)), fun _ t => (l.getD i.toNat az).2.2.1.length - t.toNat, ⟨by omega, by omega, rfl⟩, fun before t ⟨b0, b1, b2⟩ => ⟨fun hlt2 => ?_, fun hge3 => ?_⟩⟩
      · have ht : t.toNat < (l.getD i.toNat az).2.2.1.length := by omega
        have hsl := g1 _ (getD_mem2 (d := []) ht)
        have hbl : before.length ≤ 1000 := by
          rw [b2]
          exact Nat.le_trans (List.length_filterMap_le _ _) (by rw [List.length_take]; omega)
        have htk : (l.getD i.toNat az).2.2.1.take (t + 1).toNat = (l.getD i.toNat az).2.2.1.take t.toNat ++ [(l.getD i.toNat az).2.2.1.getD t.toNat []] := by
          rw [show (t + 1).toNat = t.toNat + 1 by omega]
          exact take_succ_getD [] ht
        refine ⟨fun b2' => b2' = ((l.getD i.toNat az).2.2.1.take (t + 1).toNat).filterMap (mget (mkP l l.length)), ⟨⟨b0, hlt2⟩, by unfold maxLen; exact Nat.le_trans hsl (by omega), fun hs => ⟨by rw [List.length_singleton]; omega, ?_⟩, fun hs => ?_⟩, fun b2' hb => ⟨by simp only [In]; omega, ⟨by omega, by omega, hb⟩, by (try dsimp only); omega⟩⟩
        · obtain ⟨v, hv⟩ := Option.isSome_iff_exists.1 hs
          rw [htk, List.filterMap_append, ← b2]
          show _ = before ++ [(l.getD i.toNat az).2.2.1.getD t.toNat []].filterMap (mget (mkP l l.length))
          have hv' : mget (mkP l l.length) ((l.getD i.toNat az).2.2.1.getD t.toNat []) = some v := hv
          rw [List.filterMap_cons, hv']
          show before ++ [(mget (mkP l l.length) ((l.getD i.toNat az).2.2.1.getD t.toNat [])).getD 0] = _
          rw [hv']; rfl
        · have hn : mget (mkP l l.length) ((l.getD i.toNat az).2.2.1.getD t.toNat []) = none := by
            have : (mget (mkP l l.length) ((l.getD i.toNat az).2.2.1.getD t.toNat [])).isSome = false := hs
            simpa using this
          rw [htk, List.filterMap_append, ← b2, List.filterMap_cons, hn]
          simp
      · have hge3' : ¬ t < ((l.getD i.toNat az).2.2.1.length : Int) := hge3
        have ht : t.toNat = (l.getD i.toNat az).2.2.1.length := by omega
        rw [ht, List.take_length] at b2
        have hbl : before.length ≤ 1000 := by
          rw [b2]
          exact Nat.le_trans (List.length_filterMap_le _ _) g3
        refine ⟨by omega, ?_⟩
        rw [sortI_eq]
        have hbs : Lib.compact (sortG ltI before) = bsP l i.toNat := by rw [b2]; rfl
        have hbsl := hbin _ hi
        show _ ∧ _
        rw [hbs]
        refine ⟨by rw [a2]; unfold befL; rw [List.length_map, List.length_range, List.length_singleton]; omega, ?_⟩
        refine ⟨fun t aft2 => 0 ≤ t ∧ t ≤ (bsP l i.toNat).length ∧ aft2 = (List.range l.length).map fun k => aftK l i.toNat k ++ (if (k : Int) ∈ (bsP l i.toNat).take t.toNat then [i] else []), fun t _ => (bsP l i.toNat).length - t.toNat, ⟨by omega, by omega, ?_⟩, fun t aft2 ⟨c0, c1, c2⟩ => ⟨fun hlt3 => ?_, fun hge4 => ?_⟩⟩
        · rw [a3]; unfold aftL; simp
        · have ht2 : t.toNat < (bsP l i.toNat).length := by omega
          have he := bsP_in (getD_mem2 (d := 0) ht2)
          have hel : (bsP l i.toNat).getD t.toNat 0 = (bsP l i.toNat)[t.toNat] := by simp [List.getD, ht2]
          generalize hx : (bsP l i.toNat).getD t.toNat 0 = x at he
          have hxk : x.toNat < l.length := by omega
          have hxx : ((x.toNat : Nat) : Int) = x := by omega
          have hnd := bsP_nodup l i.toNat
          have htk : (bsP l i.toNat).take (t + 1).toNat = (bsP l i.toNat).take t.toNat ++ [x] := by
            rw [show (t + 1).toNat = t.toNat + 1 by omega, List.take_succ_eq_append_getElem ht2, ← hel, hx]
          have hnot : x ∉ (bsP l i.toNat).take t.toNat := fun hm => by
            have : ((bsP l i.toNat).take (t + 1).toNat).Nodup := hnd.sublist (List.take_sublist _ _)
            rw [htk, List.nodup_append] at this
            exact this.2.2 x hm x (by simp) rfl
          have hal : aft2.length = l.length := by rw [c2, List.length_map, List.length_range]
          have hgx : aft2.getD x.toNat [] = aftK l i.toNat x.toNat := by
            rw [c2, rng_getD hxk, hxx, if_neg hnot, List.append_nil]
          have hkl := aftK_len l i.toNat x.toNat
          rw [hgx]
          refine ⟨⟨c0, hlt3⟩, ⟨he.1, by omega⟩, by rw [List.length_singleton]; omega, ⟨he.1, by omega⟩, by simp only [In]; omega, ⟨by omega, by omega, ?_⟩, by (try dsimp only); omega⟩
          rw [c2, rng_set, htk]
          refine List.map_congr_left fun k _ => ?_
          by_cases e : x.toNat = k
          · subst e
            rw [if_pos rfl, hxx, if_pos (by simp)]
          · rw [if_neg e]
            have : ((k : Int) ∈ (bsP l i.toNat).take t.toNat ++ [x]) ↔ (k : Int) ∈ (bsP l i.toNat).take t.toNat := by
              rw [List.mem_append, List.mem_singleton]
              exact ⟨fun h => h.resolve_right (fun e2 => e (by omega)), .inl⟩
            simp only [this]
        · have ht2 : t.toNat = (bsP l i.toNat).length := by omega
          rw [ht2, List.take_length] at c2
          refine ⟨by simp only [In]; omega, ⟨by omega, by omega, ?_, ?_⟩, by (try dsimp only); omega⟩
          · rw [show (i + 1).toNat = i.toNat + 1 by omega, a2]
            unfold befL
            rw [List.range_succ, List.map_append]; rfl
          · rw [show (i + 1).toNat = i.toNat + 1 by omega, c2]
            unfold aftL
            refine List.map_congr_left fun k _ => ?_
            rw [aftK_succ, hii]
    · obtain rfl : i = l.length := by omega
      rw [hnn] at a2 a3
      subst a2; subst a3
      have hbl : (befL l l.length).length = l.length := by unfold befL; rw [List.length_map, List.length_range]
      have htot : tot (befL l l.length) l.length ≤ 1000 * l.length := tot_le (fun j => by
        rw [befL_getD]
        split
        · exact hbin _ (by assumption)
        · simp) _
      refine ⟨fun i => 0 ≤ i ∧ i ≤ l.length ∧ ∀ j, j < i.toNat → ¬ Rch (befL l l.length) (bsP l j) (j : Int), fun i => l.length - i.toNat, ⟨by omega, by omega, fun j hj => by simp at hj⟩, fun i ⟨a0, a1, a2⟩ => ⟨fun hlt => ?_, fun hge2 => hok hfits fun j hj => a2 j (by omega)⟩⟩
      have hi : i.toNat < l.length := by omega
      have hii : (i.toNat : Int) = i := by omega
      have hgi : (befL l l.length).getD i.toNat [] = bsP l i.toNat := by rw [befL_getD, if_pos hi]
      have := hbin _ hi
      rw [hgi]
      refine ⟨⟨a0, by omega⟩, reach_M (by omega) hbl (fun j hj k hk => ?_) (fun k hk => bsP_in hk) (by omega) fun met m1 m2 => ⟨⟨a0, by omega⟩, fun ht => ⟨4, rfl, ?_⟩, fun hf => ⟨by simp only [In]; omega, ⟨by omega, by omega, fun j hj => ?_⟩, by (try dsimp only); omega⟩⟩⟩
      · rw [befL_getD] at hk
        split at hk
        · exact bsP_in hk
        · simp at hk
      · have := hcyc hfits i.toNat hi a2 ((m2 _ hi).1 ht)
        rwa [hii] at this
      · by_cases e : j = i.toNat
        · rw [e]
          exact fun hR => by rw [(m2 _ hi).2 hR] at hf; cases hf
        · exact a2 j (by omega)
end Go.Proofs.YtlonpmajnglmoaaGreatDoor


 /- A graph of actions, plainly: what is needed, the sources, what hangs on an action. -/
namespace Go.Proofs.YtlonpmajnglmoaaGreatDoor
open Go Go.RowKit
theorem numG_M {n below : Int} {K : Int → Prop} (hn : In .i64 n) (hb : 0 < below) (hb2 : below ≤ 100000) (h : ∀ m, 0 ≤ m → m < below → K m) : M_smithyworld_Number n below K := by
  unfold M_smithyworld_Number
  have h1 := Int.tmod_lt_of_pos n hb
  have h2 := Int.lt_tmod_of_pos n hb
  simp only [In] at hn
  refine ⟨by omega, by simp only [In]; omega, by omega, ?_⟩
  have h3 : 0 ≤ n.tmod below + below := by omega
  rw [Int.tmod_eq_emod_of_nonneg h3]
  exact h _ (Int.emod_nonneg _ (by omega)) (Int.emod_lt_of_pos _ hb)
section
variable {gl : List GAct} {mk : MK} {bef aft : List (List Int)}
def onesN (met : List Bool) (n : Nat) : List Int := ((List.range n).filter fun k => met.getD k false).map fun (k : Nat) => (k : Int)
theorem onesN_succ (met : List Bool) (n : Nat) : onesN met (n + 1) = onesN met n ++ if met.getD n false = true then [(n : Int)] else [] := by
  unfold onesN
  rw [List.range_succ, List.filter_append, List.map_append]
  congr 1
  rw [List.filter_cons, List.filter_nil]
  split <;> rfl
theorem onesN_len (met : List Bool) (n : Nat) : (onesN met n).length ≤ n := by
  unfold onesN
  rw [List.length_map]
  exact Nat.le_trans (List.length_filter_le _ _) (by simp)
theorem needs_M {outs : TL} {K : List Int → Prop} (hn : gl.length ≤ 1000000) (hb : bef.length = gl.length) (hr : ∀ j, j < bef.length → ∀ k ∈ bef.getD j [], 0 ≤ k ∧ k < (gl.length : Int)) (ho : outs.length ≤ 1000000) (hol : ∀ s ∈ outs, s.length ≤ 4000000000) (hmk : ∀ s v, mget mk s = some v → 0 ≤ v ∧ v < (gl.length : Int)) (hs : tot bef gl.length ≤ 10000000)
    (h : ∀ met : List Bool, met.length = gl.length → (∀ k : Nat, k < gl.length → (met.getD k false = true ↔ Rch bef (outs.filterMap (mget mk)) k)) → K (onesN met gl.length)) : M_pgraph_Graph_Needs gl mk bef aft outs K := by
  intro _ _ _ _
  refine ⟨fun fr t => 0 ≤ t ∧ t ≤ outs.length ∧ fr = (outs.take t.toNat).filterMap (mget mk), fun _ t => outs.length - t.toNat, ⟨by omega, by omega, rfl⟩, fun fr t ⟨a0, a1, a2⟩ => ⟨fun hlt => ?_, fun hge => ?_⟩⟩
  · have ht : t.toNat < outs.length := by omega
    have hsl := hol _ (getD_mem2 (d := []) ht)
    have hfl : fr.length ≤ outs.length := by
      rw [a2]
      exact Nat.le_trans (List.length_filterMap_le _ _) (by rw [List.length_take]; omega)
    have htk : outs.take (t + 1).toNat = outs.take t.toNat ++ [outs.getD t.toNat []] := by
      rw [show (t + 1).toNat = t.toNat + 1 by omega]
      exact take_succ_getD [] ht
    refine ⟨fun fr2 => fr2 = (outs.take (t + 1).toNat).filterMap (mget mk), ⟨⟨a0, hlt⟩, by unfold maxLen; exact Nat.le_trans hsl (by omega), fun hs => ⟨by rw [List.length_singleton]; omega, ?_⟩, fun hs => ?_⟩, fun fr2 hb2 => ⟨by simp only [In]; omega, ⟨by omega, by omega, hb2⟩, by (try dsimp only); omega⟩⟩
    · obtain ⟨v, hv⟩ := Option.isSome_iff_exists.1 hs
      rw [htk, List.filterMap_append, ← a2, List.filterMap_cons, hv]
      rfl
    · have hn : mget mk (outs.getD t.toNat []) = none := by simpa using hs
      rw [htk, List.filterMap_append, ← a2, List.filterMap_cons, hn]
      simp
  · have ht : t.toNat = outs.length := by omega
    rw [ht, List.take_length] at a2
    subst a2
    have hfl : (outs.filterMap (mget mk)).length ≤ outs.length := List.length_filterMap_le _ _
    refine reach_M hn hb hr (fun k hk => ?_) (by omega) fun met m1 m2 => ?_
    · obtain ⟨s, _, hs⟩ := List.mem_filterMap.1 hk
      exact hmk s k hs
    · have hK := h met m1 m2
      refine ⟨fun out i => 0 ≤ i ∧ i ≤ met.length ∧ out = onesN met i.toNat, fun _ i => met.length - i.toNat, ⟨by omega, by omega, rfl⟩, fun out i ⟨b0, b1, b2⟩ => ⟨fun hlt => ?_, fun hge => ?_⟩⟩
      · have hii : (i.toNat : Int) = i := by omega
        have hol := onesN_len met i.toNat
        refine ⟨fun o2 => o2 = onesN met (i + 1).toNat, ⟨⟨b0, hlt⟩, fun hm => ⟨by rw [b2, List.length_singleton]; omega, ?_⟩, fun hm => ?_⟩, fun o2 hb2 => ⟨by simp only [In]; omega, ⟨by omega, by omega, hb2⟩, by (try dsimp only); omega⟩⟩
        · rw [show (i + 1).toNat = i.toNat + 1 by omega, onesN_succ, if_pos hm, b2, hii]
        · rw [show (i + 1).toNat = i.toNat + 1 by omega, onesN_succ, if_neg (by rw [hm]; simp), b2, List.append_nil]
      · have : i.toNat = met.length := by omega
        rw [this, m1] at b2
        rw [b2]; exact hK
theorem index_M {xs : List Int} {v : Int} {i : Nat} {K : Int → Prop} (hl : xs.length ≤ 1000000) (hi : i < xs.length) (h1 : xs.getD i 0 = v) (h0 : ∀ j, j < i → xs.getD j 0 ≠ v) (h : K (i : Int)) : M_slices_Index_int_int xs v K := by
  intro _
  refine ⟨fun t => 0 ≤ t ∧ t ≤ i, fun t => i - t.toNat, ⟨by omega, by omega⟩, fun t ⟨a0, a1⟩ => ⟨fun hlt => ⟨⟨a0, hlt⟩, fun he => ?_, fun hne => ⟨by simp only [In]; omega, ⟨by omega, ?_⟩, ?_⟩⟩, fun hge => by omega⟩⟩
  · have : t.toNat = i := by
      rcases Nat.lt_or_ge t.toNat i with hlt2 | hge2
      · exact absurd he.symm (h0 _ hlt2)
      · omega
    have e : t = (i : Int) := by omega
    rw [e]; exact h
  · have : t.toNat ≠ i := fun e => hne (by rw [e]; exact h1.symm)
    omega
  · have : t.toNat ≠ i := fun e => hne (by rw [e]; exact h1.symm)
    (try dsimp only); omega
end
end Go.Proofs.YtlonpmajnglmoaaGreatDoor


 /- A graph of actions, plainly: the order. -/
namespace Go.Proofs.YtlonpmajnglmoaaGreatDoor
open Go Go.RowKit
section
variable {bef : List (List Int)} {n : Nat}
/-- the first that is not out yet, and all ahead of which are -/
def freeB (bef : List (List Int)) (out : List Int) (i : Nat) : Bool := !out.contains (i : Int) && (bef.getD i []).all fun b => out.contains b
def pickF (bef : List (List Int)) (out : List Int) (n : Nat) : Option Nat := (List.range n).find? (freeB bef out)
def ordR (bef : List (List Int)) (n : Nat) : Nat → List Int
  | 0 => []
  | m + 1 => match pickF bef (ordR bef n m) n with | some i => ordR bef n m ++ [(i : Int)] | none => ordR bef n m
def AcyB (bef : List (List Int)) (n : Nat) : Prop := (∀ j, j < n → ∀ k ∈ bef.getD j [], 0 ≤ k ∧ k < (n : Int)) ∧ ∀ j, j < n → ¬ Rch bef (bef.getD j []) (j : Int)
theorem rch_sub {fr fr' : List Int} (h : ∀ f ∈ fr, Rch bef fr' f) {k : Int} (hk : Rch bef fr k) : Rch bef fr' k := by
  induction hk with
  | base hm => exact h _ hm
  | step _ hm ih => exact .step ih hm
theorem countP_lt {α : Type} {p q : α → Bool} : ∀ {l : List α}, (∀ x ∈ l, p x = true → q x = true) → (∃ x ∈ l, p x = false ∧ q x = true) → l.countP p < l.countP q
  | [], _, h => by obtain ⟨x, hx, _⟩ := h; cases hx
  | a :: l, h1, h2 => by
    have hle : l.countP p ≤ l.countP q := List.countP_mono_left fun x hx => h1 x (List.mem_cons_of_mem _ hx)
    rw [List.countP_cons, List.countP_cons]
    obtain ⟨x, hx, px, qx⟩ := h2
    rcases List.mem_cons.1 hx with rfl | hx
    · rw [px, qx]; simp; omega
    · have := countP_lt (l := l) (fun x hx => h1 x (List.mem_cons_of_mem _ hx)) ⟨x, hx, px, qx⟩
      have ha := h1 a (List.mem_cons_self ..)
      by_cases e : p a = true
      · rw [e, ha e]; simp; omega
      · simp only [Bool.not_eq_true] at e
        rw [e]; simp; omega
open Classical in
/-- in what has no ring, if something is not out yet, then something that may be taken is not -/
theorem acy_pick (ha : AcyB bef n) {out : List Int} (h : ∃ i, i < n ∧ (i : Int) ∉ out) : ∃ i, pickF bef out n = some i := by
  have key : ∀ c j, j < n → (j : Int) ∉ out → ((List.range n).countP fun (k : Nat) => decide (Rch bef (bef.getD j []) (k : Int))) = c → ∃ i, i < n ∧ freeB bef out i = true := by
    intro c
    induction c using Nat.strongRecOn with
    | _ c ih =>
      intro j hj hjo hc
      by_cases hf : (bef.getD j []).all fun b => out.contains b
      · refine ⟨j, hj, ?_⟩
        unfold freeB
        rw [hf]
        simpa using hjo
      · simp only [Bool.not_eq_true, List.all_eq_false] at hf
        obtain ⟨b, hb, hbo⟩ := hf
        obtain ⟨b0, b1⟩ := ha.1 j hj b hb
        have hbb : ((b.toNat : Nat) : Int) = b := by omega
        have hbn : b.toNat < n := by omega
        refine ih _ ?_ b.toNat hbn (by rw [hbb]; simpa using hbo) rfl
        rw [← hc]
        refine countP_lt (fun k _ hk => ?_) ⟨b.toNat, List.mem_range.2 hbn, ?_, ?_⟩
        · simp only [decide_eq_true_eq] at hk ⊢
          refine rch_sub (fun f hf => ?_) hk
          exact .step (.base hb) hf
        · simpa using ha.2 _ hbn
        · rw [hbb]
          simpa using Rch.base hb
  obtain ⟨i, hi, ho⟩ := h
  obtain ⟨k, hk, hf⟩ := key _ i hi ho rfl
  unfold pickF
  cases hp : (List.range n).find? (freeB bef out) with
  | some q => exact ⟨q, rfl⟩
  | none => rw [List.find?_eq_none] at hp; exact absurd hf (hp k (List.mem_range.2 hk))
theorem pickF_some {out : List Int} {i : Nat} (h : pickF bef out n = some i) : i < n ∧ freeB bef out i = true ∧ ∀ j, j < i → freeB bef out j = false := by
  unfold pickF at h
  have h1 := List.find?_some h
  have h2 := List.mem_range.1 (List.mem_of_find?_eq_some h)
  refine ⟨h2, h1, fun j hj => ?_⟩
  obtain ⟨_, xa, xb, hab, hn⟩ := List.find?_eq_some_iff_append.1 h
  have hi : xa.length = i := by
    have : (List.range n)[xa.length]? = some i := by rw [hab]; simp
    rw [List.getElem?_range (by
      have := congrArg List.length hab; simp at this; omega)] at this
    simpa using this
  have hm : j ∈ xa := by
    have hg : (List.range n)[j]? = some j := List.getElem?_range (by omega)
    rw [hab, List.getElem?_append_left (by omega)] at hg
    exact List.mem_of_getElem? hg
  simpa using hn j hm
theorem ordR_props (ha : AcyB bef n) : ∀ m, m ≤ n → (ordR bef n m).length = m ∧ (ordR bef n m).Nodup ∧ (∀ x ∈ ordR bef n m, 0 ≤ x ∧ x < (n : Int))
  | 0, _ => ⟨rfl, List.Pairwise.nil, fun x hx => by cases hx⟩
  | m + 1, h => by
    obtain ⟨a, b, c⟩ := ordR_props ha m (by omega)
    have hex : ∃ i, i < n ∧ (i : Int) ∉ ordR bef n m := by
      refine Classical.byContradiction fun hne => ?_
      have hall : ∀ i, i < n → (i : Int) ∈ ordR bef n m := fun i hi => Classical.byContradiction fun hx => hne ⟨i, hi, hx⟩
      have this := List.Nodup.length_le_of_subset (l₁ := (List.range n).map fun (k : Nat) => (k : Int)) (l₂ := ordR bef n m) (List.Pairwise.map _ (fun a b (hab : a ≠ b) (e : (a : Int) = (b : Int)) => hab (by omega)) List.nodup_range) (fun x hx => by
        obtain ⟨k, hk, rfl⟩ := List.mem_map.1 hx
        exact hall k (List.mem_range.1 hk))
      rw [List.length_map, List.length_range, a] at this
      omega
    obtain ⟨i, hi⟩ := acy_pick ha hex
    obtain ⟨i1, i2, _⟩ := pickF_some hi
    unfold freeB at i2
    rw [Bool.and_eq_true] at i2
    have hno : (i : Int) ∉ ordR bef n m := by simpa using i2.1
    unfold ordR
    rw [hi]
    refine ⟨by rw [List.length_append, a]; rfl, ?_, fun x hx => ?_⟩
    · rw [List.nodup_append]
      refine ⟨b, List.pairwise_singleton _ _, fun x hx y hy e => ?_⟩
      rw [List.mem_singleton.1 hy] at e
      exact hno (e ▸ hx)
    · rcases List.mem_append.1 hx with hx | hx
      · exact c x hx
      · rw [List.mem_singleton.1 hx]; omega
theorem ordR_step (ha : AcyB bef n) {m : Nat} (h : m < n) : ∃ i, pickF bef (ordR bef n m) n = some i ∧ ordR bef n (m + 1) = ordR bef n m ++ [(i : Int)] := by
  obtain ⟨a, b, c⟩ := ordR_props ha m (by omega)
  have h1 := (ordR_props ha (m + 1) h).1
  cases hp : pickF bef (ordR bef n m) n with
  | some i => exact ⟨i, rfl, by show (match pickF bef (ordR bef n m) n with | some i => ordR bef n m ++ [(i : Int)] | none => ordR bef n m) = _; rw [hp]⟩
  | none =>
    have : ordR bef n (m + 1) = ordR bef n m := by show (match pickF bef (ordR bef n m) n with | some i => ordR bef n m ++ [(i : Int)] | none => ordR bef n m) = _; rw [hp]
    rw [this] at h1; omega
/-- how many ahead of one are not out yet -/
def cntL (out : List Int) (xs : List Int) : Nat := xs.countP fun b => !out.contains b
theorem cntL_zero {out xs : List Int} : cntL out xs = 0 ↔ (xs.all fun b => out.contains b) = true := by
  unfold cntL
  rw [List.countP_eq_zero, List.all_eq_true]
  refine forall_congr' fun x => forall_congr' fun _ => ?_
  simp
theorem cntL_snoc {out : List Int} {i : Int} (ho : i ∉ out) : ∀ {xs : List Int}, xs.Nodup → cntL (out ++ [i]) xs + (if i ∈ xs then 1 else 0) = cntL out xs
  | [], _ => rfl
  | a :: xs, h => by
    have ih := cntL_snoc ho (xs := xs) (List.nodup_cons.1 h).2
    have hna := (List.nodup_cons.1 h).1
    unfold cntL at ih ⊢
    rw [List.countP_cons, List.countP_cons]
    by_cases e : i = a
    · subst e
      rw [if_neg hna] at ih
      rw [if_pos (List.mem_cons_self ..)]
      have h1 : (out ++ [i]).contains i = true := by simp
      have h2 : out.contains i = false := by simpa using ho
      rw [h1, h2]
      simp only [Bool.not_true, Bool.not_false, if_true, if_false, Bool.false_eq_true]
      omega
    · have h1 : (out ++ [i]).contains a = out.contains a := by
        rw [Bool.eq_iff_iff, List.contains_iff_mem, List.contains_iff_mem, List.mem_append, List.mem_singleton]
        exact ⟨fun h => h.resolve_right fun h2 => e h2.symm, .inl⟩
      have h2 : (i ∈ a :: xs) ↔ i ∈ xs := by
        rw [List.mem_cons]; exact ⟨fun h => h.resolve_left e, .inr⟩
      rw [h1]
      by_cases h3 : i ∈ xs
      · rw [if_pos h3] at ih; rw [if_pos (h2.2 h3)]; omega
      · rw [if_neg h3] at ih; rw [if_neg (fun h => h3 (h2.1 h))]; omega
theorem ordR_closed (ha : AcyB bef n) : ∀ m, m ≤ n → ∀ x ∈ ordR bef n m, ∀ b ∈ bef.getD x.toNat [], b ∈ ordR bef n m
  | 0, _, x, hx, _, _ => by cases hx
  | m + 1, h, x, hx, b, hb => by
    obtain ⟨i, hi, he⟩ := ordR_step ha (m := m) (by omega)
    obtain ⟨i1, i2, _⟩ := pickF_some hi
    rw [he] at hx ⊢
    rcases List.mem_append.1 hx with hx | hx
    · exact List.mem_append_left _ (ordR_closed ha m (by omega) x hx b hb)
    · rw [List.mem_singleton.1 hx, Int.toNat_natCast] at hb
      unfold freeB at i2
      rw [Bool.and_eq_true, List.all_eq_true] at i2
      exact List.mem_append_left _ (by simpa using i2.2 b hb)
end
theorem befL_len (l : List GAct) (m : Nat) : (befL l m).length = m := by unfold befL; rw [List.length_map, List.length_range]
theorem aftL_len (l : List GAct) (i : Nat) : (aftL l i).length = l.length := by unfold aftL; rw [List.length_map, List.length_range]
theorem aftK_mem {l : List GAct} {i k : Nat} {j : Int} : j ∈ aftK l i k ↔ ∃ q : Nat, q < i ∧ j = (q : Int) ∧ (k : Int) ∈ bsP l q := by
  unfold aftK
  rw [List.mem_map]
  constructor
  · rintro ⟨q, hq, rfl⟩
    rw [List.mem_filter, List.mem_range, decide_eq_true_eq] at hq
    exact ⟨q, hq.1, rfl, hq.2⟩
  · rintro ⟨q, h1, rfl, h2⟩
    exact ⟨q, List.mem_filter.2 ⟨List.mem_range.2 h1, by simpa using h2⟩, rfl⟩
theorem aftK_nodup (l : List GAct) (i k : Nat) : (aftK l i k).Nodup := by
  unfold aftK
  exact List.Pairwise.map _ (fun a b (hab : a ≠ b) (e : (a : Int) = (b : Int)) => hab (by omega)) (List.Pairwise.filter _ List.nodup_range)
theorem map_set_eq {f g : Nat → Int} {n k : Nat} {v : Int} (h1 : k < n → g k = v) (h2 : ∀ j, j < n → j ≠ k → g j = f j) : ((List.range n).map f).set k v = (List.range n).map g := by
  rw [rng_set]
  refine List.map_congr_left fun j hj => ?_
  have hj := List.mem_range.1 hj
  by_cases e : k = j
  · subst e; rw [if_pos rfl, h1 hj]
  · rw [if_neg e, h2 j hj fun h => e h.symm]
theorem order_M {l : List GAct} {mk : MK} {K : List Int → Prop} (hl : l.length ≤ 1000) (hbl : ∀ j, (bsP l j).length ≤ 1000) (ha : AcyB (befL l l.length) l.length) (h : K (ordR (befL l l.length) l.length l.length)) : M_pgraph_Graph_Order l mk (befL l l.length) (aftL l l.length) K := by
  have hbn := befL_len l l.length
  have hal := aftL_len l l.length
  have hB : ∀ j, j < l.length → (befL l l.length).getD j [] = bsP l j := fun j hj => by rw [befL_getD, if_pos hj]
  have hA : ∀ j, j < l.length → (aftL l l.length).getD j [] = aftK l l.length j := fun j hj => by unfold aftL; rw [rng_getD hj]
  intro _ _ _
  obtain ⟨n, hn⟩ : ∃ n, l.length = n := ⟨_, rfl⟩
  have hnn : ((n : Nat) : Int).toNat = n := by omega
  rw [hn] at hl ha h hbn hal hB hA ⊢
  rw [hnn]
  refine ⟨⟨by omega, by omega, by omega⟩, fun t left => 0 ≤ t ∧ t ≤ n ∧ left = (List.range n).map fun j => if j < t.toNat then ((bsP l j).length : Int) else 0, fun t _ => n - t.toNat, ⟨by omega, by omega, ?_⟩, fun t left ⟨a0, a1, a2⟩ _ => ⟨fun hlt => ?_, fun hge => ?_⟩⟩
  · refine List.ext_getElem (by simp) fun k h1 h2 => ?_
    simp
  · have ht : t.toNat < n := by omega
    refine ⟨⟨a0, by omega⟩, ⟨a0, by omega⟩, by simp only [In]; omega, ⟨by omega, by omega, ?_⟩, by (try dsimp only); omega⟩
    rw [hB _ ht, a2]
    refine map_set_eq (fun _ => by rw [if_pos (by omega)]) fun j _ hj => ?_
    by_cases h1 : j < t.toNat
    · rw [if_pos (by omega), if_pos h1]
    · rw [if_neg (by omega), if_neg h1]
  · have ht : t.toNat = n := by omega
    refine ⟨fun out t left => 0 ≤ t ∧ t ≤ n ∧ out = ordR (befL l n) n t.toNat ∧ left = (List.range n).map fun (j : Nat) => if (j : Int) ∈ out then (-1 : Int) else (cntL out (bsP l j) : Int), fun _ t _ => n - t.toNat, ⟨by omega, by omega, rfl, ?_⟩, fun out t left ⟨b0, b1, b2, b3⟩ _ => ⟨fun hlt => ?_, fun hge2 => ?_⟩⟩
    · rw [a2, ht]
      refine List.map_congr_left fun k hk => ?_
      have := List.mem_range.1 hk
      rw [if_pos this, if_neg (by simp)]
      unfold cntL
      simp
    · have ht2 : t.toNat < n := by omega
      have htt : (t.toNat : Int) = t := by omega
      have hll : left.length = n := by rw [b3, List.length_map, List.length_range]
      obtain ⟨i, hi, he⟩ := ordR_step ha ht2
      rw [← b2] at hi he
      obtain ⟨i1, i2, i3⟩ := pickF_some hi
      obtain ⟨o1, o2, o3⟩ := ordR_props ha t.toNat (by omega)
      rw [← b2] at o1 o2 o3
      have hcl := ordR_closed ha t.toNat (by omega)
      rw [← b2] at hcl
      unfold freeB at i2
      rw [Bool.and_eq_true, hB i i1] at i2
      have hio : (i : Int) ∉ out := by simpa using i2.1
      have hall := i2.2
      have hc0 : cntL out (bsP l i) = 0 := cntL_zero.2 hall
      have hcle : ∀ j, cntL out (bsP l j) ≤ 1000 := fun j => Nat.le_trans List.countP_le_length (hbl j)
      refine index_M (i := i) (by omega) (by omega) (by rw [b3, rng_getD i1, if_neg hio, hc0]; rfl) (fun j hj => ?_) ?_
      · rw [b3, rng_getD (by omega)]
        split
        · decide
        · rename_i hjo
          have hf := i3 j hj
          unfold freeB at hf
          rw [hB j (by omega), Bool.and_eq_false_iff] at hf
          rcases hf with hf | hf
          · exact absurd (by simpa using hf) hjo
          · intro e
            have : cntL out (bsP l j) = 0 := by omega
            rw [cntL_zero.1 this] at hf
            cases hf
      have hAi := hA i i1
      have hAn := aftK_nodup l n i
      have hAm : ∀ j : Int, j ∈ aftK l n i ↔ ∃ q : Nat, q < n ∧ j = (q : Int) ∧ (i : Int) ∈ bsP l q := fun j => aftK_mem
      rw [Int.toNat_natCast, hAi]
      generalize aftK l n i = A at hAn hAm
      have hAl : A.length ≤ n := by
        have := List.Nodup.length_le_of_subset (l₁ := A) (l₂ := (List.range n).map fun (k : Nat) => (k : Int)) hAn fun x hx => by
          obtain ⟨q, h1, h2, _⟩ := (hAm x).1 hx
          exact List.mem_map.2 ⟨q, List.mem_range.2 h1, h2.symm⟩
        rwa [List.length_map, List.length_range] at this
      have hAo : ∀ x ∈ A, x ∉ out ++ [(i : Int)] := fun x hx hxo => by
        obtain ⟨q, h1, h2, h3⟩ := (hAm x).1 hx
        rcases List.mem_append.1 hxo with hxo | hxo
        · have h4 := hcl x hxo (i : Int)
          rw [h2, Int.toNat_natCast, hB q h1] at h4
          exact hio (h4 h3)
        · have : q = i := by have := List.mem_singleton.1 hxo; omega
          subst this
          rw [List.all_eq_true] at hall
          exact hio (by simpa using hall _ h3)
      refine ⟨⟨by omega, by omega⟩, by rw [o1, List.length_singleton]; omega, ⟨by omega, by omega⟩, fun q left3 => 0 ≤ q ∧ q ≤ A.length ∧ left3 = (List.range n).map fun (j : Nat) => if (j : Int) ∈ out ++ [(i : Int)] then (-1 : Int) else (cntL out (bsP l j) : Int) - (if (j : Int) ∈ A.take q.toNat then 1 else 0), fun q _ => A.length - q.toNat, ⟨by omega, by omega, ?_⟩, fun q left3 ⟨c0, c1, c2⟩ _ => ⟨fun hlt3 => ?_, fun hge3 => ?_⟩⟩
      · rw [b3]
        refine map_set_eq (fun _ => by rw [if_pos (by simp)]) fun j _ hj => ?_
        have e : ((j : Int) ∈ out ++ [(i : Int)]) ↔ (j : Int) ∈ out := by
          rw [List.mem_append, List.mem_singleton]
          exact ⟨fun h => h.resolve_right fun h2 => hj (by omega), .inl⟩
        by_cases h1 : (j : Int) ∈ out
        · rw [if_pos (e.2 h1), if_pos h1]
        · rw [if_neg fun h => h1 (e.1 h), if_neg h1]
          simp
      · have hq : q.toNat < A.length := by omega
        obtain ⟨k, k1, k2, k3⟩ := (hAm _).1 (getD_mem2 (d := 0) hq)
        have hkx : ((A.getD q.toNat 0).toNat) = k := by omega
        have hko := hAo _ (getD_mem2 (d := 0) hq)
        have hnt : (k : Int) ∉ A.take q.toNat := fun hm => by
          obtain ⟨r, hr, hre⟩ := List.getElem_of_mem hm
          have hr2 : r < q.toNat := by rw [List.length_take] at hr; omega
          rw [List.getElem_take] at hre
          have h1 : A[r]'(by omega) = A[q.toNat] := by
            rw [hre, ← k2]; simp [List.getD, hq]
          have := (List.nodup_iff_pairwise_ne.1 hAn)
          have h2 := List.pairwise_iff_getElem.1 hAn r q.toNat (by omega) hq hr2
          exact h2 h1
        have hst : A.take (q + 1).toNat = A.take q.toNat ++ [A.getD q.toNat 0] := by
          rw [show (q + 1).toNat = q.toNat + 1 by omega]
          exact take_succ_getD 0 hq
        have hg : left3.getD k 0 = (cntL out (bsP l k) : Int) := by
          rw [c2, rng_getD k1, if_neg (by rw [← k2]; exact hko), if_neg hnt]; omega
        have hck := hcle k
        rw [hkx, hg]
        refine ⟨⟨by omega, by omega⟩, ⟨by omega, by omega⟩, by simp only [In]; omega, ⟨by omega, by omega⟩, by simp only [In]; omega, ⟨by omega, by omega, ?_⟩, by (try dsimp only); omega⟩
        rw [c2]
        refine map_set_eq (fun _ => ?_) fun j _ hj => ?_
        · rw [if_neg (by rw [← k2]; exact hko), hst, if_pos (List.mem_append_right _ (List.mem_singleton.2 k2.symm))]
        · have e : ((j : Int) ∈ A.take (q + 1).toNat) ↔ (j : Int) ∈ A.take q.toNat := by
            rw [hst, List.mem_append, List.mem_singleton]
            exact ⟨fun h => h.resolve_right fun h2 => hj (by omega), .inl⟩
          by_cases h1 : (j : Int) ∈ A.take q.toNat
          · rw [if_pos (e.2 h1), if_pos h1]
          · rw [if_neg fun h => h1 (e.1 h), if_neg h1]
      · refine ⟨by simp only [In]; omega, ⟨by omega, by omega, ?_, ?_⟩, by (try dsimp only); omega⟩
        · rw [show (t + 1).toNat = t.toNat + 1 by omega, he]
        · have hqA : q.toNat = A.length := by omega
          rw [c2, hqA, List.take_length]
          refine List.map_congr_left fun j hj => ?_
          have hj := List.mem_range.1 hj
          by_cases h1 : (j : Int) ∈ out ++ [(i : Int)]
          · rw [if_pos h1, if_pos h1]
          · rw [if_neg h1, if_neg h1]
            have h2 := cntL_snoc hio (bsP_nodup l j)
            have h3 : (j : Int) ∈ A ↔ (i : Int) ∈ bsP l j := by
              rw [hAm]
              exact ⟨fun ⟨q, _, e, m⟩ => by have : q = j := by omega
                                            subst this; exact m, fun m => ⟨j, hj, rfl, m⟩⟩
            by_cases h4 : (i : Int) ∈ bsP l j
            · rw [if_pos (h3.2 h4)]; rw [if_pos h4] at h2; omega
            · rw [if_neg fun h => h4 (h3.1 h)]; rw [if_neg h4] at h2; omega
    · have ht2 : t.toNat = n := by omega
      rw [b2, ht2]
      exact h
end Go.Proofs.YtlonpmajnglmoaaGreatDoor


 