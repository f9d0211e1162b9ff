/- Texts of this claim, joined by a program: GGa, PathA, PathB, PathC, ToolA, ToolV, ToolW, Sha0, Sha1, Sha2, Sha3, Sha4, Sha5, Sha6, Sha7, Sha8, KeyA. -/
import Derived.Test.YtjobklaengaamaaGreatDoorJ2
import Derived.Lib.Replace
import Derived.Lib.Join
import Derived.Shelf.SlIter.Sorted
import Derived.Test.YtjobklaengaamaaGreatDoorRows
namespace Go.Proofs.YtjobklaengaamaaGreatDoor

section
open Go Go.RowKit
attribute [local irreducible] WL WC WX WQ WK WJ Yld Eff Ef0 Fn
def jc (s:List (List UInt8)) (K:(List (List UInt8))->Prop):Prop :=
 (s.length<=maxLen ->
 ((s=[]->K []) /\
 ((((([]:List (List UInt8))).length+s.length)*16<=140737488355328) /\
 K (([]:List (List UInt8))++s))))
def jv (s:List Int) (K:(List Int)->Prop):Prop :=
 (s.length<=maxLen ->
 ((s=[]->K []) /\
 ((((([]:List Int)).length+s.length)*8<=140737488355328) /\
 K (([]:List Int)++s))))
def jQ (s:List Int) (v:Int) (K:Int->Prop):Prop :=
 (s.length<=maxLen ->
 Lp1 (fun (t8:Int) kont1=>((t8<(s.length:Int)->(0<=t8/\t8<(s.length:Nat)) /\
 ((v=(s.getD t8.toNat 0)->K t8) /\
 (¬ (v=(s.getD t8.toNat 0))->(In .i64 (t8+(1:Int))) /\
 kont1 (t8+(1:Int))))) /\
 (¬ (t8<(s.length:Int))->K (-1:Int)))) (0:Int))
def kq (l:List (List UInt8)) (K:(List (List UInt8))->Prop):Prop :=
 (l.length<=maxLen ->
 (0<=(l.length:Int)/\(l.length:Int)*16<=140737488355328/\(l.length:Int)<=140737488355328) /\
 Lp2 (fun (out:List (List UInt8)) (i:Int) kont1=>((i<(l.length:Int)->(0<=i/\i<(l.length:Nat)) /\
 ((out.length+(([l.getD i.toNat []]:List (List UInt8))).length)*16<=140737488355328) /\
 (In .i64 (i+(1:Int))) /\
 kont1 (out++([l.getD i.toNat []]:List (List UInt8))) (i+(1:Int))) /\
 (¬ (i<(l.length:Int))->K out))) ([]:List (List UInt8)) (0:Int))
def kp (a:List Int) (b:List Int) (K:Bool->Prop):Prop :=
 (a.length<=maxLen ->
 (b.length<=maxLen ->
 ((¬ ((a.length:Int)=(b.length:Int))->K false) /\
 ((a.length:Int)=(b.length:Int)->Lp1 (fun (i:Int) kont1=>((i<(a.length:Int)->(0<=i/\i<(a.length:Nat)) /\
 (0<=i/\i<(b.length:Nat)) /\
 ((¬ ((a.getD i.toNat 0)=(b.getD i.toNat 0))->K false) /\
 ((a.getD i.toNat 0)=(b.getD i.toNat 0)->(In .i64 (i+(1:Int))) /\
 kont1 (i+(1:Int))))) /\
 (¬ (i<(a.length:Int))->K true))) (0:Int)))))
def Za (e2:Int) (e6:List (List UInt8)) (c6:List (List UInt8)) (d3:List UInt8) (K:Int->(List (List UInt8))->(List (List UInt8))->(List UInt8)->Prop):Prop :=
 (e6.length<=maxLen ->
 (c6.length<=maxLen ->
 jc e6 (fun (t5:List (List UInt8)) =>
 jc c6 (fun (t8:List (List UInt8)) =>
 K e2 t5 t8 d3))))
def kS (s:List UInt8) (K:Bool->Prop):Prop :=
 Zh s (fun (t4:Bool) =>
 K (!t4))
def qW (s:List (List UInt8)) (K:Int->Prop):Prop :=
 (s.length<=maxLen ->
 Lp1 (fun (t8:Int) kont1=>((t8<(s.length:Int)->(0<=t8/\t8<(s.length:Nat)) /\
 kS (s.getD t8.toNat []) (fun (t16:Bool) =>
 ((t16=true->K t8) /\
 (t16=false->(In .i64 (t8+(1:Int))) /\
 kont1 (t8+(1:Int)))))) /\
 (¬ (t8<(s.length:Int))->K (-1:Int)))) (0:Int))
def qM (s:List (List UInt8)) (K:Bool->Prop):Prop :=
 (s.length<=maxLen ->
 qW s (fun (t7:Int) =>
 K (decide ((0:Int)<=t7))))
def kw (g_l:List (Int × List (List UInt8) × List (List UInt8) × List UInt8)) (c1:List (List UInt8 × Int)) (a0:List (List Int)) (a3:List (List Int)) (e2:Int) (e6:List (List UInt8)) (c6:List (List UInt8)) (d3:List UInt8) (K:Er->Prop):Prop :=
 (g_l.length<=maxLen ->
 (a0.length<=maxLen ->
 (a3.length<=maxLen ->
 (e6.length<=maxLen ->
 (c6.length<=maxLen ->
 ((((decide (e2<(1:Int))) || (decide ((5:Int)<e2)))=true->K (Er.e 10)) /\
 (((decide (e2<(1:Int))) || (decide ((5:Int)<e2)))=false->Zh d3 (fun (t18:Bool) =>
 ∃ J1:Bool->Prop,((((!t18)=true->J1 true) /\
 ((!t18)=false->qM c6 (fun (t23:Bool) =>
 J1 t23)))) /\
 (∀ q2:Bool,J1 q2->((q2=true->K (Er.e 11)) /\
 (q2=false->(d3.length<=maxLen) /\
 ((((mget c1 d3).isSome)=true->K (Er.e 6)) /\
 (((mget c1 d3).isSome)=false->K Er.ok)))))))))))))
def M_graph_New_1 (e2:Int) (e6:List (List UInt8)) (c6:List (List UInt8)) (d3:List UInt8) (K:Bool->Prop):Prop :=
 (e6.length<=maxLen ->
 (c6.length<=maxLen ->
 K ((decide ((1000:Int)<(c6.length:Int))) || (decide ((1000:Int)<(e6.length:Int))))))
def qV (s:List (Int × List (List UInt8) × List (List UInt8) × List UInt8)) (K:Int->Prop):Prop :=
 (s.length<=maxLen ->
 Lp1 (fun (t8:Int) kont1=>((t8<(s.length:Int)->(0<=t8/\t8<(s.length:Nat)) /\
 M_graph_New_1 ((s.getD t8.toNat (0,[],[],[])).1) ((s.getD t8.toNat (0,[],[],[])).2.1) ((s.getD t8.toNat (0,[],[],[])).2.2.1) ((s.getD t8.toNat (0,[],[],[])).2.2.2) (fun (t16:Bool) =>
 ((t16=true->K t8) /\
 (t16=false->(In .i64 (t8+(1:Int))) /\
 kont1 (t8+(1:Int)))))) /\
 (¬ (t8<(s.length:Int))->K (-1:Int)))) (0:Int))
def qL (s:List (Int × List (List UInt8) × List (List UInt8) × List UInt8)) (K:Bool->Prop):Prop :=
 (s.length<=maxLen ->
 qV s (fun (t7:Int) =>
 K (decide ((0:Int)<=t7))))
def ki (g_l:List (Int × List (List UInt8) × List (List UInt8) × List UInt8)) (c1:List (List UInt8 × Int)) (a0:List (List Int)) (a3:List (List Int)) (from_:List Int) (K:(List Bool)->Prop):Prop :=
 (g_l.length<=maxLen ->
 (a0.length<=maxLen ->
 (a3.length<=maxLen ->
 (from_.length<=maxLen ->
 (0<=(g_l.length:Int)/\(g_l.length:Int)*1<=140737488355328/\(g_l.length:Int)<=140737488355328) /\
 jv from_ (fun (work:List Int) =>
 Lp2 (fun (work2:List Int) (met:List Bool) kont1=>(g_l.length:Int).toNat=met.length->(((0:Int)<(work2.length:Int)->(In .i64 ((work2.length:Int) - (1:Int))) /\
 (0<=(work2.length:Int) - (1:Int)/\(work2.length:Int) - (1:Int)<(work2.length:Nat)) /\
 (In .i64 ((work2.length:Int) - (1:Int))) /\
 (0<=(work2.length:Int) - (1:Int)/\(work2.length:Int) - (1:Int)<=(work2.length:Nat)) /\
 (0<=work2.getD (((work2.length:Int) - (1:Int)).toNat) 0/\work2.getD (((work2.length:Int) - (1:Int)).toNat) 0<((g_l.length:Int).toNat:Nat)) /\
 (((!(met.getD ((work2.getD (((work2.length:Int) - (1:Int)).toNat) 0).toNat) false))=true->(0<=work2.getD (((work2.length:Int) - (1:Int)).toNat) 0/\work2.getD (((work2.length:Int) - (1:Int)).toNat) 0<((g_l.length:Int).toNat:Nat)) /\
 (0<=work2.getD (((work2.length:Int) - (1:Int)).toNat) 0/\work2.getD (((work2.length:Int) - (1:Int)).toNat) 0<(a0.length:Nat)) /\
 (((work2.take ((work2.length:Int) - (1:Int)).toNat).length+(a0.getD ((work2.getD (((work2.length:Int) - (1:Int)).toNat) 0).toNat) []).length)*8<=140737488355328) /\
 kont1 ((work2.take ((work2.length:Int) - (1:Int)).toNat)++(a0.getD ((work2.getD (((work2.length:Int) - (1:Int)).toNat) 0).toNat) [])) (met.set ((work2.getD (((work2.length:Int) - (1:Int)).toNat) 0).toNat) true)) /\
 ((!(met.getD ((work2.getD (((work2.length:Int) - (1:Int)).toNat) 0).toNat) false))=false->kont1 (work2.take ((work2.length:Int) - (1:Int)).toNat) met))) /\
 (¬ ((0:Int)<(work2.length:Int))->K met))) work (List.replicate (g_l.length:Int).toNat false))))))
def kh (g_l:List (Int × List (List UInt8) × List (List UInt8) × List UInt8)) (c1:List (List UInt8 × Int)) (a0:List (List Int)) (a3:List (List Int)) (K:(List Int)->Prop):Prop :=
 (g_l.length<=maxLen ->
 (a0.length<=maxLen ->
 (a3.length<=maxLen ->
 (0<=(g_l.length:Int)/\(g_l.length:Int)*8<=140737488355328/\(g_l.length:Int)<=140737488355328) /\
 Lp2 (fun (t20:Int) (left:List Int) kont1=>(g_l.length:Int).toNat=left.length->((t20<(g_l.length:Int)->(0<=t20/\t20<(a0.length:Nat)) /\
 (0<=t20/\t20<((g_l.length:Int).toNat:Nat)) /\
 (In .i64 (t20+(1:Int))) /\
 kont1 (t20+(1:Int)) (left.set t20.toNat ((a0.getD t20.toNat []).length:Int))) /\
 (¬ (t20<(g_l.length:Int))->Lp3 (fun (out:List Int) (t40:Int) (left2:List Int) kont2=>(g_l.length:Int).toNat=left2.length->((t40<(g_l.length:Int)->jQ left2 (0:Int) (fun (i:Int) =>
 (0<=i/\i<((g_l.length:Int).toNat:Nat)) /\
 ((out.length+(([i]:List Int)).length)*8<=140737488355328) /\
 (0<=i/\i<(a3.length:Nat)) /\
 Lp2 (fun (t59:Int) (left3:List Int) kont3=>(g_l.length:Int).toNat=left3.length->((t59<((a3.getD i.toNat []).length:Int)->(0<=t59/\t59<((a3.getD i.toNat []).length:Nat)) /\
 (0<=(a3.getD i.toNat []).getD t59.toNat 0/\(a3.getD i.toNat []).getD t59.toNat 0<((g_l.length:Int).toNat:Nat)) /\
 (In .i64 ((left3.getD (((a3.getD i.toNat []).getD t59.toNat 0).toNat) 0) - (1:Int))) /\
 (0<=(a3.getD i.toNat []).getD t59.toNat 0/\(a3.getD i.toNat []).getD t59.toNat 0<((g_l.length:Int).toNat:Nat)) /\
 (In .i64 (t59+(1:Int))) /\
 kont3 (t59+(1:Int)) (left3.set (((a3.getD i.toNat []).getD t59.toNat 0).toNat) ((left3.getD (((a3.getD i.toNat []).getD t59.toNat 0).toNat) 0) - (1:Int)))) /\
 (¬ (t59<((a3.getD i.toNat []).length:Int))->(In .i64 (t40+(1:Int))) /\
 kont2 (out++([i]:List Int)) (t40+(1:Int)) left3))) (0:Int) (left2.set i.toNat (-1:Int)))) /\
 (¬ (t40<(g_l.length:Int))->K out))) [] (0:Int) left))) (0:Int) (List.replicate (g_l.length:Int).toNat 0))))
def kZ (l:List (Int × List (List UInt8) × List (List UInt8) × List UInt8)) (K0:Er->Prop) (K:(List (Int × List (List UInt8) × List (List UInt8) × List UInt8))->(List (List UInt8 × Int))->(List (List Int))->(List (List Int))->Er->Prop):Prop :=
 (l.length<=maxLen ->
 ∃ J1:Bool->Prop,((((decide ((1000:Int)<(l.length:Int)))=true->J1 true) /\
 ((decide ((1000:Int)<(l.length:Int)))=false->qL l (fun (t26:Bool) =>
 J1 t26)))) /\
 (∀ q1:Bool,J1 q1->((q1=true->K0 (Er.e 9)) /\
 (q1=false->Lp3 (fun (t31:Int) (t200:List (Int × List (List UInt8) × List (List UInt8) × List UInt8)) (t201:List (List UInt8 × Int)) kont1=>((t31<(l.length:Int)->(0<=t31/\t31<(l.length:Nat)) /\
 kw t200 t201 [] [] ((l.getD t31.toNat (0,[],[],[])).1) ((l.getD t31.toNat (0,[],[],[])).2.1) ((l.getD t31.toNat (0,[],[],[])).2.2.1) ((l.getD t31.toNat (0,[],[],[])).2.2.2) (fun (err:Er) =>
 ((¬ (err=Er.ok)->∃ n:Nat,err=Er.e n /\
 K0 (Er.at_ t31 n)) /\
 (err=Er.ok->(((l.getD t31.toNat (0,[],[],[])).2.2.2).length<=maxLen/\t201.length<maxLen) /\
 Za ((l.getD t31.toNat (0,[],[],[])).1) ((l.getD t31.toNat (0,[],[],[])).2.1) ((l.getD t31.toNat (0,[],[],[])).2.2.1) ((l.getD t31.toNat (0,[],[],[])).2.2.2) (fun (a7:Int) (a6:List (List UInt8)) (a1:List (List UInt8)) (a2:List UInt8) =>
 ((t200.length+(([(a7,a6,a1,a2)]:List (Int × List (List UInt8) × List (List UInt8) × List UInt8))).length)*72<=140737488355328) /\
 (In .i64 (t31+(1:Int))) /\
 kont1 (t31+(1:Int)) (t200++([(a7,a6,a1,a2)]:List (Int × List (List UInt8) × List (List UInt8) × List UInt8))) (mput t201 ((l.getD t31.toNat (0,[],[],[])).2.2.2) t31)))))) /\
 (¬ (t31<(l.length:Int))->(0<=(l.length:Int)/\(l.length:Int)*24<=140737488355328/\(l.length:Int)<=140737488355328) /\
 Lp3 (fun (t76:Int) (t202:List (List Int)) (t203:List (List Int)) kont2=>((t76<(t200.length:Int)->(0<=t76/\t76<(t200.length:Nat)) /\
 Lp2 (fun (before:List Int) (t84:Int) kont3=>((t84<(((t200.getD t76.toNat (0,[],[],[])).2.2.1).length:Int)->∃ J2:(List Int)->Prop,((0<=t84/\t84<(((t200.getD t76.toNat (0,[],[],[])).2.2.1).length:Nat)) /\
 ((((t200.getD t76.toNat (0,[],[],[])).2.2.1).getD t84.toNat []).length<=maxLen) /\
 ((((mget t201 (((t200.getD t76.toNat (0,[],[],[])).2.2.1).getD t84.toNat [])).isSome)=true->((before.length+(([(mget t201 (((t200.getD t76.toNat (0,[],[],[])).2.2.1).getD t84.toNat [])).getD 0]:List Int)).length)*8<=140737488355328) /\
 J2 (before++([(mget t201 (((t200.getD t76.toNat (0,[],[],[])).2.2.1).getD t84.toNat [])).getD 0]:List Int))) /\
 (((mget t201 (((t200.getD t76.toNat (0,[],[],[])).2.2.1).getD t84.toNat [])).isSome)=false->J2 before))) /\
 (∀ before2:List Int,J2 before2->(In .i64 (t84+(1:Int))) /\
 kont3 before2 (t84+(1:Int)))) /\
 (¬ (t84<(((t200.getD t76.toNat (0,[],[],[])).2.2.1).length:Int))->M_slices_Sort_int_int before (fun (ys:List Int) =>
 Zq ys (fun (before3:List Int) =>
 ((t202.length+(([before3]:List (List Int))).length)*24<=140737488355328) /\
 Lp2 (fun (t119:Int) (t2032:List (List Int)) kont4=>((t119<(before3.length:Int)->(0<=t119/\t119<(before3.length:Nat)) /\
 (0<=before3.getD t119.toNat 0/\before3.getD t119.toNat 0<(t2032.length:Nat)) /\
 (((t2032.getD ((before3.getD t119.toNat 0).toNat) []).length+(([t76]:List Int)).length)*8<=140737488355328) /\
 (0<=before3.getD t119.toNat 0/\before3.getD t119.toNat 0<(t2032.length:Nat)) /\
 (In .i64 (t119+(1:Int))) /\
 kont4 (t119+(1:Int)) (t2032.set ((before3.getD t119.toNat 0).toNat) ((t2032.getD ((before3.getD t119.toNat 0).toNat) [])++([t76]:List Int)))) /\
 (¬ (t119<(before3.length:Int))->(In .i64 (t76+(1:Int))) /\
 kont2 (t76+(1:Int)) (t202++([before3]:List (List Int))) t2032))) (0:Int) t203))))) [] (0:Int)) /\
 (¬ (t76<(t200.length:Int))->Lp1 (fun (t146:Int) kont5=>((t146<(t200.length:Int)->(0<=t146/\t146<(t202.length:Nat)) /\
 ki t200 t201 t202 t203 (t202.getD t146.toNat []) (fun (t157:List Bool) =>
 (0<=t146/\t146<(t157.length:Nat)) /\
 (((t157.getD t146.toNat false)=true->∃ n2:Nat,(Er.e 4)=Er.e n2 /\
 K0 (Er.at_ t146 n2)) /\
 ((t157.getD t146.toNat false)=false->(In .i64 (t146+(1:Int))) /\
 kont5 (t146+(1:Int)))))) /\
 (¬ (t146<(t200.length:Int))->K t200 t201 t202 t203 Er.ok))) (0:Int)))) (0:Int) [] (List.replicate (l.length:Int).toNat ([]:List Int))))) (0:Int) [] ([]:List (List UInt8 × Int))))))
def kF (g_l:List (Int × List (List UInt8) × List (List UInt8) × List UInt8)) (c1:List (List UInt8 × Int)) (a0:List (List Int)) (a3:List (List Int)) (K:Int->Prop):Prop :=
 (g_l.length<=maxLen ->
 (a0.length<=maxLen ->
 (a3.length<=maxLen ->
 K (g_l.length:Int))))
def jl (g_l:List (Int × List (List UInt8) × List (List UInt8) × List UInt8)) (c1:List (List UInt8 × Int)) (a0:List (List Int)) (a3:List (List Int)) (i:Int) (K:Int->(List (List UInt8))->(List (List UInt8))->(List UInt8)->Bool->Prop):Prop :=
 (g_l.length<=maxLen ->
 (a0.length<=maxLen ->
 (a3.length<=maxLen ->
 ((((decide (i<(0:Int))) || (decide ((g_l.length:Int)<=i)))=true->K (0:Int) [] [] ([]:List UInt8) false) /\
 (((decide (i<(0:Int))) || (decide ((g_l.length:Int)<=i)))=false->(0<=i/\i<(g_l.length:Nat)) /\
 Za ((g_l.getD i.toNat (0,[],[],[])).1) ((g_l.getD i.toNat (0,[],[],[])).2.1) ((g_l.getD i.toNat (0,[],[],[])).2.2.1) ((g_l.getD i.toNat (0,[],[],[])).2.2.2) (fun (o9:Int) (o8:List (List UInt8)) (m5:List (List UInt8)) (m6:List UInt8) =>
 K o9 o8 m5 m6 true))))))
def kg (g_l:List (Int × List (List UInt8) × List (List UInt8) × List UInt8)) (c1:List (List UInt8 × Int)) (a0:List (List Int)) (a3:List (List Int)) (p:List UInt8) (K:Int->Prop):Prop :=
 (g_l.length<=maxLen ->
 (a0.length<=maxLen ->
 (a3.length<=maxLen ->
 (p.length<=maxLen) /\
 ((((mget c1 p).isSome)=true->K ((mget c1 p).getD 0)) /\
 (((mget c1 p).isSome)=false->K (-1:Int))))))
def ka (g_l:List (Int × List (List UInt8) × List (List UInt8) × List UInt8)) (c1:List (List UInt8 × Int)) (a0:List (List Int)) (a3:List (List Int)) (i:Int) (K:(List Int)->Prop):Prop :=
 (g_l.length<=maxLen ->
 (a0.length<=maxLen ->
 (a3.length<=maxLen ->
 ((((decide (i<(0:Int))) || (decide ((g_l.length:Int)<=i)))=true->K []) /\
 (((decide (i<(0:Int))) || (decide ((g_l.length:Int)<=i)))=false->(0<=i/\i<(a0.length:Nat)) /\
 jv (a0.getD i.toNat []) (fun (t4:List Int) =>
 K t4))))))
def ke (l:List (Int × List (List UInt8) × List (List UInt8) × List UInt8)) (K:Bool->Prop):Prop :=
 (l.length<=maxLen ->
 (((24:Int)<(l.length:Int)->K false) /\
 (¬ ((24:Int)<(l.length:Int))->Lp1 (fun (i:Int) kont1=>((i<(l.length:Int)->(0<=i/\i<(l.length:Nat)) /\
 jO ((l.getD i.toNat (0,[],[],[])).2.1) (8:Int) (100:Int) (fun (t18:Bool) =>
 ∃ J1:Bool->Prop,((((!t18)=true->J1 true) /\
 ((!t18)=false->(0<=i/\i<(l.length:Nat)) /\
 jO ((l.getD i.toNat (0,[],[],[])).2.2.1) (10:Int) (250:Int) (fun (t26:Bool) =>
 J1 (!t26))))) /\
 (∀ q1:Bool,J1 q1->(q1=false->(0<=i/\i<(l.length:Nat))) /\
 (((q1 || (decide ((250:Int)<(((l.getD i.toNat (0,[],[],[])).2.2.2).length:Int))))=true->K false) /\
 ((q1 || (decide ((250:Int)<(((l.getD i.toNat (0,[],[],[])).2.2.2).length:Int))))=false->(In .i64 (i+(1:Int))) /\
 kont1 (i+(1:Int))))))) /\
 (¬ (i<(l.length:Int))->K true))) (0:Int))))
def kB (l:List (List UInt8 × List UInt8)) (K:Bool->Prop):Prop :=
 (l.length<=maxLen ->
 (((40:Int)<(l.length:Int)->K false) /\
 (¬ ((40:Int)<(l.length:Int))->Lp1 (fun (i:Int) kont1=>((i<(l.length:Int)->(0<=i/\i<(l.length:Nat)) /\
 ((decide ((250:Int)<(((l.getD i.toNat ([],[])).1).length:Int)))=false->(0<=i/\i<(l.length:Nat))) /\
 ((((decide ((250:Int)<(((l.getD i.toNat ([],[])).1).length:Int))) || (decide ((3000:Int)<(((l.getD i.toNat ([],[])).2).length:Int))))=true->K false) /\
 (((decide ((250:Int)<(((l.getD i.toNat ([],[])).1).length:Int))) || (decide ((3000:Int)<(((l.getD i.toNat ([],[])).2).length:Int))))=false->(In .i64 (i+(1:Int))) /\
 kont1 (i+(1:Int))))) /\
 (¬ (i<(l.length:Int))->K true))) (0:Int))))
set_option maxHeartbeats 8000000 in
theorem kP {w:World} {s:List (List UInt8)} {A_s:Option Addr} {c_s:Nat} {n_s:Nat} {K:(List (List UInt8))->Prop} (hs:Rd vs w A_s c_s s) (p1:n_s=s.length) (H:jc s K):Fn Tryz.prog 59 ⟨[.slice A_s n_s c_s]⟩ w (fun v w'=>w.grownBy w' none/\∃ (r:List (List UInt8)),∃ (A_r:Option Addr),∃ (c_r:Nat),v=.slice A_r r.length c_r/\Own vs w' w.heap.size 9 A_r c_r r/\K r):=by
 subst p1
 unfold jc at H
 refine Fn.enter (by kernel_rfl) Tryz.func59 rfl Tryz.ntmps59 rfl ?_
 replace H:=H (Nat.le_trans hs.cap hs.max)
 refine zc (zb (yp (h:=(zd (za (zc (zc (zb (yp (h:=(zi rfl (Yld.sleqnil Tryz.underlying42 rfl) (zd (za (zk rfl (fun b1=>?_) (fun b1=>?_)))))))))))))))
 ·replace H:=H.1 (hs.nil_of b1)
  exact zc (zb (yp (h:=(zd (za (zq (zh (zx rfl rfl ⟨(qK _ _),[],none,0,rfl,(Own.nil vs w w.heap.size 9),H⟩))))))))
 ·replace H:=H.2
  refine zm (za (zc (zb (zP qD rfl rfl rfl qR rfl (by omega) (fun g1 w1 hB1 hg1 hl1=>?_)))))
  have hO1:Own vs w1 w.heap.size 9 (some ⟨g1,0,none⟩) 0 ([]:List (List UInt8)):=Own.ofBl hB1 (Nat.le_trans (Nat.le_refl _) hl1) (by simp [maxLen]) rfl
  have gr1:=hg1
  refine yp (h:=?_)
  obtain ⟨h1,H⟩:=H
  exact zG qD rfl rfl One.s hO1 rfl rfl (hs.grown gr1) rfl rfl h1 (qN h1) (qF gr1) (fun a0a a0c w2 hO2 hg2 hk1=>yp (h:=(zd (za (zq (zx rfl rfl ⟨(qH gr1 hg2 hO1.ge'),(([]:List (List UInt8))++s),a0a,a0c,rfl,hO2,H⟩))))))
set_option maxHeartbeats 8000000 in
theorem W_slices_Clone_int_int {w:World} {s:List Int} {A_s:Option Addr} {c_s:Nat} {n_s:Nat} {K:(List Int)->Prop} (hs:Rd vi w A_s c_s s) (p1:n_s=s.length) (H:jv s K):Fn Tryz.prog 62 ⟨[.slice A_s n_s c_s]⟩ w (fun v w'=>w.grownBy w' none/\∃ (r:List Int),∃ (A_r:Option Addr),∃ (c_r:Nat),v=.slice A_r r.length c_r/\Own vi w' w.heap.size 3 A_r c_r r/\K r):=by
 subst p1
 unfold jv at H
 refine Fn.enter (by kernel_rfl) Tryz.func62 rfl Tryz.ntmps62 rfl ?_
 replace H:=H (Nat.le_trans hs.cap hs.max)
 refine zc (zb (yp (h:=(zd (za (zc (zc (zb (yp (h:=(zi rfl (Yld.sleqnil Tryz.underlying24 rfl) (zd (za (zk rfl (fun b1=>?_) (fun b1=>?_)))))))))))))))
 ·replace H:=H.1 (hs.nil_of b1)
  exact zc (zb (yp (h:=(zd (za (zq (zh (zx rfl rfl ⟨(qK _ _),[],none,0,rfl,(Own.nil vi w w.heap.size 3),H⟩))))))))
 ·replace H:=H.2
  refine zm (za (zc (zb (zP qD rfl rfl rfl qR rfl (by omega) (fun g1 w1 hB1 hg1 hl1=>?_)))))
  have hO1:Own vi w1 w.heap.size 3 (some ⟨g1,0,none⟩) 0 ([]:List Int):=Own.ofBl hB1 (Nat.le_trans (Nat.le_refl _) hl1) (by simp [maxLen]) rfl
  have gr1:=hg1
  refine yp (h:=?_)
  obtain ⟨h1,H⟩:=H
  exact zG qD rfl rfl One.i hO1 rfl rfl (hs.grown gr1) rfl rfl h1 (qN h1) (qF gr1) (fun a0a a0c w2 hO2 hg2 hk1=>yp (h:=(zd (za (zq (zx rfl rfl ⟨(qH gr1 hg2 hO1.ge'),(([]:List Int)++s),a0a,a0c,rfl,hO2,H⟩))))))
set_option maxHeartbeats 8000000 in
theorem W_slices_Index_int_int {w:World} {s:List Int} {A_s:Option Addr} {c_s:Nat} {v:Int} {n_s:Nat} {K:Int->Prop} (hs:Rd vi w A_s c_s s) (p1:n_s=s.length) (H:jQ s v K):Fn Tryz.prog 66 ⟨[.slice A_s n_s c_s,.int .i64 v]⟩ w (fun v w'=>w=w'/\∃ (r:Int),v=.int .i64 r/\K r):=by
 subst p1
 unfold jQ at H
 refine Fn.enter (by kernel_rfl) Tryz.func66 rfl Tryz.ntmps66 rfl ?_
 replace H:=H (Nat.le_trans hs.cap hs.max)
 refine zc (zb (yp (h:=(zd (za (zc (zc (zb (yp (h:=(yp (h:=(yp (h:=(zd (za (WC.block ?_)))))))))))))))))
 obtain ⟨I1,mu1,l0,HR1⟩:=H
 refine zA (fun n' L' w'=>∃ (t8:Int),n'=mu1 t8/\L'=[(0,.slice A_s s.length c_s),(1,.int .i64 v),(7,.int .i64 (s.length:Int)),(8,.int .i64 t8)]/\I1 t8/\w=w') _ _ ⟨(0:Int),rfl,rfl,l0,rfl⟩ sb ?_
 clear l0
 rintro _ _ _ ⟨t8,rfl,rfl,hI1,rfl⟩
 have H:=HR1 t8 hI1
 refine zc (zb (yp (h:=(zd (za (zc (zk rfl (fun b1=>?_) (fun b1=>?_))))))))
 ·replace H:=H.1 (of_decide_eq_true b1)
  refine zm (za (zc (WC.block (zc (zb (yp (h:=(yp (h:=(zd (za (zc (zb (yp (h:=(yp (h:=(yp (h:=?_)))))))))))))))))))
  obtain ⟨h1,H⟩:=H
  refine zi rfl (zn qD hs rfl rfl rfl rfl h1.1 h1.2) (zi rfl (zo 0 qD hs rfl rfl (iltN h1 rfl)) (yp (h:=(zd (za (zk rfl (fun b2=>?_) (fun b2=>?_)))))))
  ·replace H:=H.1 (of_decide_eq_true b2)
   exact zc (zb (yp (h:=(yp (h:=(zd (za (zq (zp (zh (zh (zp (zh (zx rfl rfl ⟨rfl,t8,rfl,H⟩))))))))))))))
  ·replace H:=H.2 (of_decide_eq_false b2)
   refine zm (zg (za (zb ?_)))
   obtain ⟨h2,H⟩:=H
   exact zi rfl (Yld.add rfl rfl h2) (yp (h:=(zd (zw _ ⟨t8+(1:Int),rfl,rfl,H.1,rfl⟩ sb H.2))))
 ·replace H:=H.2 (of_decide_eq_false b1)
  exact zz (zf (zf (zj (za (zc (zb (yp (h:=(zd (za (zq (zx rfl rfl ⟨rfl,(-1:Int),rfl,H⟩))))))))))))
set_option maxHeartbeats 8000000 in
theorem W_smithyref_Texts {w:World} {l:List (List UInt8)} {A_l:Option Addr} {c_l:Nat} {n_l:Nat} {K:(List (List UInt8))->Prop} (hl:Rd vs w A_l c_l l) (s9:n_l=l.length) (H:kq l K):Fn Tryz.prog 95 ⟨[.slice A_l n_l c_l]⟩ w (fun v w'=>w.grownBy w' none/\∃ (r:List (List UInt8)),∃ (A_r:Option Addr),∃ (c_r:Nat),v=.slice A_r r.length c_r/\Own vs w' w.heap.size 9 A_r c_r r/\K r):=by
 subst s9
 unfold kq at H
 refine Fn.enter (by kernel_rfl) Tryz.func95 rfl Tryz.ntmps95 rfl ?_
 replace H:=H (Nat.le_trans hl.cap hl.max)
 refine zc (zb (yp (h:=(zd (za (zc (zb (yp (h:=(yp (h:=?_)))))))))))
 obtain ⟨h1,H⟩:=H
 refine WL.makeCI (f:=vs) (B:=w.heap.size) qD rfl rfl rfl rfl h1.1 h1.2.1 h1.2.2 (Nat.le_refl _) (fun g1 w1 hO1 hg1 hl1=>yp (h:=(zd (za (zc (zc (zb (yp (h:=(zd (za (WC.block ?_))))))))))))
 obtain ⟨I1,mu1,l0,HR1⟩:=H
 refine zA (fun n' L' w'=>∃ (out:List (List UInt8)),∃ (o1:Option Addr),∃ (o5:Nat),∃ (r7:Nat),∃ (i:Int),n'=mu1 out i/\L'=[(0,.slice A_l l.length c_l),(3,.slice o1 r7 o5),(4,.int .i64 i)]/\I1 out i/\r7=out.length/\w.grownBy w' none/\Own vs w' w.heap.size 9 o1 o5 out) _ _ ⟨([]:List (List UInt8)),(some ⟨g1,0,none⟩),(l.length:Int).toNat,0,(0:Int),rfl,rfl,l0,rfl,hg1,hO1⟩ sb ?_
 clear l0
 rintro _ _ w2 ⟨out,o1,o5,r7,i,rfl,rfl,hI1,rfl,gr2,k1⟩
 have H:=HR1 out i hI1
 refine zc (zc (zb (yp (h:=(yp (h:=(yp (h:=(yp (h:=(zd (za (zk rfl (fun b1=>?_) (fun b1=>?_))))))))))))))
 ·replace H:=H.1 (of_decide_eq_true b1)
  refine zm (za (zc (WC.block (zb (yp (h:=(yp (h:=(yp (h:=?_))))))))))
  obtain ⟨h2,H⟩:=H
  refine zi rfl (zn qD (hl.grown gr2) rfl rfl rfl rfl h2.1 h2.2) (zi rfl (zo [] qD (hl.grown gr2) rfl rfl (iltN h2 rfl)) (zP qD rfl rfl rfl (qG rfl qR) rfl (by omega) (fun g2 w3 hB1 hg2 hl2=>?_)))
  have hO2:Own vs w3 w.heap.size 9 (some ⟨g2,0,none⟩) 1 ([l.getD i.toNat []]:List (List UInt8)):=Own.ofBl hB1 (Nat.le_trans (qF gr2) hl2) (by simp [maxLen]) rfl
  have gr3:=qE gr2 hg2
  have k2:=k1.grown hg2
  obtain ⟨h3,H⟩:=H
  refine zG qD rfl rfl One.s k2 rfl rfl hO2.rd rfl rfl h3 (qN h3) (qF gr3) (fun p7 r0 w4 hO3 hg3 hk1=>yp (h:=(zd (zg (za (zb (yp (h:=?_))))))))
  obtain ⟨h4,H⟩:=H
  exact zi rfl (Yld.add rfl rfl h4) (yp (h:=(zd (zw _ ⟨out++([l.getD i.toNat []]:List (List UInt8)),p7,r0,(out++([l.getD i.toNat []]:List (List UInt8))).length,i+(1:Int),rfl,rfl,H.1,rfl,(qH gr3 hg3 k2.ge'),hO3⟩ sb H.2))))
 ·replace H:=H.2 (of_decide_eq_false b1)
  exact zz (zf (zf (zj (za (zc (zb (yp (h:=(yp (h:=(zd (za (zq (zx rfl rfl ⟨gr2,out,o1,o5,rfl,k1,H⟩))))))))))))))
set_option maxHeartbeats 8000000 in
theorem W_smithyref_SameInts {w:World} {a:List Int} {A_a:Option Addr} {c_a:Nat} {b:List Int} {A_b:Option Addr} {c_b:Nat} {n_a:Nat} {n_b:Nat} {K:Bool->Prop} (ha:Rd vi w A_a c_a a) (a0m:n_a=a.length) (hb:Rd vi w A_b c_b b) (a0n:n_b=b.length) (H:kp a b K):Fn Tryz.prog 18 ⟨[.slice A_a n_a c_a,.slice A_b n_b c_b]⟩ w (fun v w'=>w=w'/\∃ (r:Bool),v=.bool r/\K r):=by
 subst a0m
 subst a0n
 unfold kp at H
 refine Fn.enter (by kernel_rfl) Tryz.func18 rfl Tryz.ntmps18 rfl ?_
 replace H:=H (Nat.le_trans ha.cap ha.max)
 replace H:=H (Nat.le_trans hb.cap hb.max)
 refine zc (zb (yp (h:=(zd (za (zc (zc (zb (yp (h:=(yp (h:=(yp (h:=(yp (h:=(yp (h:=(zd (za (zk rfl (fun b1=>?_) (fun b1=>?_))))))))))))))))))))))
 ·replace H:=H.1 (kN b1)
  exact zc (zb (yp (h:=(zd (za (zq (zh (zx rfl rfl ⟨rfl,false,rfl,H⟩))))))))
 ·replace H:=H.2 (j9 b1)
  refine zm (za (zc (zc (zb (yp (h:=(zd (za (WC.block ?_)))))))))
  obtain ⟨I1,mu1,l0,HR1⟩:=H
  refine zA (fun n' L' w'=>∃ (i:Int),n'=mu1 i/\L'=[(0,.slice A_a a.length c_a),(1,.slice A_b b.length c_b),(5,.int .i64 i)]/\I1 i/\w=w') _ _ ⟨(0:Int),rfl,rfl,l0,rfl⟩ sb ?_
  clear l0
  rintro _ _ _ ⟨i,rfl,rfl,hI1,rfl⟩
  have H:=HR1 i hI1
  refine zc (zc (zb (yp (h:=(yp (h:=(yp (h:=(yp (h:=(zd (za (zk rfl (fun b2=>?_) (fun b2=>?_))))))))))))))
  ·replace H:=H.1 (of_decide_eq_true b2)
   refine zm (za (zc (WC.block (zc (zQ mixed (by kernel_rfl) (zB rfl (ze qD rfl) (zB rfl (ze qD rfl) ?_)))))))
   obtain ⟨h1,H⟩:=H
   refine zB rfl (zn qD ha rfl rfl rfl rfl h1.1 h1.2) (zB rfl (zo 0 qD ha rfl rfl (iltN h1 rfl)) (zB rfl (ze qD rfl) (zB rfl (ze qD rfl) ?_)))
   obtain ⟨h2,H⟩:=H
   refine zB rfl (zn qD hb rfl rfl rfl rfl h2.1 h2.2) (zB rfl (zo 0 qD hb rfl rfl (iltN h2 rfl)) (zB rfl (ze qD rfl) (zB rfl (ze qD rfl) (zW (za (zc (zb (yp (h:=(yp (h:=(zd (za (zk rfl (fun b3=>?_) (fun b3=>?_)))))))))))))))
   ·replace H:=H.1 (kN b3)
    exact zc (zb (yp (h:=(zd (za (zq (zp (zh (zh (zp (zh (zx rfl rfl ⟨rfl,false,rfl,H⟩))))))))))))
   ·replace H:=H.2 (j9 b3)
    refine zm (zg (za (zb (yp (h:=?_)))))
    obtain ⟨h3,H⟩:=H
    exact zi rfl (Yld.add rfl rfl h3) (yp (h:=(zd (zw _ ⟨i+(1:Int),rfl,rfl,H.1,rfl⟩ sb H.2))))
  ·replace H:=H.2 (of_decide_eq_false b2)
   exact zz (zf (zf (zj (za (zc (zb (yp (h:=(zd (za (zq (zx rfl rfl ⟨rfl,true,rfl,H⟩))))))))))))
set_option maxHeartbeats 8000000 in
theorem W_graph_copied {w:World} {e2:Int} {e6:List (List UInt8)} {f9:Option Addr} {g8:Nat} {c6:List (List UInt8)} {e3:Option Addr} {e4:Nat} {d3:List UInt8} {l3:Nat} {i4:Nat} {K:Int->(List (List UInt8))->(List (List UInt8))->(List UInt8)->Prop} (l5:Rd vs w f9 g8 e6) (m4:l3=e6.length) (i1:Rd vs w e3 e4 c6) (l2:i4=c6.length) (H:Za e2 e6 c6 d3 K):Fn Tryz.prog 28 ⟨[.agg ⟨[.int .i64 e2,.slice f9 l3 g8,.slice e3 i4 e4,vs d3]⟩]⟩ w (fun v w'=>w.grownBy w' none/\∃ (r_Tool:Int),∃ (r_Args:List (List UInt8)),∃ (p8:Option Addr),∃ (s7:Nat),∃ (r_Inputs:List (List UInt8)),∃ (o2:Option Addr),∃ (r3:Nat),∃ (r_Output:List UInt8),v=.agg ⟨[.int .i64 r_Tool,.slice p8 r_Args.length s7,.slice o2 r_Inputs.length r3,vs r_Output]⟩/\Own vs w' w.heap.size 9 p8 s7 r_Args/\Own vs w' w.heap.size 9 o2 r3 r_Inputs/\Dj (blk p8) (blk o2)/\K r_Tool r_Args r_Inputs r_Output):=by
 subst m4
 subst l2
 unfold Za at H
 refine Fn.enter (by kernel_rfl) Tryz.func28 rfl Tryz.ntmps28 rfl ?_
 replace H:=H (Nat.le_trans l5.cap l5.max)
 replace H:=H (Nat.le_trans i1.cap i1.max)
 refine zc (zb (WL.box (us:=[.int .i64 e2,.slice f9 e6.length g8,.slice e3 c6.length e4,vs d3]) rfl rfl rfl (fun g1 w1 hB1 hg1 hl1=>?_)))
 have gr1:=hg1
 refine WL.alloc rfl zero64 (fun g2 w2 hB2 hg2 hl2=>?_)
 have gr2:=qE gr1 hg2
 have k1:=hB1.g0 hg2
 refine zd (za (zc (zO (fun k => !(Nat.beq k 2 || Nat.beq k 5 || Nat.beq k 7 || Nat.beq k 9)) (LD [1,4] (fun w'=>Bl w' g1 64 [.int .i64 e2,.slice f9 e6.length g8,.slice e3 c6.length e4,vs d3])) mixed (by kernel_rfl) (fun k w' h _=>(jU h k1)) (zu rfl rfl (fun w' hw'=>ze qD rfl) (zu rfl rfl (fun w' hw'=>zt qD (hw' rfl) rfl rfl rfl) (zT rfl (qI) rfl rfl (kP (l5.grown gr2) rfl H) (fun v w' h w2 e=>DD.keep (Bl.g0 k1 (qQ h.1 e))) ?_))))))
 rintro _ w3 ⟨hg3,t5,u3,u7,rfl,ht5,H⟩
 have hb1:=ht5.ge'
 have k2:=ht5.base (fun g hg=>Nat.le_trans (qF gr2) (hb1 g hg))
 have gr3:=qE gr2 hg3
 have k3:=k1.g0 hg3
 have k4:=hB2.g0 hg3
 refine zu rfl rfl (fun w' hw'=>ze qD rfl) (zu rfl rfl (fun w' hw'=>zt qD (hw' rfl) rfl rfl rfl) (zT rfl (qI) rfl rfl (kP (i1.grown gr3) rfl H) (fun v w' h w2 e=>DD.keep (Bl.g0 k3 (qQ h.1 e))) ?_))
 rintro _ w4 ⟨hg4,t8,y3,y5,rfl,ht8,H⟩
 have hb2:=ht8.ge'
 refine zu rfl rfl (fun w' hw'=>ze qD rfl) (qn rfl (qm one42 rfl rfl rfl (k3.g0 hg4) (by simp)) (fun w' h=>qv (by kernel_rfl)) ?_)
 rintro w5 ⟨hB4,hg5⟩
 have hB3:Bl w5 g1 64 [.int .i64 e2,.slice u3 t5.length u7,.slice e3 c6.length e4,vs d3]:=hB4
 refine zu rfl rfl (fun w' hw'=>ze qD rfl) (qn rfl (qm one42 rfl rfl rfl hB3 (by simp)) (fun w' h=>qv (by kernel_rfl)) ?_)
 rintro w6 ⟨hB6,hg6⟩
 have hB5:Bl w6 g1 64 [.int .i64 e2,.slice u3 t5.length u7,.slice y3 t8.length y5,vs d3]:=hB6
 exact zX (za (zc (zb (zi rfl (zY (vs:=[.int .i64 e2,.slice u3 t5.length u7,.slice y3 t8.length y5,vs d3]) qD hB5 rfl rfl rfl rfl) (zH (vs:=[.int .i64 e2,.slice u3 t5.length u7,.slice y3 t8.length y5,vs d3]) qD rfl rfl rfl (qG rfl (qG rfl (qG rfl (qG rfl qR)))) (((k4.g0 hg4).go hg5 ((Dj.new hB1.lt' (Ge.box hl2)).symm)).go hg6 ((Dj.new hB1.lt' (Ge.box hl2)).symm)) rfl rfl (fun w7 hB7 hg7=>zd (za (zq (z7 qD rfl rfl rfl hB7 rfl ⟨(qH (qH (qH (qE gr3 hg4) hg5 (Ge.le (Ge.box hl1) (Nat.le_refl _))) hg6 (Ge.le (Ge.box hl1) (Nat.le_refl _))) hg7 (Ge.le (Ge.box hl2) (qF gr1))),e2,t5,u3,u7,t8,y3,y5,d3,rfl,((((k2.grown hg4).go hg5 ((Dj.new k1.lt' hb1).symm)).go hg6 ((Dj.new k1.lt' hb1).symm)).go hg7 ((Dj.new hB2.lt' hb1).symm)),((((ht8.base (fun g hg=>Nat.le_trans (qF gr3) (hb2 g hg))).go hg5 ((Dj.new k3.lt' hb2).symm)).go hg6 ((Dj.new k3.lt' hb2).symm)).go hg7 ((Dj.new k4.lt' hb2).symm)),(Dj.new k2.lt' hb2),H⟩)))))))))
set_option maxHeartbeats 8000000 in
theorem W_pgraph_Graph_fits_1 {S:List Nat} {w:World} {s:List UInt8} {K:Bool->Prop} (hG:GOK S w) (hS100:100∈S) (H:kS s K):Fn Tryz.prog 58 ⟨[vs s]⟩ w (fun v w'=>w.grownBy w' none/\∃ (r:Bool),v=.bool r/\K r):=by
 unfold kS at H
 refine Fn.enter (by kernel_rfl) Tryz.func58 rfl Tryz.ntmps58 rfl ?_
 refine zc (zb (yp (h:=(zd (za (zc (zb (yp (h:=(zr rfl rfl (W_path_Valid hG hS100 H) ?_))))))))))
 rintro _ w1 ⟨hg1,t4,rfl,H⟩
 exact yp (h:=(yp (h:=(zd (za (zq (zx rfl rfl ⟨hg1,!t4,rfl,H⟩)))))))
set_option maxHeartbeats 8000000 in
theorem jS {S:List Nat} {w:World} {s:List (List UInt8)} {A_s:Option Addr} {c_s:Nat} {n_s:Nat} {K:Int->Prop} (hG:GOK S w) (hS100:100∈S) (hs:Rd vs w A_s c_s s) (p1:n_s=s.length) (H:qW s K):Fn Tryz.prog 80 ⟨[.slice A_s n_s c_s,.func (.func 58) #[] #[]]⟩ w (fun v w'=>w.grownBy w' none/\∃ (r:Int),v=.int .i64 r/\K r):=by
 subst p1
 unfold qW at H
 refine Fn.enter (by kernel_rfl) Tryz.func80 rfl Tryz.ntmps80 rfl ?_
 replace H:=H (Nat.le_trans hs.cap hs.max)
 refine zc (zb (yp (h:=(zd (za (zc (zc (zb (yp (h:=(yp (h:=(yp (h:=(zd (za (WC.block ?_)))))))))))))))))
 obtain ⟨I1,mu1,l0,HR1⟩:=H
 refine zA (fun n' L' w'=>∃ (t8:Int),n'=mu1 t8/\L'=[(0,.slice A_s s.length c_s),(1,.func (.func 58) #[] #[]),(7,.int .i64 (s.length:Int)),(8,.int .i64 t8)]/\I1 t8/\w.grownBy w' none) _ _ ⟨(0:Int),rfl,rfl,l0,(qK _ _)⟩ sb ?_
 clear l0
 rintro _ _ w1 ⟨t8,rfl,rfl,hI1,gr1⟩
 have H:=HR1 t8 hI1
 refine zc (zb (yp (h:=(zd (za (zc (zk rfl (fun b1=>?_) (fun b1=>?_))))))))
 ·replace H:=H.1 (of_decide_eq_true b1)
  refine zm (za (zc (WC.block (zc (zb (yp (h:=(yp (h:=(zd (za (zc (zb (yp (h:=(yp (h:=(yp (h:=?_)))))))))))))))))))
  obtain ⟨h1,H⟩:=H
  refine zi rfl (zn qD (hs.grown gr1) rfl rfl rfl rfl h1.1 h1.2) (zi rfl (zo [] qD (hs.grown gr1) rfl rfl (iltN h1 rfl)) (WL.callv rfl rfl rfl (W_pgraph_Graph_fits_1 (hG.grown gr1) hS100 H) ?_))
  rintro _ w2 ⟨hg1,t16,rfl,H⟩
  have gr2:=qE gr1 hg1
  refine zd (za (zk rfl (fun b2=>?_) (fun b2=>?_)))
  ·replace H:=H.1 (b2)
   exact zc (zb (yp (h:=(yp (h:=(zd (za (zq (zp (zh (zh (zp (zh (zx rfl rfl ⟨gr2,t8,rfl,H⟩))))))))))))))
  ·replace H:=H.2 (b2)
   refine zm (zg (za (zb ?_)))
   obtain ⟨h2,H⟩:=H
   exact zi rfl (Yld.add rfl rfl h2) (yp (h:=(zd (zw _ ⟨t8+(1:Int),rfl,rfl,H.1,gr2⟩ sb H.2))))
 ·replace H:=H.2 (of_decide_eq_false b1)
  exact zz (zf (zf (zj (za (zc (zb (yp (h:=(zd (za (zq (zx rfl rfl ⟨gr1,(-1:Int),rfl,H⟩))))))))))))
set_option maxHeartbeats 8000000 in
theorem jG {S:List Nat} {w:World} {s:List (List UInt8)} {A_s:Option Addr} {c_s:Nat} {n_s:Nat} {K:Bool->Prop} (hG:GOK S w) (hS100:100∈S) (hs:Rd vs w A_s c_s s) (p1:n_s=s.length) (H:qM s K):Fn Tryz.prog 57 ⟨[.slice A_s n_s c_s,.func (.func 58) #[] #[]]⟩ w (fun v w'=>w.grownBy w' none/\∃ (r:Bool),v=.bool r/\K r):=by
 subst p1
 unfold qM at H
 refine Fn.enter (by kernel_rfl) Tryz.func57 rfl Tryz.ntmps57 rfl ?_
 replace H:=H (Nat.le_trans hs.cap hs.max)
 refine zc (zb (yp (h:=(zd (za (zc (zb (yp (h:=(yp (h:=(zr rfl rfl (jS hG hS100 hs rfl H) ?_))))))))))))
 rintro _ w1 ⟨hg1,t7,rfl,H⟩
 exact yp (h:=(yp (h:=(zd (za (zq (zx rfl rfl ⟨hg1,decide ((0:Int)<=t7),rfl,H⟩)))))))
set_option maxHeartbeats 8000000 in
theorem W_pgraph_Graph_fits {S:List Nat} {w:World} {g_g:Nat} {g_l:List (Int × List (List UInt8) × List (List UInt8) × List UInt8)} {i6:Option Addr} {i7:Nat} {h0:List (Int × Hdr × Hdr × List UInt8)} {d0:Nat} {c1:List (List UInt8 × Int)} {a0:List (List Int)} {c8:Option Addr} {c9:Nat} {c5:List Hdr} {a3:List (List Int)} {d7:Option Addr} {d8:Nat} {d1:List Hdr} {e2:Int} {e6:List (List UInt8)} {f9:Option Addr} {g8:Nat} {c6:List (List UInt8)} {e3:Option Addr} {e4:Nat} {d3:List UInt8} {i9:Nat} {d2:Nat} {d9:Nat} {l3:Nat} {i4:Nat} {K:Er->Prop} (hG:GOK S w) (hS6:6∈S) (hS10:10∈S) (hS11:11∈S) (hS100:100∈S) (l9:RdK 4 qP w i6 i7 h0) (l1:i9=g_l.length) (i3:RelD de64 w h0 g_l) (i8:MapB vs okS vi w d0 c1) (c4:Rd vh w c8 c9 c5) (e1:d2=a0.length) (a5:RelD de24 w c5 a0) (e0:Rd vh w d7 d8 d1) (e5:d9=a3.length) (d6:RelD de24 w d1 a3) (hg:Bl w g_g 71 [.slice i6 i9 i7,.map (some d0),.slice c8 d2 c9,.slice d7 d9 d8]) (l5:Rd vs w f9 g8 e6) (m4:l3=e6.length) (i1:Rd vs w e3 e4 c6) (l2:i4=c6.length) (H:kw g_l c1 a0 a3 e2 e6 c6 d3 K):Fn Tryz.prog 27 ⟨[.pointer (some ⟨g_g,0,none⟩),.agg ⟨[.int .i64 e2,.slice f9 l3 g8,.slice e3 i4 e4,vs d3]⟩]⟩ w (fun v w'=>w.grownBy w' none/\∃ (v_r:Value),∃ (r:Er),v=v_r/\ErrR S w' v_r r/\K r):=by
 subst l1
 subst e1
 subst e5
 subst m4
 subst l2
 unfold kw at H
 refine Fn.enter (by kernel_rfl) Tryz.func27 rfl Tryz.ntmps27 rfl ?_
 replace H:=H (by rw [<-i3.1]; exact Nat.le_trans l9.cap l9.max)
 replace H:=H (by rw [<-a5.1]; exact Nat.le_trans c4.cap c4.max)
 replace H:=H (by rw [<-d6.1]; exact Nat.le_trans e0.cap e0.max)
 replace H:=H (Nat.le_trans l5.cap l5.max)
 replace H:=H (Nat.le_trans i1.cap i1.max)
 refine zc (zb (WL.box (us:=[.int .i64 e2,.slice f9 e6.length g8,.slice e3 c6.length e4,vs d3]) rfl rfl rfl (fun g1 w1 hB1 hg1 hl1=>?_)))
 have gr1:=hg1
 refine yp (h:=(zd (za (zc (zc (zb (yp (h:=(zi rfl (zt qD hB1 rfl rfl rfl) (yp (h:=(yp (h:=(zD 4 (fun L' w'=>∃ q1:Bool,L'=[(14,.bool q1),(0,.pointer (some ⟨g_g,0,none⟩)),(3,.pointer (some ⟨g1,0,none⟩))]/\((decide (e2<(1:Int))) || (decide ((5:Int)<e2)))=q1/\w1=w') ?_ (fun hQ=>?_)))))))))))))))
 ·rintro _ _ ⟨q1,rfl,rfl,rfl⟩
  refine zd (za (zk rfl (fun b1=>?_) (fun b1=>?_)))
  ·replace H:=H.1 (b1)
   refine zc (zb ?_)
   obtain ⟨vE1,_,hE1⟩:=GOK.get (hG.grown gr1) 10 2 hS10 rfl rfl
   exact zi rfl (Yld.cell qD (ErrR.cell hE1 rfl) rfl rfl) (yp (h:=(zd (za (zq (zh (zx rfl rfl ⟨gr1,vE1,(Er.e 10),rfl,hE1,H⟩)))))))
  ·replace H:=H.2 (b1)
   refine zm (za (zc (zc (zb (yp (h:=(zi rfl (zt qD hB1 rfl rfl rfl) (zr rfl rfl (W_path_Valid (hG.grown gr1) hS100 H) ?_))))))))
   rintro _ w2 ⟨hg2,t18,rfl,H⟩
   have gr2:=qE gr1 hg2
   have k1:=hB1.g0 hg2
   refine yp (h:=(yp (h:=?_)))
   obtain ⟨J1,H,hJ1⟩:=H
   refine zD 4 (fun L' w'=>∃ q2:Bool,L'=[(24,.bool q2),(0,.pointer (some ⟨g_g,0,none⟩)),(3,.pointer (some ⟨g1,0,none⟩))]/\J1 q2/\w.grownBy w' none/\Bl w' g1 64 [.int .i64 e2,.slice f9 e6.length g8,.slice e3 c6.length e4,vs d3]) ?_ (fun hQ=>?_)
   ·clear H
    rintro _ w3 ⟨q2,rfl,H,gr3,k2⟩
    replace H:=hJ1 q2 H
    refine zd (za (zk rfl (fun b2=>?_) (fun b2=>?_)))
    ·replace H:=H.1 (b2)
     refine zc (zb ?_)
     obtain ⟨vE2,_,hE2⟩:=GOK.get (hG.grown gr3) 11 3 hS11 rfl rfl
     exact zi rfl (Yld.cell qD (ErrR.cell hE2 rfl) rfl rfl) (yp (h:=(zd (za (zq (zh (zx rfl rfl ⟨gr3,vE2,(Er.e 11),rfl,hE2,H⟩)))))))
    ·replace H:=H.2 (b2)
     refine zm (za (zc (zc (zQ mixed (by kernel_rfl) (zB rfl (ze qD rfl) (zB rfl (ze qD rfl) (zB rfl (ze qD rfl) (zB rfl (zt qD (hg.g0 gr3) rfl rfl rfl) (zB rfl (ze qD rfl) (zB rfl (zt qD k2 rfl rfl rfl) ?_))))))))))
     obtain ⟨h1,H⟩:=H
     refine zB rfl (qC (z:=0) (keyF_s Tryz.underlying9) Tryz.underlying68 (fun _=>by kernel_rfl) (i8.g0 gr3) rfl rfl h1) (zB rfl (ze qD rfl) (zB rfl (ze qD rfl) (zB rfl (ze qD rfl) (zB rfl (ze qD rfl) (zB rfl (ze qD rfl) (zW (za (zc (zb (yp (h:=(zd (za (zk rfl (fun b3=>?_) (fun b3=>?_)))))))))))))))
     ·replace H:=H.1 (b3)
      refine zc (zb ?_)
      obtain ⟨vE3,_,hE3⟩:=GOK.get (hG.grown gr3) 6 4 hS6 rfl rfl
      exact zi rfl (Yld.cell qD (ErrR.cell hE3 rfl) rfl rfl) (yp (h:=(zd (za (zq (zh (zx rfl rfl ⟨gr3,vE3,(Er.e 6),rfl,hE3,H⟩)))))))
     ·replace H:=H.2 (b3)
      exact zm (za (zc (zb (yp (h:=(zd (za (zq (zx rfl rfl ⟨gr3,.nilIface,Er.ok,rfl,(ErrR.okR (S:=S) (w:=w3)),H⟩)))))))))
   ·clear hJ1
    rcases Bool.eq_false_or_eq_true (!t18) with b4 | b4
    ·replace H:=H.1 b4
     exact gn b4 (h:=(gn b4 (h:=(gn b4 (h:=(zi rfl (zy (okb b4) rfl) (wk (hQ _ _ ⟨true,rfl,H,gr2,k1⟩))))))))
    ·replace H:=H.2 b4
     refine gp b4 (h:=(zC rfl rfl (okb b4) rfl (zt qD k1 rfl rfl rfl) (qe (qX rfl rfl (okb b4)) rfl rfl (jG (hG.grown gr2) hS100 (i1.grown gr2) rfl H) ?_)))
     rintro _ w4 ⟨hg3,t23,rfl,H⟩
     exact zi rfl (zv (okb b4) rfl) (wk (hQ _ _ ⟨t23,rfl,H,(qE gr2 hg3),(k1.g0 hg3)⟩))
 ·clear H
  rcases Bool.eq_false_or_eq_true (decide (e2<(1:Int))) with b5 | b5
  ·exact gn b5 (h:=(gn b5 (h:=(gn b5 (h:=(zi rfl (zy (okb b5) rfl) (wk (hQ _ _ ⟨true,rfl,by rw [b5] <;> rfl,rfl⟩))))))))
  ·exact gp b5 (h:=(zC rfl rfl (okb b5) rfl (zt qD hB1 rfl rfl rfl) (gp b5 (h:=(zi rfl (zv (okb b5) rfl) (wk (hQ _ _ ⟨decide ((5:Int)<e2),rfl,by rw [b5] <;> rfl,rfl⟩)))))))
set_option maxHeartbeats 8000000 in
theorem W_graph_New_1 {w:World} {e2:Int} {e6:List (List UInt8)} {f9:Option Addr} {g8:Nat} {c6:List (List UInt8)} {e3:Option Addr} {e4:Nat} {d3:List UInt8} {l3:Nat} {i4:Nat} {K:Bool->Prop} (l5:Rd vs w f9 g8 e6) (m4:l3=e6.length) (i1:Rd vs w e3 e4 c6) (l2:i4=c6.length) (H:M_graph_New_1 e2 e6 c6 d3 K):Fn Tryz.prog 26 ⟨[.agg ⟨[.int .i64 e2,.slice f9 l3 g8,.slice e3 i4 e4,vs d3]⟩]⟩ w (fun v w'=>w.grownBy w' none/\∃ (r:Bool),v=.bool r/\K r):=by
 subst m4
 subst l2
 unfold M_graph_New_1 at H
 refine Fn.enter (by kernel_rfl) Tryz.func26 rfl Tryz.ntmps26 rfl ?_
 replace H:=H (Nat.le_trans l5.cap l5.max)
 replace H:=H (Nat.le_trans i1.cap i1.max)
 refine zc (zb (WL.box (us:=[.int .i64 e2,.slice f9 e6.length g8,.slice e3 c6.length e4,vs d3]) rfl rfl rfl (fun g1 w1 hB1 hg1 hl1=>yp (h:=(zd (za (zc (zb (yp (h:=(zi rfl (zt qD hB1 rfl rfl rfl) (yp (h:=(yp (h:=(yp (h:=(zD 5 (fun L' w'=>∃ q1:Bool,L'=[(12,.bool q1)]/\((decide ((1000:Int)<(c6.length:Int))) || (decide ((1000:Int)<(e6.length:Int))))=q1/\w1=w') ?_ (fun hQ=>?_)))))))))))))))))))
 ·rintro _ _ ⟨q1,rfl,rfl,rfl⟩
  exact yp (h:=(zd (za (zq (zx rfl rfl ⟨hg1,(decide ((1000:Int)<(c6.length:Int))) || (decide ((1000:Int)<(e6.length:Int))),rfl,H⟩)))))
 ·clear H
  rcases Bool.eq_false_or_eq_true (decide ((1000:Int)<(c6.length:Int))) with b1 | b1
  ·exact gn b1 (h:=(gn b1 (h:=(gn b1 (h:=(gn b1 (h:=(zi rfl (zy (okb b1) rfl) (wk (hQ _ _ ⟨true,rfl,by rw [b1] <;> rfl,rfl⟩))))))))))
  ·exact gp b1 (h:=(zC rfl rfl (okb b1) rfl (zt qD hB1 rfl rfl rfl) (gp b1 (h:=(gp b1 (h:=(zi rfl (zv (okb b1) rfl) (wk (hQ _ _ ⟨decide ((1000:Int)<(e6.length:Int)),rfl,by rw [b1] <;> rfl,rfl⟩)))))))))
set_option maxHeartbeats 8000000 in
theorem jR {w:World} {s:List (Int × List (List UInt8) × List (List UInt8) × List UInt8)} {A_s:Option Addr} {c_s:Nat} {y2:List (Int × Hdr × Hdr × List UInt8)} {n_s:Nat} {K:Int->Prop} (hs:RdK 4 qP w A_s c_s y2) (p1:n_s=s.length) (s4:RelD de64 w y2 s) (H:qV s K):Fn Tryz.prog 55 ⟨[.slice A_s n_s c_s,.func (.func 26) #[] #[]]⟩ w (fun v w'=>w.grownBy w' none/\∃ (r:Int),v=.int .i64 r/\K r):=by
 subst p1
 unfold qV at H
 refine Fn.enter (by kernel_rfl) Tryz.func55 rfl Tryz.ntmps55 rfl ?_
 replace H:=H (by rw [<-s4.1]; exact Nat.le_trans hs.cap hs.max)
 refine zc (zb (yp (h:=(zd (za (zc (zc (zb (yp (h:=(yp (h:=(yp (h:=(zd (za (WC.block ?_)))))))))))))))))
 obtain ⟨I1,mu1,l0,HR1⟩:=H
 refine zA (fun n' L' w'=>∃ (t8:Int),n'=mu1 t8/\L'=[(0,.slice A_s s.length c_s),(1,.func (.func 26) #[] #[]),(7,.int .i64 (s.length:Int)),(8,.int .i64 t8)]/\I1 t8/\w.grownBy w' none) _ _ ⟨(0:Int),rfl,rfl,l0,(qK _ _)⟩ sb ?_
 clear l0
 rintro _ _ w1 ⟨t8,rfl,rfl,hI1,gr1⟩
 have H:=HR1 t8 hI1
 refine zc (zb (yp (h:=(zd (za (zc (zk rfl (fun b1=>?_) (fun b1=>?_))))))))
 ·replace H:=H.1 (of_decide_eq_true b1)
  refine zm (za (zc (WC.block (zc (zb (yp (h:=(yp (h:=(zd (za (zc (zb (yp (h:=(yp (h:=(yp (h:=?_)))))))))))))))))))
  obtain ⟨h1,H⟩:=H
  refine zi rfl (zE qD (hs.grown gr1) rfl rfl s4.1.symm rfl h1.1 h1.2) ?_
  obtain ⟨⟨f1,⟨m7,n1,m8⟩,⟨l6,n2,l7⟩,f2⟩,eh1,⟨en1,⟨en2,hR1⟩,⟨en3,hR2⟩,en4⟩⟩:=RelD.at s4 (0,hd0,hd0,[]) (0,[],[],[]) (j:=t8.toNat) (Nat.lt_of_lt_of_eq (iltN h1 s4.1.symm) s4.1)
  have en1:f1=(s.getD t8.toNat (0,[],[],[])).1:=en1
  subst en1
  have en2:n1=((s.getD t8.toNat (0,[],[],[])).2.1).length:=en2
  subst en2
  have en3:n2=((s.getD t8.toNat (0,[],[],[])).2.2.1).length:=en3
  subst en3
  have en4:f2=(s.getD t8.toNat (0,[],[],[])).2.2.2:=en4
  subst en4
  refine zi rfl (qk (v:=.agg ⟨[.int .i64 ((s.getD t8.toNat (0,[],[],[])).1),.slice m7 (((s.getD t8.toNat (0,[],[],[])).2.1).length) m8,.slice l6 (((s.getD t8.toNat (0,[],[],[])).2.2.1).length) l7,vs ((s.getD t8.toNat (0,[],[],[])).2.2.2)]⟩) (zU (0,hd0,hd0,[]) qD (hs.grown gr1) rfl rfl (iltN h1 s4.1.symm)) (by rw [eh1]; rfl)) (WL.callv rfl rfl rfl (W_graph_New_1 (hR1.grown gr1) rfl (hR2.grown gr1) rfl H) ?_)
  rintro _ w2 ⟨hg1,t16,rfl,H⟩
  have gr2:=qE gr1 hg1
  refine zd (za (zk rfl (fun b2=>?_) (fun b2=>?_)))
  ·replace H:=H.1 (b2)
   exact zc (zb (yp (h:=(yp (h:=(zd (za (zq (zp (zh (zh (zp (zh (zx rfl rfl ⟨gr2,t8,rfl,H⟩))))))))))))))
  ·replace H:=H.2 (b2)
   refine zm (zg (za (zb ?_)))
   obtain ⟨h2,H⟩:=H
   exact zi rfl (Yld.add rfl rfl h2) (yp (h:=(zd (zw _ ⟨t8+(1:Int),rfl,rfl,H.1,gr2⟩ sb H.2))))
 ·replace H:=H.2 (of_decide_eq_false b1)
  exact zz (zf (zf (zj (za (zc (zb (yp (h:=(zd (za (zq (zx rfl rfl ⟨gr1,(-1:Int),rfl,H⟩))))))))))))
set_option maxHeartbeats 8000000 in
theorem jF {w:World} {s:List (Int × List (List UInt8) × List (List UInt8) × List UInt8)} {A_s:Option Addr} {c_s:Nat} {y2:List (Int × Hdr × Hdr × List UInt8)} {n_s:Nat} {K:Bool->Prop} (hs:RdK 4 qP w A_s c_s y2) (p1:n_s=s.length) (s4:RelD de64 w y2 s) (H:qL s K):Fn Tryz.prog 25 ⟨[.slice A_s n_s c_s,.func (.func 26) #[] #[]]⟩ w (fun v w'=>w.grownBy w' none/\∃ (r:Bool),v=.bool r/\K r):=by
 subst p1
 unfold qL at H
 refine Fn.enter (by kernel_rfl) Tryz.func25 rfl Tryz.ntmps25 rfl ?_
 replace H:=H (by rw [<-s4.1]; exact Nat.le_trans hs.cap hs.max)
 refine zc (zb (yp (h:=(zd (za (zc (zb (yp (h:=(yp (h:=(zr rfl rfl (jR hs rfl s4 H) ?_))))))))))))
 rintro _ w1 ⟨hg1,t7,rfl,H⟩
 exact yp (h:=(yp (h:=(zd (za (zq (zx rfl rfl ⟨hg1,decide ((0:Int)<=t7),rfl,H⟩)))))))
set_option maxHeartbeats 8000000 in
theorem W_pgraph_Graph_reach {w:World} {g_g:Nat} {g_l:List (Int × List (List UInt8) × List (List UInt8) × List UInt8)} {i6:Option Addr} {i7:Nat} {h0:List (Int × Hdr × Hdr × List UInt8)} {d0:Nat} {c1:List (List UInt8 × Int)} {a0:List (List Int)} {c8:Option Addr} {c9:Nat} {c5:List Hdr} {a3:List (List Int)} {d7:Option Addr} {d8:Nat} {d1:List Hdr} {from_:List Int} {u2:Option Addr} {u5:Nat} {i9:Nat} {d2:Nat} {d9:Nat} {t6:Nat} {K:(List Bool)->Prop} (l9:RdK 4 qP w i6 i7 h0) (l1:i9=g_l.length) (i3:RelD de64 w h0 g_l) (i8:MapB vs okS vi w d0 c1) (c4:Rd vh w c8 c9 c5) (e1:d2=a0.length) (a5:RelD de24 w c5 a0) (e0:Rd vh w d7 d8 d1) (e5:d9=a3.length) (d6:RelD de24 w d1 a3) (hg:Bl w g_g 71 [.slice i6 i9 i7,.map (some d0),.slice c8 d2 c9,.slice d7 d9 d8]) (hfrom_:Rd vi w u2 u5 from_) (y0:t6=from_.length) (H:ki g_l c1 a0 a3 from_ K):Fn Tryz.prog 31 ⟨[.pointer (some ⟨g_g,0,none⟩),.slice u2 t6 u5]⟩ w (fun v w'=>w.grownBy w' none/\∃ (r:List Bool),∃ (A_r:Option Addr),∃ (c_r:Nat),v=.slice A_r r.length c_r/\Own vB w' w.heap.size 4 A_r c_r r/\K r):=by
 subst l1
 subst e1
 subst e5
 subst y0
 unfold ki at H
 refine Fn.enter (by kernel_rfl) Tryz.func31 rfl Tryz.ntmps31 rfl ?_
 replace H:=H (by rw [<-i3.1]; exact Nat.le_trans l9.cap l9.max)
 replace H:=H (by rw [<-a5.1]; exact Nat.le_trans c4.cap c4.max)
 replace H:=H (by rw [<-d6.1]; exact Nat.le_trans e0.cap e0.max)
 replace H:=H (Nat.le_trans hfrom_.cap hfrom_.max)
 refine zc (zb (yp (h:=(zd (za (zc (zb (yp (h:=(yp (h:=(yp (h:=(zi rfl (zt qD hg rfl rfl rfl) (yp (h:=?_))))))))))))))))
 obtain ⟨h1,H⟩:=H
 refine qq (f:=vB) (z:=false) (B:=w.heap.size) qD rfl rfl zero4 rfl rfl h1.1 h1.2.1 h1.2.2 (Nat.le_refl _) (fun g1 w1 hO1 hg1 hl1=>?_)
 have gr1:=hg1
 refine yp (h:=(zd (za (zc (zb (yp (h:=(zr rfl rfl (W_slices_Clone_int_int (hfrom_.grown gr1) rfl H) ?_))))))))
 rintro _ w2 ⟨hg2,work,a0b,a0d,rfl,hwork,H⟩
 have hb1:=hwork.ge'
 have k2:=hO1.grown hg2
 refine yp (h:=(zd (za (zc (WC.block ?_)))))
 obtain ⟨I1,mu1,l0,HR1⟩:=H
 refine zA (fun n' L' w'=>∃ (work2:List Int),∃ (o4:Option Addr),∃ (p6:Nat),∃ (t3:Nat),∃ (met:List Bool),n'=mu1 work2 met/\L'=[(0,.pointer (some ⟨g_g,0,none⟩)),(5,.slice (some ⟨g1,0,none⟩) ((g_l.length:Int).toNat) ((g_l.length:Int).toNat)),(6,.slice o4 t3 p6)]/\I1 work2 met/\(g_l.length:Int).toNat=met.length/\t3=work2.length/\w.grownBy w' none/\Own vB w' w.heap.size 4 (some ⟨g1,0,none⟩) ((g_l.length:Int).toNat) met/\Own vi w' w.heap.size 3 o4 p6 work2/\Dj (blk (some ⟨g1,0,none⟩)) (blk o4)) _ _ ⟨work,a0b,a0d,work.length,(List.replicate (g_l.length:Int).toNat false),rfl,rfl,l0,(List.length_replicate).symm,rfl,(qE gr1 hg2),k2,(hwork.base (fun g hg=>Nat.le_trans (qF gr1) (hb1 g hg))),(Dj.new hO1.lt' hb1)⟩ sb ?_
 clear l0
 rintro _ _ w3 ⟨work2,o4,p6,t3,met,rfl,rfl,hI1,n8,rfl,gr3,k3,k4,dj1⟩
 have H:=HR1 work2 met hI1
 replace H:=H n8
 refine zc (zc (zb (yp (h:=(yp (h:=(yp (h:=(zd (za (zk rfl (fun b1=>?_) (fun b1=>?_))))))))))))
 ·replace H:=H.1 (of_decide_eq_true b1)
  refine zm (za (WC.block (zc (zb (yp (h:=(yp (h:=(yp (h:=?_))))))))))
  obtain ⟨h2,H⟩:=H
  refine zi rfl (Yld.sub rfl rfl h2) ?_
  obtain ⟨h3,H⟩:=H
  refine zi rfl (zn qD k4.rd rfl rfl rfl rfl h3.1 h3.2) (zi rfl (zo 0 qD k4.rd rfl rfl (iltN h3 rfl)) (yp (h:=(zd (za (zc (zb (yp (h:=(yp (h:=(yp (h:=?_)))))))))))))
  obtain ⟨h4,H⟩:=H
  refine zi rfl (Yld.sub rfl rfl h4) ?_
  obtain ⟨h5,H⟩:=H
  refine WL.ocut qD rfl rfl k4 rfl rfl rfl rfl h5.1 h5.2 (fun hO2=>yp (h:=(zd (za (zc (zb (yp (h:=(yp (h:=?_))))))))))
  obtain ⟨h6,H⟩:=H
  refine zi rfl (zn qD k3.rd rfl rfl n8 rfl h6.1 h6.2) (zi rfl (zo false qD k3.rd rfl rfl (iltN h6 n8)) (yp (h:=(zd (za (zk rfl (fun b2=>?_) (fun b2=>?_)))))))
  ·replace H:=H.1 (b2)
   refine zc (zb (yp (h:=(yp (h:=?_)))))
   obtain ⟨h7,H⟩:=H
   refine zi rfl (zn qD k3.rd rfl rfl n8 rfl h7.1 h7.2) (ql (v:=true) one4 One.B k3 rfl rfl (iltN h7 n8) (fun w4 hO3 hg3=>?_))
   have gr4:=qH gr3 hg3 k3.ge'
   have k5:=hO2.go hg3 dj1.symm
   refine zd (za (zb (yp (h:=(yp (h:=(yp (h:=(yp (h:=(zi rfl (zt qD (hg.g0 gr4) rfl rfl rfl) (yp (h:=?_)))))))))))))
   obtain ⟨h8,H⟩:=H
   refine zi rfl (zn qD (c4.grown gr4) rfl rfl a5.1.symm rfl h8.1 h8.2) ?_
   obtain ⟨⟨m7,n1,m8⟩,eh1,⟨en1,hR1⟩⟩:=RelD.at a5 hd0 [] (j:=(work2.getD (((work2.length:Int) - (1:Int)).toNat) 0).toNat) (Nat.lt_of_lt_of_eq (iltN h8 a5.1.symm) a5.1)
   have en1:n1=(a0.getD ((work2.getD (((work2.length:Int) - (1:Int)).toNat) 0).toNat) []).length:=en1
   subst en1
   refine zi rfl (qk (v:=.slice m7 ((a0.getD ((work2.getD (((work2.length:Int) - (1:Int)).toNat) 0).toNat) []).length) m8) (zo hd0 qD (c4.grown gr4) rfl rfl (iltN h8 a5.1.symm)) (by rw [eh1]; rfl)) ?_
   obtain ⟨h9,H⟩:=H
   exact zG qD rfl rfl One.i k5 rfl rfl (hR1.grown gr4) rfl rfl h9 (qN h9) (qF gr4) (fun y4 y6 w5 hO4 hg4 hk1=>yp (h:=(zd (zg (zw _ ⟨(work2.take ((work2.length:Int) - (1:Int)).toNat)++(a0.getD ((work2.getD (((work2.length:Int) - (1:Int)).toNat) 0).toNat) []),y4,y6,((work2.take ((work2.length:Int) - (1:Int)).toNat)++(a0.getD ((work2.getD (((work2.length:Int) - (1:Int)).toNat) 0).toNat) [])).length,met.set ((work2.getD (((work2.length:Int) - (1:Int)).toNat) 0).toNat) true,rfl,rfl,H.1,(n8.trans List.length_set.symm),rfl,(qH gr4 hg4 k5.ge'),(hO3.go hg4 dj1),hO4,(Dj.app dj1.symm hO3.lt' hk1).symm⟩ sb H.2)))))
  ·replace H:=H.2 (b2)
   exact zm (zg (zw _ ⟨work2.take ((work2.length:Int) - (1:Int)).toNat,o4,p6,(work2.take ((work2.length:Int) - (1:Int)).toNat).length,met,rfl,rfl,H.1,n8,rfl,gr3,k3,hO2,dj1⟩ sb H.2))
 ·replace H:=H.2 (of_decide_eq_false b1)
  exact zz (zf (zf (zj (za (zc (zb (yp (h:=(yp (h:=(zd (za (zq (zx rfl rfl ⟨gr3,met,(some ⟨g1,0,none⟩),(g_l.length:Int).toNat,(by rw [n8]),k3,H⟩))))))))))))))
set_option maxHeartbeats 8000000 in
theorem W_pgraph_Graph_Order {w:World} {g_g:Nat} {g_l:List (Int × List (List UInt8) × List (List UInt8) × List UInt8)} {i6:Option Addr} {i7:Nat} {h0:List (Int × Hdr × Hdr × List UInt8)} {d0:Nat} {c1:List (List UInt8 × Int)} {a0:List (List Int)} {c8:Option Addr} {c9:Nat} {c5:List Hdr} {a3:List (List Int)} {d7:Option Addr} {d8:Nat} {d1:List Hdr} {i9:Nat} {d2:Nat} {d9:Nat} {K:(List Int)->Prop} (l9:RdK 4 qP w i6 i7 h0) (l1:i9=g_l.length) (i3:RelD de64 w h0 g_l) (i8:MapB vs okS vi w d0 c1) (c4:Rd vh w c8 c9 c5) (e1:d2=a0.length) (a5:RelD de24 w c5 a0) (e0:Rd vh w d7 d8 d1) (e5:d9=a3.length) (d6:RelD de24 w d1 a3) (hg:Bl w g_g 71 [.slice i6 i9 i7,.map (some d0),.slice c8 d2 c9,.slice d7 d9 d8]) (H:kh g_l c1 a0 a3 K):Fn Tryz.prog 41 ⟨[.pointer (some ⟨g_g,0,none⟩)]⟩ w (fun v w'=>w.grownBy w' none/\∃ (r:List Int),∃ (A_r:Option Addr),∃ (c_r:Nat),v=.slice A_r r.length c_r/\Own vi w' w.heap.size 3 A_r c_r r/\K r):=by
 subst l1
 subst e1
 subst e5
 unfold kh at H
 refine Fn.enter (by kernel_rfl) Tryz.func41 rfl Tryz.ntmps41 rfl ?_
 replace H:=H (by rw [<-i3.1]; exact Nat.le_trans l9.cap l9.max)
 replace H:=H (by rw [<-a5.1]; exact Nat.le_trans c4.cap c4.max)
 replace H:=H (by rw [<-d6.1]; exact Nat.le_trans e0.cap e0.max)
 refine zc (zb (yp (h:=(zd (za (zc (zb (yp (h:=(zd (za (zc (zb (yp (h:=(yp (h:=(yp (h:=(zi rfl (zt qD hg rfl rfl rfl) (yp (h:=?_))))))))))))))))))))))
 obtain ⟨h1,H⟩:=H
 refine qq (f:=vi) (z:=0) (B:=w.heap.size) qD rfl rfl zero3 rfl rfl h1.1 h1.2.1 h1.2.2 (Nat.le_refl _) (fun g1 w1 hO1 hg1 hl1=>?_)
 have gr1:=hg1
 refine yp (h:=(zd (za (zc (zc (zb (yp (h:=(yp (h:=(yp (h:=(zi rfl (zt qD (hg.g0 gr1) rfl rfl rfl) (yp (h:=(yp (h:=(zd (za (WC.block ?_))))))))))))))))))))
 obtain ⟨I1,mu1,l0,HR1⟩:=H
 refine zA (fun n' L' w'=>∃ (t20:Int),∃ (left:List Int),n'=mu1 t20 left/\L'=[(0,.pointer (some ⟨g_g,0,none⟩)),(3,.slice none 0 0),(4,.slice (some ⟨g1,0,none⟩) ((g_l.length:Int).toNat) ((g_l.length:Int).toNat)),(19,.int .i64 (g_l.length:Int)),(20,.int .i64 t20)]/\I1 t20 left/\(g_l.length:Int).toNat=left.length/\w.grownBy w' none/\Own vi w' w.heap.size 3 (some ⟨g1,0,none⟩) ((g_l.length:Int).toNat) left) _ _ ⟨(0:Int),(List.replicate (g_l.length:Int).toNat 0),rfl,rfl,l0,(List.length_replicate).symm,gr1,hO1⟩ sb ?_
 clear l0
 rintro _ _ w2 ⟨t20,left,rfl,rfl,hI1,o7,gr2,k1⟩
 have H:=HR1 t20 left hI1
 replace H:=H o7
 refine zc (zb (yp (h:=(zd (za (zc (zk rfl (fun b1=>?_) (fun b1=>?_))))))))
 ·replace H:=H.1 (of_decide_eq_true b1)
  refine zm (za (zc (WC.block (zc (zb (yp (h:=(yp (h:=(zd (za (zb (yp (h:=(yp (h:=(yp (h:=(yp (h:=(yp (h:=(zi rfl (zt qD (hg.g0 gr2) rfl rfl rfl) (yp (h:=?_)))))))))))))))))))))))))
  obtain ⟨h2,H⟩:=H
  refine zi rfl (zn qD (c4.grown gr2) rfl rfl a5.1.symm rfl h2.1 h2.2) ?_
  obtain ⟨⟨m7,n1,m8⟩,eh1,⟨en1,hR1⟩⟩:=RelD.at a5 hd0 [] (j:=t20.toNat) (Nat.lt_of_lt_of_eq (iltN h2 a5.1.symm) a5.1)
  have en1:n1=(a0.getD t20.toNat []).length:=en1
  subst en1
  refine zi rfl (qk (v:=.slice m7 ((a0.getD t20.toNat []).length) m8) (zo hd0 qD (c4.grown gr2) rfl rfl (iltN h2 a5.1.symm)) (by rw [eh1]; rfl)) (yp (h:=?_))
  obtain ⟨h3,H⟩:=H
  refine zi rfl (zn qD k1.rd rfl rfl o7 rfl h3.1 h3.2) (ql (v:=((a0.getD t20.toNat []).length:Int)) one3 One.i k1 rfl rfl (iltN h3 o7) (fun w3 hO2 hg2=>zd (zg (za (zb ?_)))))
  obtain ⟨h4,H⟩:=H
  exact zi rfl (Yld.add rfl rfl h4) (yp (h:=(zd (zw _ ⟨t20+(1:Int),left.set t20.toNat ((a0.getD t20.toNat []).length:Int),rfl,rfl,H.1,(o7.trans List.length_set.symm),(qH gr2 hg2 k1.ge'),hO2⟩ sb H.2))))
 ·replace H:=H.2 (of_decide_eq_false b1)
  refine zz (zf (zf (zj (za (zc (zc (zb (yp (h:=(yp (h:=(yp (h:=(zi rfl (zt qD (hg.g0 gr2) rfl rfl rfl) (yp (h:=(yp (h:=(zd (za (WC.block ?_)))))))))))))))))))))
  obtain ⟨I2,mu2,u8,HR2⟩:=H
  refine zA (fun n' L' w'=>∃ (out:List Int),∃ (o1:Option Addr),∃ (o5:Nat),∃ (r7:Nat),∃ (t40:Int),∃ (left2:List Int),n'=mu2 out t40 left2/\L'=[(0,.pointer (some ⟨g_g,0,none⟩)),(3,.slice o1 r7 o5),(4,.slice (some ⟨g1,0,none⟩) ((g_l.length:Int).toNat) ((g_l.length:Int).toNat)),(39,.int .i64 (g_l.length:Int)),(40,.int .i64 t40)]/\I2 out t40 left2/\(g_l.length:Int).toNat=left2.length/\r7=out.length/\w.grownBy w' none/\Own vi w' w.heap.size 3 (some ⟨g1,0,none⟩) ((g_l.length:Int).toNat) left2/\Own vi w' w.heap.size 3 o1 o5 out/\Dj (blk (some ⟨g1,0,none⟩)) (blk o1)) _ _ ⟨[],none,0,0,(0:Int),left,rfl,rfl,u8,o7,rfl,gr2,k1,(Own.nil vi w2 w.heap.size 3),Dj.nr⟩ sb ?_
  clear u8
  rintro _ _ w4 ⟨out,o1,o5,r7,t40,left2,rfl,rfl,hI2,n7,rfl,gr4,k2,k3,dj1⟩
  have H:=HR2 out t40 left2 hI2
  replace H:=H n7
  refine zc (zb (yp (h:=(zd (za (zc (zk rfl (fun b2=>?_) (fun b2=>?_))))))))
  ·replace H:=H.1 (of_decide_eq_true b2)
   refine zm (za (zc (WC.block (zc (zb (yp (h:=(zr rfl rfl (W_slices_Index_int_int k2.rd n7 H) ?_))))))))
   rintro _ _ ⟨rfl,i,rfl,H⟩
   refine yp (h:=(zd (za (zc (zb (yp (h:=(yp (h:=?_)))))))))
   obtain ⟨h5,H⟩:=H
   refine zi rfl (zn qD k2.rd rfl rfl n7 rfl h5.1 h5.2) (ql (v:=(-1:Int)) one3 One.i k2 rfl rfl (iltN h5 n7) (fun w5 hO3 hg3=>?_))
   have gr5:=qH gr4 hg3 k2.ge'
   refine zd (za (zc (zb (yp (h:=(yp (h:=(zP qD rfl rfl rfl (qG rfl qR) rfl (by omega) (fun g2 w6 hB1 hg4 hl2=>?_)))))))))
   have hO4:Own vi w6 w.heap.size 3 (some ⟨g2,0,none⟩) 1 ([i]:List Int):=Own.ofBl hB1 (Nat.le_trans (qF gr5) hl2) (by simp [maxLen]) rfl
   have gr6:=qE gr5 hg4
   have k5:=hO3.grown hg4
   have k6:=(k3.go hg3 dj1.symm).grown hg4
   obtain ⟨h6,H⟩:=H
   refine zG qD rfl rfl One.i k6 rfl rfl hO4.rd rfl rfl h6 (qN h6) (qF gr6) (fun p7 r0 w7 hO5 hg5 hk1=>?_)
   have gr7:=qH gr6 hg5 k6.ge'
   refine yp (h:=(zd (za (zc (zb (yp (h:=(yp (h:=(yp (h:=(zi rfl (zt qD (hg.g0 gr7) rfl rfl rfl) (yp (h:=?_))))))))))))))
   obtain ⟨h7,H⟩:=H
   refine zi rfl (zn qD (e0.grown gr7) rfl rfl d6.1.symm rfl h7.1 h7.2) ?_
   obtain ⟨⟨l6,n2,l7⟩,eh2,⟨en2,hR2⟩⟩:=RelD.at d6 hd0 [] (j:=i.toNat) (Nat.lt_of_lt_of_eq (iltN h7 d6.1.symm) d6.1)
   have en2:n2=(a3.getD i.toNat []).length:=en2
   subst en2
   refine zi rfl (qk (v:=.slice l6 ((a3.getD i.toNat []).length) l7) (zo hd0 qD (e0.grown gr7) rfl rfl (iltN h7 d6.1.symm)) (by rw [eh2]; rfl)) (yp (h:=(yp (h:=(zd (za (WC.block ?_)))))))
   obtain ⟨I3,mu3,u9,HR3⟩:=H
   refine zA (fun n' L' w'=>∃ (t59:Int),∃ (left3:List Int),n'=mu3 t59 left3/\L'=[(0,.pointer (some ⟨g_g,0,none⟩)),(3,.slice p7 ((out++([i]:List Int)).length) r0),(4,.slice (some ⟨g1,0,none⟩) ((g_l.length:Int).toNat) ((g_l.length:Int).toNat)),(39,.int .i64 (g_l.length:Int)),(40,.int .i64 t40),(57,.slice l6 ((a3.getD i.toNat []).length) l7),(58,.int .i64 ((a3.getD i.toNat []).length:Int)),(59,.int .i64 t59)]/\I3 t59 left3/\(g_l.length:Int).toNat=left3.length/\w.grownBy w' none/\Own vi w' w.heap.size 3 (some ⟨g1,0,none⟩) ((g_l.length:Int).toNat) left3/\Own vi w' w.heap.size 3 p7 r0 (out++([i]:List Int))) _ _ ⟨(0:Int),left2.set i.toNat (-1:Int),rfl,rfl,u9,(n7.trans List.length_set.symm),gr7,(k5.go hg5 dj1),hO5⟩ sb ?_
   clear u9
   rintro _ _ w8 ⟨t59,left3,rfl,rfl,hI3,l8,gr8,k8,k9⟩
   have H:=HR3 t59 left3 hI3
   replace H:=H l8
   refine zc (zb (yp (h:=(zd (za (zc (zk rfl (fun b3=>?_) (fun b3=>?_))))))))
   ·replace H:=H.1 (of_decide_eq_true b3)
    refine zm (za (zc (WC.block (zc (zb ?_)))))
    obtain ⟨h8,H⟩:=H
    refine zi rfl (zn qD (hR2.grown gr8) rfl rfl rfl rfl h8.1 h8.2) (zi rfl (zo 0 qD (hR2.grown gr8) rfl rfl (iltN h8 rfl)) (yp (h:=(zd (za (zb (yp (h:=(yp (h:=?_))))))))))
    obtain ⟨h9,H⟩:=H
    refine zi rfl (zn qD k8.rd rfl rfl l8 rfl h9.1 h9.2) (zi rfl (zo 0 qD k8.rd rfl rfl (iltN h9 l8)) ?_)
    obtain ⟨h10,H⟩:=H
    refine zi rfl (Yld.sub rfl rfl h10) ?_
    obtain ⟨h11,H⟩:=H
    refine zi rfl (zn qD k8.rd rfl rfl l8 rfl h11.1 h11.2) (ql (v:=(left3.getD (((a3.getD i.toNat []).getD t59.toNat 0).toNat) 0) - (1:Int)) one3 One.i k8 rfl rfl (iltN h11 l8) (fun w9 hO6 hg6=>zd (zg (za (zb ?_)))))
    obtain ⟨h12,H⟩:=H
    exact zi rfl (Yld.add rfl rfl h12) (yp (h:=(zd (zw _ ⟨t59+(1:Int),left3.set (((a3.getD i.toNat []).getD t59.toNat 0).toNat) ((left3.getD (((a3.getD i.toNat []).getD t59.toNat 0).toNat) 0) - (1:Int)),rfl,rfl,H.1,(l8.trans List.length_set.symm),(qH gr8 hg6 k8.ge'),hO6,(k9.go hg6 ((Dj.app dj1.symm k5.lt' hk1).symm.symm))⟩ sb H.2))))
   ·replace H:=H.2 (of_decide_eq_false b3)
    refine zz (zf (zf (zj (zg (za (zb ?_))))))
    obtain ⟨h13,H⟩:=H
    exact zi rfl (Yld.add rfl rfl h13) (yp (h:=(zd (zw _ ⟨out++([i]:List Int),p7,r0,(out++([i]:List Int)).length,t40+(1:Int),left3,rfl,rfl,H.1,l8,rfl,gr8,k8,k9,(Dj.app dj1.symm k5.lt' hk1).symm⟩ sb H.2))))
  ·replace H:=H.2 (of_decide_eq_false b2)
   exact zz (zf (zf (zj (za (zc (zb (yp (h:=(yp (h:=(zd (za (zq (zx rfl rfl ⟨gr4,out,o1,o5,rfl,k3,H⟩))))))))))))))
set_option maxHeartbeats 8000000 in
theorem W_graph_New {S:List Nat} {w:World} {l:List (Int × List (List UInt8) × List (List UInt8) × List UInt8)} {A_l:Option Addr} {c_l:Nat} {y1:List (Int × Hdr × Hdr × List UInt8)} {n_l:Nat} {K0:Er->Prop} {K:(List (Int × List (List UInt8) × List (List UInt8) × List UInt8))->(List (List UInt8 × Int))->(List (List Int))->(List (List Int))->Er->Prop} (hG:GOK S w) (hS4:4∈S) (hS6:6∈S) (hS9:9∈S) (hS10:10∈S) (hS11:11∈S) (hS100:100∈S) (hl:RdK 4 qP w A_l c_l y1) (s9:n_l=l.length) (m3:RelD de64 w y1 l) (H:kZ l K0 K):Fn Tryz.prog 7 ⟨[.slice A_l n_l c_l]⟩ w (fun v w'=>w.grownBy w' none/\((∃ (v_r12:Value),∃ (r12:Er),v=.tuple #[.pointer none,v_r12]/\ErrR S w' v_r12 r12/\K0 r12)∨(∃ (r8:Nat),∃ (r9:List (Int × List (List UInt8) × List (List UInt8) × List UInt8)),∃ (m0:Option Addr),∃ (u6:Nat),∃ (l4:List (Int × Hdr × Hdr × List UInt8)),∃ (e9:Nat),∃ (s3:List (List UInt8 × Int)),∃ (i2:List (List Int)),∃ (e8:Option Addr),∃ (p5:Nat),∃ (e7:List Hdr),∃ (i5:List (List Int)),∃ (f8:Option Addr),∃ (r2:Nat),∃ (f7:List Hdr),∃ (v_r1:Value),∃ (r1:Er),v=.tuple #[.pointer (some ⟨r8,0,none⟩),v_r1]/\OwnK 4 qP w' w.heap.size 64 m0 u6 l4/\RelD de64 w' l4 r9/\NewD de64 l4 r9 w.heap.size/\DnD de64 l4 r9 (blk m0)/\Own vh w' w.heap.size 24 e8 p5 e7/\RelD de24 w' e7 i2/\NewD de24 e7 i2 w.heap.size/\DnD de24 e7 i2 (blk e8)/\Own vh w' w.heap.size 24 f8 r2 f7/\RelD de24 w' f7 i5/\NewD de24 f7 i5 w.heap.size/\DnD de24 f7 i5 (blk f8)/\ErrR S w' v_r1 r1/\MapB vs okS vi w' e9 s3/\Ge (some e9) w.heap.size/\Bl w' r8 71 [.slice m0 r9.length u6,.map (some e9),.slice e8 i2.length p5,.slice f8 i5.length r2]/\Ge (some r8) w.heap.size/\DnD de64 l4 r9 (blk m0)/\DnD de64 l4 r9 (blk e8)/\DnD de64 l4 r9 (blk f8)/\DnD de64 l4 r9 (some e9)/\DnD de64 l4 r9 (some r8)/\DnD de24 e7 i2 (blk m0)/\DnD de24 e7 i2 (blk e8)/\DnD de24 e7 i2 (blk f8)/\DnD de24 e7 i2 (some e9)/\DnD de24 e7 i2 (some r8)/\DnD de24 f7 i5 (blk m0)/\DnD de24 f7 i5 (blk e8)/\DnD de24 f7 i5 (blk f8)/\DnD de24 f7 i5 (some e9)/\DnD de24 f7 i5 (some r8)/\Dj (blk m0) (blk e8)/\Dj (blk m0) (blk f8)/\Dj (blk m0) (some e9)/\Dj (blk m0) (some r8)/\Dj (blk e8) (blk f8)/\Dj (blk e8) (some e9)/\Dj (blk e8) (some r8)/\Dj (blk f8) (some e9)/\Dj (blk f8) (some r8)/\Dj (some e9) (some r8)/\K r9 s3 i2 i5 r1))):=by
 subst s9
 unfold kZ at H
 refine Fn.enter (by kernel_rfl) Tryz.func7 rfl Tryz.ntmps7 rfl ?_
 replace H:=H (by rw [<-m3.1]; exact Nat.le_trans hl.cap hl.max)
 refine zc (zb (yp (h:=(yp (h:=(zd (za (zc (zb (WL.putw qI rfl (Eff.makeMap vs okS vi) ?_))))))))))
 rintro _ w1 ⟨rfl,hB1,hg1⟩
 have gr1:=hg1
 refine zi rfl (zS (us:=[.slice none 0 0,.map (some w.heap.size),.slice none 0 0,.slice none 0 0]) zero71 places71 rfl rfl) (WL.box (us:=[.slice none 0 0,.map (some w.heap.size),.slice none 0 0,.slice none 0 0]) rfl rfl rfl (fun g1 w2 hB2 hg2 hl2=>?_))
 have gr2:=qE gr1 hg2
 have k1:=hB1.g0 hg2
 refine yp (h:=(zd (za (zc (zc (zb (yp (h:=(yp (h:=(yp (h:=(yp (h:=?_))))))))))))))
 obtain ⟨J1,H,hJ1⟩:=H
 refine zD 3 (fun L' w'=>∃ q1:Bool,L'=[(27,.bool q1),(0,.slice A_l l.length c_l),(4,.pointer (some ⟨g1,0,none⟩))]/\J1 q1/\w.grownBy w' none/\MapB vs okS vi w' w.heap.size ([]:List (List UInt8 × Int))/\Bl w' g1 71 [.slice none 0 0,.map (some w.heap.size),.slice none 0 0,.slice none 0 0]) ?_ (fun hQ=>?_)
 ·clear H
  rintro _ w3 ⟨q1,rfl,H,gr3,k2,k3⟩
  replace H:=hJ1 q1 H
  refine zd (za (zk rfl (fun b1=>?_) (fun b1=>?_)))
  ·replace H:=H.1 (b1)
   refine zc (zQ mixed (by kernel_rfl) ?_)
   obtain ⟨vE1,_,hE1⟩:=GOK.get (hG.grown gr3) 9 0 hS9 rfl rfl
   exact zB rfl (Yld.cell qD (ErrR.cell hE1 rfl) rfl rfl) (zB rfl (ze qD rfl) (zB rfl (ze qD rfl) (zW (za (zq (zh (zM rfl rfl rfl ⟨gr3,Or.inl ⟨vE1,(Er.e 9),rfl,hE1,H⟩⟩)))))))
  ·replace H:=H.2 (b1)
   refine zm (za (zc (zc (zb (yp (h:=(yp (h:=(yp (h:=(zd (za (WC.block ?_)))))))))))))
   obtain ⟨I1,mu1,l0,HR1⟩:=H
   refine zA (fun n' L' w'=>∃ (t31:Int),∃ (t200:List (Int × List (List UInt8) × List (List UInt8) × List UInt8)),∃ (c7:Option Addr),∃ (f0:Nat),∃ (t0:Nat),∃ (a8:List (Int × Hdr × Hdr × List UInt8)),∃ (t201:List (List UInt8 × Int)),n'=mu1 t31 t200 t201/\L'=[(0,.slice A_l l.length c_l),(4,.pointer (some ⟨g1,0,none⟩)),(29,.slice A_l l.length c_l),(30,.int .i64 (l.length:Int)),(31,.int .i64 t31)]/\I1 t31 t200 t201/\t0=t200.length/\w.grownBy w' none/\Bl w' g1 71 [.slice c7 t0 f0,.map (some w.heap.size),.slice none 0 0,.slice none 0 0]/\OwnK 4 qP w' w.heap.size 64 c7 f0 a8/\RelD de64 w' a8 t200/\MapB vs okS vi w' w.heap.size t201/\Dj (some g1) (blk c7)/\Dj (some g1) (some w.heap.size)/\Dj (blk c7) (some w.heap.size)/\DnD de64 a8 t200 (some g1)/\DnD de64 a8 t200 (blk c7)/\DnD de64 a8 t200 (some w.heap.size)/\NewD de64 a8 t200 w.heap.size) _ _ ⟨(0:Int),[],none,0,0,[],([]:List (List UInt8 × Int)),rfl,rfl,l0,rfl,gr3,k3,(OwnK.nil Zl w3 w.heap.size 64),(RelD.nil (d:=de64) (w:=w3)),k2,Dj.nr,(Dj.new hB1.lt' (Ge.box hl2)).symm,Dj.nl,DnD.nil,DnD.nil,DnD.nil,(NewD.nil (d:=de64))⟩ sb ?_
   clear l0
   rintro _ _ w4 ⟨t31,t200,c7,f0,t0,a8,t201,rfl,rfl,hI1,rfl,gr4,k4,k5,k6,k7,dj1,dj2,dj3,dj4,dj5,dj6,or1⟩
   have H:=HR1 t31 t200 t201 hI1
   refine zc (zb (yp (h:=(zd (za (zc (zk rfl (fun b2=>?_) (fun b2=>?_))))))))
   ·replace H:=H.1 (of_decide_eq_true b2)
    refine zm (za (zc (WC.block (zc (zb (yp (h:=?_)))))))
    obtain ⟨h1,H⟩:=H
    refine zi rfl (zE qD (hl.grown gr4) rfl rfl m3.1.symm rfl h1.1 h1.2) ?_
    obtain ⟨⟨f1,⟨m7,n1,m8⟩,⟨l6,n2,l7⟩,f2⟩,eh1,⟨en1,⟨en2,hR1⟩,⟨en3,hR2⟩,en4⟩⟩:=RelD.at m3 (0,hd0,hd0,[]) (0,[],[],[]) (j:=t31.toNat) (Nat.lt_of_lt_of_eq (iltN h1 m3.1.symm) m3.1)
    have en1:f1=(l.getD t31.toNat (0,[],[],[])).1:=en1
    subst en1
    have en2:n1=((l.getD t31.toNat (0,[],[],[])).2.1).length:=en2
    subst en2
    have en3:n2=((l.getD t31.toNat (0,[],[],[])).2.2.1).length:=en3
    subst en3
    have en4:f2=(l.getD t31.toNat (0,[],[],[])).2.2.2:=en4
    subst en4
    refine zi rfl (qk (v:=.agg ⟨[.int .i64 ((l.getD t31.toNat (0,[],[],[])).1),.slice m7 (((l.getD t31.toNat (0,[],[],[])).2.1).length) m8,.slice l6 (((l.getD t31.toNat (0,[],[],[])).2.2.1).length) l7,vs ((l.getD t31.toNat (0,[],[],[])).2.2.2)]⟩) (zU (0,hd0,hd0,[]) qD (hl.grown gr4) rfl rfl (iltN h1 m3.1.symm)) (by rw [eh1]; rfl)) (WL.alloc rfl zero64 (fun g2 w5 hB3 hg3 hl3=>yp (h:=(zH (vs:=[.int .i64 ((l.getD t31.toNat (0,[],[],[])).1),.slice m7 (((l.getD t31.toNat (0,[],[],[])).2.1).length) m8,.slice l6 (((l.getD t31.toNat (0,[],[],[])).2.2.1).length) l7,vs ((l.getD t31.toNat (0,[],[],[])).2.2.2)]) qD rfl rfl rfl (qG rfl (qG rfl (qG rfl (qG rfl qR)))) hB3 rfl rfl (fun w6 hB4 hg4=>?_)))))
    have gr6:=qH (qE gr4 hg3) hg4 (Ge.le (Ge.box hl3) (qF gr4))
    have k12:=(k4.g0 hg3).go hg4 (Dj.new k4.lt' (Ge.box hl3))
    have k13:=(k5.grown hg3).go hg4 (Dj.new k5.lt' (Ge.box hl3))
    have k14:=(k6.grown hg3).go hg4 (k6.new (Ge.box hl3))
    have k15:=(k7.g0 hg3).go hg4 (Dj.new k7.lt' (Ge.box hl3))
    refine zd (za (zc (zc (zb (yp (h:=(zi rfl (zY (vs:=[.int .i64 ((l.getD t31.toNat (0,[],[],[])).1),.slice m7 (((l.getD t31.toNat (0,[],[],[])).2.1).length) m8,.slice l6 (((l.getD t31.toNat (0,[],[],[])).2.2.1).length) l7,vs ((l.getD t31.toNat (0,[],[],[])).2.2.2)]) qD hB4 rfl rfl rfl rfl) (zr rfl rfl (W_pgraph_Graph_fits (hG.grown gr6) hS6 hS10 hS11 hS100 k13.rd rfl k14 k15 (Own.nil vh w6 w.heap.size 24).rd rfl (RelD.nil (d:=de24) (w:=w6)) (Own.nil vh w6 w.heap.size 24).rd rfl (RelD.nil (d:=de24) (w:=w6)) k12 (hR1.grown gr6) rfl (hR2.grown gr6) rfl H) ?_))))))))
    rintro v_err w7 ⟨hg5,_,err,rfl,herr,H⟩
    have gr7:=qE gr6 hg5
    have k16:=k12.g0 hg5
    have k20:=hB4.g0 hg5
    refine yp (h:=(zd (za (zc (zb (yp (h:=(zi rfl (qf Tryz.underlying30 herr rfl) (zd (za (zk rfl (fun b3=>?_) (fun b3=>?_))))))))))))
    ·replace H:=H.1 (kN b3)
     refine zc (zb (yp (h:=(yp (h:=(zi rfl (zS (us:=[.int .i64 t31,v_err]) (vs:=[(0,.int .i64 t31),(1,v_err)]) zero77 places77 rfl (by simp only [fillL,cells1 (ErrR.one herr)]; rfl)) (WL.box (us:=[.int .i64 t31,v_err]) rfl rfl rfl (fun g3 w8 hB5 hg6 hl4=>?_))))))))
     obtain ⟨n,he1,H⟩:=H
     have hE2:=ErrR.mkAt hB5 (he1 ▸ (herr.grown hg6))
     exact zi rfl (Yld.mki Tryz.underlying75 rfl rfl) (yp (h:=(yp (h:=(zd (za (zq (zh (zp (zh (zh (zp (zh (zM rfl rfl rfl ⟨(qE gr7 hg6),Or.inl ⟨(.iface 75 (.pointer (some ⟨g3,0,none⟩))),(Er.at_ t31 n),rfl,hE2,H⟩⟩))))))))))))))
    ·replace H:=H.2 (j9 b3)
     refine zm (za (zc (zO (fun k => !(Nat.beq k 7)) (LD [3,5] (fun w'=>Bl w' g1 71 [.slice c7 t200.length f0,.map (some w.heap.size),.slice none 0 0,.slice none 0 0]/\Bl w' g2 64 [.int .i64 ((l.getD t31.toNat (0,[],[],[])).1),.slice m7 (((l.getD t31.toNat (0,[],[],[])).2.1).length) m8,.slice l6 (((l.getD t31.toNat (0,[],[],[])).2.2.1).length) l7,vs ((l.getD t31.toNat (0,[],[],[])).2.2.2)])) mixed (by kernel_rfl) (fun k w' h _=>⟨(jU h k16),(jU h k20)⟩) (zu rfl rfl (fun w' hw'=>ze qD rfl) (zu rfl rfl (fun w' hw'=>ze qD rfl) (zu rfl rfl (fun w' hw'=>ze qD rfl) (zu rfl rfl (fun w' hw'=>zt qD (hw' rfl).1 rfl rfl rfl) (zu rfl rfl (fun w' hw'=>ze qD rfl) (zu rfl rfl (fun w' hw'=>zt qD (hw' rfl).2 rfl rfl rfl) (zu rfl rfl (fun w' hw'=>ze qD rfl) ?_))))))))))
     obtain ⟨h2,H⟩:=H
     refine qn rfl (Ef0.mapPut (keyF_s Tryz.underlying9) Tryz.underlying68 (k15.g0 hg5) h2.2 rfl rfl h2.1 rfl) (fun w' h=>DD.keep (⟨(Bl.go k16 (qQ h.2 (Eqv.refl _)) dj2),(Bl.go k20 (qQ h.2 (Eqv.refl _)) (Dj.new k7.lt' (Ge.box hl3)).symm)⟩)) ?_
     rintro w9 ⟨hB6,hg7⟩
     have gr9:=qH gr7 hg7 (Ge.le (Ge.box (Nat.le_refl _)) (Nat.le_refl _))
     have k22:=k16.go hg7 dj2
     have k23:=(k13.grown hg5).go hg7 dj3
     have k25:=k20.go hg7 ((Dj.new k7.lt' (Ge.box hl3)).symm)
     refine zX (za (zO (fun k => !(Nat.beq k 6 || Nat.beq k 7 || Nat.beq k 8 || Nat.beq k 11)) (LD [4,5] (fun w'=>Bl w' g1 71 [.slice c7 t200.length f0,.map (some w.heap.size),.slice none 0 0,.slice none 0 0]/\Bl w' g2 64 [.int .i64 ((l.getD t31.toNat (0,[],[],[])).1),.slice m7 (((l.getD t31.toNat (0,[],[],[])).2.1).length) m8,.slice l6 (((l.getD t31.toNat (0,[],[],[])).2.2.1).length) l7,vs ((l.getD t31.toNat (0,[],[],[])).2.2.2)])) mixed (by kernel_rfl) (fun k w' h _=>⟨(jU h k22),(jU h k25)⟩) (zu rfl rfl (fun w' hw'=>ze qD rfl) (zu rfl rfl (fun w' hw'=>ze qD rfl) (zu rfl rfl (fun w' hw'=>ze qD rfl) (zu rfl rfl (fun w' hw'=>ze qD rfl) (zu rfl rfl (fun w' hw'=>zt qD (hw' rfl).1 rfl rfl rfl) (zu rfl rfl (fun w' hw'=>zY (vs:=[.int .i64 ((l.getD t31.toNat (0,[],[],[])).1),.slice m7 (((l.getD t31.toNat (0,[],[],[])).2.1).length) m8,.slice l6 (((l.getD t31.toNat (0,[],[],[])).2.2.1).length) l7,vs ((l.getD t31.toNat (0,[],[],[])).2.2.2)]) qD (hw' rfl).2 rfl rfl rfl rfl) (zT rfl (qI) rfl rfl (W_graph_copied (hR1.grown gr9) rfl (hR2.grown gr9) rfl H) (fun v w' h w2 e=>DD.keep (⟨(Bl.g0 k22 (qQ h.1 e)),(Bl.g0 k25 (qQ h.1 e))⟩)) ?_)))))))))
     rintro _ w10 ⟨hg8,a7,a6,d4,d5,a1,c2,c3,a2,rfl,ht59_Args,ht59_Inputs,dj7,H⟩
     have hb1:=ht59_Args.ge'
     have k26:=ht59_Args.base (fun g hg=>Nat.le_trans (qF gr9) (hb1 g hg))
     have hb2:=ht59_Inputs.ge'
     have k27:=ht59_Inputs.base (fun g hg=>Nat.le_trans (qF gr9) (hb2 g hg))
     have gr10:=qE gr9 hg8
     have k28:=k22.g0 hg8
     have k30:=((k14.grown hg5).go hg7 dj6).grown hg8
     have k32:=k25.g0 hg8
     refine z6 rfl (qI) rfl (Eff.litK (f:=qP) (xs:=([(a7,⟨d4,a6.length,d5⟩,⟨c2,a1.length,c3⟩,a2)]:List (Int × Hdr × Hdr × List UInt8))) Zl ow22 rfl rfl rfl) (fun v w' ⟨_,_,h⟩=>DD.keep (⟨(Bl.g0 k28 (qQ h (Eqv.refl _))),(Bl.g0 k32 (qQ h (Eqv.refl _)))⟩)) ?_
     rintro _ w11 ⟨rfl,hB7,hg9⟩
     obtain ⟨g4,hl5⟩:∃ g,g=w10.heap.size:=⟨_,rfl⟩
     rw [<-hl5] at hB7
     rw [<-hl5]
     have hO1:OwnK 4 qP w11 w.heap.size 64 (some ⟨g4,0,none⟩) 1 ([(a7,⟨d4,a6.length,d5⟩,⟨c2,a1.length,c3⟩,a2)]:List (Int × Hdr × Hdr × List UInt8)):=OwnK.ofBl Zl hB7 (Nat.le_trans (qF gr10) (Nat.le_of_eq hl5.symm)) (by simp [maxLen]) rfl
     have gr11:=qE gr10 hg9
     have k33:=k28.g0 hg9
     have k34:=(k23.grown hg8).grown hg9
     have k35:=k30.grown hg9
     have k36:=(hB6.g0 hg8).g0 hg9
     have k37:=k32.g0 hg9
     have k38:=k26.grown hg9
     have k39:=k27.grown hg9
     have hr1:RelD de64 w11 ([(a7,⟨d4,a6.length,d5⟩,⟨c2,a1.length,c3⟩,a2)]:List (Int × Hdr × Hdr × List UInt8)) ([(a7,a6,a1,a2)]:List (Int × List (List UInt8) × List (List UInt8) × List UInt8)):=(RelD.cons ⟨rfl,⟨rfl,k38.rd⟩,⟨rfl,k39.rd⟩,rfl⟩ RelD.nil)
     have nd1:NewD de64 ([(a7,⟨d4,a6.length,d5⟩,⟨c2,a1.length,c3⟩,a2)]:List (Int × Hdr × Hdr × List UInt8)) ([(a7,a6,a1,a2)]:List (Int × List (List UInt8) × List (List UInt8) × List UInt8)) w.heap.size:=(NewD.cons (d:=de64) (fun p_ hp_=>⟨trivial,(Dn.of (Dj.new hp_ k38.ge').symm),(Dn.of (Dj.new hp_ k39.ge').symm),trivial⟩) NewD.nil)
     have dj8:DnD de64 ([(a7,⟨d4,a6.length,d5⟩,⟨c2,a1.length,c3⟩,a2)]:List (Int × Hdr × Hdr × List UInt8)) ([(a7,a6,a1,a2)]:List (Int × List (List UInt8) × List (List UInt8) × List UInt8)) (some g1):=(DnD.cons (d:=de64) ⟨trivial,(Dn.of (Dj.new k22.lt' hb1).symm),(Dn.of (Dj.new k22.lt' hb2).symm),trivial⟩ DnD.nil)
     have dj9:DnD de64 ([(a7,⟨d4,a6.length,d5⟩,⟨c2,a1.length,c3⟩,a2)]:List (Int × Hdr × Hdr × List UInt8)) ([(a7,a6,a1,a2)]:List (Int × List (List UInt8) × List (List UInt8) × List UInt8)) (blk c7):=(DnD.cons (d:=de64) ⟨trivial,(Dn.of (Dj.new k23.lt' hb1).symm),(Dn.of (Dj.new k23.lt' hb2).symm),trivial⟩ DnD.nil)
     have dj10:DnD de64 ([(a7,⟨d4,a6.length,d5⟩,⟨c2,a1.length,c3⟩,a2)]:List (Int × Hdr × Hdr × List UInt8)) ([(a7,a6,a1,a2)]:List (Int × List (List UInt8) × List (List UInt8) × List UInt8)) (some w.heap.size):=(DnD.cons (d:=de64) ⟨trivial,(Dn.of (Dj.new hB6.lt' hb1).symm),(Dn.of (Dj.new hB6.lt' hb2).symm),trivial⟩ DnD.nil)
     have dj11:DnD de64 ([(a7,⟨d4,a6.length,d5⟩,⟨c2,a1.length,c3⟩,a2)]:List (Int × Hdr × Hdr × List UInt8)) ([(a7,a6,a1,a2)]:List (Int × List (List UInt8) × List (List UInt8) × List UInt8)) (some g2):=(DnD.cons (d:=de64) ⟨trivial,(Dn.of (Dj.new k25.lt' hb1).symm),(Dn.of (Dj.new k25.lt' hb2).symm),trivial⟩ DnD.nil)
     have dj12:DnD de64 ([(a7,⟨d4,a6.length,d5⟩,⟨c2,a1.length,c3⟩,a2)]:List (Int × Hdr × Hdr × List UInt8)) ([(a7,a6,a1,a2)]:List (Int × List (List UInt8) × List (List UInt8) × List UInt8)) (blk (some ⟨g4,0,none⟩)):=(DnD.cons (d:=de64) ⟨trivial,(Dn.of (Dj.new k26.lt' (Ge.box (Nat.le_of_eq hl5.symm)))),(Dn.of (Dj.new k27.lt' (Ge.box (Nat.le_of_eq hl5.symm)))),trivial⟩ DnD.nil)
     obtain ⟨h3,H⟩:=H
     have h4:((a8:List (Int × Hdr × Hdr × List UInt8)).length+([(a7,⟨d4,a6.length,d5⟩,⟨c2,a1.length,c3⟩,a2)]:List (Int × Hdr × Hdr × List UInt8)).length)*72<=140737488355328:=by rw [k35.1,hr1.1]; exact h3
     refine z6 rfl (qI) rfl (Eff.appendK ow22 k34 rfl k6.1.symm hO1.rd rfl rfl h4 (qN h4) (qF gr11)) (fun v w' ⟨_,_,_,_,h,_⟩=>DD.keep (⟨(Bl.go k33 (qQ h (Eqv.refl _)) dj1),(Bl.go k37 (qQ h (Eqv.refl _)) (Dj.new k5.lt' (Ge.box hl3)).symm)⟩)) ?_
     rintro _ w12 ⟨u4,y9,rfl,hO2,hg10,hk1⟩
     have el1:(a8++([(a7,⟨d4,a6.length,d5⟩,⟨c2,a1.length,c3⟩,a2)]:List (Int × Hdr × Hdr × List UInt8))).length=(t200++([(a7,a6,a1,a2)]:List (Int × List (List UInt8) × List (List UInt8) × List UInt8))).length:=by rw [List.length_append,List.length_append,k35.1,hr1.1]
     rw [el1]
     have hr2:RelD de64 w12 (a8++([(a7,⟨d4,a6.length,d5⟩,⟨c2,a1.length,c3⟩,a2)]:List (Int × Hdr × Hdr × List UInt8))) (t200++([(a7,a6,a1,a2)]:List (Int × List (List UInt8) × List (List UInt8) × List UInt8))):=RelD.append (k35.go hg10 dj5) (hr1.go hg10 dj9)
     have nd2:NewD de64 (a8++([(a7,⟨d4,a6.length,d5⟩,⟨c2,a1.length,c3⟩,a2)]:List (Int × Hdr × Hdr × List UInt8))) (t200++([(a7,a6,a1,a2)]:List (Int × List (List UInt8) × List (List UInt8) × List UInt8))) w.heap.size:=NewD.append k35.1 or1 nd1
     have dj13:DnD de64 (a8++([(a7,⟨d4,a6.length,d5⟩,⟨c2,a1.length,c3⟩,a2)]:List (Int × Hdr × Hdr × List UInt8))) (t200++([(a7,a6,a1,a2)]:List (Int × List (List UInt8) × List (List UInt8) × List UInt8))) (some g1):=(DnD.append k35.1 dj4 dj8)
     have dj14:DnD de64 (a8++([(a7,⟨d4,a6.length,d5⟩,⟨c2,a1.length,c3⟩,a2)]:List (Int × Hdr × Hdr × List UInt8))) (t200++([(a7,a6,a1,a2)]:List (Int × List (List UInt8) × List (List UInt8) × List UInt8))) (some w.heap.size):=(DnD.append k35.1 dj6 dj10)
     have dj15:DnD de64 (a8++([(a7,⟨d4,a6.length,d5⟩,⟨c2,a1.length,c3⟩,a2)]:List (Int × Hdr × Hdr × List UInt8))) (t200++([(a7,a6,a1,a2)]:List (Int × List (List UInt8) × List (List UInt8) × List UInt8))) (some g2):=(DnD.append k35.1 (k6.new (Ge.box hl3)) dj11)
     have dj16:DnD de64 (a8++([(a7,⟨d4,a6.length,d5⟩,⟨c2,a1.length,c3⟩,a2)]:List (Int × Hdr × Hdr × List UInt8))) (t200++([(a7,a6,a1,a2)]:List (Int × List (List UInt8) × List (List UInt8) × List UInt8))) (blk (some ⟨g4,0,none⟩)):=(DnD.append k35.1 (k30.new (Ge.box (Nat.le_of_eq hl5.symm))) dj12)
     have dj17:DnD de64 (a8++([(a7,⟨d4,a6.length,d5⟩,⟨c2,a1.length,c3⟩,a2)]:List (Int × Hdr × Hdr × List UInt8))) (t200++([(a7,a6,a1,a2)]:List (Int × List (List UInt8) × List (List UInt8) × List UInt8))) (blk u4):=(DnD.append k35.1 (RelD.app k35 dj5 hk1) (RelD.app hr1 dj9 hk1))
     refine zu rfl rfl (fun w' hw'=>ze qD rfl) (zu rfl rfl (fun w' hw'=>ze qD rfl) (qn rfl (qm one22 rfl rfl rfl (k33.go hg10 dj1) (by simp)) (fun w' h=>qv (by kernel_rfl)) ?_))
     rintro w13 ⟨hB9,hg11⟩
     have hB8:Bl w13 g1 71 [.slice u4 ((t200++([(a7,a6,a1,a2)]:List (Int × List (List UInt8) × List (List UInt8) × List UInt8))).length) y9,.map (some w.heap.size),.slice none 0 0,.slice none 0 0]:=hB9
     have k46:=(k37.go hg10 ((Dj.new k5.lt' (Ge.box hl3)).symm)).go hg11 ((Dj.new k4.lt' (Ge.box hl3)).symm)
     refine zX (zg (za (zb ?_)))
     obtain ⟨h5,H⟩:=H
     exact zi rfl (Yld.add rfl rfl h5) (yp (h:=(zd (zw _ ⟨t31+(1:Int),t200++([(a7,a6,a1,a2)]:List (Int × List (List UInt8) × List (List UInt8) × List UInt8)),u4,y9,(t200++([(a7,a6,a1,a2)]:List (Int × List (List UInt8) × List (List UInt8) × List UInt8))).length,a8++([(a7,⟨d4,a6.length,d5⟩,⟨c2,a1.length,c3⟩,a2)]:List (Int × Hdr × Hdr × List UInt8)),mput t201 ((l.getD t31.toNat (0,[],[],[])).2.2.2) t31,rfl,rfl,H.1,rfl,(qH (qH gr11 hg10 k34.ge') hg11 (Ge.le (Ge.box hl2) (qF gr1))),hB8,(hO2.go hg11 (Dj.app dj1.symm k33.lt' hk1)),(hr2.go hg11 dj13),((k36.go hg10 dj3.symm).go hg11 dj2.symm),(Dj.app dj1.symm k33.lt' hk1).symm,dj2,(Dj.app dj3 k36.lt' hk1),dj13,dj17,dj14,nd2⟩ sb H.2))))
   ·replace H:=H.2 (of_decide_eq_false b2)
    refine zz (zf (zf (zj (za (zc (zb (yp (h:=(yp (h:=(yp (h:=?_))))))))))))
    obtain ⟨h6,H⟩:=H
    refine qq (f:=hv) (z:=(([],hz):List Int × Hd)) (B:=w.heap.size) qD rfl rfl zero24 rfl rfl h6.1 h6.2.1 h6.2.2 (qF gr4) (fun g5 w14 hO3 hg12 hl6=>?_)
    have k51:=k6.grown hg12
    have k53:qO vi w14 w.heap.size 24 3 (some ⟨g5,0,none⟩) ((l.length:Int).toNat) (List.replicate (l.length:Int).toNat hz) (List.replicate (l.length:Int).toNat ([]:List Int)) none:=qO.rep hO3
    have dj18:AllP (Dj (some g1)) (FPd (some ⟨g5,0,none⟩) (List.replicate (l.length:Int).toNat hz) none):=FPd.rep (Q:=Dj (some g1)) (Dj.new k4.lt' (Ge.box hl6)) (Dj.nr)
    have dj19:AllP (Dj (blk c7)) (FPd (some ⟨g5,0,none⟩) (List.replicate (l.length:Int).toNat hz) none):=FPd.rep (Q:=Dj (blk c7)) (Dj.new k5.lt' (Ge.box hl6)) (Dj.nr)
    have dj20:AllP (Dj (some w.heap.size)) (FPd (some ⟨g5,0,none⟩) (List.replicate (l.length:Int).toNat hz) none):=FPd.rep (Q:=Dj (some w.heap.size)) (Dj.new k7.lt' (Ge.box hl6)) (Dj.nr)
    have dj21:AllP (DnD de64 a8 t200) (FPd (some ⟨g5,0,none⟩) (List.replicate (l.length:Int).toNat hz) none):=FPd.rep (Q:=DnD de64 a8 t200) (k6.new (Ge.box hl6)) (DnD.none k51)
    refine yp (h:=(yp (h:=(zV one69 rfl rfl rfl (k4.g0 hg12) (by simp) (fun w15 hB11 hg13=>?_)))))
    have hB10:Bl w15 g1 71 [.slice c7 t200.length f0,.map (some w.heap.size),.slice none 0 0,.slice (some ⟨g5,0,none⟩) ((l.length:Int).toNat) ((l.length:Int).toNat)]:=hB11
    have k55:=k51.go hg13 dj4
    have k57:=k53.go hg13 dj18
    refine zd (za (zc (zc (zb (yp (h:=(yp (h:=(yp (h:=(zi rfl (zt qD hB10 rfl rfl rfl) (yp (h:=(yp (h:=(zd (za (WC.block ?_))))))))))))))))))
    obtain ⟨I2,mu2,u8,HR2⟩:=H
    refine zA (fun n' L' w'=>∃ (t76:Int),∃ (t202:List (List Int)),∃ (f5:Option Addr),∃ (m2:Nat),∃ (t1:Nat),∃ (b0:List Hdr),∃ (t203:List (List Int)),∃ (a9:List Hd),∃ (t2:Nat),n'=mu2 t76 t202 t203/\L'=[(4,.pointer (some ⟨g1,0,none⟩)),(74,.slice c7 t200.length f0),(75,.int .i64 (t200.length:Int)),(76,.int .i64 t76)]/\I2 t76 t202 t203/\t1=t202.length/\t2=t203.length/\w.grownBy w' none/\Bl w' g1 71 [.slice c7 t200.length f0,.map (some w.heap.size),.slice f5 t1 m2,.slice (some ⟨g5,0,none⟩) t2 ((l.length:Int).toNat)]/\OwnK 4 qP w' w.heap.size 64 c7 f0 a8/\RelD de64 w' a8 t200/\MapB vs okS vi w' w.heap.size t201/\Own vh w' w.heap.size 24 f5 m2 b0/\RelD de24 w' b0 t202/\qO vi w' w.heap.size 24 3 (some ⟨g5,0,none⟩) ((l.length:Int).toNat) a9 t203 none/\Dj (some g1) (blk f5)/\AllP (Dj (some g1)) (FPd (some ⟨g5,0,none⟩) a9 none)/\Dj (blk c7) (blk f5)/\AllP (Dj (blk c7)) (FPd (some ⟨g5,0,none⟩) a9 none)/\DnD de64 a8 t200 (blk f5)/\AllP (DnD de64 a8 t200) (FPd (some ⟨g5,0,none⟩) a9 none)/\Dj (some w.heap.size) (blk f5)/\AllP (Dj (some w.heap.size)) (FPd (some ⟨g5,0,none⟩) a9 none)/\AllP (Dj (blk f5)) (FPd (some ⟨g5,0,none⟩) a9 none)/\DnD de24 b0 t202 (some g1)/\DnD de24 b0 t202 (blk c7)/\DnD de24 b0 t202 (some w.heap.size)/\DnD de24 b0 t202 (blk f5)/\AllP (DnD de24 b0 t202) (FPd (some ⟨g5,0,none⟩) a9 none)/\NewD de64 a8 t200 w.heap.size/\NewD de24 b0 t202 w.heap.size/\AllP (fun p=>Ge p w.heap.size) (FPd (some ⟨g5,0,none⟩) a9 none)) _ _ ⟨(0:Int),[],none,0,0,[],(List.replicate (l.length:Int).toNat ([]:List Int)),(List.replicate (l.length:Int).toNat hz),(l.length:Int).toNat,rfl,rfl,u8,rfl,(List.length_replicate).symm,(qH (qE gr4 hg12) hg13 (Ge.le (Ge.box hl2) (qF gr1))),hB10,((k5.grown hg12).go hg13 dj1.symm),k55,((k7.g0 hg12).go hg13 dj2.symm),(Own.nil vh w15 w.heap.size 24),(RelD.nil (d:=de24) (w:=w15)),k57,Dj.nr,dj18,Dj.nr,dj19,(DnD.none k55),dj21,Dj.nr,dj20,apNl,DnD.nil,DnD.nil,DnD.nil,DnD.nil,(fun _ _=>DnD.nil),or1,(NewD.nil (d:=de24)),(k57.ge')⟩ sb ?_
    clear u8
    rintro _ _ w16 ⟨t76,t202,f5,m2,t1,b0,t203,a9,t2,rfl,rfl,hI2,rfl,rfl,gr16,k58,k59,k60,k61,k62,k63,k64,dj22,dj23,dj24,dj25,dj26,dj27,dj28,dj29,dj30,dj31,dj32,dj33,dj34,dj35,or2,or3,hi1⟩
    have H:=HR2 t76 t202 t203 hI2
    refine zc (zb (yp (h:=(zd (za (zc (zk rfl (fun b4=>?_) (fun b4=>?_))))))))
    ·replace H:=H.1 (of_decide_eq_true b4)
     refine zm (za (zc (WC.block (zc (zb (yp (h:=?_)))))))
     obtain ⟨h7,H⟩:=H
     refine zi rfl (zE qD k59.rd rfl rfl k6.1.symm rfl h7.1 h7.2) ?_
     obtain ⟨⟨f3,⟨y7,n3,y8⟩,⟨o0,n4,s0⟩,f4⟩,eh2,⟨en5,⟨en6,hR3⟩,⟨en7,hR4⟩,en8⟩⟩:=RelD.at k60 (0,hd0,hd0,[]) (0,[],[],[]) (j:=t76.toNat) (Nat.lt_of_lt_of_eq (iltN h7 k6.1.symm) k60.1)
     have en5:f3=(t200.getD t76.toNat (0,[],[],[])).1:=en5
     subst en5
     have en6:n3=((t200.getD t76.toNat (0,[],[],[])).2.1).length:=en6
     subst en6
     have en7:n4=((t200.getD t76.toNat (0,[],[],[])).2.2.1).length:=en7
     subst en7
     have en8:f4=(t200.getD t76.toNat (0,[],[],[])).2.2.2:=en8
     subst en8
     refine zi rfl (qk (v:=.agg ⟨[.int .i64 ((t200.getD t76.toNat (0,[],[],[])).1),.slice y7 (((t200.getD t76.toNat (0,[],[],[])).2.1).length) y8,.slice o0 (((t200.getD t76.toNat (0,[],[],[])).2.2.1).length) s0,vs ((t200.getD t76.toNat (0,[],[],[])).2.2.2)]⟩) (zU (0,hd0,hd0,[]) qD k59.rd rfl rfl (iltN h7 k6.1.symm)) (by rw [eh2]; rfl)) (WL.alloc rfl zero64 (fun g6 w17 hB12 hg14 hl7=>yp (h:=(zH (vs:=[.int .i64 ((t200.getD t76.toNat (0,[],[],[])).1),.slice y7 (((t200.getD t76.toNat (0,[],[],[])).2.1).length) y8,.slice o0 (((t200.getD t76.toNat (0,[],[],[])).2.2.1).length) s0,vs ((t200.getD t76.toNat (0,[],[],[])).2.2.2)]) qD rfl rfl rfl (qG rfl (qG rfl (qG rfl (qG rfl qR)))) hB12 rfl rfl (fun w18 hB13 hg15=>?_)))))
     have k76:=(k60.grown hg14).go hg15 (k60.new (Ge.box hl7))
     have k79:=(k63.grown hg14).go hg15 (k63.new (Ge.box hl7))
     have k80:=(k64.g0 hg14).go hg15 (k64.new (Ge.box hl7))
     have k81:=(hR3.grown hg14).go hg15 (Dn.new (fun hx=>hR3.lt' hx) (Ge.box hl7))
     refine zd (za (zc (zb (yp (h:=(zd (za (zc (zc (zb (yp (h:=(zi rfl (zt qD hB13 rfl rfl rfl) (yp (h:=(yp (h:=(zd (za (WC.block ?_))))))))))))))))))))
     obtain ⟨I3,mu3,u9,HR3⟩:=H
     refine zA (fun n' L' w'=>∃ (before:List Int),∃ (a4:Option Addr),∃ (c0:Nat),∃ (r6:Nat),∃ (t84:Int),n'=mu3 before t84/\L'=[(4,.pointer (some ⟨g1,0,none⟩)),(8,.int .i64 t76),(10,.slice a4 r6 c0),(74,.slice c7 t200.length f0),(75,.int .i64 (t200.length:Int)),(76,.int .i64 t76),(82,.slice o0 (((t200.getD t76.toNat (0,[],[],[])).2.2.1).length) s0),(83,.int .i64 (((t200.getD t76.toNat (0,[],[],[])).2.2.1).length:Int)),(84,.int .i64 t84)]/\I3 before t84/\r6=before.length/\w.grownBy w' none/\Bl w' g1 71 [.slice c7 t200.length f0,.map (some w.heap.size),.slice f5 t202.length m2,.slice (some ⟨g5,0,none⟩) t203.length ((l.length:Int).toNat)]/\OwnK 4 qP w' w.heap.size 64 c7 f0 a8/\RelD de64 w' a8 t200/\MapB vs okS vi w' w.heap.size t201/\Own vh w' w.heap.size 24 f5 m2 b0/\RelD de24 w' b0 t202/\qO vi w' w.heap.size 24 3 (some ⟨g5,0,none⟩) ((l.length:Int).toNat) a9 t203 none/\Rd vs w' o0 s0 ((t200.getD t76.toNat (0,[],[],[])).2.2.1)/\Own vi w' w.heap.size 3 a4 c0 before/\AllP (Dj (some g1)) (FPd (some ⟨g5,0,none⟩) a9 none)/\Dj (some g1) (blk a4)/\AllP (Dj (blk c7)) (FPd (some ⟨g5,0,none⟩) a9 none)/\Dj (blk c7) (blk a4)/\AllP (DnD de64 a8 t200) (FPd (some ⟨g5,0,none⟩) a9 none)/\DnD de64 a8 t200 (blk a4)/\AllP (Dj (some w.heap.size)) (FPd (some ⟨g5,0,none⟩) a9 none)/\Dj (some w.heap.size) (blk a4)/\AllP (Dj (blk f5)) (FPd (some ⟨g5,0,none⟩) a9 none)/\Dj (blk f5) (blk a4)/\AllP (DnD de24 b0 t202) (FPd (some ⟨g5,0,none⟩) a9 none)/\DnD de24 b0 t202 (blk a4)/\AllP (Dj (blk a4)) (FPd (some ⟨g5,0,none⟩) a9 none)/\AllP (Dn ((t200.getD t76.toNat (0,[],[],[])).2.2.1) (blk o0)) (FPd (some ⟨g5,0,none⟩) a9 none)/\Dn ((t200.getD t76.toNat (0,[],[],[])).2.2.1) (blk o0) (blk a4)/\NewD de64 a8 t200 w.heap.size/\NewD de24 b0 t202 w.heap.size/\AllP (fun p=>Ge p w.heap.size) (FPd (some ⟨g5,0,none⟩) a9 none)) _ _ ⟨[],none,0,0,(0:Int),rfl,rfl,u9,rfl,(qH (qE gr16 hg14) hg15 (Ge.le (Ge.box hl7) (qF gr16))),((k58.g0 hg14).go hg15 (Dj.new k58.lt' (Ge.box hl7))),((k59.grown hg14).go hg15 (Dj.new k59.lt' (Ge.box hl7))),k76,((k61.g0 hg14).go hg15 (Dj.new k61.lt' (Ge.box hl7))),((k62.grown hg14).go hg15 (Dj.new k62.lt' (Ge.box hl7))),k79,k80,((hR4.grown hg14).go hg15 (Dn.new (fun hx=>hR4.lt' hx) (Ge.box hl7))),(Own.nil vi w18 w.heap.size 3),dj23,Dj.nr,dj25,Dj.nr,dj27,(DnD.none k76),dj29,Dj.nr,dj30,Dj.nr,dj35,(DnD.none k79),apNl,(fun p_ hp_=>(DnD.at (dj27 p_ hp_) k60.1 (Nat.lt_of_lt_of_eq (iltN h7 k6.1.symm) k60.1) eh2).2.2.1),Dn.nr,or2,or3,(k80.ge')⟩ sb ?_
     clear u9
     rintro _ _ w19 ⟨before,a4,c0,r6,t84,rfl,rfl,hI3,rfl,gr19,k83,k84,k85,k86,k87,k88,k89,k90,k91,dj36,dj37,dj38,dj39,dj40,dj41,dj42,dj43,dj44,dj45,dj46,dj47,dj48,dj49,dj50,or4,or5,hi2⟩
     have H:=HR3 before t84 hI3
     refine zc (zb (yp (h:=(zd (za (zc (zk rfl (fun b5=>?_) (fun b5=>?_))))))))
     ·replace H:=H.1 (of_decide_eq_true b5)
      refine zm (za (zc ?_))
      obtain ⟨J2,H,hJ2⟩:=H
      refine zL (fun L' w'=>∃ (before2:List Int),∃ (f6:Option Addr),∃ (n9:Nat),∃ (p2:Nat),L'=[(4,.pointer (some ⟨g1,0,none⟩)),(8,.int .i64 t76),(10,.slice f6 p2 n9),(74,.slice c7 t200.length f0),(75,.int .i64 (t200.length:Int)),(76,.int .i64 t76),(82,.slice o0 (((t200.getD t76.toNat (0,[],[],[])).2.2.1).length) s0),(83,.int .i64 (((t200.getD t76.toNat (0,[],[],[])).2.2.1).length:Int)),(84,.int .i64 t84)]/\J2 before2/\p2=before2.length/\w.grownBy w' none/\Bl w' g1 71 [.slice c7 t200.length f0,.map (some w.heap.size),.slice f5 t202.length m2,.slice (some ⟨g5,0,none⟩) t203.length ((l.length:Int).toNat)]/\OwnK 4 qP w' w.heap.size 64 c7 f0 a8/\RelD de64 w' a8 t200/\MapB vs okS vi w' w.heap.size t201/\Own vh w' w.heap.size 24 f5 m2 b0/\RelD de24 w' b0 t202/\qO vi w' w.heap.size 24 3 (some ⟨g5,0,none⟩) ((l.length:Int).toNat) a9 t203 none/\Rd vs w' o0 s0 ((t200.getD t76.toNat (0,[],[],[])).2.2.1)/\Own vi w' w.heap.size 3 f6 n9 before2/\AllP (Dj (some g1)) (FPd (some ⟨g5,0,none⟩) a9 none)/\Dj (some g1) (blk f6)/\AllP (Dj (blk c7)) (FPd (some ⟨g5,0,none⟩) a9 none)/\Dj (blk c7) (blk f6)/\AllP (DnD de64 a8 t200) (FPd (some ⟨g5,0,none⟩) a9 none)/\DnD de64 a8 t200 (blk f6)/\AllP (Dj (some w.heap.size)) (FPd (some ⟨g5,0,none⟩) a9 none)/\Dj (some w.heap.size) (blk f6)/\AllP (Dj (blk f5)) (FPd (some ⟨g5,0,none⟩) a9 none)/\Dj (blk f5) (blk f6)/\AllP (DnD de24 b0 t202) (FPd (some ⟨g5,0,none⟩) a9 none)/\DnD de24 b0 t202 (blk f6)/\AllP (Dj (blk f6)) (FPd (some ⟨g5,0,none⟩) a9 none)/\AllP (Dn ((t200.getD t76.toNat (0,[],[],[])).2.2.1) (blk o0)) (FPd (some ⟨g5,0,none⟩) a9 none)/\Dn ((t200.getD t76.toNat (0,[],[],[])).2.2.1) (blk o0) (blk f6)/\NewD de64 a8 t200 w.heap.size/\NewD de24 b0 t202 w.heap.size/\AllP (fun p=>Ge p w.heap.size) (FPd (some ⟨g5,0,none⟩) a9 none)) ?_ (fun hQ=>?_)
      ·clear H
       rintro _ w20 ⟨before2,f6,n9,p2,rfl,H,rfl,gr20,k92,k93,k94,k95,k96,k97,k98,k99,k100,dj51,dj52,dj53,dj54,dj55,dj56,dj57,dj58,dj59,dj60,dj61,dj62,dj63,dj64,dj65,or6,or7,hi3⟩
       replace H:=hJ2 before2 H
       refine za (zb ?_)
       obtain ⟨h8,H⟩:=H
       exact zi rfl (Yld.add rfl rfl h8) (yp (h:=(zd (zw _ ⟨before2,f6,n9,before2.length,t84+(1:Int),rfl,rfl,H.1,rfl,gr20,k92,k93,k94,k95,k96,k97,k98,k99,k100,dj51,dj52,dj53,dj54,dj55,dj56,dj57,dj58,dj59,dj60,dj61,dj62,dj63,dj64,dj65,or6,or7,(k98.ge')⟩ sb H.2))))
      ·clear hJ2
       refine WC.block (zc (zb ?_))
       obtain ⟨h9,H⟩:=H
       refine zi rfl (zn qD k90 rfl rfl rfl rfl h9.1 h9.2) (zi rfl (zo [] qD k90 rfl rfl (iltN h9 rfl)) (yp (h:=(zd (za (zc (zb (yp (h:=(yp (h:=(yp (h:=(zi rfl (zt qD k83 rfl rfl rfl) (yp (h:=?_))))))))))))))))
       obtain ⟨h10,H⟩:=H
       refine zi rfl (qC (z:=0) (keyF_s Tryz.underlying9) Tryz.underlying68 (fun _=>by kernel_rfl) k86 rfl rfl h10) (yp (h:=(yp (h:=(yp (h:=(yp (h:=(yp (h:=(zd (za (zc (zb (yp (h:=(zd (za (zk rfl (fun b6=>?_) (fun b6=>?_))))))))))))))))))))
       ·replace H:=H.1 (b6)
        refine zb (yp (h:=(yp (h:=(zP qD rfl rfl rfl (qG rfl qR) rfl (by omega) (fun g7 w21 hB14 hg16 hl8=>?_))))))
        have hO4:Own vi w21 w.heap.size 3 (some ⟨g7,0,none⟩) 1 ([(mget t201 (((t200.getD t76.toNat (0,[],[],[])).2.2.1).getD t84.toNat [])).getD 0]:List Int):=Own.ofBl hB14 (Nat.le_trans (qF gr19) hl8) (by simp [maxLen]) rfl
        have gr21:=qE gr19 hg16
        have k101:=k83.g0 hg16
        have k102:=k84.grown hg16
        have k103:=k85.grown hg16
        have k104:=k86.g0 hg16
        have k105:=k87.grown hg16
        have k106:=k88.grown hg16
        have k107:=k89.g0 hg16
        have k108:=k90.grown hg16
        have k109:=k91.grown hg16
        obtain ⟨h11,H⟩:=H
        refine zG qD rfl rfl One.i k109 rfl rfl hO4.rd rfl rfl h11 (qN h11) (qF gr21) (fun u0 u1 w22 hO5 hg17 hk2=>?_)
        have k116:=k107.go hg17 dj48
        exact yp (h:=(zd (zg (WX.weaken sb (hQ _ _ ⟨before++([(mget t201 (((t200.getD t76.toNat (0,[],[],[])).2.2.1).getD t84.toNat [])).getD 0]:List Int),u0,u1,(before++([(mget t201 (((t200.getD t76.toNat (0,[],[],[])).2.2.1).getD t84.toNat [])).getD 0]:List Int)).length,rfl,H,rfl,(qH gr21 hg17 k109.ge'),(k101.go hg17 dj37),(k102.go hg17 dj39),(k103.go hg17 dj41),(k104.go hg17 dj43),(k105.go hg17 dj45),(k106.go hg17 dj47),k116,(k108.go hg17 dj50),hO5,dj36,(Dj.app dj37.symm k101.lt' hk2).symm,dj38,(Dj.app dj39.symm k102.lt' hk2).symm,dj40,(RelD.app k103 dj41 hk2),dj42,(Dj.app dj43.symm k104.lt' hk2).symm,dj44,(Dj.app dj45.symm k105.lt' hk2).symm,dj46,(RelD.app k106 dj47 hk2),(qO.app k107 dj48 hk2),dj49,(Dn.app dj50 (fun hx=>k108.lt' hx) hk2),or4,or5,(k116.ge')⟩)))))
       ·replace H:=H.2 (b6)
        exact zm (zg (WX.weaken sb (hQ _ _ ⟨before,a4,c0,before.length,rfl,H,rfl,gr19,k83,k84,k85,k86,k87,k88,k89,k90,k91,dj36,dj37,dj38,dj39,dj40,dj41,dj42,dj43,dj44,dj45,dj46,dj47,dj48,dj49,dj50,or4,or5,(k89.ge')⟩)))
     ·replace H:=H.2 (of_decide_eq_false b5)
      refine zz (zf (zf (zj (za (zc (zb (yp (h:=(zr rfl rfl (W_slices_Sort_int_int k91 rfl H) ?_)))))))))
      rintro _ w23 ⟨ys,rfl,hO6,hg18,hl9,H⟩
      refine zd (za (zc (zb (yp (h:=(zr rfl rfl (W_slices_Compact_int_int hO6 ((rfl:before.length=before.length).trans hl9.symm) H) ?_))))))
      rintro _ w24 ⟨before3,rfl,hO7,hg19,H⟩
      have gr24:=qH (qH gr19 hg18 k91.ge') hg19 hO6.ge'
      have k125:=(k83.go hg18 dj37).go hg19 dj37
      have k130:=(k88.go hg18 dj47).go hg19 dj47
      refine yp (h:=(zd (za (zc (zb (yp (h:=(yp (h:=(yp (h:=(yp (h:=(zi rfl (zt qD k125 rfl rfl rfl) (yp (h:=(zP (us:=[.slice a4 before3.length c0]) qD rfl rfl rfl (qG rfl qR) rfl (by omega) (fun g9 w26 hB16 hg21 hl12=>?_))))))))))))))))))
      have hO9:Own vh w26 w.heap.size 24 (some ⟨g9,0,none⟩) 1 ([⟨a4,before3.length,c0⟩]:List Hdr):=Own.ofBl hB16 (Nat.le_trans (qF gr24) hl12) (by simp [maxLen]) rfl
      have gr25:=qE gr24 hg21
      have k132:=k125.g0 hg21
      have k133:=((k84.go hg18 dj39).go hg19 dj39).grown hg21
      have k134:=((k85.go hg18 dj41).go hg19 dj41).grown hg21
      have k135:=((k86.go hg18 dj43).go hg19 dj43).g0 hg21
      have k136:=((k87.go hg18 dj45).go hg19 dj45).grown hg21
      have k137:=k130.grown hg21
      have k138:=((k89.go hg18 dj48).go hg19 dj48).g0 hg21
      have k139:=hO7.grown hg21
      have hr3:RelD de24 w26 ([⟨a4,before3.length,c0⟩]:List Hdr) ([before3]:List (List Int)):=(RelD.cons ⟨rfl,k139.rd⟩ RelD.nil)
      have nd3:NewD de24 ([⟨a4,before3.length,c0⟩]:List Hdr) ([before3]:List (List Int)) w.heap.size:=(NewD.cons (d:=de24) (fun p_ hp_=>(Dn.of (Dj.new hp_ k139.ge').symm)) NewD.nil)
      have dj66:DnD de24 ([⟨a4,before3.length,c0⟩]:List Hdr) ([before3]:List (List Int)) (some g1):=(DnD.cons (d:=de24) (Dn.of dj37.symm) DnD.nil)
      have dj67:DnD de24 ([⟨a4,before3.length,c0⟩]:List Hdr) ([before3]:List (List Int)) (blk c7):=(DnD.cons (d:=de24) (Dn.of dj39.symm) DnD.nil)
      have dj68:DnD de24 ([⟨a4,before3.length,c0⟩]:List Hdr) ([before3]:List (List Int)) (some w.heap.size):=(DnD.cons (d:=de24) (Dn.of dj43.symm) DnD.nil)
      have dj69:DnD de24 ([⟨a4,before3.length,c0⟩]:List Hdr) ([before3]:List (List Int)) (blk f5):=(DnD.cons (d:=de24) (Dn.of dj45.symm) DnD.nil)
      have dj70:AllP (DnD de24 ([⟨a4,before3.length,c0⟩]:List Hdr) ([before3]:List (List Int))) (FPd (some ⟨g5,0,none⟩) a9 none):=(fun p_ hp_=>(DnD.cons (d:=de24) (Dn.of (dj48 p_ hp_)) DnD.nil))
      have dj71:DnD de24 ([⟨a4,before3.length,c0⟩]:List Hdr) ([before3]:List (List Int)) (blk (some ⟨g9,0,none⟩)):=(DnD.cons (d:=de24) (Dn.of (Dj.new hO7.lt' (Ge.box hl12))) DnD.nil)
      obtain ⟨h12,H⟩:=H
      have h13:((b0:List Hdr).length+([⟨a4,before3.length,c0⟩]:List Hdr).length)*24<=140737488355328:=by rw [k137.1,hr3.1]; exact h12
      refine zG qD rfl rfl One.h k136 rfl k63.1.symm hO9.rd rfl rfl h13 (qN h13) (qF gr25) (fun m1 r4 w27 hO10 hg22 hk3=>?_)
      have el2:(b0++([⟨a4,before3.length,c0⟩]:List Hdr)).length=(t202++([before3]:List (List Int))).length:=by rw [List.length_append,List.length_append,k137.1,hr3.1]
      rw [el2]
      have hr4:RelD de24 w27 (b0++([⟨a4,before3.length,c0⟩]:List Hdr)) (t202++([before3]:List (List Int))):=RelD.append (k137.go hg22 dj34) (hr3.go hg22 dj69)
      have nd4:NewD de24 (b0++([⟨a4,before3.length,c0⟩]:List Hdr)) (t202++([before3]:List (List Int))) w.heap.size:=NewD.append k137.1 or5 nd3
      have dj72:DnD de24 (b0++([⟨a4,before3.length,c0⟩]:List Hdr)) (t202++([before3]:List (List Int))) (some g1):=(DnD.append k137.1 dj31 dj66)
      have dj73:DnD de24 (b0++([⟨a4,before3.length,c0⟩]:List Hdr)) (t202++([before3]:List (List Int))) (blk c7):=(DnD.append k137.1 dj32 dj67)
      have dj74:DnD de24 (b0++([⟨a4,before3.length,c0⟩]:List Hdr)) (t202++([before3]:List (List Int))) (some w.heap.size):=(DnD.append k137.1 dj33 dj68)
      have dj75:AllP (DnD de24 (b0++([⟨a4,before3.length,c0⟩]:List Hdr)) (t202++([before3]:List (List Int)))) (FPd (some ⟨g5,0,none⟩) a9 none):=(fun p_ hp_=>DnD.append k137.1 (dj46 p_ hp_) (dj70 p_ hp_))
      have dj76:DnD de24 (b0++([⟨a4,before3.length,c0⟩]:List Hdr)) (t202++([before3]:List (List Int))) (blk (some ⟨g9,0,none⟩)):=(DnD.append k137.1 (k130.new (Ge.box hl12)) dj71)
      have dj77:DnD de24 (b0++([⟨a4,before3.length,c0⟩]:List Hdr)) (t202++([before3]:List (List Int))) (blk m1):=(DnD.append k137.1 (RelD.app k137 dj34 hk3) (RelD.app hr3 dj69 hk3))
      refine yp (h:=(yp (h:=(zV one69 rfl rfl rfl (k132.go hg22 dj22) (by simp) (fun w28 hB18 hg23=>?_)))))
      have hB17:Bl w28 g1 71 [.slice c7 t200.length f0,.map (some w.heap.size),.slice m1 ((t202++([before3]:List (List Int))).length) r4,.slice (some ⟨g5,0,none⟩) t203.length ((l.length:Int).toNat)]:=hB18
      have k151:=(k138.go hg22 dj44).go hg23 dj36
      refine zd (za (zc (zb (yp (h:=(yp (h:=(yp (h:=(zd (za (WC.block ?_))))))))))))
      obtain ⟨I4,mu4,a0g,HR4⟩:=H
      refine zA (fun n' L' w'=>∃ (t119:Int),∃ (t2032:List (List Int)),∃ (i0:List Hd),∃ (s5:Nat),n'=mu4 t119 t2032/\L'=[(4,.pointer (some ⟨g1,0,none⟩)),(8,.int .i64 t76),(74,.slice c7 t200.length f0),(75,.int .i64 (t200.length:Int)),(76,.int .i64 t76),(117,.slice a4 before3.length c0),(118,.int .i64 (before3.length:Int)),(119,.int .i64 t119)]/\I4 t119 t2032/\s5=t2032.length/\w.grownBy w' none/\Bl w' g1 71 [.slice c7 t200.length f0,.map (some w.heap.size),.slice m1 ((t202++([before3]:List (List Int))).length) r4,.slice (some ⟨g5,0,none⟩) s5 ((l.length:Int).toNat)]/\OwnK 4 qP w' w.heap.size 64 c7 f0 a8/\RelD de64 w' a8 t200/\MapB vs okS vi w' w.heap.size t201/\Own vi w' w.heap.size 3 a4 c0 before3/\Own vh w' w.heap.size 24 m1 r4 (b0++([⟨a4,before3.length,c0⟩]:List Hdr))/\RelD de24 w' (b0++([⟨a4,before3.length,c0⟩]:List Hdr)) (t202++([before3]:List (List Int)))/\qO vi w' w.heap.size 24 3 (some ⟨g5,0,none⟩) ((l.length:Int).toNat) i0 t2032 none/\AllP (Dj (some g1)) (FPd (some ⟨g5,0,none⟩) i0 none)/\AllP (Dj (blk c7)) (FPd (some ⟨g5,0,none⟩) i0 none)/\AllP (DnD de64 a8 t200) (FPd (some ⟨g5,0,none⟩) i0 none)/\AllP (Dj (some w.heap.size)) (FPd (some ⟨g5,0,none⟩) i0 none)/\AllP (Dj (blk a4)) (FPd (some ⟨g5,0,none⟩) i0 none)/\AllP (Dj (blk m1)) (FPd (some ⟨g5,0,none⟩) i0 none)/\AllP (DnD de24 (b0++([⟨a4,before3.length,c0⟩]:List Hdr)) (t202++([before3]:List (List Int)))) (FPd (some ⟨g5,0,none⟩) i0 none)/\NewD de64 a8 t200 w.heap.size/\AllP (fun p=>Ge p w.heap.size) (FPd (some ⟨g5,0,none⟩) i0 none)) _ _ ⟨(0:Int),t203,a9,t203.length,rfl,rfl,a0g,rfl,(qH (qH gr25 hg22 k136.ge') hg23 (Ge.le (Ge.box hl2) (qF gr1))),hB17,((k133.go hg22 dj24).go hg23 dj1.symm),((k134.go hg22 dj26).go hg23 dj4),((k135.go hg22 dj28).go hg23 dj2.symm),((k139.go hg22 dj45.symm).go hg23 dj37.symm),(hO10.go hg23 (Dj.app dj22.symm k132.lt' hk3)),(hr4.go hg23 dj72),k151,dj36,dj38,dj40,dj42,dj48,(qO.app k138 dj44 hk3),dj75,or4,(k151.ge')⟩ sb ?_
      clear a0g
      rintro _ _ w29 ⟨t119,t2032,i0,s5,rfl,rfl,hI4,rfl,gr28,k155,k156,k157,k158,k159,k160,k161,k162,dj78,dj79,dj80,dj81,dj82,dj83,dj84,or8,hi4⟩
      have H:=HR4 t119 t2032 hI4
      refine zc (zb (yp (h:=(zd (za (zc (zk rfl (fun b7=>?_) (fun b7=>?_))))))))
      ·replace H:=H.1 (of_decide_eq_true b7)
       refine zm (za (zc (WC.block (zc (zb ?_)))))
       obtain ⟨h14,H⟩:=H
       refine zi rfl (zn qD k159.rd rfl rfl rfl rfl h14.1 h14.2) (zi rfl (zo 0 qD k159.rd rfl rfl (iltN h14 rfl)) (yp (h:=(zd (za (zO (fun k => !(Nat.beq k 13 || Nat.beq k 14 || Nat.beq k 16)) (LD [3,8,11] (fun w'=>Bl w' g1 71 [.slice c7 t200.length f0,.map (some w.heap.size),.slice m1 ((t202++([before3]:List (List Int))).length) r4,.slice (some ⟨g5,0,none⟩) t2032.length ((l.length:Int).toNat)]/\Rd hv w' (some ⟨g5,0,none⟩) ((l.length:Int).toNat) (t2032.zip i0))) mixed (by kernel_rfl) (fun k w' h _=>⟨(jU h k155),(jA h k162.out.rd)⟩) (zu rfl rfl (fun w' hw'=>ze qD rfl) (zu rfl rfl (fun w' hw'=>ze qD rfl) (zu rfl rfl (fun w' hw'=>ze qD rfl) (zu rfl rfl (fun w' hw'=>zt qD (hw' rfl).1 rfl rfl rfl) (zu rfl rfl (fun w' hw'=>ze qD rfl) (zu rfl rfl (fun w' hw'=>ze qD rfl) (zu rfl rfl (fun w' hw'=>ze qD rfl) (zu rfl rfl (fun w' hw'=>ze qD rfl) (zu rfl rfl (fun w' hw'=>zt qD (hw' rfl).1 rfl rfl rfl) (zu rfl rfl (fun w' hw'=>ze qD rfl) ?_))))))))))))))))
       obtain ⟨h15,H⟩:=H
       refine zu rfl rfl (fun w' hw'=>zn qD k162.out.rd rfl rfl ((rfl:t2032.length=_).trans k162.zl.symm) rfl h15.1 h15.2) (zu rfl rfl (fun w' hw'=>Yld.dloadR qD (hw' rfl).2 k162.len rfl rfl (iltN h15 rfl)) (zu rfl rfl (fun w' hw'=>ze qD rfl) (z6 rfl (qI) rfl (Eff.lit qD rfl rfl (qG rfl qR) rfl (by omega)) (fun v w' ⟨_,_,h⟩=>DD.keep (⟨(Bl.g0 k155 (qQ h (Eqv.refl _))),(Rd.grown k162.out.rd (qQ h (Eqv.refl _)))⟩)) ?_)))
       rintro _ w30 ⟨rfl,hB19,hg24⟩
       obtain ⟨s8,hl13⟩:∃ g,g=w29.heap.size:=⟨_,rfl⟩
       rw [<-hl13] at hB19
       rw [<-hl13]
       have hO11:Own vi w30 w.heap.size 3 (some ⟨s8,0,none⟩) 1 ([t76]:List Int):=Own.ofBl hB19 (Nat.le_trans (qF gr28) (Nat.le_of_eq hl13.symm)) (by simp [maxLen]) rfl
       have gr29:=qE gr28 hg24
       have k163:=k155.g0 hg24
       have k164:=k156.grown hg24
       have k165:=k157.grown hg24
       have k166:=k158.g0 hg24
       have k167:=k159.grown hg24
       have k168:=k160.grown hg24
       have k169:=k161.grown hg24
       have k170:=k162.g0 hg24
       obtain ⟨hO12,k171,dj85⟩:=qO.open k170 (iltN h15 rfl)
       have dj86:=qO.at (Q:=DnD de64 a8 t200) k170 (iltN h15 rfl) dj80
       have dj87:=FPd.sub (j:=((before3.getD t119.toNat 0).toNat)) (Q:=DnD de64 a8 t200) dj80
       have dj88:=qO.at (Q:=DnD de24 (b0++([⟨a4,before3.length,c0⟩]:List Hdr)) (t202++([before3]:List (List Int)))) k170 (iltN h15 rfl) dj84
       have dj89:=FPd.sub (j:=((before3.getD t119.toNat 0).toNat)) (Q:=DnD de24 (b0++([⟨a4,before3.length,c0⟩]:List Hdr)) (t202++([before3]:List (List Int)))) dj84
       have dj90:=qO.at (Q:=Dj (some g1)) k170 (iltN h15 rfl) dj78
       have dj91:=FPd.sub (j:=((before3.getD t119.toNat 0).toNat)) (Q:=Dj (some g1)) dj78
       have dj92:=qO.at (Q:=Dj (blk c7)) k170 (iltN h15 rfl) dj79
       have dj93:=FPd.sub (j:=((before3.getD t119.toNat 0).toNat)) (Q:=Dj (blk c7)) dj79
       have dj94:=qO.at (Q:=Dj (some w.heap.size)) k170 (iltN h15 rfl) dj81
       have dj95:=FPd.sub (j:=((before3.getD t119.toNat 0).toNat)) (Q:=Dj (some w.heap.size)) dj81
       have dj96:=qO.at (Q:=Dj (blk a4)) k170 (iltN h15 rfl) dj82
       have dj97:=FPd.sub (j:=((before3.getD t119.toNat 0).toNat)) (Q:=Dj (blk a4)) dj82
       have dj98:=qO.at (Q:=Dj (blk m1)) k170 (iltN h15 rfl) dj83
       have dj99:=FPd.sub (j:=((before3.getD t119.toNat 0).toNat)) (Q:=Dj (blk m1)) dj83
       have dj100:=qO.at (Q:=Dj (blk (some ⟨s8,0,none⟩))) k170 (iltN h15 rfl) (k162.new (Ge.box (Nat.le_of_eq hl13.symm)))
       have dj101:=FPd.sub (j:=((before3.getD t119.toNat 0).toNat)) (Q:=Dj (blk (some ⟨s8,0,none⟩))) (k162.new (Ge.box (Nat.le_of_eq hl13.symm)))
       obtain ⟨h16,H⟩:=H
       refine z6 rfl (qI) rfl (Eff.append qD rfl One.i hO12 rfl rfl hO11.rd rfl rfl h16 (qN h16) (qF gr29)) (fun v w' ⟨_,_,_,_,h,_⟩=>DD.keep (⟨(Bl.go k163 (qQ h (Eqv.refl _)) dj90),(Rd.go k171.out.rd (qQ h (Eqv.refl _)) (Dn.of (apH dj85).symm))⟩)) ?_
       rintro _ w31 ⟨n0,n6,rfl,hO13,hg25,hk4⟩
       have k179:=k171.go hg25 dj85
       obtain ⟨h17,H⟩:=H
       refine zu rfl rfl (fun w' hw'=>zn qD k179.out.rd rfl rfl ((rfl:t2032.length=_).trans k179.zl.symm) rfl h17.1 h17.2) (qn rfl (Ef0.dstore (ys:=((t2032.getD ((before3.getD t119.toNat 0).toNat) [])++([t76]:List Int))) one24 k179 rfl rfl rfl (iltN h17 rfl) hO13 (qO.app k171 dj85 hk4)) (fun w' h=>qv (by kernel_rfl)) ?_)
       rintro w33 ⟨hD1,hg27⟩
       refine zX (zg (za (zb ?_)))
       obtain ⟨h18,H⟩:=H
       refine zi rfl (Yld.add rfl rfl h18) (yp (h:=(zd ?_)))
       exact zw _ ⟨t119+(1:Int),t2032.set ((before3.getD t119.toNat 0).toNat) ((t2032.getD ((before3.getD t119.toNat 0).toNat) [])++([t76]:List Int)),i0.set ((before3.getD t119.toNat 0).toNat) (n0,n6),t2032.length,rfl,rfl,H.1,((rfl:t2032.length=_).trans List.length_set.symm),(qH (qH gr29 hg25 hO12.ge') hg27 (apH (k179.ge'))),((k163.go hg25 dj90).go hg27 (apH dj91)),((k164.go hg25 dj92).go hg27 (apH dj93)),((k165.go hg25 dj86).go hg27 (apH dj87)),((k166.go hg25 dj94).go hg27 (apH dj95)),((k167.go hg25 dj96).go hg27 (apH dj97)),((k168.go hg25 dj98).go hg27 (apH dj99)),((k169.go hg25 dj88).go hg27 (apH dj89)),hD1,(FPd.closeA (A':=n0) (c':=n6) (Q:=Dj (some g1)) dj91 (Dj.app dj90.symm k163.lt' hk4).symm),(FPd.closeA (A':=n0) (c':=n6) (Q:=Dj (blk c7)) dj93 (Dj.app dj92.symm k164.lt' hk4).symm),(FPd.closeA (A':=n0) (c':=n6) (Q:=DnD de64 a8 t200) dj87 (RelD.app k165 dj86 hk4)),(FPd.closeA (A':=n0) (c':=n6) (Q:=Dj (some w.heap.size)) dj95 (Dj.app dj94.symm k166.lt' hk4).symm),(FPd.closeA (A':=n0) (c':=n6) (Q:=Dj (blk a4)) dj97 (Dj.app dj96.symm k167.lt' hk4).symm),(FPd.closeA (A':=n0) (c':=n6) (Q:=Dj (blk m1)) dj99 (Dj.app dj98.symm k168.lt' hk4).symm),(FPd.closeA (A':=n0) (c':=n6) (Q:=DnD de24 (b0++([⟨a4,before3.length,c0⟩]:List Hdr)) (t202++([before3]:List (List Int)))) dj89 (RelD.app k169 dj88 hk4)),or8,(hD1.ge')⟩ sb H.2
      ·replace H:=H.2 (of_decide_eq_false b7)
       refine zz (zf (zf (zj (zg (za (zb ?_))))))
       obtain ⟨h19,H⟩:=H
       exact zi rfl (Yld.add rfl rfl h19) (yp (h:=(zd (zw _ ⟨t76+(1:Int),t202++([before3]:List (List Int)),m1,r4,(t202++([before3]:List (List Int))).length,b0++([⟨a4,before3.length,c0⟩]:List Hdr),t2032,i0,t2032.length,rfl,rfl,H.1,rfl,rfl,gr28,k155,k156,k157,k158,k160,k161,k162,(Dj.app dj22.symm k132.lt' hk3).symm,dj78,(Dj.app dj24.symm k133.lt' hk3).symm,dj79,(RelD.app k134 dj26 hk3),dj80,(Dj.app dj28.symm k135.lt' hk3).symm,dj81,dj83,dj72,dj73,dj74,dj77,dj84,or8,nd4,(k162.ge')⟩ sb H.2))))
    ·replace H:=H.2 (of_decide_eq_false b4)
     refine zz (zf (zf (zj (za (zc (zc (zb (yp (h:=(yp (h:=(yp (h:=(zi rfl (zt qD k58 rfl rfl rfl) (yp (h:=(yp (h:=(zd (za (WC.block ?_)))))))))))))))))))))
     obtain ⟨I5,mu5,a0h,HR5⟩:=H
     refine zA (fun n' L' w'=>∃ (t146:Int),n'=mu5 t146/\L'=[(4,.pointer (some ⟨g1,0,none⟩)),(145,.int .i64 (t200.length:Int)),(146,.int .i64 t146)]/\I5 t146/\w.grownBy w' none/\Bl w' g1 71 [.slice c7 t200.length f0,.map (some w.heap.size),.slice f5 t202.length m2,.slice (some ⟨g5,0,none⟩) t203.length ((l.length:Int).toNat)]/\OwnK 4 qP w' w.heap.size 64 c7 f0 a8/\RelD de64 w' a8 t200/\MapB vs okS vi w' w.heap.size t201/\Own vh w' w.heap.size 24 f5 m2 b0/\RelD de24 w' b0 t202/\qO vi w' w.heap.size 24 3 (some ⟨g5,0,none⟩) ((l.length:Int).toNat) a9 t203 none/\AllP (Dj (some g1)) (FPd (some ⟨g5,0,none⟩) a9 none)/\AllP (Dj (blk c7)) (FPd (some ⟨g5,0,none⟩) a9 none)/\AllP (DnD de64 a8 t200) (FPd (some ⟨g5,0,none⟩) a9 none)/\AllP (Dj (some w.heap.size)) (FPd (some ⟨g5,0,none⟩) a9 none)/\AllP (Dj (blk f5)) (FPd (some ⟨g5,0,none⟩) a9 none)/\AllP (DnD de24 b0 t202) (FPd (some ⟨g5,0,none⟩) a9 none)/\NewD de64 a8 t200 w.heap.size/\NewD de24 b0 t202 w.heap.size/\AllP (fun p=>Ge p w.heap.size) (FPd (some ⟨g5,0,none⟩) a9 none)) _ _ ⟨(0:Int),rfl,rfl,a0h,gr16,k58,k59,k60,k61,k62,k63,k64,dj23,dj25,dj27,dj29,dj30,dj35,or2,or3,(k64.ge')⟩ sb ?_
     clear a0h
     rintro _ _ w34 ⟨t146,rfl,rfl,hI5,gr32,k187,k188,k189,k190,k191,k192,k193,dj109,dj110,dj111,dj112,dj113,dj114,or9,or10,hi5⟩
     have H:=HR5 t146 hI5
     refine zc (zb (yp (h:=(zd (za (zc (zk rfl (fun b8=>?_) (fun b8=>?_))))))))
     ·replace H:=H.1 (of_decide_eq_true b8)
      refine zm (za (zc (WC.block (zc (zb (yp (h:=(yp (h:=(zd (za (zc (zb (yp (h:=(yp (h:=(yp (h:=(yp (h:=(zi rfl (zt qD k187 rfl rfl rfl) (yp (h:=?_))))))))))))))))))))))))
      obtain ⟨h20,H⟩:=H
      refine zi rfl (zn qD k191.rd rfl rfl k63.1.symm rfl h20.1 h20.2) ?_
      obtain ⟨⟨a0e,n5,a0f⟩,eh3,⟨en9,hR5⟩⟩:=RelD.at k192 hd0 [] (j:=t146.toNat) (Nat.lt_of_lt_of_eq (iltN h20 k63.1.symm) k192.1)
      have en9:n5=(t202.getD t146.toNat []).length:=en9
      subst en9
      refine zi rfl (qk (v:=.slice a0e ((t202.getD t146.toNat []).length) a0f) (zo hd0 qD k191.rd rfl rfl (iltN h20 k63.1.symm)) (by rw [eh3]; rfl)) (zr rfl rfl (W_pgraph_Graph_reach k188.rd rfl k189 k190 k191.rd rfl k192 (k193.fdo).rd rfl k193.fdr k187 hR5 rfl H) ?_)
      rintro _ w35 ⟨hg28,t157,a0i,a0k,rfl,ht157,H⟩
      have hb3:=ht157.ge'
      have k194:=ht157.base (fun g hg=>Nat.le_trans (qF gr32) (hb3 g hg))
      have gr33:=qE gr32 hg28
      have k201:=k193.g0 hg28
      refine yp (h:=?_)
      obtain ⟨h21,H⟩:=H
      refine zi rfl (zn qD k194.rd rfl rfl rfl rfl h21.1 h21.2) (zi rfl (zo false qD k194.rd rfl rfl (iltN h21 rfl)) (zd (za (zk rfl (fun b9=>?_) (fun b9=>?_)))))
      ·replace H:=H.1 (b9)
       refine zc ?_
       obtain ⟨vE2,_,hE3⟩:=GOK.get (hG.grown gr33) 4 1 hS4 rfl rfl
       refine zO (fun k => !(Nat.beq k 3)) (LD [1] (fun w'=>w'.cell? ⟨1,0,none⟩=some vE2)) mixed (by kernel_rfl) (fun k w' h _=>((h.cell _).trans (ErrR.cell hE3 rfl))) (zu rfl rfl (fun w' hw'=>ze qD rfl) (zu rfl rfl (fun w' hw'=>Yld.cell qD (hw' rfl) rfl rfl) (zu rfl rfl (fun w' hw'=>zS (us:=[.int .i64 t146,vE2]) (vs:=[(0,.int .i64 t146),(1,vE2)]) zero77 places77 rfl (by simp only [fillL,cells1 (ErrR.one hE3)]; rfl)) (z6 rfl qI rfl (Eff.box (us:=[.int .i64 t146,vE2]) rfl rfl) (fun v w' h=>DD.keep (cell_g0 (ErrR.cell hE3 rfl) (qQ h.2.2 (Eqv.refl _)))) ?_))))
       rintro _ w36 ⟨rfl,hB20,hg29⟩
       obtain ⟨n2,he2,H⟩:=H
       have hE4:=ErrR.mkAt hB20 (he2 ▸ (hE3.grown hg29))
       exact zu rfl rfl (fun w' hw'=>Yld.mki Tryz.underlying75 rfl rfl) (zu rfl rfl (fun w' hw'=>ze qD rfl) (zu rfl rfl (fun w' hw'=>ze qD rfl) (zX (za (zq (zp (zh (zh (zp (zh (zM rfl rfl rfl ⟨(qE gr33 hg29),Or.inl ⟨(.iface 75 (.pointer (some ⟨w35.heap.size,0,none⟩))),(Er.at_ t146 n2),rfl,hE4,H⟩⟩)))))))))))
      ·replace H:=H.2 (b9)
       refine zm (zg (za (zb ?_)))
       obtain ⟨h22,H⟩:=H
       exact zi rfl (Yld.add rfl rfl h22) (yp (h:=(zd (zw _ ⟨t146+(1:Int),rfl,rfl,H.1,gr33,(k187.g0 hg28),(k188.grown hg28),(k189.grown hg28),(k190.g0 hg28),(k191.grown hg28),(k192.grown hg28),k201,dj109,dj110,dj111,dj112,dj113,dj114,or9,or10,(k201.ge')⟩ sb H.2))))
     ·replace H:=H.2 (of_decide_eq_false b8)
      refine zz (zf (zf (zj (za (zc (zb (yp (h:=(yp (h:=(yp (h:=(zd (za (zq ?_)))))))))))))))
      have hO14:Own vh w34 w.heap.size 24 (some ⟨g5,0,none⟩) ((l.length:Int).toNat) (zipH a9 t203):=k193.fdo
      have hr5:RelD de24 w34 (zipH a9 t203) t203:=k193.fdr
      exact zM rfl rfl rfl ⟨gr32,Or.inr ⟨g1,t200,c7,f0,a8,w.heap.size,t201,t202,f5,m2,b0,t203,(some ⟨g5,0,none⟩),(l.length:Int).toNat,(zipH a9 t203),.nilIface,Er.ok,rfl,k188,k189,or9,dj5,k191,k192,or10,dj34,hO14,hr5,(fun p_ hp_=>k193.dnd (fun q_ hq_=>Dj.new hp_ ((k193.ge') q_ hq_))),k193.dself,(ErrR.okR (S:=S) (w:=w34)),k190,(Ge.le (Ge.box (Nat.le_refl _)) (Nat.le_refl _)),k187,(Ge.le (Ge.box hl2) (qF gr1)),dj5,dj26,(apH dj111),dj6,dj4,dj32,dj34,(apH dj114),dj33,dj31,(k193.dnd dj110),(k193.dnd dj113),k193.dself,(k193.dnd dj112),(k193.dnd dj109),dj24,(apH dj110),dj3,dj1.symm,(apH dj113),dj28.symm,dj22.symm,(apH dj112).symm,(apH dj109).symm,dj2.symm,H⟩⟩
 ·clear hJ1
  rcases Bool.eq_false_or_eq_true (decide ((1000:Int)<(l.length:Int))) with b10 | b10
  ·replace H:=H.1 b10
   exact gn b10 (h:=(gn b10 (h:=(zi rfl (zy (okb b10) rfl) (wk (hQ _ _ ⟨true,rfl,H,gr2,k1,hB2⟩))))))
  ·replace H:=H.2 b10
   refine gp b10 (h:=(qe (qX rfl rfl (okb b10)) rfl rfl (jF (hl.grown gr2) rfl (m3.grown gr2) H) ?_))
   rintro _ w37 ⟨hg30,t26,rfl,H⟩
   exact zi rfl (zv (okb b10) rfl) (wk (hQ _ _ ⟨t26,rfl,H,(qE gr2 hg30),(k1.g0 hg30),(hB2.g0 hg30)⟩))
set_option maxHeartbeats 8000000 in
theorem W_pgraph_Graph_Len {w:World} {g_g:Nat} {g_l:List (Int × List (List UInt8) × List (List UInt8) × List UInt8)} {i6:Option Addr} {i7:Nat} {h0:List (Int × Hdr × Hdr × List UInt8)} {d0:Nat} {c1:List (List UInt8 × Int)} {a0:List (List Int)} {c8:Option Addr} {c9:Nat} {c5:List Hdr} {a3:List (List Int)} {d7:Option Addr} {d8:Nat} {d1:List Hdr} {i9:Nat} {d2:Nat} {d9:Nat} {K:Int->Prop} (l9:RdK 4 qP w i6 i7 h0) (l1:i9=g_l.length) (i3:RelD de64 w h0 g_l) (i8:MapB vs okS vi w d0 c1) (c4:Rd vh w c8 c9 c5) (e1:d2=a0.length) (a5:RelD de24 w c5 a0) (e0:Rd vh w d7 d8 d1) (e5:d9=a3.length) (d6:RelD de24 w d1 a3) (hg:Bl w g_g 71 [.slice i6 i9 i7,.map (some d0),.slice c8 d2 c9,.slice d7 d9 d8]) (H:kF g_l c1 a0 a3 K):Fn Tryz.prog 40 ⟨[.pointer (some ⟨g_g,0,none⟩)]⟩ w (fun v w'=>w=w'/\∃ (r:Int),v=.int .i64 r/\K r):=by
 subst l1
 subst e1
 subst e5
 unfold kF at H
 refine Fn.enter (by kernel_rfl) Tryz.func40 rfl Tryz.ntmps40 rfl ?_
 replace H:=H (by rw [<-i3.1]; exact Nat.le_trans l9.cap l9.max)
 replace H:=H (by rw [<-a5.1]; exact Nat.le_trans c4.cap c4.max)
 replace H:=H (by rw [<-d6.1]; exact Nat.le_trans e0.cap e0.max)
 exact zc (zb (yp (h:=(zd (za (zc (zb (yp (h:=(yp (h:=(yp (h:=(zi rfl (zt qD hg rfl rfl rfl) (yp (h:=(yp (h:=(zd (za (zq (zx rfl rfl ⟨rfl,(g_l.length:Int),rfl,H⟩))))))))))))))))))))))
set_option maxHeartbeats 8000000 in
theorem kT {w:World} {g_g:Nat} {g_l:List (Int × List (List UInt8) × List (List UInt8) × List UInt8)} {i6:Option Addr} {i7:Nat} {h0:List (Int × Hdr × Hdr × List UInt8)} {d0:Nat} {c1:List (List UInt8 × Int)} {a0:List (List Int)} {c8:Option Addr} {c9:Nat} {c5:List Hdr} {a3:List (List Int)} {d7:Option Addr} {d8:Nat} {d1:List Hdr} {i:Int} {i9:Nat} {d2:Nat} {d9:Nat} {K:Int->(List (List UInt8))->(List (List UInt8))->(List UInt8)->Bool->Prop} (l9:RdK 4 qP w i6 i7 h0) (l1:i9=g_l.length) (i3:RelD de64 w h0 g_l) (i8:MapB vs okS vi w d0 c1) (c4:Rd vh w c8 c9 c5) (e1:d2=a0.length) (a5:RelD de24 w c5 a0) (e0:Rd vh w d7 d8 d1) (e5:d9=a3.length) (d6:RelD de24 w d1 a3) (hg:Bl w g_g 71 [.slice i6 i9 i7,.map (some d0),.slice c8 d2 c9,.slice d7 d9 d8]) (H:jl g_l c1 a0 a3 i K):Fn Tryz.prog 43 ⟨[.pointer (some ⟨g_g,0,none⟩),.int .i64 i]⟩ w (fun v w'=>w.grownBy w' none/\∃ (t9:Int),∃ (s6:List (List UInt8)),∃ (p0:Option Addr),∃ (s1:Nat),∃ (p3:List (List UInt8)),∃ (m9:Option Addr),∃ (p4:Nat),∃ (s2:List UInt8),∃ (r1:Bool),v=.tuple #[.agg ⟨[.int .i64 t9,.slice p0 s6.length s1,.slice m9 p3.length p4,vs s2]⟩,.bool r1]/\Own vs w' w.heap.size 9 p0 s1 s6/\Own vs w' w.heap.size 9 m9 p4 p3/\Dj (blk p0) (blk m9)/\K t9 s6 p3 s2 r1):=by
 subst l1
 subst e1
 subst e5
 unfold jl at H
 refine Fn.enter (by kernel_rfl) Tryz.func43 rfl Tryz.ntmps43 rfl ?_
 replace H:=H (by rw [<-i3.1]; exact Nat.le_trans l9.cap l9.max)
 replace H:=H (by rw [<-a5.1]; exact Nat.le_trans c4.cap c4.max)
 replace H:=H (by rw [<-d6.1]; exact Nat.le_trans e0.cap e0.max)
 refine zc (zb (WL.alloc rfl zero64 (fun g1 w1 hB1 hg1 hl1=>?_)))
 have gr1:=hg1
 refine yp (h:=(zd (za (zc (zc (zb (yp (h:=(yp (h:=(yp (h:=(zD 8 (fun L' w'=>∃ q1:Bool,L'=[(16,.bool q1),(0,.pointer (some ⟨g_g,0,none⟩)),(1,.int .i64 i),(4,.pointer (some ⟨g1,0,none⟩))]/\((decide (i<(0:Int))) || (decide ((g_l.length:Int)<=i)))=q1/\w1=w') ?_ (fun hQ=>?_))))))))))))))
 ·rintro _ _ ⟨q1,rfl,rfl,rfl⟩
  refine zd (za (zk rfl (fun b1=>?_) (fun b1=>?_)))
  ·replace H:=H.1 (b1)
   exact zc (zb (zi rfl (zS (us:=[.int .i64 (0:Int),.slice none 0 0,.slice none 0 0,vs ([]:List UInt8)]) zero64 places64 rfl rfl) (zH (vs:=[.int .i64 (0:Int),.slice none 0 0,.slice none 0 0,vs ([]:List UInt8)]) qD rfl rfl rfl (qG rfl (qG rfl (qG rfl (qG rfl qR)))) hB1 rfl rfl (fun w2 hB2 hg2=>yp (h:=(zd (za (zq (zh (WX.retct qD rfl rfl rfl hB2 rfl rfl ⟨(qH gr1 hg2 (Ge.le (Ge.box hl1) (Nat.le_refl _))),(0:Int),[],none,0,[],none,0,([]:List UInt8),false,rfl,(Own.nil vs w2 w.heap.size 9),(Own.nil vs w2 w.heap.size 9),Dj.nl,H⟩))))))))))
  ·replace H:=H.2 (b1)
   refine zm (za (zc (zb (yp (h:=(yp (h:=(yp (h:=(zi rfl (zt qD (hg.g0 gr1) rfl rfl rfl) (yp (h:=?_))))))))))))
   obtain ⟨h1,H⟩:=H
   refine zi rfl (zE qD (l9.grown gr1) rfl rfl i3.1.symm rfl h1.1 h1.2) ?_
   obtain ⟨⟨f1,⟨m7,n1,m8⟩,⟨l6,n2,l7⟩,f2⟩,eh1,⟨en1,⟨en2,hR1⟩,⟨en3,hR2⟩,en4⟩⟩:=RelD.at i3 (0,hd0,hd0,[]) (0,[],[],[]) (j:=i.toNat) (Nat.lt_of_lt_of_eq (iltN h1 i3.1.symm) i3.1)
   have en1:f1=(g_l.getD i.toNat (0,[],[],[])).1:=en1
   subst en1
   have en2:n1=((g_l.getD i.toNat (0,[],[],[])).2.1).length:=en2
   subst en2
   have en3:n2=((g_l.getD i.toNat (0,[],[],[])).2.2.1).length:=en3
   subst en3
   have en4:f2=(g_l.getD i.toNat (0,[],[],[])).2.2.2:=en4
   subst en4
   refine zi rfl (qk (v:=.agg ⟨[.int .i64 ((g_l.getD i.toNat (0,[],[],[])).1),.slice m7 (((g_l.getD i.toNat (0,[],[],[])).2.1).length) m8,.slice l6 (((g_l.getD i.toNat (0,[],[],[])).2.2.1).length) l7,vs ((g_l.getD i.toNat (0,[],[],[])).2.2.2)]⟩) (zU (0,hd0,hd0,[]) qD (l9.grown gr1) rfl rfl (iltN h1 i3.1.symm)) (by rw [eh1]; rfl)) (zr rfl rfl (W_graph_copied (hR1.grown gr1) rfl (hR2.grown gr1) rfl H) ?_)
   rintro _ w3 ⟨hg3,o9,o8,p9,r5,m5,o3,o6,m6,rfl,ht25_Args,ht25_Inputs,dj1,H⟩
   have hb1:=ht25_Args.ge'
   have hb2:=ht25_Inputs.ge'
   exact zH (vs:=[.int .i64 o9,.slice p9 o8.length r5,.slice o3 m5.length o6,vs m6]) qD rfl rfl rfl (qG rfl (qG rfl (qG rfl (qG rfl qR)))) (hB1.g0 hg3) rfl rfl (fun w4 hB3 hg4=>yp (h:=(zd (za (zq (WX.retct qD rfl rfl rfl hB3 rfl rfl ⟨(qH (qE gr1 hg3) hg4 (Ge.le (Ge.box hl1) (Nat.le_refl _))),o9,o8,p9,r5,m5,o3,o6,m6,true,rfl,((ht25_Args.base (fun g hg=>Nat.le_trans (qF gr1) (hb1 g hg))).go hg4 ((Dj.new hB1.lt' hb1).symm)),((ht25_Inputs.base (fun g hg=>Nat.le_trans (qF gr1) (hb2 g hg))).go hg4 ((Dj.new hB1.lt' hb2).symm)),dj1,H⟩))))))
 ·clear H
  rcases Bool.eq_false_or_eq_true (decide (i<(0:Int))) with b2 | b2
  ·exact gn b2 (h:=(gn b2 (h:=(gn b2 (h:=(gn b2 (h:=(gn b2 (h:=(gn b2 (h:=(gn b2 (h:=(zi rfl (zy (okb b2) rfl) (wk (hQ _ _ ⟨true,rfl,by rw [b2] <;> rfl,rfl⟩))))))))))))))))
  ·exact gp b2 (h:=(gp b2 (h:=(gp b2 (h:=(gp b2 (h:=(zC rfl rfl (okb b2) rfl (zt qD (hg.g0 gr1) rfl rfl rfl) (gp b2 (h:=(gp b2 (h:=(zi rfl (zv (okb b2) rfl) (wk (hQ _ _ ⟨decide ((g_l.length:Int)<=i),rfl,by rw [b2] <;> rfl,rfl⟩)))))))))))))))
set_option maxHeartbeats 8000000 in
theorem W_pgraph_Graph_Maker {w:World} {g_g:Nat} {g_l:List (Int × List (List UInt8) × List (List UInt8) × List UInt8)} {i6:Option Addr} {i7:Nat} {h0:List (Int × Hdr × Hdr × List UInt8)} {d0:Nat} {c1:List (List UInt8 × Int)} {a0:List (List Int)} {c8:Option Addr} {c9:Nat} {c5:List Hdr} {a3:List (List Int)} {d7:Option Addr} {d8:Nat} {d1:List Hdr} {p:List UInt8} {i9:Nat} {d2:Nat} {d9:Nat} {K:Int->Prop} (l9:RdK 4 qP w i6 i7 h0) (l1:i9=g_l.length) (i3:RelD de64 w h0 g_l) (i8:MapB vs okS vi w d0 c1) (c4:Rd vh w c8 c9 c5) (e1:d2=a0.length) (a5:RelD de24 w c5 a0) (e0:Rd vh w d7 d8 d1) (e5:d9=a3.length) (d6:RelD de24 w d1 a3) (hg:Bl w g_g 71 [.slice i6 i9 i7,.map (some d0),.slice c8 d2 c9,.slice d7 d9 d8]) (H:kg g_l c1 a0 a3 p K):Fn Tryz.prog 39 ⟨[.pointer (some ⟨g_g,0,none⟩),vs p]⟩ w (fun v w'=>w=w'/\∃ (r:Int),v=.int .i64 r/\K r):=by
 subst l1
 subst e1
 subst e5
 unfold kg at H
 refine Fn.enter (by kernel_rfl) Tryz.func39 rfl Tryz.ntmps39 rfl ?_
 replace H:=H (by rw [<-i3.1]; exact Nat.le_trans l9.cap l9.max)
 replace H:=H (by rw [<-a5.1]; exact Nat.le_trans c4.cap c4.max)
 replace H:=H (by rw [<-d6.1]; exact Nat.le_trans e0.cap e0.max)
 refine zc (zb (yp (h:=(zd (za (zc (zc (zb (yp (h:=(yp (h:=(yp (h:=(zi rfl (zt qD hg rfl rfl rfl) (yp (h:=?_)))))))))))))))))
 obtain ⟨h1,H⟩:=H
 refine zi rfl (qC (z:=0) (keyF_s Tryz.underlying9) Tryz.underlying68 (fun _=>by kernel_rfl) i8 rfl rfl h1) (yp (h:=(yp (h:=(yp (h:=(yp (h:=(yp (h:=(zd (za (zc (zb (yp (h:=(zd (za (zk rfl (fun b1=>?_) (fun b1=>?_))))))))))))))))))))
 ·replace H:=H.1 (b1)
  exact zc (zb (yp (h:=(yp (h:=(zd (za (zq (zh (zx rfl rfl ⟨rfl,(mget c1 p).getD 0,rfl,H⟩))))))))))
 ·replace H:=H.2 (b1)
  exact zm (za (zc (zb (yp (h:=(zd (za (zq (zx rfl rfl ⟨rfl,(-1:Int),rfl,H⟩)))))))))
set_option maxHeartbeats 8000000 in
theorem W_pgraph_Graph_Before {w:World} {g_g:Nat} {g_l:List (Int × List (List UInt8) × List (List UInt8) × List UInt8)} {i6:Option Addr} {i7:Nat} {h0:List (Int × Hdr × Hdr × List UInt8)} {d0:Nat} {c1:List (List UInt8 × Int)} {a0:List (List Int)} {c8:Option Addr} {c9:Nat} {c5:List Hdr} {a3:List (List Int)} {d7:Option Addr} {d8:Nat} {d1:List Hdr} {i:Int} {i9:Nat} {d2:Nat} {d9:Nat} {K:(List Int)->Prop} (l9:RdK 4 qP w i6 i7 h0) (l1:i9=g_l.length) (i3:RelD de64 w h0 g_l) (i8:MapB vs okS vi w d0 c1) (c4:Rd vh w c8 c9 c5) (e1:d2=a0.length) (a5:RelD de24 w c5 a0) (e0:Rd vh w d7 d8 d1) (e5:d9=a3.length) (d6:RelD de24 w d1 a3) (hg:Bl w g_g 71 [.slice i6 i9 i7,.map (some d0),.slice c8 d2 c9,.slice d7 d9 d8]) (H:ka g_l c1 a0 a3 i K):Fn Tryz.prog 67 ⟨[.pointer (some ⟨g_g,0,none⟩),.int .i64 i]⟩ w (fun v w'=>w.grownBy w' none/\∃ (r:List Int),∃ (A_r:Option Addr),∃ (c_r:Nat),v=.slice A_r r.length c_r/\Own vi w' w.heap.size 3 A_r c_r r/\K r):=by
 subst l1
 subst e1
 subst e5
 unfold ka at H
 refine Fn.enter (by kernel_rfl) Tryz.func67 rfl Tryz.ntmps67 rfl ?_
 replace H:=H (by rw [<-i3.1]; exact Nat.le_trans l9.cap l9.max)
 replace H:=H (by rw [<-a5.1]; exact Nat.le_trans c4.cap c4.max)
 replace H:=H (by rw [<-d6.1]; exact Nat.le_trans e0.cap e0.max)
 refine zc (zb (yp (h:=(zd (za (zc (zc (zb (yp (h:=(yp (h:=(yp (h:=(zD 8 (fun L' w'=>∃ q1:Bool,L'=[(15,.bool q1),(0,.pointer (some ⟨g_g,0,none⟩)),(1,.int .i64 i)]/\((decide (i<(0:Int))) || (decide ((g_l.length:Int)<=i)))=q1/\w=w') ?_ (fun hQ=>?_))))))))))))))))
 ·rintro _ _ ⟨q1,rfl,rfl,rfl⟩
  refine zd (za (zk rfl (fun b1=>?_) (fun b1=>?_)))
  ·replace H:=H.1 (b1)
   exact zc (zb (yp (h:=(zd (za (zq (zh (zx rfl rfl ⟨(qK _ _),[],none,0,rfl,(Own.nil vi w w.heap.size 3),H⟩))))))))
  ·replace H:=H.2 (b1)
   refine zm (za (zc (zb (yp (h:=(yp (h:=(yp (h:=(zi rfl (zt qD hg rfl rfl rfl) (yp (h:=?_))))))))))))
   obtain ⟨h1,H⟩:=H
   refine zi rfl (zn qD c4 rfl rfl a5.1.symm rfl h1.1 h1.2) ?_
   obtain ⟨⟨m7,n1,m8⟩,eh1,⟨en1,hR1⟩⟩:=RelD.at a5 hd0 [] (j:=i.toNat) (Nat.lt_of_lt_of_eq (iltN h1 a5.1.symm) a5.1)
   have en1:n1=(a0.getD i.toNat []).length:=en1
   subst en1
   refine zi rfl (qk (v:=.slice m7 ((a0.getD i.toNat []).length) m8) (zo hd0 qD c4 rfl rfl (iltN h1 a5.1.symm)) (by rw [eh1]; rfl)) (zr rfl rfl (W_slices_Clone_int_int hR1 rfl H) ?_)
   rintro _ w1 ⟨hg1,t4,a0j,a0l,rfl,ht4,H⟩
   have hb1:=ht4.ge'
   exact yp (h:=(zd (za (zq (zx rfl rfl ⟨hg1,t4,a0j,a0l,rfl,(ht4.base (fun g hg=>Nat.le_trans (Nat.le_refl _) (hb1 g hg))),H⟩)))))
 ·clear H
  rcases Bool.eq_false_or_eq_true (decide (i<(0:Int))) with b2 | b2
  ·exact gn b2 (h:=(gn b2 (h:=(gn b2 (h:=(gn b2 (h:=(gn b2 (h:=(gn b2 (h:=(gn b2 (h:=(zi rfl (zy (okb b2) rfl) (wk (hQ _ _ ⟨true,rfl,by rw [b2] <;> rfl,rfl⟩))))))))))))))))
  ·exact gp b2 (h:=(gp b2 (h:=(gp b2 (h:=(gp b2 (h:=(zC rfl rfl (okb b2) rfl (zt qD hg rfl rfl rfl) (gp b2 (h:=(gp b2 (h:=(zi rfl (zv (okb b2) rfl) (wk (hQ _ _ ⟨decide ((g_l.length:Int)<=i),rfl,by rw [b2] <;> rfl,rfl⟩)))))))))))))))
set_option maxHeartbeats 8000000 in
theorem W_smithyworld_Actions {w:World} {l:List (Int × List (List UInt8) × List (List UInt8) × List UInt8)} {A_l:Option Addr} {c_l:Nat} {y1:List (Int × Hdr × Hdr × List UInt8)} {n_l:Nat} {K:Bool->Prop} (hl:RdK 4 qP w A_l c_l y1) (s9:n_l=l.length) (m3:RelD de64 w y1 l) (H:ke l K):Fn Tryz.prog 5 ⟨[.slice A_l n_l c_l]⟩ w (fun v w'=>w=w'/\∃ (r:Bool),v=.bool r/\K r):=by
 subst s9
 unfold ke at H
 refine Fn.enter (by kernel_rfl) Tryz.func5 rfl Tryz.ntmps5 rfl ?_
 replace H:=H (by rw [<-m3.1]; exact Nat.le_trans hl.cap hl.max)
 refine zc (zb (yp (h:=(zd (za (zc (zc (zb (yp (h:=(yp (h:=(yp (h:=(zd (za (zk rfl (fun b1=>?_) (fun b1=>?_))))))))))))))))))
 ·replace H:=H.1 (of_decide_eq_true b1)
  exact zc (zb (yp (h:=(zd (za (zq (zh (zx rfl rfl ⟨rfl,false,rfl,H⟩))))))))
 ·replace H:=H.2 (of_decide_eq_false b1)
  refine zm (za (zc (zc (zb (yp (h:=(zd (za (WC.block ?_)))))))))
  obtain ⟨I1,mu1,l0,HR1⟩:=H
  refine zA (fun n' L' w'=>∃ (i:Int),n'=mu1 i/\L'=[(0,.slice A_l l.length c_l),(3,.int .i64 i)]/\I1 i/\w=w') _ _ ⟨(0:Int),rfl,rfl,l0,rfl⟩ sb ?_
  clear l0
  rintro _ _ _ ⟨i,rfl,rfl,hI1,rfl⟩
  have H:=HR1 i hI1
  refine zc (zc (zb (yp (h:=(yp (h:=(yp (h:=(yp (h:=(zd (za (zk rfl (fun b2=>?_) (fun b2=>?_))))))))))))))
  ·replace H:=H.1 (of_decide_eq_true b2)
   refine zm (za (zc (WC.block (zc (zb (yp (h:=(yp (h:=?_)))))))))
   obtain ⟨h1,H⟩:=H
   refine zi rfl (zE qD hl rfl rfl m3.1.symm rfl h1.1 h1.2) (zi rfl (zK qD hl (iltN h1 m3.1.symm) rfl rfl rfl) ?_)
   obtain ⟨⟨f1,⟨m7,n1,m8⟩,⟨l6,n2,l7⟩,f2⟩,eh1,⟨en1,⟨en2,hR1⟩,⟨en3,hR2⟩,en4⟩⟩:=RelD.at m3 (0,hd0,hd0,[]) (0,[],[],[]) (j:=i.toNat) (Nat.lt_of_lt_of_eq (iltN h1 m3.1.symm) m3.1)
   have en1:f1=(l.getD i.toNat (0,[],[],[])).1:=en1
   subst en1
   have en2:n1=((l.getD i.toNat (0,[],[],[])).2.1).length:=en2
   subst en2
   have en3:n2=((l.getD i.toNat (0,[],[],[])).2.2.1).length:=en3
   subst en3
   have en4:f2=(l.getD i.toNat (0,[],[],[])).2.2.2:=en4
   subst en4
   refine zi rfl (zN (v:=.slice m7 (((l.getD i.toNat (0,[],[],[])).2.1).length) m8) (0,hd0,hd0,[]) qD hl rfl rfl (iltN h1 m3.1.symm) (by rw [eh1]; rfl)) (zr rfl rfl (W_smithyworld_Texts hR1 rfl H) ?_)
   rintro _ _ ⟨rfl,t18,rfl,H⟩
   refine yp (h:=(yp (h:=?_)))
   obtain ⟨J1,H,hJ1⟩:=H
   refine zD 8 (fun L' w'=>∃ q1:Bool,L'=[(28,.bool q1),(0,.slice A_l l.length c_l),(3,.int .i64 i)]/\J1 q1/\w=w') ?_ (fun hQ=>?_)
   ·clear H
    rintro _ _ ⟨q1,rfl,H,rfl⟩
    replace H:=hJ1 q1 H
    refine yp (h:=?_)
    obtain ⟨h2,H⟩:=H
    refine zD 8 (fun L' w'=>∃ q2:Bool,L'=[(37,.bool q2),(0,.slice A_l l.length c_l),(3,.int .i64 i)]/\(q1 || (decide ((250:Int)<(((l.getD i.toNat (0,[],[],[])).2.2.2).length:Int))))=q2/\w=w') ?_ (fun hQ=>?_)
    ·rintro _ _ ⟨q2,rfl,rfl,rfl⟩
     refine zd (za (zk rfl (fun b3=>?_) (fun b3=>?_)))
     ·replace H:=H.1 (b3)
      exact zc (zb (yp (h:=(zd (za (zq (zp (zh (zh (zp (zh (zx rfl rfl ⟨rfl,false,rfl,H⟩))))))))))))
     ·replace H:=H.2 (b3)
      refine zm (zg (za (zb (yp (h:=?_)))))
      obtain ⟨h3,H⟩:=H
      exact zi rfl (Yld.add rfl rfl h3) (yp (h:=(zd (zw _ ⟨i+(1:Int),rfl,rfl,H.1,rfl⟩ sb H.2))))
    ·clear H
     rcases Bool.eq_false_or_eq_true (q1) with b4 | b4
     ·exact gn b4 (h:=(gn b4 (h:=(gn b4 (h:=(gn b4 (h:=(gn b4 (h:=(gn b4 (h:=(gn b4 (h:=(zi rfl (zy (okb b4) rfl) (wk (hQ _ _ ⟨true,rfl,by rw [b4] <;> rfl,rfl⟩))))))))))))))))
     ·exact gp b4 (h:=(gp b4 (h:=(zC rfl rfl (okb b4) rfl (zE qD hl rfl rfl m3.1.symm rfl (h2 b4).1 (h2 b4).2) (zC rfl rfl (okb b4) rfl (zK qD hl (iltN (h2 b4) m3.1.symm) rfl rfl rfl) (zC rfl rfl (okb b4) rfl (zN (v:=vs ((l.getD i.toNat (0,[],[],[])).2.2.2)) (0,hd0,hd0,[]) qD hl rfl rfl (iltN (h2 b4) m3.1.symm) (by rw [eh1]; rfl)) (gp b4 (h:=(gp b4 (h:=(zi rfl (zv (okb b4) rfl) (wk (hQ _ _ ⟨decide ((250:Int)<(((l.getD i.toNat (0,[],[],[])).2.2.2).length:Int)),rfl,by rw [b4] <;> rfl,rfl⟩)))))))))))))
   ·clear hJ1
    rcases Bool.eq_false_or_eq_true (!t18) with b5 | b5
    ·replace H:=H.1 b5
     exact gn b5 (h:=(gn b5 (h:=(gn b5 (h:=(gn b5 (h:=(gn b5 (h:=(gn b5 (h:=(gn b5 (h:=(zi rfl (zy (okb b5) rfl) (wk (hQ _ _ ⟨true,rfl,H,rfl⟩))))))))))))))))
    ·replace H:=H.2 b5
     refine gp b5 (h:=(gp b5 (h:=?_)))
     obtain ⟨h4,H⟩:=H
     refine zC rfl rfl (okb b5) rfl (zE qD hl rfl rfl m3.1.symm rfl h4.1 h4.2) (zC rfl rfl (okb b5) rfl (zK qD hl (iltN h4 m3.1.symm) rfl rfl rfl) (zC rfl rfl (okb b5) rfl (zN (v:=.slice l6 (((l.getD i.toNat (0,[],[],[])).2.2.1).length) l7) (0,hd0,hd0,[]) qD hl rfl rfl (iltN h4 m3.1.symm) (by rw [eh1]; rfl)) (qe (qX rfl rfl (okb b5)) rfl rfl (W_smithyworld_Texts hR2 rfl H) ?_)))
     rintro _ _ ⟨rfl,t26,rfl,H⟩
     exact gp b5 (h:=(zi rfl (zv (okb b5) rfl) (wk (hQ _ _ ⟨!t26,rfl,H,rfl⟩))))
  ·replace H:=H.2 (of_decide_eq_false b2)
   exact zz (zf (zf (zj (za (zc (zb (yp (h:=(zd (za (zq (zx rfl rfl ⟨rfl,true,rfl,H⟩))))))))))))
set_option maxHeartbeats 8000000 in
theorem W_smithyworld_Files {w:World} {l:List (List UInt8 × List UInt8)} {A_l:Option Addr} {c_l:Nat} {n_l:Nat} {K:Bool->Prop} (hl:RdK 2 enc67 w A_l c_l l) (s9:n_l=l.length) (H:kB l K):Fn Tryz.prog 6 ⟨[.slice A_l n_l c_l]⟩ w (fun v w'=>w=w'/\∃ (r:Bool),v=.bool r/\K r):=by
 subst s9
 unfold kB at H
 refine Fn.enter (by kernel_rfl) Tryz.func6 rfl Tryz.ntmps6 rfl ?_
 replace H:=H (Nat.le_trans hl.cap hl.max)
 refine zc (zb (yp (h:=(zd (za (zc (zc (zb (yp (h:=(yp (h:=(yp (h:=(zd (za (zk rfl (fun b1=>?_) (fun b1=>?_))))))))))))))))))
 ·replace H:=H.1 (of_decide_eq_true b1)
  exact zc (zb (yp (h:=(zd (za (zq (zh (zx rfl rfl ⟨rfl,false,rfl,H⟩))))))))
 ·replace H:=H.2 (of_decide_eq_false b1)
  refine zm (za (zc (zc (zb (yp (h:=(zd (za (WC.block ?_)))))))))
  obtain ⟨I1,mu1,l0,HR1⟩:=H
  refine zA (fun n' L' w'=>∃ (i:Int),n'=mu1 i/\L'=[(0,.slice A_l l.length c_l),(3,.int .i64 i)]/\I1 i/\w=w') _ _ ⟨(0:Int),rfl,rfl,l0,rfl⟩ sb ?_
  clear l0
  rintro _ _ _ ⟨i,rfl,rfl,hI1,rfl⟩
  have H:=HR1 i hI1
  refine zc (zc (zb (yp (h:=(yp (h:=(yp (h:=(yp (h:=(zd (za (zk rfl (fun b2=>?_) (fun b2=>?_))))))))))))))
  ·replace H:=H.1 (of_decide_eq_true b2)
   refine zm (za (zc (WC.block (zc (zb (yp (h:=(yp (h:=?_)))))))))
   obtain ⟨h1,H⟩:=H
   refine zi rfl (zE qD hl rfl rfl rfl rfl h1.1 h1.2) (zi rfl (zK qD hl (iltN h1 rfl) rfl rfl rfl) (zi rfl (zN ([],[]) qD hl rfl rfl (iltN h1 rfl) rfl) (yp (h:=(yp (h:=(yp (h:=?_))))))))
   obtain ⟨h2,H⟩:=H
   refine zD 8 (fun L' w'=>∃ q1:Bool,L'=[(28,.bool q1),(0,.slice A_l l.length c_l),(3,.int .i64 i)]/\((decide ((250:Int)<(((l.getD i.toNat ([],[])).1).length:Int))) || (decide ((3000:Int)<(((l.getD i.toNat ([],[])).2).length:Int))))=q1/\w=w') ?_ (fun hQ=>?_)
   ·rintro _ _ ⟨q1,rfl,rfl,rfl⟩
    refine zd (za (zk rfl (fun b3=>?_) (fun b3=>?_)))
    ·replace H:=H.1 (b3)
     exact zc (zb (yp (h:=(zd (za (zq (zp (zh (zh (zp (zh (zx rfl rfl ⟨rfl,false,rfl,H⟩))))))))))))
    ·replace H:=H.2 (b3)
     refine zm (zg (za (zb (yp (h:=?_)))))
     obtain ⟨h3,H⟩:=H
     exact zi rfl (Yld.add rfl rfl h3) (yp (h:=(zd (zw _ ⟨i+(1:Int),rfl,rfl,H.1,rfl⟩ sb H.2))))
   ·clear H
    rcases Bool.eq_false_or_eq_true (decide ((250:Int)<(((l.getD i.toNat ([],[])).1).length:Int))) with b4 | b4
    ·exact gn b4 (h:=(gn b4 (h:=(gn b4 (h:=(gn b4 (h:=(gn b4 (h:=(gn b4 (h:=(gn b4 (h:=(zi rfl (zy (okb b4) rfl) (wk (hQ _ _ ⟨true,rfl,by rw [b4] <;> rfl,rfl⟩))))))))))))))))
    ·exact gp b4 (h:=(gp b4 (h:=(zC rfl rfl (okb b4) rfl (zE qD hl rfl rfl rfl rfl (h2 b4).1 (h2 b4).2) (zC rfl rfl (okb b4) rfl (zK qD hl (iltN (h2 b4) rfl) rfl rfl rfl) (zC rfl rfl (okb b4) rfl (zN ([],[]) qD hl rfl rfl (iltN (h2 b4) rfl) rfl) (gp b4 (h:=(gp b4 (h:=(zi rfl (zv (okb b4) rfl) (wk (hQ _ _ ⟨decide ((3000:Int)<(((l.getD i.toNat ([],[])).2).length:Int)),rfl,by rw [b4] <;> rfl,rfl⟩)))))))))))))
  ·replace H:=H.2 (of_decide_eq_false b2)
   exact zz (zf (zf (zj (za (zc (zb (yp (h:=(zd (za (zq (zx rfl rfl ⟨rfl,true,rfl,H⟩))))))))))))
end
 
section
open Go Go.RowKit
def cuts:List UInt8->List (List UInt8)
 | []=>[[]]
 | c :: s=>if c=47 then [] :: cuts s else match cuts s with
  | []=>[[c]]
  | h :: t=>(c :: h) :: t
theorem cuts_ne (s:List UInt8):cuts s≠[]:=by
 cases s with
 | nil=>simp [cuts]
 | cons c s =>
  unfold cuts
  split
  ·simp
  ·split <;> simp
theorem split_cuts:∀ s:List UInt8,Lib.split s [47]=cuts s
 | []=>by simp [Lib.split,Lib.count_miss,Lib.index,Lib.splitK,cuts]
 | c :: s=>by
  have ih:=split_cuts s
  unfold Lib.split at ih |-
  by_cases hc:c=47
  ·subst hc
   have hix:Lib.index (47 :: s) [47]=0:=by rw [Lib.index]; simp [List.isPrefixOf]
   rw [Lib.count_cons_eq,Nat.add_comm,Lib.splitK,if_neg (by rw [hix]; decide),hix]
   simp only [cuts,if_true]
   rw [<-ih]
   simp
  ·have hp:([47]:List UInt8).isPrefixOf (c :: s)=false:=by simp [List.isPrefixOf,Ne.symm hc]
   have hix:Lib.index (c :: s) [47]=if Lib.index s [47] == -1 then -1 else Lib.index s [47]+1:=by rw [Lib.index,hp]; simp
   rw [Lib.count_cons_ne c 47 s hc]
   simp only [cuts,if_neg hc]
   rw [<-ih]
   cases hk:Lib.count s [47] with
   | zero=>simp [Lib.splitK]
   | succ k =>
    have hne:Lib.index s [47] ≠ -1:=fun e=>by rw [Lib.count_miss e] at hk; cases hk
    have hge:=Lib.index_ge s [47]
    obtain ⟨j,hj⟩:∃ j:Nat,Lib.index s [47]=j:=⟨(Lib.index s [47]).toNat,by omega⟩
    have hix':Lib.index (c :: s) [47]=((j+1:Nat):Int):=by rw [hix,if_neg (fun e=>hne (beq_iff_eq.1 e)),hj]; omega
    rw [Lib.splitK,Lib.splitK,if_neg (fun e=>hne (beq_iff_eq.1 e)),if_neg (by rw [hix']; simp; omega),hix',hj]
    simp
theorem splitL_cuts (s:List UInt8):splitL [47] s=cuts s:=split_cuts s
theorem cuts_length (s:List UInt8):(cuts s).length<=s.length+1:=by
 induction s with
 | nil=>simp [cuts]
 | cons c s ih =>
  unfold cuts
  split
  ·simp; omega
  ·split
   ·simp
   ·rename_i h t e; rw [e] at ih; simp at ih |-; omega
theorem split_M {s:List UInt8} {K:List (List UInt8)->Prop} (hs:s.length<=4000000000) (h:K (cuts s)):Zs s [47] K :=
 ⟨by omega,by simp,by rw [splitL_cuts]; exact h⟩
def letB (c:UInt8):Bool:=(((decide (48<=c.toNat) && decide (c.toNat<=57)) || (decide (65<=c.toNat) && decide (c.toNat<=90))) || (decide (97<=c.toNat) && decide (c.toNat<=122))) || ([33,35,37,43,44,45,46,61,64,95,126]:List UInt8).contains c
theorem indexByte_contains (l:List UInt8) (c:UInt8):decide (0<=Lib.indexByte l c)=l.contains c:=by
 induction l with
 | nil=>simp [Lib.indexByte]
 | cons b l ih =>
  unfold Lib.indexByte
  by_cases h:b=c
  ·subst h; simp
  ·have hge:=Lib.indexByte_ge l c
   rw [if_neg (by simpa using h)]
   have hc:(b :: l).contains c=l.contains c:=by simp [Ne.symm h]
   rw [hc,<-ih]
   by_cases h1:Lib.indexByte l c = -1
   ·rw [if_pos (by simpa using h1),h1]
   ·rw [if_neg (by simpa using h1),decide_eq_decide]; omega
theorem letter_M {c:UInt8} {K:Bool->Prop} (h:K (letB c)):Zp (c.toNat:Int) K:=by
 have e:((((decide ((48:Int)<=(c.toNat:Int))) && (decide ((c.toNat:Int)<=(57:Int)))) || ((decide ((65:Int)<=(c.toNat:Int))) && (decide ((c.toNat:Int)<=(90:Int))))) || ((decide ((97:Int)<=(c.toNat:Int))) && (decide ((c.toNat:Int)<=(122:Int)))))=(((decide (48<=c.toNat) && decide (c.toNat<=57)) || (decide (65<=c.toNat) && decide (c.toNat<=90))) || (decide (97<=c.toNat) && decide (c.toNat<=122))):=by
  have d:∀ a b:Nat,decide ((a:Int)<=(b:Int))=decide (a<=b):=fun a b=>by rw [decide_eq_decide]; omega
  have d1:decide ((48:Int)<=(c.toNat:Int))=decide (48<=c.toNat):=d 48 c.toNat
  have d2:decide ((c.toNat:Int)<=(57:Int))=decide (c.toNat<=57):=d c.toNat 57
  have d3:decide ((65:Int)<=(c.toNat:Int))=decide (65<=c.toNat):=d 65 c.toNat
  have d4:decide ((c.toNat:Int)<=(90:Int))=decide (c.toNat<=90):=d c.toNat 90
  have d5:decide ((97:Int)<=(c.toNat:Int))=decide (97<=c.toNat):=d 97 c.toNat
  have d6:decide ((c.toNat:Int)<=(122:Int))=decide (c.toNat<=122):=d c.toNat 122
  rw [d1,d2,d3,d4,d5,d6]
 unfold Zp
 rw [e]
 unfold letB at h
 refine ⟨fun h1=>?_,fun h1=>?_⟩
 ·rw [h1] at h; exact h
 ·rw [h1,Bool.false_or] at h
  unfold Zn
  rw [show ((c.toNat:Int).toNat.toUInt8)=c by simp]
  show K (decide (0<=Lib.indexByte _ _))
  rw [indexByte_contains]
  exact h
def dotsB (s:List UInt8):Bool:=(decide (s=[]) || decide (s=[46])) || decide (s=[46,46])
def fairB (s:List UInt8):Bool:=s.all letB && !dotsB s
theorem take_all_succ {p:UInt8->Bool} {s:List UInt8} {k:Nat} (h:(s.take k).all p=true) (hk:k<s.length) (hp:p (s.getD k 0)=true):(s.take (k+1)).all p=true:=by
 rw [List.take_succ_eq_append_getElem hk,List.all_append,h]
 simpa [List.getD,hk] using hp
theorem fair_M {s:List UInt8} {K:Bool->Prop} (hs:s.length<=4000000000) (h:K (fairB s)):M_path_fair s K:=by
 unfold M_path_fair
 refine ⟨fun i=>∃ k:Nat,i=k/\k<=s.length/\(s.take k).all letB=true,fun i=>(s.length - i.toNat),⟨0,rfl,by omega,by simp⟩,?_⟩
 rintro _ ⟨k,rfl,hk,hall⟩
 refine ⟨fun hlt=>⟨by omega,letter_M ?_⟩,fun hge=>?_⟩
 ·have hk':k<s.length:=by omega
  rw [Int.toNat_natCast]
  cases hl:letB (s.getD k 0) with
  | false =>
   refine ⟨fun _=>?_,fun h1=>by simp at h1⟩
   have:s.all letB=false:=by
    rw [List.all_eq_false]
    exact ⟨s.getD k 0,by simp [List.getD,hk'],by rw [hl]; simp⟩
   unfold fairB at h
   rw [this] at h
   exact h
  | true=>exact ⟨fun h1=>by simp at h1,fun _=>⟨by simp only [In]; omega,⟨k+1,by omega,by omega,take_all_succ hall hk' hl⟩,by dsimp only; omega⟩⟩
 ·obtain rfl:k=s.length:=by omega
  rw [List.take_length] at hall
  unfold fairB at h
  rw [hall,Bool.true_and] at h
  exact h
def jr (p:List UInt8):Bool:=decide (p.length<=200) && (cuts p).all fairB
theorem cuts_part {s x:List UInt8} (h:x∈cuts s):x.length<=s.length:=by
 induction s generalizing x with
 | nil=>simp [cuts] at h; subst h; simp
 | cons c s ih =>
  unfold cuts at h
  split at h
  ·rcases List.mem_cons.1 h with rfl | h
   ·simp
   ·have:=ih h; simp; omega
  ·split at h
   ·rename_i e; exact absurd e (cuts_ne s)
   ·rename_i y t e
    rcases List.mem_cons.1 h with rfl | h
    ·have:=ih (x:=y) (by rw [e]; simp); simp; omega
    ·have:=ih (x:=x) (by rw [e]; simp [h]); simp; omega
theorem jf {α:Type} {l:List α} {k:Nat} {d:α} (h:k<l.length):l.getD k d∈l:=by
 simp [List.getD,h]
theorem valid_M {p:List UInt8} {K:Bool->Prop} (hp:p.length<=4000000000) (h:K (jr p)):Zh p K:=by
 unfold Zh
 unfold jr at h
 refine ⟨fun h1=>?_,fun h1=>split_M hp ?_⟩
 ·rw [decide_eq_false (by omega:¬ p.length<=200)] at h; exact h
 rw [decide_eq_true (by omega:p.length<=200),Bool.true_and] at h
 refine ⟨fun i=>∃ k:Nat,i=k/\k<=(cuts p).length/\((cuts p).take k).all fairB=true,fun i=>((cuts p).length - i.toNat),⟨0,rfl,by omega,by simp⟩,?_⟩
 have hcl:=cuts_length p
 rintro _ ⟨k,rfl,hk,hall⟩
 refine ⟨fun hlt=>⟨by omega,?_⟩,fun hge=>?_⟩
 ·have hk':k<(cuts p).length:=by omega
  rw [Int.toNat_natCast]
  have hm:(cuts p).getD k []∈cuts p:=jf hk'
  have hx:=cuts_part hm
  refine fair_M (by omega) ?_
  cases hl:fairB ((cuts p).getD k []) with
  | false =>
   refine ⟨fun _=>?_,fun h1=>by simp at h1⟩
   have:(cuts p).all fairB=false:=by
    rw [List.all_eq_false]
    exact ⟨_,hm,by rw [hl]; simp⟩
   rw [this] at h
   exact h
  | true =>
   refine ⟨fun h1=>by simp at h1,fun _=>⟨by simp only [In]; omega,⟨k+1,by omega,by omega,?_⟩,by dsimp only; omega⟩⟩
   rw [List.take_succ_eq_append_getElem hk',List.all_append,hall]
   simpa [List.getD,hk'] using hl
 ·obtain rfl:k=(cuts p).length:=by omega
  rw [List.take_length] at hall
  rw [hall] at h
  exact h
end
 
section
open Go Go.RowKit
section
variable (star:Nat->Bool) (eq:Nat->Nat->Bool) (i j:Nat)
end
def bt (p:List UInt8) (i:Nat):UInt8:=p.getD i 0
end
 
section
open Go Go.RowKit
def glue:List (List UInt8)->List UInt8
 | []=>[]
 | [x]=>x
 | x :: y :: r=>x++47 :: glue (y :: r)
def wt:List (List UInt8)->Nat
 | []=>0
 | x :: r=>x.length+1+wt r
theorem wt_append (l r:List (List UInt8)):wt (l++r)=wt l+wt r:=by
 induction l with
 | nil=>simp [wt]
 | cons x l ih=>simp [wt,ih]; omega
theorem glue_length (l:List (List UInt8)):(glue l).length<=wt l:=by
 induction l with
 | nil=>simp [glue,wt]
 | cons x l ih =>
  cases l with
  | nil=>simp [glue,wt]
  | cons y r=>simp [glue,wt] at ih |-; omega
theorem length_wt (l:List (List UInt8)):l.length<=wt l:=by
 induction l with
 | nil=>simp [wt]
 | cons x l ih=>simp [wt]; omega
theorem wt_cuts (s:List UInt8):wt (cuts s)=s.length+1:=by
 induction s with
 | nil=>simp [cuts,wt]
 | cons c s ih =>
  unfold cuts
  split
  ·simp [wt,ih]; omega
  ·split
   ·rename_i e; exact absurd e (cuts_ne s)
   ·rename_i h t e; rw [e] at ih; simp [wt] at ih |-; omega
theorem wt_take (l:List (List UInt8)) (k:Nat):wt (l.take k)<=wt l:=by
 conv=>rhs; rw [<-List.take_append_drop k l]
 rw [wt_append]; omega
def cl (l:List (List UInt8)):List (List UInt8)->Option (List (List UInt8))
 | []=>some l
 | x :: r=>if decide (x=[]) || decide (x=[46]) then cl l r else if decide (x=[46,46]) && decide (0<l.length) then cl (l.take (l.length - 1)) r else if fairB x then cl (l++[x]) r else none
def cleanP (p:List UInt8):Option (List UInt8):=match cl [] (cuts p) with
 | none=>none
 | some l=>if (glue l).length<=200 then some (glue l) else none
end
 
section
open Go Go.RowKit
def jnE (by_ end_:List UInt8):Bool->List (List UInt8)->List UInt8
 | _,[]=>[]
 | first,x :: l=>(if first=true then [] else by_)++x++end_++jnE by_ end_ false l
def jC (l:List (List UInt8)) (by_ end_:List UInt8):List UInt8:=jnE by_ end_ true l
theorem jnE_snoc (by_ end_:List UInt8):∀ (l:List (List UInt8)) (x:List UInt8) (b:Bool),jnE by_ end_ b (l++[x])=jnE by_ end_ b l++((if b=true/\l=[] then [] else by_)++x++end_)
 | [],x,b=>by cases b <;> simp [jnE]
 | y :: l,x,b=>by
  have ih:=jnE_snoc by_ end_ l x false
  simp only [List.cons_append,jnE,ih]
  simp
theorem joinE_take {l:List (List UInt8)} {i:Nat} (h:i<l.length) (by_ end_:List UInt8):jC (l.take (i+1)) by_ end_=jC (l.take i) by_ end_++((if i=0 then [] else by_)++l.getD i []++end_):=by
 unfold jC
 rw [List.take_succ_eq_append_getElem h,jnE_snoc]
 have e:l.getD i []=l[i]:=by simp [List.getD,h]
 rw [e]
 by_cases h0:i=0
 ·subst h0; simp
 ·rw [if_neg h0,if_neg]
  rintro ⟨_,h2⟩
  have:=congrArg List.length h2
  rw [List.length_take,List.length_nil] at this
  omega
theorem joinE_le (l:List (List UInt8)) (i:Nat) (by_ end_:List UInt8):(jC (l.take i) by_ end_).length<=(jC l by_ end_).length:=by
 have step:∀ k,i<=l.length->i+k<=l.length->(jC (l.take i) by_ end_).length<=(jC (l.take (i+k)) by_ end_).length:=by
  intro k h1
  induction k with
  | zero=>intro _; exact Nat.le_refl _
  | succ k ih =>
   intro h2
   have:=ih (by omega)
   rw [<-Nat.add_assoc,joinE_take (by omega),List.length_append]
   omega
 rcases Nat.lt_or_ge l.length i with h | h
 ·rw [List.take_of_length_le (by omega)]; exact Nat.le_refl _
 ·have:=step (l.length - i) h (by omega)
  rw [show i+(l.length - i)=l.length by omega,List.take_length] at this
  exact this
def bldRen:Go.Shelf.Ren:=⟨fun | 166=>136 | 240=>162 | 276=>178 | n=>n,fun | 0=>0 | 3=>3 | 4=>4 | 9=>9 | 20=>20 | 37=>105 | 70=>179 | 72=>181 | 75=>30 | 164=>220 | 5=>5 | 80=>184 | n=>n,fun | n=>n⟩
theorem bldLays:Go.Proofs.Lays.n166 Tryz.prog bldRen where
 mixed:=by kernel_rfl
 f166:=Tryz.func136.trans (congrArg some (by kernel_rfl))
 f240:=Tryz.func162.trans (congrArg some (by kernel_rfl))
 f276:=Tryz.func178.trans (congrArg some (by kernel_rfl))
 t0:=Tryz.underlying0
 a0:=Tryz.isAgg0
 z0:=Tryz.sizeOf0
 v0:=Tryz.zeroValue0
 t3:=Tryz.underlying3
 a3:=Tryz.isAgg3
 z3:=Tryz.sizeOf3
 v3:=Tryz.zeroValue3
 t4:=Tryz.underlying4
 a4:=Tryz.isAgg4
 z4:=Tryz.sizeOf4
 v4:=Tryz.zeroValue4
 t9:=Tryz.underlying9
 a9:=Tryz.isAgg9
 z9:=Tryz.sizeOf9
 v9:=Tryz.zeroValue9
 t20:=Tryz.underlying20
 a20:=Tryz.isAgg20
 z20:=Tryz.sizeOf20
 v20:=Tryz.zeroValue20
 t37:=Tryz.underlying105
 a37:=Tryz.isAgg105
 z37:=Tryz.sizeOf105
 v37:=Tryz.zeroValue105
 t70:=Tryz.underlying179
 a70:=Tryz.isAgg179
 z70:=Tryz.sizeOf179
 v70:=Tryz.zeroValue179
 t72:=Tryz.underlying181
 a72:=Tryz.isAgg181
 z72:=Tryz.sizeOf181
 v72:=Tryz.zeroValue181
 t75:=Tryz.underlying30
 a75:=Tryz.isAgg30
 z75:=Tryz.sizeOf30
 v75:=Tryz.zeroValue30
 t164:=Tryz.underlying220
 a164:=Tryz.isAgg220
 z164:=Tryz.sizeOf220
 v164:=Tryz.zeroValue220
theorem bldExtra:Go.Proofs.Builder.Extra Tryz.prog bldRen where
 sizeBuilder:=by kernel_rfl
 liesBuilder:=by kernel_rfl
 t5:=Tryz.underlying5
 a5:=Tryz.isAgg5
 z5:=Tryz.sizeOf5
 v5:=Tryz.zeroValue5
 infoByte:=by kernel_rfl
 cellsByte:=by kernel_rfl
 sizeByte:=by kernel_rfl
 neB5:=by decide
def IsB (w:World) (B g:Nat) (b:List UInt8):Prop:=Lib.IsBuilder 181 5 B g (Lib.byteCells b) w
theorem IsB.heap {w w1:World} {B g:Nat} {b:List UInt8} (h:IsB w B g b) (e:w1.heap=w.heap):IsB w1 B g b:=by
 unfold IsB Lib.IsBuilder Lib.BuilderAt World.ownsRow at *
 rw [e]
 exact h
theorem below_left {B:Nat} {a b c:World} (e:Eqv a b) (h:Below B b c):Below B a c:=⟨h.os.trans e.os,h.tape.trans e.tape,h.output.trans e.output,by have:=h.size; rw [e.heap] at this; exact this,fun i hi=>by have:=h.block i hi; rw [e.heap] at this; exact this⟩
theorem IsB.new {w:World} {B g:Nat} (h:Bl w g 181 [.pointer none,.slice none 0 0]) (hB:B<=g):IsB w B g []:=.inl ⟨hB,_,h,⟨rfl,.inl ⟨rfl,rfl⟩⟩,by simp [Value.ownBlock]⟩
theorem wstr_fn (B g:Nat) (b s:List UInt8) (w:World) (h:IsB w B g b) (hlen:b.length+s.length<=140737488355328) (hB:B<=w.heap.size):Fn Tryz.prog 136 ⟨[.pointer (some ⟨g,0,none⟩),vs s]⟩ w fun _ w'=>IsB w' B g (b++s)/\Below B w w' :=
 ⟨by kernel_rfl,fun w1 e=>(Any.Builder_WriteString bldLays bldExtra B g (Lib.byteCells b) ⟨⟨s⟩⟩ w1 (h.heap e.heap) (by rw [Lib.byteCells_length]; exact hlen) (by rw [e.heap]; exact hB)).mono fun _ w' ⟨he,hb,hbl⟩=>⟨_,w',he,Eqv.refl _,.inr (by
  have:Lib.byteCells (b++s)=Lib.byteCells b++Lib.strCells ⟨⟨s⟩⟩:=by simp [Lib.byteCells,Lib.strCells]
  rw [this]; exact hb),below_left e hbl⟩⟩
theorem bstr_fn (B g:Nat) (b:List UInt8) (w:World) (h:IsB w B g b) (hB:B<=w.heap.size):Fn Tryz.prog 137 ⟨[.pointer (some ⟨g,0,none⟩)]⟩ w fun v w'=>v=vs b/\Below B w w' :=
 ⟨by kernel_rfl,fun w1 e=>(Tryz.Builder_String_any B g b w1 (h.heap e.heap) (by rw [e.heap]; exact hB)).mono fun _ w' ⟨he,hbl⟩=>⟨_,w',he,Eqv.refl _,rfl,below_left e hbl⟩⟩
attribute [local irreducible] WL WC WX WQ WK WJ Yld Eff Ef0 Fn
def kR (l:List (List UInt8)) (by_:List UInt8) (end_:List UInt8) (K:(List UInt8)->Er->Prop):Prop :=
 (l.length<=maxLen ->
 Lp2 (fun (n:Int) (t16:Int) k_1=>((t16<(l.length:Int)->(0<=t16/\t16<(l.length:Nat)) /\
 ∃ J1:Int->Prop,((((0:Int)<t16->(In .i64 (n+(by_.length:Int))) /\
 J1 (n+(by_.length:Int))) /\
 (¬ ((0:Int)<t16)->J1 n))) /\
 (∀ n2:Int,J1 n2->(In .i64 (((l.getD t16.toNat []).length:Int)+(end_.length:Int))) /\
 (In .i64 (n2+(((l.getD t16.toNat []).length:Int)+(end_.length:Int)))) /\
 (((65536:Int)<(n2+(((l.getD t16.toNat []).length:Int)+(end_.length:Int)))->K ([]:List UInt8) (Er.e 16)) /\
 (¬ ((65536:Int)<(n2+(((l.getD t16.toNat []).length:Int)+(end_.length:Int))))->(In .i64 (t16+(1:Int))) /\
 k_1 (n2+(((l.getD t16.toNat []).length:Int)+(end_.length:Int))) (t16+(1:Int)))))) /\
 (¬ (t16<(l.length:Int))->(jC l by_ end_).length<=1000000000/\K (jC l by_ end_) .ok))) (0:Int) (0:Int))
set_option maxHeartbeats 8000000 in
theorem W_tool_joined {S:List Nat} {w:World} {l:List (List UInt8)} {A_l:Option Addr} {c_l:Nat} {by_:List UInt8} {end_:List UInt8} {n_l:Nat} {K:(List UInt8)->Er->Prop} (hG:GOK S w) (hS16:16∈S) (hl:Rd vs w A_l c_l l) (hn_l:n_l=l.length) (H:kR l by_ end_ K):Fn Tryz.prog 101 ⟨[.slice A_l n_l c_l,vs by_,vs end_]⟩ w (fun v w'=>w.grownBy w' none/\∃ (r0:List UInt8),∃ (v_r1:Value),∃ (r1:Er),v=.tuple #[vs r0,v_r1]/\ErrR S w' v_r1 r1/\K r0 r1):=by
 subst hn_l
 unfold kR at H
 refine Fn.enter (by kernel_rfl) Tryz.func101 rfl Tryz.ntmps101 rfl ?_
 replace H:=H (Nat.le_trans hl.cap hl.max)
 refine zc ?_
 refine zb ?_
 refine zi rfl (ze qD rfl) ?_
 refine zi rfl (ze qD rfl) ?_
 refine zd (za ?_)
 refine zc ?_
 refine zb ?_
 refine zi rfl (ze qD rfl) ?_
 refine zd (za ?_)
 refine zc ?_
 refine zc ?_
 refine zb ?_
 refine zi rfl (ze qD rfl) ?_
 refine zi rfl (ze qD rfl) ?_
 refine zi rfl (ze qD rfl) ?_
 refine zd (za ?_)
 refine WC.block ?_
 obtain ⟨I1,mu1,h0_1,HR1⟩:=H
 refine zA (fun n' L' w'=>∃ (n:Int),∃ (t16:Int),n'=mu1 n t16/\L'=[(0,.slice A_l l.length c_l),(1,vs by_),(2,vs end_),(8,.int .i64 n),(14,.slice A_l l.length c_l),(15,.int .i64 (l.length:Int)),(16,.int .i64 t16)]/\I1 n t16/\w=w') _ _ ⟨(0:Int),(0:Int),rfl,rfl,h0_1,rfl⟩ (by repeat (first | exact zR | refine zJ rfl ?_)) ?_
 clear h0_1
 rintro _ _ _ ⟨n,t16,rfl,rfl,hI1,rfl⟩
 have H:=HR1 n t16 hI1
 refine zc ?_
 refine zb ?_
 refine zi rfl (ze qD rfl) ?_
 refine zd (za ?_)
 refine zc ?_
 refine zk rfl (fun b1=>?_) (fun b1=>?_)
 ·replace H:=H.1 (of_decide_eq_true b1)
  refine zm (za ?_)
  refine zc ?_
  refine WC.block ?_
  refine zc ?_
  refine zb ?_
  refine zi rfl (ze qD rfl) ?_
  obtain ⟨h1,H⟩:=H
  refine zi rfl (zn qD hl rfl rfl rfl rfl h1.1 h1.2) ?_
  refine zi rfl (zo [] qD hl rfl rfl (iltN h1 rfl)) ?_
  refine zi rfl (ze qD rfl) ?_
  refine zi rfl (ze qD rfl) ?_
  refine zd (za ?_)
  refine zc ?_
  obtain ⟨J1,H,hJ1⟩:=H
  refine zL (fun L' w'=>∃ (n2:Int),L'=[(0,.slice A_l l.length c_l),(1,vs by_),(2,vs end_),(8,.int .i64 n2),(10,vs (l.getD t16.toNat [])),(14,.slice A_l l.length c_l),(15,.int .i64 (l.length:Int)),(16,.int .i64 t16)]/\J1 n2/\w=w') ?_ (fun hQ=>?_)
  ·clear H
   rintro _ _ ⟨n2,rfl,H,rfl⟩
   replace H:=hJ1 n2 H
   refine za ?_
   refine zc ?_
   refine zb ?_
   refine zi rfl (ze qD rfl) ?_
   refine zi rfl (ze qD rfl) ?_
   refine zi rfl (ze qD rfl) ?_
   refine zi rfl (ze qD rfl) ?_
   refine zi rfl (ze qD rfl) ?_
   obtain ⟨h2,H⟩:=H
   refine zi rfl (Yld.add rfl rfl h2) ?_
   obtain ⟨h3,H⟩:=H
   refine zi rfl (Yld.add rfl rfl h3) ?_
   refine zi rfl (ze qD rfl) ?_
   refine zd (za ?_)
   refine zc ?_
   refine zb ?_
   refine zi rfl (ze qD rfl) ?_
   refine zi rfl (ze qD rfl) ?_
   refine zd (za ?_)
   refine zk rfl (fun b2=>?_) (fun b2=>?_)
   ·replace H:=H.1 (of_decide_eq_true b2)
    refine zc ?_
    refine zQ mixed (by kernel_rfl) ?_
    obtain ⟨vE1,_,hE1⟩:=GOK.get hG 16 5 hS16 rfl rfl
    refine zB rfl (Yld.cell qD (ErrR.cell hE1 rfl) rfl rfl) ?_
    refine zB rfl (ze qD rfl) ?_
    refine zB rfl (ze qD rfl) ?_
    refine zW (za ?_)
    refine zq (zp (zh (zh (zp (zh ?_)))))
    exact zM rfl rfl rfl ⟨(qK _ _),([]:List UInt8),vE1,(Er.e 16),rfl,hE1,H⟩
   ·replace H:=H.2 (of_decide_eq_false b2)
    refine zm (zg (za ?_))
    refine zb ?_
    obtain ⟨h4,H⟩:=H
    refine zi rfl (Yld.add rfl rfl h4) ?_
    refine zi rfl (ze qD rfl) ?_
    refine zd ?_
    exact zw _ ⟨n2+(((l.getD t16.toNat []).length:Int)+(end_.length:Int)),t16+(1:Int),rfl,rfl,H.1,rfl⟩ (by repeat (first | exact zR | refine zJ rfl ?_)) H.2
  ·clear hJ1
   refine zc ?_
   refine zb ?_
   refine zi rfl (ze qD rfl) ?_
   refine zi rfl (ze qD rfl) ?_
   refine zd (za ?_)
   refine zk rfl (fun b3=>?_) (fun b3=>?_)
   ·replace H:=H.1 (of_decide_eq_true b3)
    refine zb ?_
    refine zi rfl (ze qD rfl) ?_
    refine zi rfl (ze qD rfl) ?_
    refine zi rfl (ze qD rfl) ?_
    obtain ⟨h5,H⟩:=H
    refine zi rfl (Yld.add rfl rfl h5) ?_
    refine zi rfl (ze qD rfl) ?_
    refine zd ?_
    exact WX.weaken (by repeat (first | exact zR | refine zJ rfl ?_)) (hQ _ _ ⟨n+(by_.length:Int),rfl,H,rfl⟩)
   ·replace H:=H.2 (of_decide_eq_false b3)
    refine zm ?_
    exact WX.weaken (by repeat (first | exact zR | refine zJ rfl ?_)) (hQ _ _ ⟨n,rfl,H,rfl⟩)
 ·replace H:=H.2 (of_decide_eq_false b1)
  refine zz (zf (zf (zj (za ?_))))
  refine zc ?_
  refine zb ?_
  have hmx:=Nat.le_trans hl.cap hl.max
  simp only [maxLen] at hmx
  refine WL.alloc rfl zero181 (fun g w1 hB1 hg1 hl1=>?_)
  refine zd (za ?_)
  refine zc ?_
  refine zc ?_
  refine zb ?_
  repeat (first | refine WC.block ?_ | refine zd ?_ | refine za ?_ | refine zi rfl (ze qD rfl) ?_)
  refine zA (fun n' L' w'=>∃ i:Nat,n'=l.length - i/\L'=[(1,vs by_),(2,vs end_),(11,.pointer (some ⟨g,0,none⟩)),(38,.slice A_l l.length c_l),(39,.int .i64 (l.length:Int)),(40,.int .i64 (i:Int))]/\i<=l.length/\IsB w' w.heap.size g (jC (l.take i) by_ end_)/\Below w.heap.size w w') _ _ ⟨0,rfl,rfl,by omega,IsB.new hB1 hl1,below_gr hg1⟩ (by repeat (first | exact zR | refine zJ rfl ?_)) ?_
  rintro _ _ w2 ⟨i,rfl,rfl,hi,hS2,hb2⟩
  have hR2:=hl.grown (gr_below hb2 none)
  have hle:=joinE_le l (i+1) by_ end_
  have hz2:=hb2.size
  repeat (first | refine zc ?_ | refine zb ?_ | refine zd ?_ | refine za ?_ | refine zi rfl (ze qD rfl) ?_)
  refine zk rfl (fun h=>?_) (fun h=>?_)
  ·simp only [decide_eq_true_eq] at h
   have hlt:i<l.length:=by omega
   rw [joinE_take hlt] at hle
   simp only [List.length_append] at hle
   repeat (first | refine zi rfl (qB qD hR2 rfl rfl rfl rfl (by omega)) ?_ | refine zi rfl (zo [] qD hR2 rfl rfl (by omega)) ?_ | refine zc ?_ | refine WC.block ?_ | refine zb ?_ | refine zd ?_ | refine za ?_ | refine zm ?_ | refine zi rfl (ze qD rfl) ?_)
   refine zL (fun L' w'=>L'=[(1,vs by_),(2,vs end_),(11,.pointer (some ⟨g,0,none⟩)),(13,vs (l.getD i [])),(38,.slice A_l l.length c_l),(39,.int .i64 (l.length:Int)),(40,.int .i64 (i:Int))]/\IsB w' w.heap.size g (jC (l.take i) by_ end_++(if i=0 then [] else by_))/\Below w.heap.size w w') ?_ (fun hQ=>?_)
   ·rintro _ w3 ⟨rfl,hS3,hb3⟩
    have hz3:=hb3.size
    repeat (first | refine zc ?_ | refine zb ?_ | refine za ?_ | refine zi rfl (ze qD rfl) ?_)
    refine zr rfl rfl (wstr_fn _ g _ (l.getD i []) w3 hS3 (by rw [List.length_append]; omega) hz3) ?_
    rintro v4 w4 ⟨hS4,hb4⟩
    have hz4:=hb4.size
    repeat (first | refine zb ?_ | refine zd ?_ | refine za ?_ | refine zi rfl (ze qD rfl) ?_)
    refine zr rfl rfl (wstr_fn _ g _ end_ w4 hS4 (by rw [List.length_append,List.length_append]; omega) (by omega)) ?_
    rintro v5 w5 ⟨hS5,hb5⟩
    repeat (first | refine zb ?_ | refine zd ?_ | refine za ?_ | refine zg ?_ | refine zi rfl (Yld.add rfl rfl (by simp only [In]; omega)) ?_ | refine zi rfl (ze qD rfl) ?_)
    refine zw _ ⟨i+1,rfl,rfl,by omega,?_,(hb3.trans hb4).trans hb5⟩ (by repeat (first | exact zR | refine zJ rfl ?_)) (by omega)
    rw [joinE_take hlt]
    simpa [List.append_assoc] using hS5
   ·skip
    refine zk rfl (fun h3=>?_) (fun h3=>?_)
    ·simp only [decide_eq_true_eq] at h3
     repeat (first | refine zb ?_ | refine zi rfl (ze qD rfl) ?_)
     refine zr rfl rfl (wstr_fn _ g _ by_ w2 hS2 (by rw [if_neg (by omega)] at hle; omega) hz2) ?_
     rintro v3 w3 ⟨hS3,hb3⟩
     refine zd ?_
     exact WX.weaken (by repeat (first | exact zR | refine zJ rfl ?_)) (hQ _ _ ⟨rfl,by rw [if_neg (by omega)]; exact hS3,hb2.trans hb3⟩)
    ·simp only [decide_eq_false_iff_not] at h3
     refine zm ?_
     exact WX.weaken (by repeat (first | exact zR | refine zJ rfl ?_)) (hQ _ _ ⟨rfl,by rw [if_pos (by omega),List.append_nil]; exact hS2,hb2⟩)
  ·simp only [decide_eq_false_iff_not] at h
   obtain rfl:i=l.length:=by omega
   rw [List.take_length] at hS2
   repeat (first | refine zc ?_ | refine zb ?_ | refine za ?_ | refine zz ?_ | refine zf ?_ | refine zj ?_)
   refine zr rfl rfl (bstr_fn _ g _ w2 hS2 hz2) ?_
   rintro _ w3 ⟨rfl,hb3⟩
   repeat (first | refine zd ?_ | refine za ?_ | refine zq ?_ | refine zi rfl (ze qD rfl) ?_)
   exact zM rfl rfl rfl ⟨gr_below (hb2.trans hb3) none,_,.nilIface,.ok,rfl,rfl,H.2⟩
end
 
section
open Go Go.RowKit Go.Proofs
def GivesB (F:Fence) (n:Nat) (P:Program) (g:Nat) (lb:Array Value) (xs:List (List UInt8)) (w:World):Prop :=
 ∀ (l:Nat) (J:List (List UInt8)->World->Prop) (W:World),Below w.heap.size w W->(∀ ss W1,J ss W1->Below w.heap.size w W1) ->
  (∀ pre x W1,J pre W1->pre.length<xs.length->YieldAt F (n - 1) P l #[encStr x] W1 fun e W'=>e=.returned (.bool true)/\J (pre++[x]) W'/\KeepsWalks W1 W')->J [] W ->
  CallsIn F n P g (#[.func (.yield l) #[] #[]]++lb) W fun e W'=>(∃ v,e=.returned v)/\J xs W'
set_option maxRecDepth 100000 in
set_option maxHeartbeats 1000000 in
theorem values_gives (A:Option Addr) (c:Nat) (xs:List (List UInt8)) (Bm:Nat) (w:World) (hBm:Bm<w.heap.size) (hm:w.cell? ⟨Bm,0,none⟩=some (.slice A xs.length c)) (hR:Rd vs w A c xs) (n:Nat) (hn:1<=n) :
  GivesB Fence.wide n Tryz.prog 177 #[.pointer (some ⟨Bm,0,none⟩)] xs w:=by
 intro l J W hW hJB hY h0
 have hmW:W.cell? ⟨Bm,0,none⟩=some (.slice A xs.length c):=(hW.cell (p:=⟨Bm,0,none⟩) hBm).trans hm
 have hRW:Rd vs W A c xs:=hR.grown (gr_below hW none)
 clear hm
 refine callsIn_of_wp Tryz.func177 rfl trivial ?_ rfl
 simp only [Tryz.ntmps177,List.size_toArray,List.length_cons,List.length_nil,Nat.reduceAdd,Nat.reduceSub,Array.replicate_succ,Array.replicate_zero,List.push_toArray,List.append_toArray,List.nil_append,List.cons_append]
 gi_wp2
 gi_loopw [7] (fun v7 wr=>∃ i:Nat,v7=.int .i64 (i:Int)/\i<=xs.length/\J (xs.take i) wr) (fun v7 _=>xs.length - (intOf v7).toNat)
 case atStart=>exact ⟨0,rfl,Nat.zero_le _,by simpa using h0⟩
 case round =>
  obtain ⟨i,rfl,hi,hJi⟩:=hrel
  have hbr:=hJB _ _ hJi
  have hRr:Rd vs wr A c xs:=hR.grown (gr_below hbr none)
  by_cases hlt:i<xs.length
  ·obtain ⟨ad,rfl,hcell⟩:=hRr.at hlt []
   obtain ⟨fn,tmps,assign,body,hy0,hRR⟩:=hY (xs.take i) xs[i] wr hJi (by rw [List.length_take]; omega)
   have hy:(Instr.yield l #[vs xs[i]]).run Tryz.prog wr=.ok (.round l fn tmps assign body) wr:=hy0
   have hlt':(i:Int)<(xs.length:Int):=by omega
   have hmx:xs.length<=9223372036854775807:=Nat.le_trans hRr.cap hRr.max
   clear hRr hbr hY hRW hR hy0
   gi_wp2
   refine hRR.mono ?_
   rintro e W3 ⟨rfl,hJ3,hk3⟩
   gi_wp2
   go_roundw
   case rel=>exact ⟨i+1,by go_num,by omega,by rw [List.take_succ_eq_append_getElem hlt]; exact hJ3⟩
   case measure=>simp [intOf]; omega
  ·obtain rfl:i=xs.length:=by omega
   gi_wp2
   go_end0
   exact ⟨⟨_,rfl⟩,by simpa using hJi⟩
end
 
section
open Go Go.RowKit Go.Proofs Go.Maps Go.Sort Go.Shelf
section
variable {P:Program} {ρ:Ren}
set_option maxRecDepth 100000 in
set_option maxHeartbeats 2000000 in
theorem appendV (L:SlLaysZ.n11 P ρ) (F:Fence) (n:Nat) (h11:F.fn (ρ.f 11)) (hro:F.round=none) (hn:2<=n) (g:Nat) (lb:Array Value) (hFg:F.fn g) (eg:∀ args w,(callFunc g args).run P w=.ok (.enter g args) w)
  (xs:List (List UInt8)) (hN:xs.length<=maxLen) (hNb:xs.length*16<=140737488355328) (w:World) (hseq:GivesB F (n - 1) P g lb xs w) :
  CallsIn F n P (ρ.f 11) #[.slice none 0 0,.func (.func g) #[] lb] w fun e w'=>∃ v:Value,e=.returned v/\w'.ownsRow w.heap.size (ρ.t 26) 1 v xs.length (xs.map encStr)/\(v=.slice none 0 0↔xs=[])/\Below w.heap.size w w':=by
 have h1:1<=n:=by omega
 have mixed:=L.mixed; have t0:=L.t0; have a0:=L.a0; have z0:=L.z0; have v0:=L.v0; have t24:=L.t24; have a24:=L.a24; have z24:=L.z24; have v24:=L.v24; have t26:=L.t26; have a26:=L.a26; have z26:=L.z26; have v26:=L.v26; have t28:=L.t28; have a28:=L.a28; have z28:=L.z28; have v28:=L.v28
 have hne:ρ.t 24≠ρ.t 26:=fun e=>by have h:=L.t24; rw [e,L.t26] at h; cases h
 have u0:=run_underlying L.t0; have u24:=run_underlying L.t24; have u26:=run_underlying L.t26; have u28:=run_underlying L.t28
 obtain ⟨_,_,FG⟩:=L.f11
 refine callsIn_of_wp_marks FG rfl h11 ?_ hro
 simp only [SlBodyZ.n11_ntmps ρ,List.size_toArray,List.length_cons,List.length_nil,Nat.reduceAdd,Nat.reduceSub,Array.replicate_succ,Array.replicate_zero,List.push_toArray,List.append_toArray,List.nil_append,List.cons_append]
 gi_wp2
 refine wpIn_rangeFunc ?_
 intro fn hfn
 rw [hro]
 generalize hb:w.heap.size=b
 obtain ⟨Wa,hWa⟩:∃ Wa,w.alloc (.cells #[.slice none 0 0] (ρ.t 24))=Wa:=⟨_,rfl⟩
 have sa:Wa.heap.size=b+1:=by rw [<-hWa,<-hb]; simp
 have ba:Wa.heap[b]? = some (.cells #[.slice none 0 0] (ρ.t 24) (0,0)):=by rw [<-hWa,<-hb]; exact World.alloc_heap_new w _
 have la:Below b w Wa:=by rw [<-hWa,<-hb]; exact (Below.refl _ w).alloc (Nat.le_refl _) _
 rw [hWa]
 have sv:=sa
 obtain ⟨rec,hrec⟩:∃ rec,AnyZ.apRec ρ fn (.func (.func g) #[] lb) b Wa.heap.size .ready none=rec:=⟨_,rfl⟩
 obtain ⟨Wb,hWb⟩:∃ Wb,(Wa.alloc (.deferred (some []))).alloc (.loop rec)=Wb:=⟨_,rfl⟩
 have sb:Wb.heap.size=Wa.heap.size+2:=by rw [<-hWb]; simp
 have lb1:Below b w Wb:=by rw [<-hWb]; exact (la.alloc (by omega) _).alloc (by simp; omega) _
 have old:∀ k,k<Wa.heap.size->Wb.heap[k]? = Wa.heap[k]? := fun k hk=>by
  rw [<-hWb]; exact (Below.heap_alloc _ _ k (by simp; omega)).trans (Below.heap_alloc _ _ k hk)
 have hM:AnyZ.ApAt ρ w fn (.func (.func g) #[] lb) b (Wa.heap.size+1) Wa.heap.size [] Wb:=by
  refine ⟨⟨_,(old b (by omega)).trans ba,⟨rfl,.inl ⟨rfl,rfl⟩⟩,by simp⟩,?_,?_,by rw [hb]; exact lb1⟩
  ·rw [hrec,<-hWb]
   have:=World.alloc_heap_new (Wa.alloc (.deferred (some []))) (.loop rec)
   rwa [World.size_alloc] at this
  ·rw [<-hWb]
   exact (Below.heap_alloc _ _ _ (by simp)).trans (World.alloc_heap_new Wa _)
 refine ⟨Wa.heap.size+1,[{ target:=.collected Wa.heap.size,args := #[] }],Wb,{ target:=.fn (.func g) lb,args := #[.func (.yield (Wa.heap.size+1)) #[] #[]] },Wb,g,
  #[.func (.yield (Wa.heap.size+1)) #[] #[]]++lb,Wb,?_,?_,?_,?_,fun _=>h1,?_⟩
 ·rw [<-hWb,<-hrec]; exact run_enterLoop_outer _ _ _ _ _
 ·simp [resolve,go_sem]
 ·intro f' hf'
  simp [Target.leads] at hf'
  subst hf'
  exact hFg
 ·simp [invoke,go_sem,eg]
 have hgive:=hseq (Wa.heap.size+1) (AnyZ.ApAt ρ w fn (.func (.func g) #[] lb) b (Wa.heap.size+1) Wa.heap.size) Wb (by rw [hb]; exact lb1) (fun _ _ h=>h.below)
  (fun pre x W1 hJ hl=>AnyZ.apYield { L with } F (n - 1 - 1) w fn hfn _ b (Wa.heap.size+1) Wa.heap.size (by omega) (by omega) (by omega) (by omega) (by omega) xs.length hN hNb pre x W1 hJ hl) hM
 refine hgive.mono ?_
 rintro e W2 ⟨⟨v0,rfl⟩,h2⟩
 obtain ⟨v,hv,hrow,hnil⟩:=h2.box
 have hend:=run_endLoop (P:=P) h2.L (by simp [AnyZ.apRec])
 obtain ⟨W3,hW3⟩:∃ W3,W2.putObj (Wa.heap.size+1) (.loop { AnyZ.apRec ρ fn (.func (.func g) #[] lb) b Wa.heap.size .ready none with state:=.exhausted })=W3:=⟨_,rfl⟩
 rw [hW3] at hend
 have hg3:W2.grownBy W3 (some (Wa.heap.size+1)):=by rw [<-hW3]; exact grownBy_putObj_a _ _ _
 have hv3:W3.heap[b]? = some (.cells #[v] (ρ.t 24) (0,0)):=by rw [<-hW3]; exact (World.putObj_heap_other (by omega)).trans hv
 have hK3:W3.heap[Wa.heap.size]? = some (.deferred (some [])):=by rw [<-hW3]; exact (World.putObj_heap_other (by omega)).trans h2.K
 have hrow3:=hrow.kept hg3 (ownsRow_ne_a hrow h2.L (fun cur e=>by first | cases e | exact hne (Obj.cells.inj e).2.1))
 have hb3:Below w.heap.size w W3:=h2.below.grown hg3 h2.below.size (fun k e=>by cases e; omega)
 obtain ⟨hc3,hf3⟩:=cell_of_box_a hv3
 clear hW3
 refine ⟨none,W3,hend,?_⟩
 gi_wp2
 rw [<-sa]
 refine ⟨by simp,.inl ⟨_,_,rfl,run_takeDeferred hK3,?_⟩⟩
 rw [<-hb]
 exact ⟨_,results_tmp rfl _ _ _,v,rfl,hrow3.kept (grownBy_putObj_a _ _ _) (ownsRow_ne_a hrow3 hK3 (fun cur e=>by first | cases e | exact hne (Obj.cells.inj e).2.1)),hnil,hb3.grown (grownBy_putObj_a _ _ _) hb3.size (fun k e=>by cases e; omega)⟩
set_option maxHeartbeats 1000000 in
theorem collectV (L:SlLaysZ.n8 P ρ) (F:Fence) (n:Nat) (h8:F.fn (ρ.f 8)) (h11:F.fn (ρ.f 11)) (hro:F.round=none) (hn:3<=n) (g:Nat) (lb:Array Value) (hFg:F.fn g) (eg:∀ args w,(callFunc g args).run P w=.ok (.enter g args) w)
  (xs:List (List UInt8)) (hN:xs.length<=maxLen) (hNb:xs.length*16<=140737488355328) (w:World) (hseq:GivesB F (n - 1 - 1) P g lb xs w) :
  CallsIn F n P (ρ.f 8) #[.func (.func g) #[] lb] w fun e w'=>∃ v:Value,e=.returned v/\w'.ownsRow w.heap.size (ρ.t 26) 1 v xs.length (xs.map encStr)/\(v=.slice none 0 0↔xs=[])/\Below w.heap.size w w':=by
 have h1:1<=n:=by omega
 have e11:∀ args w,(callFunc (ρ.f 11) args).run P w=.ok (.enter (ρ.f 11) args) w:=L.f11.enters rfl
 have mixed:=L.mixed; have t0:=L.t0; have a0:=L.a0; have z0:=L.z0; have v0:=L.v0; have t24:=L.t24; have a24:=L.a24; have z24:=L.z24; have v24:=L.v24; have t26:=L.t26; have a26:=L.a26; have z26:=L.z26; have v26:=L.v26; have t28:=L.t28; have a28:=L.a28; have z28:=L.z28; have v28:=L.v28
 have u0:=run_underlying L.t0; have u24:=run_underlying L.t24; have u26:=run_underlying L.t26; have u28:=run_underlying L.t28
 obtain ⟨_,_,FG⟩:=L.f8
 refine callsIn_of_wp FG rfl h8 ?_ hro
 simp only [SlBodyZ.n8_ntmps ρ,List.size_toArray,List.length_cons,List.length_nil,Nat.reduceAdd,Nat.reduceSub,Array.replicate_succ,Array.replicate_zero,List.push_toArray,List.append_toArray,List.nil_append,List.cons_append]
 gi_wp2_with (gi_at_fn (ρ.f 11); refine (appendV { L with } F (n - 1) h11 hro (by omega) g lb hFg eg xs hN hNb _ hseq).mono ?_; rintro e w' ⟨v,rfl,hrow,hnil,hb⟩)
 go_ret
 exact ⟨v,rfl,hrow,hnil,hb⟩
set_option maxRecDepth 100000 in
set_option maxHeartbeats 2000000 in
theorem sortedV (L:SlLaysZ.n6 P ρ) (F:Fence) (n:Nat) (h6:F.fn (ρ.f 6)) (h8:F.fn (ρ.f 8)) (h9:F.fn (ρ.f 9)) (h11:F.fn (ρ.f 11)) (hro:F.round=none) (hn:4<=n) (hsort:AnyZ.SortsIn P ρ F (n - 1)) (e9:∀ args w,(callFunc (ρ.f 9) args).run P w=.ok (.enter (ρ.f 9) args) w) (g:Nat) (lb:Array Value) (hFg:F.fn g) (eg:∀ args w,(callFunc g args).run P w=.ok (.enter g args) w)
  (xs:List (List UInt8)) (hN:xs.length<=maxLen) (hNb:xs.length*16<=140737488355328) (w:World) (hseq:GivesB F (n - 1 - 1 - 1) P g lb xs w) :
  CallsIn F n P (ρ.f 6) #[.func (.func g) #[] lb] w fun e w'=>∃ v:Value,e=.returned v/\w'.ownsRow w.heap.size (ρ.t 26) 1 v xs.length ((xs.mergeSort (fun x y=>decide (x<=y))).map encStr)/\Below w.heap.size w w':=by
 have h1:1<=n:=by omega
 have e8:∀ args w,(callFunc (ρ.f 8) args).run P w=.ok (.enter (ρ.f 8) args) w:=L.f8.enters rfl
 have mixed:=L.mixed; have t0:=L.t0; have a0:=L.a0; have z0:=L.z0; have v0:=L.v0; have t24:=L.t24; have a24:=L.a24; have z24:=L.z24; have v24:=L.v24; have t26:=L.t26; have a26:=L.a26; have z26:=L.z26; have v26:=L.v26; have t28:=L.t28; have a28:=L.a28; have z28:=L.z28; have v28:=L.v28
 have u0:=run_underlying L.t0; have u24:=run_underlying L.t24; have u26:=run_underlying L.t26; have u28:=run_underlying L.t28
 obtain ⟨_,_,FG⟩:=L.f6
 refine callsIn_of_wp FG rfl h6 ?_ hro
 simp only [SlBodyZ.n6_ntmps ρ,List.size_toArray,List.length_cons,List.length_nil,Nat.reduceAdd,Nat.reduceSub,Array.replicate_succ,Array.replicate_zero,List.push_toArray,List.append_toArray,List.nil_append,List.cons_append]
 gi_wp2_with (gi_at_fn (ρ.f 8); refine (collectV { L with } F (n - 1) h8 h11 hro (by omega) g lb hFg eg xs hN hNb _ hseq).mono ?_; rintro e W ⟨v,rfl,hrow,hnil,hb⟩)
 rcases hrow.2 with ⟨rfl,hz⟩ | ⟨gb,cap,cur,rfl,hbase,hgb,r1,r2,r3,r4⟩
 ·have hss:xs=[]:=List.eq_nil_of_length_eq_zero hz
  subst hss
  gi_wp2_with (gi_at_fn (ρ.f 9); refine (hsort.2 none 0 W).mono ?_; rintro e w' ⟨rfl,rfl⟩)
  go_ret
  exact ⟨.slice none 0 0,rfl,by simpa using hrow,hb⟩
 ·have hH:Holds encStr W gb 0 xs.toArray:=holds_of_block hgb (by simpa using r4)
  have hgl:gb<W.heap.size:=(Array.getElem?_eq_some_iff.1 hgb).1
  have cS:=hsort.1 gb 0 cap xs W hH hgl (by omega)
  gi_wp2_with (gi_at_fn (ρ.f 9); refine cS.mono ?_; rintro e w' ⟨rfl,nn,os,rfl⟩)
  go_ret
  exact ⟨_,rfl,ownsRow_sorted (by simp) hbase hgb r1 r2 r3,hb.grown (grownBy_sorted _) hb.size (fun j hj=>by cases hj; exact hbase)⟩
end
theorem sortsHere (m:Nat):AnyZ.SortsIn Tryz.prog Tryz.sorted158_ren Fence.wide m :=
 ⟨fun b o cap ss W hH hb hsz=>callsIn_wide.2 (Tryz.slices_Sort_string b o cap ss W hH hb hsz),fun p cap W=>callsIn_wide.2 (Tryz.slices_Sort_string_none p cap W)⟩
theorem sortedVal_fn {w:World} {xs:List (List UInt8)} {A:Option Addr} {c g:Nat} (hR:Rd vs w A c xs) (hB:Bl w g 42 [.slice A xs.length c]) (hl:xs.length<=1000000000) :
  Fn Tryz.prog 158 ⟨[.func (.func 177) #[] #[.pointer (some ⟨g,0,none⟩)]]⟩ w fun v w'=>∃ A' c',v=.slice A' xs.length c'/\Own vs w' w.heap.size 9 A' c' (xs.mergeSort fun x y=>decide (x<=y))/\w.grownBy w' none:=by
 refine ⟨by kernel_rfl,fun w1 e=>?_⟩
 have hR1:Rd vs w1 A c xs:=jA e hR
 have hB1:Bl w1 g 42 [.slice A xs.length c]:=jU e hB
 have hlt:=hB1.lt
 have hg:=values_gives A c xs g w1 hlt (by rw [hB1.cell]; rfl) hR1 (4+1 - 1 - 1 - 1) (by omega)
 have h:=callsIn_wide.1 (sortedV (Tryz.sorted158) Fence.wide 5 trivial trivial trivial trivial rfl (by omega) (sortsHere _) (enters_of Tryz.func176 (by kernel_rfl) rfl) 177 #[.pointer (some ⟨g,0,none⟩)] trivial (enters_of Tryz.func177 (by kernel_rfl) rfl) xs (by simp only [maxLen]; omega) (by omega) w1 hg)
 refine h.mono ?_
 rintro _ w' ⟨v,rfl,hrow,hb⟩
 have hlen:(xs.mergeSort fun x y=>decide (x<=y)).length=xs.length:=List.length_mergeSort xs
 have hg2:w.grownBy w' none:=jz e (gr_below hb none)
 have hO:∃ A' c',v=.slice A' xs.length c':=by
  rcases hrow.2 with ⟨rfl,hz⟩ | ⟨gb,cap,cur,rfl,_⟩
  ·exact ⟨none,0,by rw [hz]⟩
  ·exact ⟨_,_,rfl⟩
 obtain ⟨A',c',rfl⟩:=hO
 refine ⟨_,w',rfl,Eqv.refl _,A',c',rfl,?_,hg2⟩
 unfold Own
 rw [hlen,<-e.heap]
 exact hrow
theorem valuesBox_fn {w:World} {A:Option Addr} {n c:Nat}:Fn Tryz.prog 159 ⟨[.slice A n c]⟩ w fun v w'=>∃ g,v=.func (.func 177) #[] #[.pointer (some ⟨g,0,none⟩)]/\Bl w' g 42 [.slice A n c]/\w.grownBy w' none/\w.heap.size<=g:=by
 refine Fn.enter (by kernel_rfl) Tryz.func159 rfl Tryz.ntmps159 rfl ?_
 refine zc ?_
 refine zb ?_
 refine WL.box (us:=[.slice A n c]) rfl rfl rfl (fun g w1 hB1 hg1 hl1=>?_)
 refine zi rfl (ze qD rfl) ?_
 refine zd (za ?_)
 refine zc ?_
 refine zb ?_
 refine zi rfl (Yld.mkf rfl) ?_
 refine zi rfl (ze qD rfl) ?_
 refine zd (za ?_)
 refine zq ?_
 exact zx rfl rfl ⟨g,rfl,hB1,hg1,hl1⟩
def je (xs:List (List UInt8)) (K:List (List UInt8)->Prop):Prop:=xs.length<=1000000000/\K (xs.mergeSort fun x y=>decide (x<=y))
theorem jT {w:World} {xs:List (List UInt8)} {A:Option Addr} {c n g:Nat} {K:List (List UInt8)->Prop} (hR:Rd vs w A c xs) (hn:n=xs.length) (hB:Bl w g 42 [.slice A n c]) (H:je xs K) :
  Fn Tryz.prog 158 ⟨[.func (.func 177) #[] #[.pointer (some ⟨g,0,none⟩)]]⟩ w (fun v w'=>w.grownBy w' none/\∃ (r:List (List UInt8)) (A:Option Addr) (c:Nat),v=.slice A r.length c/\Own vs w' w.heap.size 9 A c r/\K r):=by
 subst hn
 refine (sortedVal_fn hR hB H.1).mono ?_
 rintro v w' ⟨A',c',rfl,hO,hg⟩
 exact ⟨hg,_,A',c',by rw [List.length_mergeSort],hO,H.2⟩
end
 section
open Go Go.RowKit
attribute [local irreducible] WL WC WX WQ Yld Fn
theorem u64_and31 (k:Int):bits BinOp.and IntKind.u64 (IntKind.u64.wrap k) 31=k % 32:=by
 show IntKind.u64.wrap ((BitVec.ofInt 64 (IntKind.u64.wrap k) &&& BitVec.ofInt 64 31).toNat:Int)=_
 rw [BitVec.toNat_and]
 have e:(BitVec.ofInt 64 31).toNat=2^5 - 1:=by decide
 rw [e,Nat.and_two_pow_sub_one_eq_mod,BitVec.toNat_ofInt,IntKind.wrap_u64,IntKind.wrap_u64]
 omega
def rotl (x k:Int):Int:=bits .or .u32 (shlV .u32 x (k % 32).toNat) (shrV .u32 x (32 - k % 32).toNat)
theorem rot_fn (x k:Int) (w:World):Fn Tryz.prog 188 ⟨[vu x,vi k]⟩ w fun v w'=>v=vu (rotl x k)/\w'=w:=by
 have hs:=u64_and31 k
 refine Fn.enter (by kernel_rfl) Tryz.func188 rfl Tryz.ntmps188 rfl ?_
 repeat (first | refine zc ?_ | refine zb ?_ | refine zd ?_ | refine za ?_ | refine zq ?_ | refine zi rfl (Yld.sub rfl rfl (by simp only [In]; omega)) ?_ | refine zi rfl (Yld.shl rfl rfl (by omega)) ?_ | refine zi rfl (qd rfl rfl (by omega)) ?_ | refine zi rfl (ze qD rfl) ?_)
 rw [hs]
 skip
 exact zx rfl rfl ⟨rfl,rfl⟩
def rotr (x n:Int):Int:=rotl x (0 - n)
theorem right_fn (x n:Int) (w:World) (h0:0<=n) (h1:n<=32):Fn Tryz.prog 171 ⟨[vu x,vi n]⟩ w fun v w'=>v=vu (rotr x n)/\w'=w:=by
 have hs:IntKind.i64.wrap (0 - n)=0 - n:=In.wrap (by simp only [In]; omega)
 refine Fn.enter (by kernel_rfl) Tryz.func171 rfl Tryz.ntmps171 rfl ?_
 repeat (first | refine zc ?_ | refine zb ?_ | refine zd ?_ | refine za ?_ | refine zi rfl (ze qD rfl) ?_)
 rw [hs]
 refine zr rfl rfl (rot_fn x (0 - n) w) ?_
 rintro v w' ⟨rfl,rfl⟩
 repeat (first | refine zd ?_ | refine za ?_ | refine zq ?_ | refine zi rfl (ze qD rfl) ?_)
 exact zx rfl rfl ⟨rfl,rfl⟩
end
 section
open Go Go.RowKit
attribute [local irreducible] WL WC WX WQ Yld Fn
def ktab:List Int:=[0x428a2f98,0x71374491,0xb5c0fbcf,0xe9b5dba5,0x3956c25b,0x59f111f1,0x923f82a4,0xab1c5ed5,
 0xd807aa98,0x12835b01,0x243185be,0x550c7dc3,0x72be5d74,0x80deb1fe,0x9bdc06a7,0xc19bf174,
 0xe49b69c1,0xefbe4786,0x0fc19dc6,0x240ca1cc,0x2de92c6f,0x4a7484aa,0x5cb0a9dc,0x76f988da,
 0x983e5152,0xa831c66d,0xb00327c8,0xbf597fc7,0xc6e00bf3,0xd5a79147,0x06ca6351,0x14292967,
 0x27b70a85,0x2e1b2138,0x4d2c6dfc,0x53380d13,0x650a7354,0x766a0abb,0x81c2c92e,0x92722c85,
 0xa2bfe8a1,0xa81a664b,0xc24b8b70,0xc76c51a3,0xd192e819,0xd6990624,0xf40e3585,0x106aa070,
 0x19a4c116,0x1e376c08,0x2748774c,0x34b0bcb5,0x391c0cb3,0x4ed8aa4a,0x5b9cca4f,0x682e6ff3,
 0x748f82ee,0x78a5636f,0x84c87814,0x8cc70208,0x90befffa,0xa4506ceb,0xbef9a3f7,0xc67178f2]
theorem oneM {α:Type} {f:α->Value} (hf:One f) (xs:List α):∀ u∈xs.map f,u.oneCell'=true:=fun u hu=>by
 obtain ⟨a,_,rfl⟩:=List.mem_map.1 hu
 exact hf a
theorem table_fn (w:World):Fn Tryz.prog 170 ⟨[]⟩ w fun v w'=>v=.agg ⟨ktab.map vu⟩/\w.grownBy w' none:=by
 refine Fn.enter (by kernel_rfl) Tryz.func170 rfl Tryz.ntmps170 rfl ?_
 repeat (first | refine zc ?_ | refine zb ?_)
 refine WL.alloc rfl zero215 (fun g w1 hB hg _=>?_)
 repeat (first | refine zc ?_ | refine zb ?_ | refine zd ?_ | refine za ?_)
 refine zi rfl (Yld.arr (us:=ktab.map vu) qD rfl zero215 rfl rfl (oneM One.u _) rfl) ?_
 refine zH qD rfl rfl rfl (oneM One.u _) hB rfl rfl (fun w2 hB2 hg2=>?_)
 repeat (first | refine zd ?_ | refine za ?_ | refine zq ?_)
 exact z7 qD rfl rfl rfl hB2 rfl ⟨rfl,kM hg hg2 (by assumption)⟩
def h0s:List Int:=[0x6a09e667,0xbb67ae85,0x3c6ef372,0xa54ff53a,0x510e527f,0x9b05688c,0x1f83d9ab,0x5be0cd19]
def stc (hs:List Int) (A:Option Addr) (c:Nat) (r:List UInt8) (n:Int):List Value:=hs.map vu++[.slice A r.length c,.int .u64 n]
theorem new_fn (w:World):Fn Tryz.prog 128 ⟨[]⟩ w fun v w'=>∃ g,v=.pointer (some ⟨g,0,none⟩)/\Bl w' g 196 (stc h0s none 0 [] 0)/\w.grownBy w' none/\w.heap.size<=g:=by
 refine Fn.enter (by kernel_rfl) Tryz.func128 rfl Tryz.ntmps128 rfl ?_
 repeat (first | refine zc ?_ | refine zb ?_ | refine zd ?_ | refine za ?_ | refine zi rfl (ze qD rfl) ?_)
 refine zi rfl (Yld.arr (us:=h0s.map vu) qD rfl zero194 rfl rfl (oneM One.u _) rfl) ?_
 refine zi rfl (zS (us:=stc h0s none 0 [] 0) zero196 places196 rfl rfl) ?_
 refine WL.box rfl rfl rfl (fun g w1 hB hg hs=>?_)
 repeat (first | refine zd ?_ | refine za ?_ | refine zq ?_ | refine zi rfl (ze qD rfl) ?_)
 exact zx rfl rfl ⟨g,rfl,hB,hg,hs⟩
end
 section
open Go Go.RowKit
attribute [local irreducible] WL WC WX WQ Yld Fn
def wnext (bs:List UInt8) (ws:List Int) (i:Nat):Int :=
 if i<16 then bits .or .u32 (bits .or .u32 (bits .or .u32 (shlV .u32 ((bs.getD (4*i) 0).toNat:Int) 24) (shlV .u32 ((bs.getD (4*i+1) 0).toNat:Int) 16)) (shlV .u32 ((bs.getD (4*i+2) 0).toNat:Int) 8)) ((bs.getD (4*i+3) 0).toNat:Int)
 else
  let x:=ws.getD (i - 15) 0
  let y:=ws.getD (i - 2) 0
  IntKind.u32.wrap (IntKind.u32.wrap (IntKind.u32.wrap (ws.getD (i - 16) 0+ws.getD (i - 7) 0)+bits .xor .u32 (bits .xor .u32 (rotr x 7) (rotr x 18)) (shrV .u32 x 3))+bits .xor .u32 (bits .xor .u32 (rotr y 17) (rotr y 19)) (shrV .u32 y 10))
def wsAt (bs:List UInt8):Nat->List Int
 | 0=>List.replicate 64 0
 | i+1=>(wsAt bs i).set i (wnext bs (wsAt bs i) i)
theorem wsAt_len (bs:List UInt8):∀ i,(wsAt bs i).length=64
 | 0=>rfl
 | i+1=>by rw [wsAt,List.length_set,wsAt_len bs i]
def hnext (ws:List Int) (h:List Int) (i:Nat):List Int :=
 let e:=h.getD 4 0
 let a:=h.getD 0 0
 let one:=IntKind.u32.wrap (IntKind.u32.wrap (IntKind.u32.wrap (IntKind.u32.wrap (h.getD 7 0+bits .xor .u32 (bits .xor .u32 (rotr e 6) (rotr e 11)) (rotr e 25))+bits .xor .u32 (bits .and .u32 e (h.getD 5 0)) (bits .and .u32 (bits .xor .u32 IntKind.u32.max e) (h.getD 6 0)))+ktab.getD i 0)+ws.getD i 0)
 let two:=IntKind.u32.wrap (bits .xor .u32 (bits .xor .u32 (rotr a 2) (rotr a 13)) (rotr a 22)+bits .xor .u32 (bits .xor .u32 (bits .and .u32 a (h.getD 1 0)) (bits .and .u32 a (h.getD 2 0))) (bits .and .u32 (h.getD 1 0) (h.getD 2 0)))
 [IntKind.u32.wrap (one+two),h.getD 0 0,h.getD 1 0,h.getD 2 0,IntKind.u32.wrap (h.getD 3 0+one),h.getD 4 0,h.getD 5 0,h.getD 6 0]
def hAt (ws:List Int) (h:List Int):Nat->List Int
 | 0=>h
 | i+1=>hnext ws (hAt ws h i) i
theorem hAt_len (ws h:List Int) (hh:h.length=8):∀ i,(hAt ws h i).length=8
 | 0=>hh
 | _+1=>rfl
def sumAt (hs h:List Int):Nat->List Int
 | 0=>hs
 | i+1=>(sumAt hs h i).set i (IntKind.u32.wrap ((sumAt hs h i).getD i 0+h.getD i 0))
theorem sumAt_len (hs h:List Int):∀ i,(sumAt hs h i).length=hs.length
 | 0=>rfl
 | i+1=>by rw [sumAt,List.length_set,sumAt_len hs h i]
def mixS (hs:List Int) (bs:List UInt8):List Int:=sumAt hs (hAt (wsAt bs 64) hs 64) 8
theorem mixS_len (hs:List Int) (bs:List UInt8):(mixS hs bs).length=hs.length:=sumAt_len _ _ 8
set_option maxHeartbeats 1000000 in
theorem mix_fn (g:Nat) (hs:List Int) (tl:List Value) (A:Option Addr) (c:Nat) (bs:List UInt8) (w:World) (hh:hs.length=8) (hB:Bl w g 196 (hs.map vu++tl)) (hR:Rd vb w A c bs) (hl:64<=bs.length) :
  Fn Tryz.prog 150 ⟨[.pointer (some ⟨g,0,none⟩),.slice A bs.length c]⟩ w fun v w'=>v=.tuple #[]/\Bl w' g 196 ((mixS hs bs).map vu++tl)/\w.grownBy w' (some g):=by
 have hglt:=hB.lt
 refine Fn.enter (by kernel_rfl) Tryz.func150 rfl Tryz.ntmps150 rfl ?_
 repeat (first | refine zc ?_ | refine zb ?_)
 refine zr rfl rfl (table_fn w) ?_
 rintro _ w1 ⟨rfl,hg1⟩
 refine WL.alloc rfl zero215 (fun gk w2 hk2 hg2 hlk=>?_)
 refine zH qD rfl rfl rfl (oneM One.u _) hk2 rfl rfl (fun w3 hk3 hg3=>?_)
 repeat (first | refine zc ?_ | refine zb ?_ | refine zd ?_ | refine za ?_)
 refine WL.alloc rfl zero215 (fun gw w4 hw4 hg4 hlw=>?_)
 repeat (first | refine zc ?_ | refine WC.block ?_ | refine zb ?_ | refine zd ?_ | refine za ?_ | refine zi rfl (ze qD rfl) ?_)
 have hz1:=hg1.size
 have hz2:=hg2.size
 have hz3:=hg3.size
 have hz4:=hg4.size
 have hk4:Bl w4 gk 215 (ktab.map vu):=hk3.keep hg4 (by simp)
 have hkl:=hk3.lt
 have hR4:Rd vb w4 A c bs:=((hR.grown (qE hg1 hg2)).keep hg3 (fun q hq e=>by
  injection hq with hq
  have:=hR.lt (fun e=>by rw [e] at hl; simp at hl) e
  omega)).grown hg4
 have hB4:Bl w4 g 196 (hs.map vu++tl):=((hB.keep (qE hg1 hg2) (by simp)).keep hg3 (fun e=>by injection e with e; omega)).keep hg4 (by simp)
 have hgr4:w.grownBy w4 none:=qE (kM (qE hg1 hg2) hg3 (by omega)) hg4
 clear hk2 hk3 hg1 hg2 hg3 hg4
 refine qh (S:=Nat) (fun i=>64 - i) (fun i=>[(17,vi i),(5,.pointer (some ⟨gw,0,none⟩)),(4,.pointer (some ⟨gk,0,none⟩)),(0,.pointer (some ⟨g,0,none⟩)),(1,.slice A bs.length c)])
  (fun i w'=>i<=64/\Bl w' gw 215 ((wsAt bs i).map vu)/\w4.grownBy w' (some gw)) 0 ⟨by omega,by rw [wsAt,List.map_replicate]; exact hw4,qK _ _⟩ (by repeat (first | exact zR | refine zJ rfl ?_)) (fun i w5 ⟨hi,hw5,hg5⟩=>?_)
 have hlen:=wsAt_len bs i
 have hR5:Rd vb w5 A c bs:=hR4.keep hg5 (fun q hq e=>by
  injection hq with hq
  have:=hR.lt (fun e=>by rw [e] at hl; simp at hl) e
  omega)
 repeat (first | refine zc ?_ | refine zb ?_ | refine zd ?_ | refine za ?_ | refine zi rfl (ze qD rfl) ?_)
 refine zk rfl (fun h=>?_) (fun h=>?_)
 ·simp only [decide_eq_true_eq] at h
  repeat (first | refine zc ?_ | refine WC.block ?_ | refine zb ?_ | refine zd ?_ | refine za ?_ | refine zm ?_ | refine zi rfl (ze qD rfl) ?_)
  refine zk rfl (fun h16=>?_) (fun h16=>?_)
  ·simp only [decide_eq_true_eq] at h16
   repeat (refine zc ?_)
   refine WC.tail 35 mixed (by kernel_rfl) ?_
   repeat (first | refine zB rfl (Yld.iaddr qD hR5 rfl rfl rfl rfl (by omega) (by omega)) ?_ | refine zB rfl (zo 0 qD hR5 rfl rfl (by omega)) ?_ | refine zB rfl (zZ qD rfl rfl rfl (by omega) (by omega)) ?_ | refine zB rfl (Yld.add rfl rfl (by simp only [In]; omega)) ?_ | refine zB rfl (qg rfl rfl (by simp only [In]; omega)) ?_ | refine zB rfl (qt qD rfl rfl rfl rfl) ?_ | refine zB rfl (Yld.shl rfl rfl (by omega)) ?_ | refine zB rfl (ze qD rfl) ?_)
   refine WQ.tail ?_
   refine zV one126 rfl rfl rfl hw5 (by rw [List.length_map]; omega) (fun w6 hw6 hg6=>?_)
   repeat (first | refine zb ?_ | refine zd ?_ | refine za ?_ | refine zz ?_ | refine zf ?_ | refine zj ?_ | refine zi rfl (Yld.add rfl rfl (by simp only [In]; omega)) ?_ | refine zi rfl (ze qD rfl) ?_)
   refine qb (i+1) ⟨by omega,?_,qE hg5 hg6⟩ (by omega) (by repeat (first | exact zR | refine zJ rfl ?_))
   have e0:(4*(i:Int)).toNat=4*i:=by omega
   have e1:(4*(i:Int)+1).toNat=4*i+1:=by omega
   have e2:(4*(i:Int)+2).toNat=4*i+2:=by omega
   have e3:(4*(i:Int)+3).toNat=4*i+3:=by omega
   have ei:0+(i:Int).toNat*1=i:=by omega
   rw [e0,e1,e2,e3,ei] at hw6
   rw [wsAt,List.map_set,wnext,if_pos (by omega)]
   exact hw6
  ·simp only [decide_eq_false_iff_not] at h16
   repeat (first | refine zc ?_ | refine za ?_ | refine zm ?_)
   refine zQ mixed (by kernel_rfl) ?_
   repeat (first | refine zB rfl (qc 0 qD hw5 rfl rfl (by omega)) ?_ | refine zB rfl (zZ qD rfl rfl rfl (by omega) (by omega)) ?_ | refine zB rfl (Yld.sub rfl rfl (by simp only [In]; omega)) ?_ | refine zB rfl (ze qD rfl) ?_)
   refine zW ?_
   repeat (refine za ?_)
   refine WC.tail 29 mixed (by kernel_rfl) ?_
   repeat (first | refine zB rfl (qc 0 qD hw5 rfl rfl (by omega)) ?_ | refine zB rfl (zZ qD rfl rfl rfl (by omega) (by omega)) ?_ | refine WQ.call rfl rfl (right_fn _ _ _ (by omega) (by omega)) ?_ | refine zB rfl (Yld.sub rfl rfl (by simp only [In]; omega)) ?_ | refine zB rfl (qd rfl rfl (by omega)) ?_ | refine zB rfl (ze qD rfl) ?_)
   refine WQ.tail ?_
   refine zV one126 rfl rfl rfl hw5 (by rw [List.length_map]; omega) (fun w6 hw6 hg6=>?_)
   repeat (first | refine zb ?_ | refine zd ?_ | refine za ?_ | refine zg ?_ | refine zi rfl (Yld.add rfl rfl (by simp only [In]; omega)) ?_ | refine zi rfl (ze qD rfl) ?_)
   refine qb (i+1) ⟨by omega,?_,qE hg5 hg6⟩ (by omega) (by repeat (first | exact zR | refine zJ rfl ?_))
   have e0:0+((i:Int) - 16).toNat*1=i - 16:=by omega
   have e1:0+((i:Int) - 7).toNat*1=i - 7:=by omega
   have e2:0+((i:Int) - 15).toNat*1=i - 15:=by omega
   have e3:0+((i:Int) - 2).toNat*1=i - 2:=by omega
   have ei:0+(i:Int).toNat*1=i:=by omega
   rw [e0,e1,e2,e3,ei] at hw6
   rw [wsAt,List.map_set,wnext,if_neg (by omega)]
   exact hw6
 ·simp only [decide_eq_false_iff_not] at h
  obtain rfl:i=64:=by omega
  have hk5:Bl w5 gk 215 (ktab.map vu):=hk4.keep hg5 (fun e=>by injection e with e; omega)
  have hB5:Bl w5 g 196 (hs.map vu++tl):=hB4.keep hg5 (fun e=>by injection e with e; omega)
  have hgr5:w.grownBy w5 none:=kM hgr4 hg5 (by omega)
  have hwl:=hw5.lt
  clear hg5 hw4 hk4 hB4 hR4 hR5 hgr4
  repeat (first | refine zc ?_ | refine zb ?_ | refine za ?_ | refine zz ?_ | refine zf ?_ | refine zj ?_ | refine zi rfl (ze qD rfl) ?_)
  refine zi rfl (zY (vs:=hs.map vu) qD hB5 rfl rfl (by simp [hh]) (by simp [hh])) ?_
  refine WL.alloc rfl zero194 (fun gh w6 hh6 hg6 hlh=>?_)
  refine zH qD rfl rfl rfl (oneM One.u _) hh6 rfl (by simp [hh]) (fun w7 hh7 hg7=>?_)
  have hz6:=hg6.size
  have hz7:=hg7.size
  have hhl:=hh7.lt
  have hk7:Bl w7 gk 215 (ktab.map vu):=(hk5.keep hg6 (by simp)).keep hg7 (fun e=>by injection e with e; have:=hk5.lt; omega)
  have hw7:Bl w7 gw 215 ((wsAt bs 64).map vu):=(hw5.keep hg6 (by simp)).keep hg7 (fun e=>by injection e with e; omega)
  have hB7:Bl w7 g 196 (hs.map vu++tl):=(hB5.keep hg6 (by simp)).keep hg7 (fun e=>by injection e with e; have:=hB5.lt; omega)
  have hgr7:w.grownBy w7 none:=kM (qE hgr5 hg6) hg7 (by have:=hgr5.size; omega)
  have hkl7:=hk7.lt
  clear hh6 hg6 hg7 hk5 hw5 hB5 hgr5
  generalize hws:wsAt bs 64=ws at *
  repeat (first | refine zc ?_ | refine WC.block ?_ | refine zb ?_ | refine zd ?_ | refine za ?_ | refine zi rfl (ze qD rfl) ?_)
  refine qh (S:=Nat) (fun i=>64 - i) (fun i=>[(99,vi i),(9,.pointer (some ⟨gh,0,none⟩)),(5,.pointer (some ⟨gw,0,none⟩)),(4,.pointer (some ⟨gk,0,none⟩)),(0,.pointer (some ⟨g,0,none⟩))])
   (fun i w'=>i<=64/\Bl w' gh 194 ((hAt ws hs i).map vu)/\w7.grownBy w' (some gh)) 0 ⟨by omega,hh7,qK _ _⟩ (by repeat (first | exact zR | refine zJ rfl ?_)) (fun i w8 ⟨hi,hh8,hg8⟩=>?_)
  have hl8:=hAt_len ws hs hh i
  have hk8:Bl w8 gk 215 (ktab.map vu):=hk7.keep hg8 (fun e=>by injection e with e; omega)
  have hw8:Bl w8 gw 215 (ws.map vu):=hw7.keep hg8 (fun e=>by injection e with e; omega)
  repeat (first | refine zc ?_ | refine zb ?_ | refine zd ?_ | refine za ?_ | refine zi rfl (ze qD rfl) ?_)
  have hkt:ktab.length=64:=rfl
  refine zk rfl (fun h=>?_) (fun h=>?_)
  ·simp only [decide_eq_true_eq] at h
   repeat (first | refine zc ?_ | refine WC.block ?_ | refine zb ?_ | refine zd ?_ | refine za ?_ | refine zm ?_ | refine zi rfl (ze qD rfl) ?_)
   refine zQ mixed (by kernel_rfl) ?_
   repeat (first | refine zB rfl (qc 0 qD hh8 rfl rfl (by omega)) ?_ | refine zB rfl (zZ qD rfl rfl rfl (by omega) (by omega)) ?_ | refine zB rfl (ze qD rfl) ?_)
   refine zW ?_
   repeat (first | refine zc ?_ | refine za ?_)
   refine zQ mixed (by kernel_rfl) ?_
   repeat (first | refine zB rfl (qc 0 qD hh8 rfl rfl (by omega)) ?_ | refine zB rfl (qc 0 qD hk8 rfl rfl (by omega)) ?_ | refine zB rfl (qc 0 qD hw8 rfl rfl (by omega)) ?_ | refine zB rfl (zZ qD rfl rfl rfl (by omega) (by omega)) ?_ | refine WQ.call rfl rfl (right_fn _ _ _ (by omega) (by omega)) ?_ | refine zB rfl (ze qD rfl) ?_)
   refine zW ?_
   have ei:0+(i:Int).toNat*1=i:=by omega
   rw [ei]
   repeat (first | refine zc ?_ | refine za ?_)
   refine zQ mixed (by kernel_rfl) ?_
   repeat (first | refine zB rfl (qc 0 qD hh8 rfl rfl (by omega)) ?_ | refine zB rfl (zZ qD rfl rfl rfl (by omega) (by omega)) ?_ | refine WQ.call rfl rfl (right_fn _ _ _ (by omega) (by omega)) ?_ | refine zB rfl (ze qD rfl) ?_)
   refine zW ?_
   repeat (first | refine zi rfl (qc 0 qD hh8 rfl rfl (by omega)) ?_ | refine zi rfl (zZ qD rfl rfl rfl (by omega) (by omega)) ?_ | refine zb ?_ | refine za ?_ | refine zi rfl (ze qD rfl) ?_)
   refine zi rfl (Yld.arr (us:=(hnext ws (hAt ws hs i) i).map vu) qD rfl zero194 rfl rfl (oneM One.u _) rfl) ?_
   refine zH qD rfl rfl rfl (oneM One.u _) hh8 (by simp [hl8]) rfl (fun w9 hh9 hg9=>?_)
   repeat (first | refine zb ?_ | refine zd ?_ | refine za ?_ | refine zg ?_ | refine zi rfl (Yld.add rfl rfl (by simp only [In]; omega)) ?_ | refine zi rfl (ze qD rfl) ?_)
   exact qb (i+1) ⟨by omega,hh9,qE hg8 hg9⟩ (by omega) (by repeat (first | exact zR | refine zJ rfl ?_))
  ·simp only [decide_eq_false_iff_not] at h
   obtain rfl:i=64:=by omega
   have hB8:Bl w8 g 196 (hs.map vu++tl):=hB7.keep hg8 (fun e=>by injection e with e; omega)
   have hgr8:w.grownBy w8 none:=kM hgr7 hg8 (by have:=hgr7.size; omega)
   have hhl8:=hh8.lt
   have hgl8:=hB8.lt
   have hne:g≠gh:=by omega
   clear hg8 hh7 hk7 hw7 hB7 hgr7 hk8 hw8
   have hfin:mixS hs bs=sumAt hs (hAt ws hs 64) 8:=by rw [mixS,hws]
   generalize hAt ws hs 64=hv at *
   repeat (first | refine zc ?_ | refine WC.block ?_ | refine zb ?_ | refine zd ?_ | refine za ?_ | refine zz ?_ | refine zf ?_ | refine zj ?_ | refine zi rfl (ze qD rfl) ?_)
   refine qh (S:=Nat) (fun i=>8 - i) (fun i=>[(181,vi i),(9,.pointer (some ⟨gh,0,none⟩)),(0,.pointer (some ⟨g,0,none⟩))])
    (fun i w'=>i<=8/\Bl w' g 196 ((sumAt hs hv i).map vu++tl)/\w8.grownBy w' (some g)) 0 ⟨by omega,hB8,qK _ _⟩ (by repeat (first | exact zR | refine zJ rfl ?_)) (fun i w9 ⟨hi,hB9,hg9⟩=>?_)
   have hsl:=sumAt_len hs hv i
   have hh9:Bl w9 gh 194 (hv.map vu):=hh8.keep hg9 (fun e=>by injection e with e; omega)
   repeat (first | refine zc ?_ | refine zb ?_ | refine zd ?_ | refine za ?_ | refine zi rfl (ze qD rfl) ?_)
   refine zk rfl (fun h=>?_) (fun h=>?_)
   ·simp only [decide_eq_true_eq] at h
    have ei:0+0+(i:Int).toNat*1=i:=by omega
    have hv9:((sumAt hs hv i).map vu++tl)[0+0+(i:Int).toNat*1]? = some (vu ((sumAt hs hv i).getD i 0)):=by
     rw [ei,List.getElem?_append_left (by rw [List.length_map]; omega)]
     simp [List.getD,show i<(sumAt hs hv i).length by omega]
    repeat (first | refine zc ?_ | refine WC.block ?_ | refine zb ?_ | refine zd ?_ | refine za ?_ | refine zm ?_ | refine zi rfl (ze qD rfl) ?_)
    refine WC.tail 13 mixed (by kernel_rfl) ?_
    repeat (first | refine zB rfl (zt qD hB9 rfl rfl hv9) ?_ | refine zB rfl (qc 0 qD hh9 rfl rfl (by omega)) ?_ | refine zB rfl (zZ qD rfl rfl rfl (by omega) (by omega)) ?_ | refine zB rfl (ze qD rfl) ?_)
    refine WQ.tail ?_
    refine zV one126 rfl rfl rfl hB9 (by simp; omega) (fun w10 hB10 hg10=>?_)
    repeat (first | refine zb ?_ | refine zd ?_ | refine za ?_ | refine zg ?_ | refine zi rfl (Yld.add rfl rfl (by simp only [In]; omega)) ?_ | refine zi rfl (ze qD rfl) ?_)
    refine qb (i+1) ⟨by omega,?_,qE hg9 hg10⟩ (by omega) (by repeat (first | exact zR | refine zJ rfl ?_))
    rw [ei] at hB10
    rw [sumAt,List.map_set]
    rw [List.set_append_left _ _ (by rw [List.length_map]; omega)] at hB10
    exact hB10
   ·simp only [decide_eq_false_iff_not] at h
    obtain rfl:i=8:=by omega
    repeat (first | refine zz ?_ | refine zf ?_ | refine zj ?_)
    refine WX.end0 rfl ⟨rfl,?_,?_⟩
    ·rw [hfin]; exact hB9
    ·exact qE (gr_some hgr8 (some g)) hg9
end
 section
open Go Go.RowKit
attribute [local irreducible] WL WC WX WQ Yld Fn
theorem grow_fn (m:Int) (w:World) (h0:0<=m) (h1:m<=1073741824) :
  Fn Tryz.prog 169 ⟨[.slice none 0 0,vi m]⟩ w fun v w'=>∃ A c,v=.slice A 0 c/\Own vb w' w.heap.size 5 A c []/\w.grownBy w' none/\(∀ g,blk A=some g->w.heap.size<=g):=by
 refine Fn.enter (by kernel_rfl) Tryz.func169 rfl Tryz.ntmps169 rfl ?_
 repeat (first | refine zc ?_ | refine zb ?_ | refine zd ?_ | refine za ?_ | refine zi rfl (ze qD rfl) ?_)
 refine zk rfl (fun h=>?_) (fun h=>?_)
 ·simp only [decide_eq_true_eq] at h
  omega
 ·repeat (first | refine zc ?_ | refine zb ?_ | refine zd ?_ | refine za ?_ | refine zm ?_ | refine zi rfl (Yld.sub rfl rfl (by simp only [In]; omega)) ?_ | refine zi rfl (ze qD rfl) ?_)
  have e:m - (((0:Nat):Int) - ((0:Nat):Int))=m:=by omega
  rw [e]
  refine zk rfl (fun h=>?_) (fun h=>?_)
  ·repeat (first | refine zb ?_ | refine zi rfl (ze qD rfl) ?_)
   refine WL.ocut (f:=vb) (lo:=none) qD rfl rfl (Own.nil vb w w.heap.size 5) rfl rfl rfl rfl (by omega) (by omega) (fun _=>?_)
   repeat (refine zi rfl (ze qD rfl) ?_)
   refine WL.appendZ (f:=vb) (z:=0) qD rfl rfl rfl zero5 rfl rfl h0 (by omega) (by omega) (Nat.le_refl _) (fun A' c' w' hO hg hf=>?_)
   repeat (refine zi rfl (ze qD rfl) ?_)
   refine WL.ocut (lo:=none) qD rfl rfl hO rfl (by simp) rfl rfl (by omega) (by omega) (fun hO2=>?_)
   repeat (first | refine zc ?_ | refine zb ?_ | refine zd ?_ | refine za ?_ | refine zq ?_ | refine zi rfl (ze qD rfl) ?_)
   exact zx rfl rfl ⟨A',c',rfl,hO2,hg,hf⟩
  ·repeat (first | refine zc ?_ | refine zb ?_ | refine zd ?_ | refine za ?_ | refine zm ?_ | refine zq ?_ | refine zi rfl (ze qD rfl) ?_)
   exact zx rfl rfl ⟨none,0,rfl,Own.nil _ _ _ _,qK _ _,fun g hg=>by simp [blk] at hg⟩
theorem clone_fn (A:Option Addr) (c:Nat) (bs:List UInt8) (w:World) (hR:Rd vb w A c bs) (hl:bs.length<=1073741824) :
  Fn Tryz.prog 151 ⟨[.slice A bs.length c]⟩ w fun v w'=>∃ A' c',v=.slice A' bs.length c'/\Own vb w' w.heap.size 5 A' c' bs/\w.grownBy w' none/\(∀ g,blk A'=some g->w.heap.size<=g):=by
 refine Fn.enter (by kernel_rfl) Tryz.func151 rfl Tryz.ntmps151 rfl ?_
 repeat (first | refine zc ?_ | refine zb ?_ | refine zd ?_ | refine za ?_ | refine zi rfl (ze qD rfl) ?_)
 refine zi rfl (Yld.eqnil qD rfl rfl rfl) ?_
 repeat (first | refine zd ?_ | refine za ?_)
 refine zk rfl (fun h=>?_) (fun h=>?_)
 ·have hA:A=none:=by simpa using h
  subst hA
  have hb:bs=[]:=by
   rcases List.eq_nil_or_concat bs with h | ⟨l,b,h⟩
   ·exact h
   ·obtain ⟨ad,h2,_⟩:=hR.cells (by rw [h]; simp)
    cases h2
  subst hb
  repeat (first | refine zc ?_ | refine zb ?_ | refine zd ?_ | refine za ?_ | refine zq ?_ | refine zh ?_ | refine zi rfl (ze qD rfl) ?_)
  exact zx rfl rfl ⟨none,0,rfl,Own.nil _ _ _ _,qK _ _,fun g hg=>by simp [blk] at hg⟩
 ·repeat (first | refine zc ?_ | refine zb ?_ | refine za ?_ | refine zm ?_)
  refine zP (us:=[]) qD rfl rfl rfl (by simp) rfl (by omega) (fun g w1 hB hg hlt=>?_)
  repeat (refine zi rfl (ze qD rfl) ?_)
  have hO:Own vb w1 w.heap.size 5 (some ⟨g,0,none⟩) 0 []:=⟨by simp,.inr ⟨g,0,#[],rfl,hlt,hB,by simp,by simp [maxLen],rfl,rfl⟩⟩
  refine zG qD rfl rfl One.b hO rfl rfl (hR.grown hg) rfl rfl (by simp; omega) (by simp [maxLen]; omega) hg.size (fun A' c' w' hO' hg' hf=>?_)
  repeat (first | refine zd ?_ | refine za ?_ | refine zq ?_ | refine zi rfl (ze qD rfl) ?_)
  have hs1:=hg.size
  refine zx rfl rfl ⟨A',c',rfl,hO',kM hg hg' hlt,fun q hq=>?_⟩
  rcases hf q hq with h | h
  ·simp only [blk,Option.map_some,Option.some.injEq] at h
   omega
  ·omega
end
 section
open Go Go.RowKit
attribute [local irreducible] WL WC WX WQ Yld Fn
def vS (x:Option Addr × Nat × List UInt8):Value:=.slice x.1 x.2.2.length x.2.1
theorem One.S:One vS:=fun _=>rfl
def catS (l:List (Option Addr × Nat × List UInt8)):List UInt8:=l.flatMap (·.2.2)
theorem catS_take (l:List (Option Addr × Nat × List UInt8)) (k:Nat) (h:k<l.length):catS (l.take (k+1))=catS (l.take k)++(l.getD k (none,0,[])).2.2:=by
 unfold catS
 rw [List.take_succ_eq_append_getElem h,List.flatMap_append]
 simp [List.getD,h]
theorem catS_le (l:List (Option Addr × Nat × List UInt8)) (k:Nat):(catS (l.take k)).length<=(catS l).length:=by
 unfold catS
 conv=>rhs; rw [<-List.take_append_drop k l,List.flatMap_append,List.length_append]
 omega
theorem concat_fn (A:Option Addr) (c:Nat) (l:List (Option Addr × Nat × List UInt8)) (w:World) (hR:Rd vS w A c l) (hl:∀ x∈l,Rd vb w x.1 x.2.1 x.2.2) (hs:(catS l).length<=1073741824) :
  Fn Tryz.prog 149 ⟨[.slice A l.length c]⟩ w fun v w'=>∃ A' c',v=.slice A' (catS l).length c'/\Own vb w' w.heap.size 5 A' c' (catS l)/\w.grownBy w' none:=by
 have hml:l.length<=9223372036854775807:=by have h1:=hR.cap; have h2:=hR.max; unfold maxLen at h2; omega
 refine Fn.enter (by kernel_rfl) Tryz.func149 rfl Tryz.ntmps149 rfl ?_
 repeat (first | refine zc ?_ | refine WC.block ?_ | refine zb ?_ | refine zd ?_ | refine za ?_ | refine zi rfl (ze qD rfl) ?_)
 refine qh (S:=Nat) (fun i=>l.length - i) (fun i=>[(11,vi i),(3,vi (catS (l.take i)).length),(10,vi l.length),(9,.slice A l.length c),(0,.slice A l.length c)])
  (fun i w'=>i<=l.length/\w'=w) 0 ⟨by omega,rfl⟩ (by repeat (first | exact zR | refine zJ rfl ?_)) (fun i w' ⟨hi,hw⟩=>?_)
 subst hw
 have hc1:=catS_le l i
 repeat (first | refine zc ?_ | refine zb ?_ | refine zd ?_ | refine za ?_ | refine zi rfl (ze qD rfl) ?_)
 refine zk rfl (fun h=>?_) (fun h=>?_)
 ·simp only [decide_eq_true_eq] at h
  have hlt:i<l.length:=by omega
  have hc2:=catS_le l (i+1)
  have hc3:=catS_take l i hlt
  have hc4:(catS (l.take (i+1))).length=(catS (l.take i)).length+(l.getD i (none,0,[])).2.2.length:=by rw [hc3,List.length_append]
  repeat (first | refine zi rfl (qB qD hR rfl rfl rfl rfl (by omega)) ?_ | refine zi rfl (zo (none,0,[]) qD hR rfl rfl (by omega)) ?_ | refine zc ?_ | refine WC.block ?_ | refine zb ?_ | refine zd ?_ | refine za ?_ | refine zm ?_ | refine zi rfl (Yld.add rfl rfl (by simp only [In]; omega)) ?_ | refine zi rfl (ze qD rfl) ?_)
  refine zk rfl (fun h2=>?_) (fun h2=>?_)
  ·simp only [decide_eq_true_eq] at h2
   omega
  ·repeat (first | refine zb ?_ | refine zd ?_ | refine za ?_ | refine zm ?_ | refine zg ?_ | refine zi rfl (Yld.add rfl rfl (by simp only [In]; omega)) ?_ | refine zi rfl (ze qD rfl) ?_)
   refine qb (i+1) ⟨by omega,rfl⟩ (by omega) ?_
   refine zJ rfl (zJ ?_ (by repeat (first | exact zR | refine zJ rfl ?_)))
   rw [hc4]
   rfl
 ·simp only [decide_eq_false_iff_not] at h
  obtain rfl:i=l.length:=by omega
  rw [List.take_of_length_le (Nat.le_refl _)] at *
  repeat (first | refine zc ?_ | refine zb ?_ | refine za ?_ | refine zz ?_ | refine zf ?_ | refine zj ?_ | refine zi rfl (ze qD rfl) ?_)
  refine zr rfl rfl (grow_fn (catS l).length w' (by omega) (by omega)) ?_
  rintro _ w1 ⟨A1,c1,rfl,hO1,hg1,_⟩
  have hR1:=hR.grown hg1
  repeat (first | refine zc ?_ | refine WC.block ?_ | refine zb ?_ | refine zd ?_ | refine za ?_ | refine zi rfl (ze qD rfl) ?_)
  refine qh (S:=Nat × Option Addr × Nat) (fun s=>l.length - s.1) (fun s=>[(27,vi s.1),(6,.slice s.2.1 (catS (l.take s.1)).length s.2.2),(26,vi l.length),(25,.slice A l.length c)])
   (fun s w2=>s.1<=l.length/\Own vb w2 w'.heap.size 5 s.2.1 s.2.2 (catS (l.take s.1))/\w'.grownBy w2 none) (0,A1,c1) ⟨by simp,hO1,hg1⟩ (by repeat (first | exact zR | refine zJ rfl ?_)) (fun ⟨i,A2,c2⟩ w2 ⟨hi,hO2,hg2⟩=>?_)
  have hR2:=hR.grown hg2
  have hc1:=catS_le l i
  simp only at hi hO2
  repeat (first | refine zc ?_ | refine zb ?_ | refine zd ?_ | refine za ?_ | refine zi rfl (ze qD rfl) ?_)
  refine zk rfl (fun h=>?_) (fun h=>?_)
  ·simp only [decide_eq_true_eq] at h
   have hlt:i<l.length:=by omega
   have hc2:=catS_le l (i+1)
   have hc3:=catS_take l i hlt
   have hc4:(catS (l.take (i+1))).length=(catS (l.take i)).length+(l.getD i (none,0,[])).2.2.length:=by rw [hc3,List.length_append]
   repeat (first | refine zi rfl (qB qD hR2 rfl rfl rfl rfl (by omega)) ?_ | refine zi rfl (zo (none,0,[]) qD hR2 rfl rfl (by omega)) ?_ | refine zc ?_ | refine WC.block ?_ | refine zb ?_ | refine zd ?_ | refine za ?_ | refine zm ?_ | refine zi rfl (ze qD rfl) ?_)
   have hx:l.getD i (none,0,[])∈l:=by simp [List.getD,hlt]
   have hRx:=(hl _ hx).grown hg2
   have hz2:=hg2.size
   refine zG qD rfl rfl One.b hO2 rfl rfl hRx rfl rfl (by omega) (by unfold maxLen; omega) hz2 (fun A3 c3 w3 hO3 hg3 hf3=>?_)
   repeat (first | refine zb ?_ | refine zd ?_ | refine za ?_ | refine zg ?_ | refine zi rfl (Yld.add rfl rfl (by simp only [In]; omega)) ?_ | refine zi rfl (ze qD rfl) ?_)
   refine qb (i+1,A3,c3) ⟨by simp; omega,?_,?_⟩ (by simp; omega) ?_
   ·simp only [hc3]; exact hO3
   ·cases hq:blk A2 with
    | none=>rw [hq] at hg3; exact qE hg2 hg3
    | some q=>rw [hq] at hg3; exact kM hg2 hg3 (hO2.lt hq).1
   ·refine zJ rfl (zJ ?_ (by repeat (first | exact zR | refine zJ rfl ?_)))
    rw [hc3]
    rfl
  ·simp only [decide_eq_false_iff_not] at h
   obtain rfl:i=l.length:=by omega
   rw [List.take_of_length_le (Nat.le_refl _)] at hO2 |-
   repeat (first | refine zc ?_ | refine zb ?_ | refine zd ?_ | refine za ?_ | refine zz ?_ | refine zq ?_ | refine zf ?_ | refine zj ?_ | refine zi rfl (ze qD rfl) ?_)
   exact zx rfl rfl ⟨A2,c2,rfl,hO2,hg2⟩
end
 section
open Go Go.RowKit
attribute [local irreducible] WL WC WX WQ Yld Fn
theorem Rd.ofBl {α:Type} {f:α->Value} {w:World} {g:Nat} {e:TypeId} {xs:List α} {m:Nat} (h:Bl w g e (xs.map f)) (hm:xs.length<=m) (h63:m<=maxLen):Rd f w (some ⟨g,0,none⟩) m xs :=
 ⟨hm,h63,fun _=>⟨_,rfl,fun j x hj=>by rw [Addr.add_mid,Nat.zero_add,h.cell]; simp [hj]⟩⟩
def j8:Nat->List Int->List UInt8->List Int × List UInt8
 | 0,hs,all=>(hs,all)
 | m+1,hs,all=>if 64<=all.length then j8 m (mixS hs (all.take 64)) (all.drop 64) else (hs,all)
theorem absorb_more:∀ (m:Nat) (hs:List Int) (all:List UInt8),all.length<=m->j8 (m+1) hs all=j8 m hs all
 | 0,hs,all,h=>by
  have:¬ 64<=all.length:=by omega
  simp [j8,this]
 | m+1,hs,all,h=>by
  rw [j8]
  conv=>rhs; rw [j8]
  split
  ·exact absorb_more m _ _ (by simp; omega)
  ·rfl
def wrS (hs:List Int) (r b:List UInt8):List Int × List UInt8:=j8 (r++b).length hs (r++b)
structure St (w:World) (g:Nat) (hs:List Int) (r:List UInt8) (n:Int):Prop where
 len:hs.length=8
 at_:∃ A c,Bl w g 196 (stc hs A c r n)/\Rd vb w A c r/\blk A≠some g
theorem stc_8 {hs:List Int} (hh:hs.length=8) (A:Option Addr) (c:Nat) (r:List UInt8) (n:Int):(stc hs A c r n)[8]? = some (.slice A r.length c):=by
 unfold stc; rw [List.getElem?_append_right (by simp [hh])]; simp [hh]
theorem stc_9 {hs:List Int} (hh:hs.length=8) (A:Option Addr) (c:Nat) (r:List UInt8) (n:Int):(stc hs A c r n)[9]? = some (.int .u64 n):=by
 unfold stc; rw [List.getElem?_append_right (by simp [hh])]; simp [hh]
theorem stc_set8 {hs:List Int} (hh:hs.length=8) (A A':Option Addr) (c c':Nat) (r r':List UInt8) (n:Int):(stc hs A c r n).set 8 (.slice A' r'.length c')=stc hs A' c' r' n:=by
 unfold stc; rw [List.set_append_right _ _ (by simp [hh])]; simp [hh]
theorem stc_set9 {hs:List Int} (hh:hs.length=8) (A:Option Addr) (c:Nat) (r:List UInt8) (n n':Int):(stc hs A c r n).set 9 (.int .u64 n')=stc hs A c r n':=by
 unfold stc; rw [List.set_append_right _ _ (by simp [hh])]; simp [hh]
theorem stc_len {hs:List Int} (hh:hs.length=8) (A:Option Addr) (c:Nat) (r:List UInt8) (n:Int):(stc hs A c r n).length=10:=by simp [stc,hh]
theorem write_fn (g:Nat) (hs:List Int) (r:List UInt8) (n:Int) (A2:Option Addr) (c2:Nat) (b:List UInt8) (w:World) (hS:St w g hs r n) (hR2:Rd vb w A2 c2 b) (hA2:b≠[]->blk A2≠some g) (hn:0<=n) (hn2:n<=1073741824) (hr:r.length<=64) (hb:b.length<=1000000) :
  Fn Tryz.prog 129 ⟨[.pointer (some ⟨g,0,none⟩),.slice A2 b.length c2]⟩ w fun v w'=>v=.tuple #[]/\St w' g (wrS hs r b).1 (wrS hs r b).2 (n+b.length)/\w.grownBy w' (some g):=by
 obtain ⟨hh,A,c,hB,hR,hA⟩:=hS
 refine Fn.enter (by kernel_rfl) Tryz.func129 rfl Tryz.ntmps129 rfl ?_
 repeat (first | refine zi rfl (zt qD hB rfl rfl (stc_9 hh A c r n)) ?_ | refine zc ?_ | refine zb ?_ | refine zi rfl (Yld.add rfl rfl (by simp only [In]; omega)) ?_ | refine zi rfl (Yld.conv qD rfl rfl rfl (by simp only [In]; omega)) ?_ | refine zi rfl (ze qD rfl) ?_)
 refine zV one127 rfl rfl rfl hB (by rw [stc_len hh]; omega) (fun w1 hB1 hg1=>?_)
 rw [stc_set9 hh] at hB1
 have hR1:=hR.keep hg1 (fun q hq e=>by injection hq with hq; exact hA (by rw [e,hq]))
 have hR21:=hR2.keep' hg1 (fun hb q hq e=>by injection hq with hq; exact hA2 hb (by rw [e,hq]))
 repeat (first | refine zi rfl (zt qD hB1 rfl rfl (stc_8 hh A c r _)) ?_ | refine zc ?_ | refine zb ?_ | refine zd ?_ | refine za ?_ | refine zi rfl (ze qD rfl) ?_)
 refine zP (us:=[vS (A,c,r),vS (A2,c2,b)]) qD rfl rfl rfl (by intro u hu; simp at hu; rcases hu with rfl | rfl <;> rfl) rfl (by omega) (fun gl w2 hL2 hg2 hl2=>?_)
 refine zr rfl rfl (concat_fn (some ⟨gl,0,none⟩) 2 [(A,c,r),(A2,c2,b)] w2 (Rd.ofBl hL2 (by simp) (by simp [maxLen])) (by intro x hx; simp at hx; rcases hx with rfl | rfl; exact hR1.grown hg2; exact hR21.grown hg2) (by simp [catS]; omega)) ?_
 rintro _ w3 ⟨A3,c3,rfl,hO3,hg3⟩
 have hcat:catS [(A,c,r),(A2,c2,b)]=r++b:=by simp [catS]
 rw [hcat] at hO3 |-
 have hB3:=(hB1.keep hg2 (by simp)).keep hg3 (by simp)
 have hz1:=hg1.size
 have hz2:=hg2.size
 have hgl:g<w2.heap.size:=by have:=hB1.lt; omega
 have hA3:blk A3≠some g:=fun e=>by have:=(hO3.lt e).1; omega
 have hg13:w.grownBy w3 (some g):=qE (qE hg1 (gr_some hg2 _)) (gr_some hg3 _)
 have hR3:=hO3.rd
 clear hO3 hL2 hg1 hg2 hg3 hR1 hR21 hB1
 repeat (first | refine zc ?_ | refine WC.block ?_ | refine zd ?_ | refine za ?_ | refine zi rfl (ze qD rfl) ?_)
 refine qh (S:=Nat × List Int × Option Addr × Nat × List UInt8) (fun s=>s.2.2.2.2.length) (fun s=>[(4,.slice s.2.2.1 s.2.2.2.2.length s.2.2.2.1),(0,.pointer (some ⟨g,0,none⟩))])
  (fun s w4=>s.2.1.length=8/\Bl w4 g 196 (stc s.2.1 A c r (n+b.length))/\Rd vb w4 s.2.2.1 s.2.2.2.1 s.2.2.2.2/\blk s.2.2.1≠some g/\s.2.2.2.2.length<=s.1/\s.2.2.2.2.length<=2000000/\j8 s.1 s.2.1 s.2.2.2.2=wrS hs r b/\w3.grownBy w4 (some g))
  ((r++b).length,hs,A3,c3,r++b) ⟨hh,hB3,hR3,hA3,Nat.le_refl _,by simp; omega,rfl,qK _ _⟩ (by repeat (first | exact zR | refine zJ rfl ?_)) (fun ⟨m,h4,A4,c4,al⟩ w4 ⟨hh4,hB4,hR4,hA4,hm4,hl4,ha4,hg4⟩=>?_)
 simp only at hh4 hB4 hR4 hA4 hm4 hl4 ha4
 repeat (first | refine zc ?_ | refine zb ?_ | refine zd ?_ | refine za ?_ | refine zi rfl (ze qD rfl) ?_)
 refine zk rfl (fun h=>?_) (fun h=>?_)
 ·simp only [decide_eq_true_eq] at h
  have h64:64<=al.length:=by omega
  repeat (first | refine zc ?_ | refine WC.block ?_ | refine zb ?_ | refine za ?_ | refine zm ?_ | refine zi rfl (ze qD rfl) ?_)
  refine WL.cut qD hR4 rfl rfl rfl rfl rfl rfl (by omega) (by omega) (by omega) (fun A5 c5 hR5 hA5=>?_)
  refine zr rfl rfl (mix_fn g h4 _ A5 c5 _ w4 hh4 hB4 hR5 (by simp; omega)) ?_
  rintro _ w5 ⟨rfl,hB5,hg5⟩
  have hR45:=hR4.keep hg5 (fun q hq e=>by injection hq with hq; exact hA4 (by rw [e,hq]))
  repeat (first | refine zb ?_ | refine zd ?_ | refine za ?_ | refine zi rfl (ze qD rfl) ?_)
  refine WL.cut qD hR45 rfl rfl rfl rfl rfl rfl (by omega) (by omega) (by omega) (fun A6 c6 hR6 hA6=>?_)
  repeat (first | refine zd ?_ | refine zg ?_ | refine zi rfl (ze qD rfl) ?_)
  have h0:Int.toNat 64 - Int.toNat 0=64:=rfl
  have hm0:1<=m:=by omega
  obtain ⟨q,rfl⟩:∃ q,m=q+1:=⟨m - 1,by omega⟩
  have hlen6:((al.drop (Int.toNat 64)).take ((al.length:Int).toNat - Int.toNat 64))=al.drop 64:=by
   rw [List.take_of_length_le]
   ·rfl
   ·rw [List.length_drop]; omega
  rw [hlen6] at hR6 |-
  refine qb (q,mixS h4 ((al.drop (Int.toNat 0)).take (Int.toNat 64 - Int.toNat 0)),A6,c6,al.drop 64) ⟨?_,hB5,hR6,fun e=>hA4 (hA6 _ e),?_,?_,?_,qE hg4 hg5⟩ ?_ (by repeat (first | exact zR | refine zJ rfl ?_))
  ·rw [mixS_len]; exact hh4
  ·simp only [List.length_drop]; omega
  ·simp only [List.length_drop]; omega
  ·rw [<-ha4,j8,if_pos h64]
   rfl
  ·simp only [List.length_drop]; omega
 ·simp only [decide_eq_false_iff_not] at h
  have hfin:wrS hs r b=(h4,al):=by
   rw [<-ha4]
   cases m with
   | zero=>rfl
   | succ q=>rw [j8,if_neg (by omega)]
  repeat (first | refine zb ?_ | refine za ?_ | refine zz ?_ | refine zf ?_ | refine zj ?_ | refine zi rfl (ze qD rfl) ?_)
  refine zV one105 rfl rfl rfl hB4 (by rw [stc_len hh4]; omega) (fun w5 hB5 hg5=>?_)
  rw [stc_set8 hh4] at hB5
  repeat (refine zd ?_)
  refine WX.end0 rfl ⟨rfl,?_,qE (qE hg13 hg4) hg5⟩
  rw [hfin]
  exact ⟨hh4,A4,c4,hB5,hR4.keep hg5 (fun q hq e=>by injection hq with hq; exact hA4 (by rw [e,hq])),hA4⟩
end
 section
open Go Go.RowKit
attribute [local irreducible] WL WC WX WQ Yld Fn
def u8v (z:Int):UInt8:=UInt8.ofNat (IntKind.u8.wrap z).toNat
theorem vb_u8v (z:Int):Value.int .u8 (IntKind.u8.wrap z)=vb (u8v z):=by
 unfold vb u8v
 have h:IntKind.u8.wrap z=z % 256:=IntKind.wrap_u8 z
 rw [h]
 congr 1
 rw [UInt8.toNat_ofNat']
 omega
theorem Yld.toB {P:Program} {T:Tab} {N:Nat} {L:qJ} {w:World} {dd:Option Tmp} {ty:TypeId} {pos:String} {af:Array Edge} {s d:TypeId} {k k2:IntKind} {x:Operand} {z:Int} (hT:T.Ok P) (hs:nk T.int s=some k) (hd:nk T.int d=some .u8) (hx:opv L x=some (.int k2 z)) :
  Yld P N w ⟨dd,.convert s d x,ty,pos,af,none⟩ L (vb (u8v z)):=by
 rw [<-vb_u8v]
 exact ze hT (by simp [pv,hx,o1,pvConv,hs,hd])
def padS (l:List UInt8):List UInt8:=l++List.replicate ((120 - l.length % 64) % 64) 0
theorem padS_step (l:List UInt8) (h:l.length % 64≠56):padS (l++[0])=padS l:=by
 unfold padS
 have:(120 - l.length % 64) % 64=(120 - (l++[0]).length % 64) % 64+1:=by simp; omega
 rw [this,List.replicate_succ]
 simp
def lenB (n:Int) (i:Nat):UInt8:=u8v (shrV .u64 n (8*(7 - (i:Int))).toNat)
def lenBs (n:Int):Nat->List UInt8
 | 0=>[]
 | i+1=>lenBs n i++[lenB n i]
theorem lenBs_len (n:Int):∀ i,(lenBs n i).length=i
 | 0=>rfl
 | i+1=>by rw [lenBs,List.length_append,lenBs_len n i]; rfl
def endS (r:List UInt8) (n:Int):List UInt8:=padS (r++[0x80])++lenBs (8*n) 8
def outAt (h:List Int):Nat->List UInt8
 | 0=>List.replicate 32 0
 | i+1=>(outAt h i).set i (u8v (shrV .u32 (h.getD (i / 4) 0) (24 - 8*((i:Int) % 4)).toNat))
theorem outAt_len (h:List Int):∀ i,(outAt h i).length=32
 | 0=>rfl
 | i+1=>by rw [outAt,List.length_set,outAt_len h i]
def sumS (hs:List Int) (r:List UInt8) (n:Int):List UInt8:=outAt (j8 (endS r n).length hs (endS r n)).1 32
theorem sumS_len (hs:List Int) (r:List UInt8) (n:Int):(sumS hs r n).length=32:=outAt_len _ 32
theorem bl_one {α:Type} {f:α->Value} {w:World} {g:Nat} {e:TypeId} {x:α} (h:Bl w g e [f x]):Rd f w (some ⟨g,0,none⟩) 1 [x]:=Rd.ofBl (xs:=[x]) h (by simp) (by simp [maxLen])
set_option maxHeartbeats 1000000 in
theorem sum_fn (g:Nat) (hs:List Int) (r:List UInt8) (n:Int) (w:World) (hS:St w g hs r n) (hn:0<=n) (hn2:n<=1073741824) (hr:r.length<=64) :
  Fn Tryz.prog 130 ⟨[.pointer (some ⟨g,0,none⟩)]⟩ w fun v w'=>v=.agg ⟨(sumS hs r n).map vb⟩/\w.grownBy w' none:=by
 obtain ⟨hh,A,c,hB,hR,hA⟩:=hS
 have hgw:=hB.lt
 refine Fn.enter (by kernel_rfl) Tryz.func130 rfl Tryz.ntmps130 rfl ?_
 repeat (first | refine zc ?_ | refine zb ?_)
 refine WL.alloc rfl zero45 (fun go w1 ho1 hg1 hlo=>?_)
 have hB1:=hB.keep hg1 (by simp)
 have hR1:=hR.grown hg1
 repeat (first | refine zi rfl (zY (vs:=stc hs A c r n) qD hB1 rfl rfl (by rw [List.drop_zero,List.take_of_length_le]; rw [stc_len hh]; exact Nat.le_refl _) (stc_len hh _ _ _ _)) ?_ | refine zc ?_ | refine zb ?_ | refine zd ?_ | refine za ?_ | refine zi rfl (ze qD rfl) ?_)
 refine WL.alloc rfl zero196 (fun gt w2 ht2 hg2 hlt=>?_)
 refine zH qD rfl rfl rfl (by intro u hu; simp [stc] at hu; rcases hu with ⟨q,_,rfl⟩ | rfl | rfl <;> rfl) ht2 rfl (stc_len hh _ _ _ _) (fun w3 ht3 hg3=>?_)
 have hz1:=hg1.size
 have hgolt:=ho1.lt
 have hz2:=hg2.size
 have hz3:=hg3.size
 have hgr3:w.grownBy w3 none:=kM (qE hg1 hg2) hg3 (by omega)
 have hB3:=(hB1.keep hg2 (by simp)).keep hg3 (fun e=>by injection e with e; omega)
 have hgt3:=ht3.lt
 have ho3:=(ho1.keep hg2 (by simp)).keep hg3 (fun e=>by injection e with e; have:=ho1.lt; omega)
 have hR3:=hR.grown hgr3
 clear hB1 hR1 hg1 hg2 hg3 ht2 ho1
 repeat (first | refine zi rfl (zt qD hB3 rfl rfl (stc_9 hh A c r _)) ?_ | refine zi rfl (zt qD hB3 rfl rfl (stc_8 hh A c r _)) ?_ | refine zc ?_ | refine zb ?_ | refine zd ?_ | refine za ?_ | refine zi rfl (qg rfl rfl (by simp only [In]; omega)) ?_ | refine zi rfl (ze qD rfl) ?_)
 refine zr rfl rfl (clone_fn A c r w3 hR3 (by omega)) ?_
 rintro _ w4 ⟨A4,c4,rfl,hO4,hg4,hf4⟩
 refine zP (us:=[vb 0x80]) qD rfl rfl rfl (by intro u hu; simp at hu; rw [hu]; rfl) rfl (by omega) (fun gl w5 hL5 hg5 hl5=>?_)
 refine zG qD rfl rfl One.b (hO4.grown hg5) rfl rfl (bl_one (x:=0x80) hL5) rfl rfl (by simp; omega) (by simp [maxLen]; omega) (by have:=hg4.size; have:=hg5.size; omega) (fun A6 c6 w6 hO6 hg6 hf6=>?_)
 have hgr6:w3.grownBy w6 none:=by
  cases hq:blk A4 with
  | none=>rw [hq] at hg6; exact qE (qE hg4 hg5) hg6
  | some q=>rw [hq] at hg6; exact kM (qE hg4 hg5) hg6 (hO4.lt hq).1
 clear hO4 hg4 hf4 hL5 hg5 hg6 hf6
 have hp0:padS (r++[0x80])=padS (r++[0x80]):=rfl
 repeat (first | refine zc ?_ | refine WC.block ?_ | refine zd ?_ | refine za ?_ | refine zi rfl (ze qD rfl) ?_)
 refine qh (S:=Option Addr × Nat × List UInt8) (fun s=>(120 - s.2.2.length % 64) % 64) (fun s=>[(5,.slice s.1 s.2.2.length s.2.1),(4,.int .u64 (8*n)),(3,.pointer (some ⟨gt,0,none⟩)),(2,.pointer (some ⟨go,0,none⟩))])
  (fun s w7=>Own vb w7 w3.heap.size 5 s.1 s.2.1 s.2.2/\padS s.2.2=padS (r++[0x80])/\s.2.2.length<=128+64/\w3.grownBy w7 none)
  (A6,c6,r++[0x80]) ⟨hO6,rfl,by simp; omega,hgr6⟩ (by repeat (first | exact zR | refine zJ rfl ?_)) (fun ⟨A7,c7,e7⟩ w7 ⟨hO7,hp7,hl7,hg7⟩=>?_)
 simp only at hO7 hp7 hl7
 repeat (first | refine zc ?_ | refine zb ?_ | refine zd ?_ | refine za ?_ | refine zi rfl (Yld.rem rfl rfl (by omega) (by omega)) ?_ | refine zi rfl (ze qD rfl) ?_)
 refine zk rfl (fun h=>?_) (fun h=>?_)
 ·have h56:e7.length % 64≠56:=by
   simp only [Bool.not_eq_true',decide_eq_false_iff_not] at h
   omega
  have hle:(padS e7).length<=192:=by
   rw [hp7]; unfold padS; simp; omega
  have hl8:e7.length+1<=192:=by
   unfold padS at hle
   rw [List.length_append,List.length_replicate] at hle
   omega
  repeat (first | refine WC.block ?_ | refine zb ?_ | refine za ?_ | refine zm ?_ | refine zi rfl (ze qD rfl) ?_)
  refine zP (us:=[vb 0]) qD rfl rfl rfl (by intro u hu; simp at hu; rw [hu]; rfl) rfl (by omega) (fun gl w8 hL8 hg8 hl8=>?_)
  refine zG qD rfl rfl One.b (hO7.grown hg8) rfl rfl (bl_one (x:=0) hL8) rfl rfl (by simp; omega) (by simp [maxLen]; omega) (by have:=hg7.size; have:=hg8.size; omega) (fun A9 c9 w9 hO9 hg9 hf9=>?_)
  repeat (first | refine zd ?_ | refine zg ?_ | refine zi rfl (ze qD rfl) ?_)
  refine qb (A9,c9,e7++[0]) ⟨hO9,by rw [padS_step _ h56]; exact hp7,by simp; omega,?_⟩ (by simp; omega) (by repeat (first | exact zR | refine zJ rfl ?_))
  cases hq:blk A7 with
  | none=>rw [hq] at hg9; exact qE (qE hg7 hg8) hg9
  | some q=>rw [hq] at hg9; exact kM (qE hg7 hg8) hg9 (hO7.lt hq).1
 ·have h56:e7.length % 64=56:=by
   simp only [Bool.not_eq_false',decide_eq_true_eq] at h
   omega
  have he7:e7=padS (r++[0x80]):=by
   rw [<-hp7]; unfold padS; rw [h56]; simp
  have hpl:e7.length<=184:=by rw [he7]; unfold padS; simp; omega
  repeat (first | refine zc ?_ | refine WC.block ?_ | refine zb ?_ | refine zd ?_ | refine za ?_ | refine zz ?_ | refine zf ?_ | refine zj ?_ | refine zi rfl (ze qD rfl) ?_)
  refine qh (S:=Nat × Option Addr × Nat) (fun s=>8 - s.1) (fun s=>[(32,vi s.1),(5,.slice s.2.1 (e7++lenBs (8*n) s.1).length s.2.2),(4,.int .u64 (8*n)),(3,.pointer (some ⟨gt,0,none⟩)),(2,.pointer (some ⟨go,0,none⟩))])
   (fun s w8=>s.1<=8/\Own vb w8 w3.heap.size 5 s.2.1 s.2.2 (e7++lenBs (8*n) s.1)/\w3.grownBy w8 none)
   (0,A7,c7) ⟨by simp,by simpa [lenBs] using hO7,hg7⟩ (by simp only [lenBs,List.append_nil]; repeat (first | exact zR | refine zJ rfl ?_)) (fun ⟨i,A8,c8⟩ w8 ⟨hi,hO8,hg8⟩=>?_)
  simp only at hi hO8
  have hlb:=lenBs_len (8*n) i
  repeat (first | refine zc ?_ | refine zb ?_ | refine zd ?_ | refine za ?_ | refine zi rfl (ze qD rfl) ?_)
  refine zk rfl (fun h=>?_) (fun h=>?_)
  ·simp only [decide_eq_true_eq] at h
   repeat (first | refine zi rfl (Yld.toB qD rfl rfl rfl) ?_ | refine zc ?_ | refine WC.block ?_ | refine zb ?_ | refine zd ?_ | refine za ?_ | refine zm ?_ | refine zi rfl (Yld.sub rfl rfl (by simp only [In]; omega)) ?_ | refine zi rfl (qg rfl rfl (by simp only [In]; omega)) ?_ | refine zi rfl (qd rfl rfl (by omega)) ?_ | refine zi rfl (ze qD rfl) ?_)
   refine zP (us:=[vb (lenB (8*n) i)]) qD rfl rfl rfl (by intro u hu; simp at hu; rw [hu]; rfl) rfl (by omega) (fun gl w9 hL9 hg9 hl9=>?_)
   refine zG qD rfl rfl One.b (hO8.grown hg9) rfl rfl (bl_one (x:=lenB (8*n) i) hL9) rfl rfl (by simp; omega) (by simp [maxLen]; omega) (by have:=hg8.size; have:=hg9.size; omega) (fun A10 c10 w10 hO10 hg10 hf10=>?_)
   repeat (first | refine zb ?_ | refine zd ?_ | refine za ?_ | refine zg ?_ | refine zi rfl (Yld.add rfl rfl (by simp only [In]; omega)) ?_ | refine zi rfl (ze qD rfl) ?_)
   have hap:e7++lenBs (8*n) i++[lenB (8*n) i]=e7++lenBs (8*n) (i+1):=by rw [List.append_assoc]; rfl
   rw [hap] at hO10 |-
   exact qb (i+1,A10,c10) ⟨by simp; omega,hO10,gr_own (qE hg8 hg9) (hO8.grown hg9) hg10 (Nat.le_refl _)⟩ (by simp; omega) (by repeat (first | exact zR | refine zJ rfl ?_))
  ·simp only [decide_eq_false_iff_not] at h
   obtain rfl:i=8:=by omega
   have hend:e7++lenBs (8*n) 8=endS r n:=by rw [he7]; rfl
   rw [hend] at hO8 |-
   have hel:(endS r n).length<=192:=by rw [<-hend,List.length_append,hlb]; omega
   have hem:(endS r n).length % 64=0:=by rw [<-hend,List.length_append,hlb]; omega
   have hR8:=hO8.rd
   have hA8:blk A8≠some gt:=fun e=>by have:=(hO8.lt e).1; omega
   have hA8o:blk A8≠some go:=fun e=>by have:=(hO8.lt e).1; have:=ho3.lt; omega
   have ht8:=ht3.keep hg8 (by simp)
   have ho8:=ho3.keep hg8 (by simp)
   have hgr8:=qE hgr3 hg8
   have hz8:=hg8.size
   generalize endS r n=en at *
   clear hO7 hp7 hO8 hO6 hgr6 hp0 hg8 hg7
   repeat (first | refine zc ?_ | refine WC.block ?_ | refine zb ?_ | refine zd ?_ | refine za ?_ | refine zz ?_ | refine zf ?_ | refine zj ?_ | refine zi rfl (ze qD rfl) ?_)
   refine qh (S:=Nat × List Int) (fun s=>en.length - 64*s.1) (fun s=>[(7,vi (64*s.1:Nat)),(5,.slice A8 en.length c8),(3,.pointer (some ⟨gt,0,none⟩)),(2,.pointer (some ⟨go,0,none⟩))])
    (fun s w9=>64*s.1<=en.length/\s.2.length=8/\Bl w9 gt 196 (stc s.2 A c r n)/\j8 (en.length - s.1) s.2 (en.drop (64*s.1))=j8 en.length hs en/\w8.grownBy w9 (some gt))
    (0,hs) ⟨by simp,hh,ht8,by simp,qK _ _⟩ (by repeat (first | exact zR | refine zJ rfl ?_)) (fun ⟨i,h9⟩ w9 ⟨hi9,hh9,ht9,ha9,hg9⟩=>?_)
   simp only at hi9 hh9 ht9 ha9
   have hR9:=hR8.keep hg9 (fun q hq e=>by injection hq with hq; exact hA8 (by rw [e,hq]))
   repeat (first | refine zc ?_ | refine zb ?_ | refine zd ?_ | refine za ?_ | refine zi rfl (ze qD rfl) ?_)
   refine zk rfl (fun h=>?_) (fun h=>?_)
   ·simp only [decide_eq_true_eq] at h
    repeat (first | refine zc ?_ | refine WC.block ?_ | refine zb ?_ | refine za ?_ | refine zm ?_ | refine zi rfl (Yld.add rfl rfl (by simp only [In]; omega)) ?_ | refine zi rfl (ze qD rfl) ?_)
    refine WL.cut qD hR9 rfl rfl rfl rfl rfl rfl (by omega) (by omega) (by omega) (fun A10 c10 hR10 hA10=>?_)
    refine zr rfl rfl (mix_fn gt h9 _ A10 c10 _ w9 hh9 ht9 hR10 (by simp; omega)) ?_
    rintro _ w10 ⟨rfl,hB10,hg10⟩
    repeat (first | refine zb ?_ | refine zd ?_ | refine za ?_ | refine zg ?_ | refine zi rfl (Yld.add rfl rfl (by simp only [In]; omega)) ?_ | refine zi rfl (ze qD rfl) ?_)
    have ec1:(((64*i:Nat):Int)+64).toNat - ((64*i:Nat):Int).toNat=64:=by omega
    have ec2:((64*i:Nat):Int).toNat=64*i:=by omega
    simp only [ec1] at hB10
    simp only [ec2] at hB10
    have hd:64<=(en.drop (64*i)).length:=by rw [List.length_drop]; omega
    obtain ⟨q,hq⟩:∃ q,en.length - i=q+1:=⟨en.length - i - 1,by omega⟩
    refine qb (i+1,mixS h9 ((en.drop (64*i)).take 64)) ⟨by simp only; omega,by rw [mixS_len]; exact hh9,hB10,?_,qE hg9 hg10⟩ (by simp only; omega) ?_
    ·rw [<-ha9,hq,j8,if_pos hd,List.drop_drop]
     simp only
     rw [show en.length - (i+1)=q by omega,show 64*i+64=64*(i+1) by omega]
    ·refine zJ ?_ (by repeat (first | exact zR | refine zJ rfl ?_))
     show some (vi (((64*i:Nat):Int)+64))=some (vi ((64*(i+1):Nat):Int))
     rw [show ((64*i:Nat):Int)+64=((64*(i+1):Nat):Int) by omega]
   ·simp only [decide_eq_false_iff_not] at h
    have hnil:en.drop (64*i)=[]:=List.drop_eq_nil_of_le (by omega)
    have habs:∀ k,j8 k h9 []=(h9,[]):=fun k=>by
     cases k with
     | zero=>rfl
     | succ k=>rw [j8,if_neg (by simp)]
    have hfin:(j8 en.length hs en).1=h9:=by rw [<-ha9,hnil,habs]
    have hres:sumS hs r n=outAt h9 32:=by
     rw [sumS,<-hfin,<-hend,he7]
     rfl
    have ho9:=ho8.keep hg9 (fun e=>by injection e with e; have:=ho3.lt; omega)
    have hgr9:w.grownBy w9 none:=kM hgr8 hg9 (by omega)
    have hz9:=hg9.size
    clear hg9 hR9 hR8 ht8 ho8 hgr8
    repeat (first | refine zc ?_ | refine zb ?_ | refine za ?_ | refine zz ?_ | refine zf ?_ | refine zj ?_)
    refine WL.alloc rfl zero45 (fun gu w10 hu10 hg10 hlu=>?_)
    have ho10:=ho9.keep hg10 (by simp)
    have ht10:=ht9.keep hg10 (by simp)
    have hgr10:=qE hgr9 hg10
    have htlt:=ht10.lt
    have holt:=ho10.lt
    have holt9:=ho9.lt
    have htlt9:=ht9.lt
    repeat (first | refine zc ?_ | refine WC.block ?_ | refine zb ?_ | refine zd ?_ | refine za ?_ | refine zi rfl (ze qD rfl) ?_)
    refine qh (S:=Nat) (fun i=>32 - i) (fun i=>[(57,vi i),(8,.pointer (some ⟨gu,0,none⟩)),(3,.pointer (some ⟨gt,0,none⟩)),(2,.pointer (some ⟨go,0,none⟩))])
     (fun i w11=>i<=32/\Bl w11 gu 45 ((outAt h9 i).map vb)/\w10.grownBy w11 (some gu)) 0 ⟨by omega,by rw [outAt,List.map_replicate]; exact hu10,qK _ _⟩ (by repeat (first | exact zR | refine zJ rfl ?_)) (fun i w11 ⟨hi,hu11,hg11⟩=>?_)
    have hol:=outAt_len h9 i
    have ht11:=ht10.keep hg11 (fun e=>by injection e with e; omega)
    have ho11:=ho10.keep hg11 (fun e=>by injection e with e; omega)
    repeat (first | refine zc ?_ | refine zb ?_ | refine zd ?_ | refine za ?_ | refine zi rfl (ze qD rfl) ?_)
    refine zk rfl (fun h=>?_) (fun h=>?_)
    ·simp only [decide_eq_true_eq] at h
     have hv:(stc h9 A c r n)[0+0+((i:Int) / 4).toNat*1]? = some (vu (h9.getD (i / 4) 0)):=by
      have e:0+0+((i:Int) / 4).toNat*1=i / 4:=by omega
      rw [e,stc,List.getElem?_append_left (by rw [List.length_map]; omega)]
      simp [List.getD,show i / 4<h9.length by omega]
     repeat (first | refine zi rfl (Yld.aaddrN qD rfl rfl rfl (by omega)) ?_ | refine zi rfl (zZ qD rfl rfl rfl (by omega) (by omega)) ?_ | refine zi rfl (zt qD ht11 rfl rfl hv) ?_ | refine zi rfl (Yld.toB qD rfl rfl rfl) ?_ | refine zc ?_ | refine WC.block ?_ | refine zb ?_ | refine zd ?_ | refine za ?_ | refine zm ?_ | refine zi rfl (Yld.sub rfl rfl (by simp only [In]; omega)) ?_ | refine zi rfl (qg rfl rfl (by simp only [In]; omega)) ?_ | refine zi rfl (Yld.quo rfl rfl (by omega) (by omega) (by simp only [In]; omega)) ?_ | refine zi rfl (Yld.rem rfl rfl (by omega) (by omega)) ?_ | refine zi rfl (qd rfl rfl (by omega)) ?_ | refine zi rfl (ze qD rfl) ?_)
     refine zV one5 rfl rfl rfl hu11 (by rw [List.length_map]; omega) (fun w12 hu12 hg12=>?_)
     repeat (first | refine zb ?_ | refine zd ?_ | refine za ?_ | refine zg ?_ | refine zi rfl (Yld.add rfl rfl (by simp only [In]; omega)) ?_ | refine zi rfl (ze qD rfl) ?_)
     refine qb (i+1) ⟨by omega,?_,qE hg11 hg12⟩ (by omega) (by repeat (first | exact zR | refine zJ rfl ?_))
     rw [show 0+i*1=i by omega] at hu12
     rw [outAt,List.map_set]
     exact hu12
    ·simp only [decide_eq_false_iff_not] at h
     obtain rfl:i=32:=by omega
     repeat (first | refine zi rfl (zY (vs:=(outAt h9 32).map vb) qD hu11 rfl rfl (by rw [List.drop_zero,List.take_of_length_le]; simp [hol]) (by simp [hol])) ?_ | refine zc ?_ | refine zb ?_ | refine za ?_ | refine zz ?_ | refine zf ?_ | refine zj ?_)
     refine zH qD rfl rfl rfl (oneM One.b _) ho11 rfl (by simp [hol]) (fun w12 ho12 hg12=>?_)
     repeat (first | refine zd ?_ | refine za ?_ | refine zq ?_)
     refine z7 qD rfl rfl rfl ho12 (by simp [hol]) ⟨by rw [hres],?_⟩
     exact kM (kM hgr10 hg11 (by have:=hgr9.size; omega)) hg12 hlo
end
 section
open Go Go.RowKit
attribute [local irreducible] WL WC WX WQ WK Yld Eff Fn
def digs:List UInt8:=[48,49,50,51,52,53,54,55,56,57,97,98,99,100,101,102]
def hexB (b:UInt8):List UInt8:=[digs.getD (shrV .u8 (b.toNat:Int) 4).toNat 0,digs.getD (bits .and .u8 (b.toNat:Int) 15).toNat 0]
def hexS (l:List UInt8):List UInt8:=l.flatMap hexB
theorem shr_4 (b:UInt8):0<=shrV .u8 (b.toNat:Int) 4/\shrV .u8 (b.toNat:Int) 4<16:=by
 have:=b.toNat_lt
 have e:shrV .u8 (b.toNat:Int) 4=(b.toNat:Int) / 16:=by
  unfold shrV
  rw [Int.fdiv_eq_ediv_of_nonneg _ (by decide)]
  rfl
 rw [e]
 omega
theorem and_15 (b:UInt8):0<=bits .and .u8 (b.toNat:Int) 15/\bits .and .u8 (b.toNat:Int) 15<16:=by
 have:=b.toNat_lt
 have e:bits .and .u8 (b.toNat:Int) 15=(b.toNat:Int) % 16:=by
  show IntKind.u8.wrap ((BitVec.ofInt 8 (b.toNat:Int) &&& BitVec.ofInt 8 15).toNat:Int)=_
  rw [BitVec.toNat_and]
  have e:(BitVec.ofInt 8 15).toNat=2^4 - 1:=by decide
  rw [e,Nat.and_two_pow_sub_one_eq_mod,BitVec.toNat_ofInt,IntKind.wrap_u8]
  omega
 rw [e]
 omega
theorem hexS_len (l:List UInt8):(hexS l).length=2*l.length:=by
 unfold hexS
 induction l with
 | nil=>rfl
 | cons b l ih=>rw [List.flatMap_cons,List.length_append,ih]; simp [hexB]; omega
theorem hexS_take (l:List UInt8) (k:Nat) (h:k<l.length):hexS (l.take (k+1))=hexS (l.take k)++hexB (l.getD k 0):=by
 unfold hexS
 rw [List.take_succ_eq_append_getElem h,List.flatMap_append]
 simp [List.getD,h]
theorem text_fn (l:List UInt8) (w:World) (hl:l.length=32):Fn Tryz.prog 17 ⟨[.agg ⟨l.map vb⟩]⟩ w fun v w'=>v=.string ⟨⟨hexS l⟩⟩/\w.grownBy w' none:=by
 have hml:(l.map vb).length=32:=by rw [List.length_map]; exact hl
 refine Fn.enter (by kernel_rfl) Tryz.func17 rfl Tryz.ntmps17 rfl ?_
 repeat (first | refine zc ?_ | refine zb ?_)
 refine WL.box rfl rfl rfl (fun g w1 hB hg hlt=>?_)
 repeat (first | refine zc ?_ | refine zb ?_ | refine zd ?_ | refine za ?_ | refine zi rfl (ze qD rfl) ?_)
 refine zi rfl (zY (vs:=l.map vb) qD hB rfl rfl (by rw [List.drop_zero]; exact List.take_of_length_le (Nat.le_of_eq hml)) hml) ?_
 repeat (first | refine WC.block ?_ | refine zd ?_ | refine za ?_ | refine zi rfl (ze qD rfl) ?_)
 refine qh (S:=Nat × Option Addr × Nat) (fun s=>32 - s.1) (fun s=>[(7,vi s.1),(3,.slice s.2.1 (hexS (l.take s.1)).length s.2.2),(6,.agg ⟨l.map vb⟩)])
  (fun s w2=>s.1<=32/\Own vb w2 w.heap.size 5 s.2.1 s.2.2 (hexS (l.take s.1))/\w.grownBy w2 none) (0,none,0) ⟨by simp,Own.nil _ _ _ _,hg⟩ (by repeat (first | exact zR | refine zJ rfl ?_)) (fun ⟨i,A2,c2⟩ w2 ⟨hi,hO2,hg2⟩=>?_)
 simp only at hi hO2
 repeat (first | refine zc ?_ | refine zb ?_ | refine zd ?_ | refine za ?_ | refine zi rfl (ze qD rfl) ?_)
 refine zk rfl (fun h=>?_) (fun h=>?_)
 ·simp only [decide_eq_true_eq] at h
  have hlt:i<l.length:=by omega
  have hv:(l.map vb)[i]? = some (vb (l.getD i 0)):=by simp [List.getD,hlt]
  repeat (first | refine zi rfl (Yld.aidxN qD rfl rfl rfl rfl (by omega) hv) ?_ | refine zc ?_ | refine WC.block ?_ | refine zb ?_ | refine zd ?_ | refine za ?_ | refine zm ?_ | refine zi rfl (ze qD rfl) ?_)
  have h4:=shr_4 (l.getD i 0)
  have h15:=and_15 (l.getD i 0)
  refine WC.chain (fun k => !(Nat.beq k 7 || Nat.beq k 8)) (fun _=>True) mixed (by kernel_rfl) (fun _ _=>trivial) ?_
  repeat (first | refine WK.y rfl rfl (fun _ _=>qi qD rfl rfl rfl (by first | exact h4.1 | exact h15.1) (by first | exact h4.2 | exact h15.2)) ?_ | refine WK.y rfl rfl (fun _ _=>qd rfl rfl (by omega)) ?_ | refine WK.y rfl rfl (fun _ _=>ze qD rfl) ?_)
  refine WK.put rfl rfl (Eff.lit (us:=(hexB (l.getD i 0)).map vb) qD rfl rfl (oneM One.b _) rfl (by omega)) (fun _ _ _=>trivial) ?_
  rintro _ w3 ⟨rfl,hL3,hg3⟩
  have hR3:=Rd.ofBl hL3 (m:=2) (by simp [hexB]) (by simp [maxLen])
  have hxl:(hexS (l.take i)).length<=64:=by rw [hexS_len,List.length_take]; omega
  have hO3:=hO2.grown hg3
  refine WK.put rfl rfl (Eff.append qD rfl One.b hO3 rfl rfl hR3 rfl rfl (by simp [hexB]; omega) (by simp [maxLen,hexB]; omega) (by have:=hg2.size; have:=hg3.size; omega)) (fun _ _ _=>trivial) ?_
  rintro _ w4 ⟨A4,c4,rfl,hO4,hg4,hf4⟩
  repeat (refine WK.y rfl rfl (fun _ _=>ze qD rfl) ?_)
  refine WK.nil ?_
  repeat (first | refine zb ?_ | refine zd ?_ | refine za ?_ | refine zg ?_ | refine zi rfl (Yld.add rfl rfl (by simp only [In]; omega)) ?_ | refine zi rfl (ze qD rfl) ?_)
  rw [<-hexS_take l i hlt] at hO4 |-
  exact qb (i+1,A4,c4) ⟨by simp only; omega,hO4,gr_own (qE hg2 hg3) hO3 hg4 (Nat.le_refl _)⟩ (by simp only; omega) (by repeat (first | exact zR | refine zJ rfl ?_))
 ·simp only [decide_eq_false_iff_not] at h
  obtain rfl:i=32:=by omega
  rw [List.take_of_length_le (by omega)] at hO2
  repeat (first | refine zc ?_ | refine zb ?_ | refine za ?_ | refine zz ?_ | refine zf ?_ | refine zj ?_ | refine zi rfl (ze qD rfl) ?_)
  refine zi rfl (Yld.b2s qD hO2.rd rfl rfl rfl rfl (by rw [List.take_of_length_le]; omega)) ?_
  repeat (first | refine zd ?_ | refine za ?_ | refine zq ?_ | refine zi rfl (ze qD rfl) ?_)
  exact zx rfl rfl ⟨rfl,hg2⟩
def shaS (b:List UInt8):List UInt8:=sumS (wrS h0s [] b).1 (wrS h0s [] b).2 b.length
theorem wrS_len (hs:List Int) (r b:List UInt8):(wrS hs r b).2.length<64:=by
 have key:∀ (m:Nat) (hs:List Int) (al:List UInt8),al.length<=m->(j8 m hs al).2.length<64:=by
  intro m
  induction m with
  | zero=>intro hs al h; simp [j8]; omega
  | succ m ih =>
   intro hs al h
   rw [j8]
   split
   ·exact ih _ _ (by rw [List.length_drop]; omega)
   ·simp only; omega
 exact key _ hs (r++b) (Nat.le_refl _)
theorem of_fn (A:Option Addr) (c:Nat) (b:List UInt8) (w:World) (hR:Rd vb w A c b) (hb:b.length<=1000000):Fn Tryz.prog 96 ⟨[.slice A b.length c]⟩ w fun v w'=>v=.agg ⟨(shaS b).map vb⟩/\w.grownBy w' none:=by
 refine Fn.enter (by kernel_rfl) Tryz.func96 rfl Tryz.ntmps96 rfl ?_
 repeat (first | refine zc ?_ | refine zb ?_)
 refine WL.alloc rfl zero45 (fun go w1 ho1 hg1 hlo=>?_)
 repeat (first | refine zc ?_ | refine zb ?_ | refine zd ?_ | refine za ?_)
 refine zr rfl rfl (new_fn w1) ?_
 rintro _ w2 ⟨g,rfl,hB2,hg2,hlg⟩
 have hR2:=(hR.grown hg1).grown hg2
 have hz1:=hg1.size
 have hol:=ho1.lt
 have hA:b≠[]->blk A≠some g:=fun hb0 e=>by have:=hR.lt hb0 e; omega
 have hS2:St w2 g h0s [] 0:=⟨rfl,none,0,hB2,Rd.nil _ _ (by simp [maxLen]),by simp [blk]⟩
 repeat (first | refine zc ?_ | refine zb ?_ | refine zd ?_ | refine za ?_ | refine zi rfl (ze qD rfl) ?_)
 refine zr rfl rfl (write_fn g h0s [] 0 A c b w2 hS2 hR2 hA (by omega) (by omega) (by simp) hb) ?_
 rintro _ w3 ⟨rfl,hS3,hg3⟩
 repeat (first | refine zc ?_ | refine zb ?_ | refine zd ?_ | refine za ?_ | refine zi rfl (ze qD rfl) ?_)
 rw [Int.zero_add] at hS3
 refine zr rfl rfl (sum_fn g _ _ _ w3 hS3 (by omega) (by omega) (by have:=wrS_len h0s [] b; omega)) ?_
 rintro _ w4 ⟨rfl,hg4⟩
 have hgr3:w.grownBy w3 none:=kM (qE hg1 hg2) hg3 (by omega)
 have ho4:=((ho1.keep hg2 (by simp)).keep hg3 (fun e=>by injection e with e; omega)).keep hg4 (by simp)
 have hsl:=sumS_len (wrS h0s [] b).1 (wrS h0s [] b).2 b.length
 refine zH qD rfl rfl rfl (oneM One.b _) ho4 rfl (by rw [List.length_map]; exact hsl) (fun w5 ho5 hg5=>?_)
 repeat (first | refine zd ?_ | refine za ?_ | refine zq ?_)
 exact z7 qD rfl rfl rfl ho5 (by rw [List.length_map]; exact hsl) ⟨rfl,kM (qE hgr3 hg4) hg5 hlo⟩
def be4 (n:Nat):List UInt8:=[u8v (shrV .i64 (n:Int) 24),u8v (shrV .i64 (n:Int) 16),u8v (shrV .i64 (n:Int) 8),u8v (n:Int)]
def stepM (s:List Int × List UInt8 × Int) (x:List UInt8):List Int × List UInt8 × Int :=
 let a:=wrS s.1 s.2.1 (be4 x.length)
 let b:=wrS a.1 a.2 x
 (b.1,b.2,s.2.2+4+x.length)
def manyS (l:List (List UInt8)):List UInt8 :=
 let s:=l.foldl stepM (h0s,[],0)
 sumS s.1 s.2.1 s.2.2
theorem foldM_n (l:List (List UInt8)) (hl:∀ x∈l,x.length<=10000):∀ s:List Int × List UInt8 × Int,0<=s.2.2->0<=(l.foldl stepM s).2.2/\(l.foldl stepM s).2.2<=s.2.2+10004*l.length:=by
 induction l with
 | nil=>intro s h; simp; omega
 | cons x l ih =>
  intro s h
  have hx:=hl x (by simp)
  have:=ih (fun y hy=>hl y (by simp [hy])) (stepM s x) (by simp [stepM]; omega)
  simp only [List.foldl_cons,List.length_cons]
  have e:(stepM s x).2.2=s.2.2+4+x.length:=rfl
  rw [e] at this
  omega
theorem many_fn (A:Option Addr) (c:Nat) (l:List (List UInt8)) (w:World) (hR:Rd vs w A c l) (hl:l.length<=100) (hx:∀ x∈l,x.length<=10000):Fn Tryz.prog 97 ⟨[.slice A l.length c]⟩ w fun v w'=>v=.agg ⟨(manyS l).map vb⟩/\w.grownBy w' none:=by
 refine Fn.enter (by kernel_rfl) Tryz.func97 rfl Tryz.ntmps97 rfl ?_
 repeat (first | refine zc ?_ | refine zb ?_)
 refine WL.alloc rfl zero45 (fun go w1 ho1 hg1 hlo=>?_)
 repeat (first | refine zc ?_ | refine zb ?_ | refine zd ?_ | refine za ?_)
 refine zr rfl rfl (new_fn w1) ?_
 rintro _ w2 ⟨g,rfl,hB2,hg2,hlg⟩
 have hol:=ho1.lt
 have hz1:=hg1.size
 have ho2:=ho1.keep hg2 (by simp)
 have hS2:St w2 g h0s [] 0:=⟨rfl,none,0,hB2,Rd.nil _ _ (by simp [maxLen]),by simp [blk]⟩
 have hgr2:=qE hg1 hg2
 have hgl2:=hB2.lt
 repeat (first | refine zc ?_ | refine WC.block ?_ | refine zb ?_ | refine zd ?_ | refine za ?_ | refine zi rfl (ze qD rfl) ?_)
 refine qh (S:=Nat) (fun i=>l.length - i) (fun i=>[(10,vi i),(9,vi l.length),(8,.slice A l.length c),(3,.pointer (some ⟨g,0,none⟩)),(2,.pointer (some ⟨go,0,none⟩))])
  (fun i w3=>i<=l.length/\St w3 g ((l.take i).foldl stepM (h0s,[],0)).1 ((l.take i).foldl stepM (h0s,[],0)).2.1 ((l.take i).foldl stepM (h0s,[],0)).2.2/\((l.take i).foldl stepM (h0s,[],0)).2.1.length<64/\w2.grownBy w3 (some g)) 0 ⟨by omega,hS2,by simp,qK _ _⟩ (by repeat (first | exact zR | refine zJ rfl ?_)) (fun i w3 ⟨hi,hS3,hr3,hg3⟩=>?_)
 have hgr3:w.grownBy w3 none:=kM hgr2 hg3 (by omega)
 have hR3:=hR.grown hgr3
 have hz3:=hg3.size
 have hn3:=foldM_n (l.take i) (fun x hm=>hx x (List.mem_of_mem_take hm)) (h0s,[],0) (by simp)
 have htl:(l.take i).length<=100:=by rw [List.length_take]; omega
 simp only at hn3
 repeat (first | refine zc ?_ | refine zb ?_ | refine zd ?_ | refine za ?_ | refine zi rfl (ze qD rfl) ?_)
 refine zk rfl (fun h=>?_) (fun h=>?_)
 ·simp only [decide_eq_true_eq] at h
  have hlt:i<l.length:=by omega
  have hxl:(l.getD i []).length<=10000:=hx _ (by simp [List.getD,hlt])
  have hnext:(l.take (i+1)).foldl stepM (h0s,[],0)=stepM ((l.take i).foldl stepM (h0s,[],0)) (l.getD i []):=by
   rw [List.take_succ_eq_append_getElem hlt,List.foldl_append]
   simp [List.getD,hlt]
  repeat (first | refine zi rfl (qB qD hR3 rfl rfl rfl rfl (by omega)) ?_ | refine zi rfl (zo [] qD hR3 rfl rfl (by omega)) ?_ | refine zi rfl (Yld.toB qD rfl rfl rfl) ?_ | refine zc ?_ | refine WC.block ?_ | refine zb ?_ | refine zd ?_ | refine za ?_ | refine zm ?_ | refine zi rfl (qd rfl rfl (by omega)) ?_ | refine zi rfl (ze qD rfl) ?_)
  generalize (l.take i).foldl stepM (h0s,[],0)=s3 at *
  refine zP (us:=(be4 (l.getD i []).length).map vb) qD rfl rfl rfl (oneM One.b _) rfl (by omega) (fun gl w4 hL4 hg4 hl4=>?_)
  have hRl:Rd vb w4 (some ⟨gl,0,none⟩) 4 (be4 (l.getD i []).length):=Rd.ofBl hL4 (by simp [be4]) (by simp [maxLen])
  have hS4:St w4 g s3.1 s3.2.1 s3.2.2:=by
   obtain ⟨q1,A',c',q2,q3,q4⟩:=hS3
   exact ⟨q1,A',c',q2.keep hg4 (by simp),q3.grown hg4,q4⟩
  refine zr rfl rfl (write_fn g _ _ _ (some ⟨gl,0,none⟩) 4 _ w4 hS4 hRl (fun _ e=>by simp [blk] at e; omega) (by omega) (by omega) (by omega) (by simp [be4])) ?_
  rintro _ w5 ⟨rfl,hS5,hg5⟩
  have hr5:=wrS_len s3.1 s3.2.1 (be4 (l.getD i []).length)
  repeat (first | refine zb ?_ | refine zd ?_ | refine za ?_ | refine zi rfl (ze qD rfl) ?_)
  refine WL.s2b qD rfl rfl rfl rfl rfl (by unfold maxLen; omega) (fun A6 c6 w6 hR6 hg6 hf6=>?_)
  have hS6:St w6 g (wrS s3.1 s3.2.1 (be4 (l.getD i []).length)).1 (wrS s3.1 s3.2.1 (be4 (l.getD i []).length)).2 (s3.2.2+(be4 (l.getD i []).length).length):=by
   obtain ⟨q1,A',c',q2,q3,q4⟩:=hS5
   exact ⟨q1,A',c',q2.keep hg6 (by simp),q3.grown hg6,q4⟩
  have hbl:(be4 (l.getD i []).length).length=4:=rfl
  have hz4:=hg4.size
  have hz5:=hg5.size
  refine zr rfl rfl (write_fn g _ _ _ A6 c6 _ w6 hS6 hR6 (fun _ e=>by have:=hf6 _ e; omega) (by omega) (by omega) (by omega) (by omega)) ?_
  rintro _ w7 ⟨rfl,hS7,hg7⟩
  repeat (first | refine zb ?_ | refine zd ?_ | refine za ?_ | refine zg ?_ | refine zi rfl (Yld.add rfl rfl (by simp only [In]; omega)) ?_ | refine zi rfl (ze qD rfl) ?_)
  refine qb (i+1) ⟨by omega,?_,?_,?_⟩ (by omega) (by repeat (first | exact zR | refine zJ rfl ?_))
  ·rw [hnext]
   rw [hbl] at hS7
   exact hS7
  ·rw [hnext]; exact wrS_len _ _ _
  ·exact qE (qE (qE (qE hg3 (gr_some hg4 _)) hg5) (gr_some hg6 _)) hg7
 ·simp only [decide_eq_false_iff_not] at h
  obtain rfl:i=l.length:=by omega
  rw [List.take_of_length_le (Nat.le_refl _)] at *
  repeat (first | refine zc ?_ | refine zb ?_ | refine za ?_ | refine zz ?_ | refine zf ?_ | refine zj ?_ | refine zi rfl (ze qD rfl) ?_)
  refine zr rfl rfl (sum_fn g _ _ _ w3 hS3 (by omega) (by omega) (by omega)) ?_
  rintro _ w4 ⟨rfl,hg4⟩
  have ho4:=(ho2.keep hg3 (fun e=>by injection e with e; omega)).keep hg4 (by simp)
  have hsl:(manyS l).length=32:=sumS_len _ _ _
  refine zH (vs:=(manyS l).map vb) qD rfl rfl rfl (oneM One.b _) ho4 rfl (by rw [List.length_map]; exact hsl) (fun w5 ho5 hg5=>?_)
  repeat (first | refine zd ?_ | refine za ?_ | refine zq ?_)
  exact z7 qD rfl rfl rfl ho5 (by rw [List.length_map]; exact hsl) ⟨rfl,kM (qE hgr3 hg4) hg5 hlo⟩
end
 section
open Go Go.RowKit
attribute [local irreducible] WL WC WX WQ WK Yld Eff Fn
theorem shaS_len (b:List UInt8):(shaS b).length=32:=sumS_len _ _ _
theorem manyS_len (l:List (List UInt8)):(manyS l).length=32:=sumS_len _ _ _
def D (hs:List Int) (all:List UInt8):List Int × List UInt8:=j8 all.length hs all
theorem absorb_fuel (hs:List Int) (all:List UInt8):∀ m,all.length<=m->j8 m hs all=D hs all:=by
 intro m
 induction m with
 | zero=>intro h; unfold D; rw [Nat.le_zero.mp h]
 | succ m ih =>
  intro h
  rcases Nat.lt_or_ge m all.length with h1 | h1
  ·unfold D; rw [show all.length=m+1 by omega]
  ·rw [absorb_more m hs all h1]; exact ih h1
theorem D_step (hs:List Int) (all:List UInt8):D hs all=if 64<=all.length then D (mixS hs (all.take 64)) (all.drop 64) else (hs,all):=by
 have e:=absorb_fuel hs all (all.length+1) (by omega)
 rw [<-e,j8]
 split
 ·exact absorb_fuel _ _ _ (by rw [List.length_drop]; omega)
 ·rfl
theorem D_app (y:List UInt8):∀ (n:Nat) (hs:List Int) (x:List UInt8),x.length<=n->D hs (x++y)=D (D hs x).1 ((D hs x).2++y)
 | 0,hs,x,h=>by
  have:x=[]:=List.length_eq_zero_iff.mp (by omega)
  subst this
  rfl
 | n+1,hs,x,h=>by
  rcases Nat.lt_or_ge x.length 64 with h1 | h1
  ·rw [D_step hs x,if_neg (by omega)]
  ·rw [D_step hs (x++y),if_pos (by rw [List.length_append]; omega),D_step hs x,if_pos h1,List.take_append_of_le_length h1,List.drop_append_of_le_length h1]
   exact D_app y n _ _ (by rw [List.length_drop]; omega)
theorem wrS_app (hs:List Int) (r a b:List UInt8):wrS hs r (a++b)=wrS (wrS hs r a).1 (wrS hs r a).2 b:=by
 show D hs (r++(a++b))=D (D hs (r++a)).1 ((D hs (r++a)).2++b)
 rw [<-List.append_assoc]
 exact D_app b _ hs (r++a) (Nat.le_refl _)
theorem wrS_nil (hs:List Int) (r:List UInt8) (h:r.length<64):wrS hs r []=(hs,r):=by
 show D hs (r++[])=_
 rw [List.append_nil,D_step,if_neg (by omega)]
def catM (l:List (List UInt8)):List UInt8:=l.flatMap fun x=>be4 x.length++x
theorem catM_app (a b:List (List UInt8)):catM (a++b)=catM a++catM b:=by simp [catM]
theorem fold_catM:∀ (l:List (List UInt8)) (hs:List Int) (r:List UInt8) (n:Int),r.length<64->l.foldl stepM (hs,r,n)=((wrS hs r (catM l)).1,(wrS hs r (catM l)).2,n+(catM l).length)
 | [],hs,r,n,h=>by simp [catM,wrS_nil hs r h]
 | x :: l,hs,r,n,h=>by
  rw [List.foldl_cons]
  show l.foldl stepM ((wrS (wrS hs r (be4 x.length)).1 (wrS hs r (be4 x.length)).2 x).1,(wrS (wrS hs r (be4 x.length)).1 (wrS hs r (be4 x.length)).2 x).2,n+4+x.length)=_
  rw [fold_catM l _ _ _ (wrS_len _ _ _),<-wrS_app,<-wrS_app]
  have e:catM (x :: l)=be4 x.length++x++catM l:=rfl
  have hb:(be4 x.length).length=4:=rfl
  rw [e,List.length_append,List.length_append,hb]
  congr 2
  omega
theorem manyS_eq (l:List (List UInt8)):manyS l=shaS (catM l):=by
 unfold manyS shaS
 rw [fold_catM l h0s [] 0 (by simp)]
 simp
theorem catM_take (l:List (List UInt8)) (i:Nat) (h:i<l.length):catM (l.take (i+1))=catM (l.take i)++(be4 (l.getD i []).length++l.getD i []):=by
 rw [List.take_succ_eq_append_getElem h,catM_app]
 simp [catM,List.getD,h]
end
 
section
open Go Go.RowKit
def M_sha_Of (b:List UInt8) (K:List UInt8->Prop):Prop:=b.length<=1000000/\K (shaS b)
theorem W_sha_Of {w:World} {b:List UInt8} {A:Option Addr} {c n:Nat} {K:List UInt8->Prop} (hR:Rd vb w A c b) (hn:n=b.length) (H:M_sha_Of b K):Fn Tryz.prog 96 ⟨[.slice A n c]⟩ w (fun v w'=>w.grownBy w' none/\∃ r:List UInt8,v=.agg ⟨a32 r⟩/\K r):=by
 subst hn
 exact (of_fn A c b w hR H.1).mono fun v w' ⟨hv,hg⟩=>⟨hg,shaS b,by rw [hv,a32_map _ (shaS_len b)],H.2⟩
def M_sha_Many (l:List (List UInt8)) (K:List UInt8->Prop):Prop:=l.length<=100/\(∀ x∈l,x.length<=10000)/\K (manyS l)
theorem W_sha_Many {w:World} {l:List (List UInt8)} {A:Option Addr} {c n:Nat} {K:List UInt8->Prop} (hR:Rd vs w A c l) (hn:n=l.length) (H:M_sha_Many l K):Fn Tryz.prog 97 ⟨[.slice A n c]⟩ w (fun v w'=>w.grownBy w' none/\∃ r:List UInt8,v=.agg ⟨a32 r⟩/\K r):=by
 subst hn
 exact (many_fn A c l w hR H.1 H.2.1).mono fun v w' ⟨hv,hg⟩=>⟨hg,manyS l,by rw [hv,a32_map _ (manyS_len l)],H.2.2⟩
def M_sha_Text (s:List UInt8) (K:List UInt8->Prop):Prop:=∀ t:List UInt8,t.length=32->(∀ i,i<32->t.getD i 0=s.getD i 0)->K (hexS t)
theorem W_sha_Text {w:World} {s:List UInt8} {K:List UInt8->Prop} (H:M_sha_Text s K):Fn Tryz.prog 17 ⟨[.agg ⟨a32 s⟩]⟩ w (fun v w'=>w.grownBy w' none/\∃ r:List UInt8,v=vs r/\K r):=by
 have hl:((List.range 32).map fun i=>s.getD i 0).length=32:=by simp
 have e:a32 s=((List.range 32).map fun i=>s.getD i 0).map vb:=by rw [a32_range,List.map_map]; rfl
 rw [e]
 exact (text_fn _ w hl).mono fun v w' ⟨hv,hg⟩=>⟨hg,_,hv,H _ hl fun i hi=>by simp [List.getD,hi]⟩
def Zc (n:Int) (K:List UInt8->Prop):Prop:=In .i64 n/\K (Lib.itoa n)
theorem W_strconv_Itoa {S:List Nat} {w:World} {n:Int} {K:List UInt8->Prop} (hG:GOK S w) (h101:101∈S) (H:Zc n K):Fn Tryz.prog 102 ⟨[.int .i64 n]⟩ w (fun v w'=>w.grownBy w' none/\∃ r:List UInt8,v=vs r/\K r):=by
 have hin:=H.1
 simp only [In] at hin
 refine ⟨by kernel_rfl,fun w1 e=>(Tryz.strconv_Itoa n (by omega) (by omega) w1 ?_).mono fun _ w' ⟨he,k,os,hw⟩=>⟨_,w',he,Eqv.refl _,?_,Lib.itoa n,rfl,H.2⟩⟩
 ·have:=hG.p10 h101
  unfold Lib.TabIs World.var? at this |-
  rw [e.heap]
  exact this
 ·rw [hw]
  exact jz e ⟨rfl,rfl,rfl,by show w1.heap.size<=(w1.heap++os).size; rw [Array.size_append]; omega,fun g hg _=>by show (w1.heap++os)[g]? = _; exact Array.getElem?_append_left hg⟩
end
 end Go.Proofs.YtjobklaengaamaaGreatDoor
