/- Texts of this claim, joined by a program: GGr, GrP, GrQ, GrT, PlP, GrR, GrS, GrU, Lin, ToolP, ToolQ, ToolR, KeyD, PlM, PlR. -/
import Derived.Test.YtjobklaengaamaaGreatDoorJ4
import Derived.Lib.SplitLaws
import Derived.Lib.Strings
import Derived.Lib.Replace
import Derived.Lib.CountLaws
import Derived.Lib.IndexMore
import Derived.Lib.ItoaLen
namespace Go.Proofs.YtjobklaengaamaaGreatDoor

section
open Go Go.RowKit
attribute [local irreducible] WL WC WX WQ WK WJ Yld Eff Ef0 Fn
def jy (l:List Int) (n:Int) (K:Bool->Prop):Prop :=
 (l.length<=maxLen ->
 Lp1 (fun (i:Int) kont1=>((i<(l.length:Int)->(0<=i/\i<(l.length:Nat)) /\
 (((l.getD i.toNat 0)=n->K true) /\
 (¬ ((l.getD i.toNat 0)=n)->(In .i64 (i+(1:Int))) /\
 kont1 (i+(1:Int))))) /\
 (¬ (i<(l.length:Int))->K false))) (0:Int))
def kK (l:List Int) (K:(List Int)->Prop):Prop :=
 (l.length<=maxLen ->
 Lp2 (fun (out:List Int) (i:Int) kont1=>((i<(l.length:Int)->∃ J1:(List Int)->Prop,(Lp1 (fun (k:Int) kont2=>((decide (k<(out.length:Int)))=true->(0<=k/\k<(out.length:Nat))) /\
 ((decide (k<(out.length:Int)))=true->(0<=i/\i<(l.length:Nat))) /\
 ((((decide (k<(out.length:Int))) && (decide ((out.getD k.toNat 0)<(l.getD i.toNat 0))))=true->(In .i64 (k+(1:Int))) /\
 kont2 (k+(1:Int))) /\
 (((decide (k<(out.length:Int))) && (decide ((out.getD k.toNat 0)<(l.getD i.toNat 0))))=false->((decide (k<(out.length:Int)))=true->(0<=k/\k<(out.length:Nat))) /\
 ((decide (k<(out.length:Int)))=true->(0<=i/\i<(l.length:Nat))) /\
 ((((decide (k<(out.length:Int))) && (decide ((out.getD k.toNat 0)=(l.getD i.toNat 0))))=true->J1 out) /\
 (((decide (k<(out.length:Int))) && (decide ((out.getD k.toNat 0)=(l.getD i.toNat 0))))=false->(In .i64 ((out.length:Int)+(1:Int))) /\
 (0<=(out.length:Int)+(1:Int)/\((out.length:Int)+(1:Int))*8<=140737488355328/\(out.length:Int)+(1:Int)<=140737488355328) /\
 (0<=k/\k<=(out.length:Nat)) /\
 (((([]:List Int)).length+(out.take k.toNat).length)*8<=140737488355328) /\
 (0<=i/\i<(l.length:Nat)) /\
 (((([]:List Int)++(out.take k.toNat)).length+(([l.getD i.toNat 0]:List Int)).length)*8<=140737488355328) /\
 (0<=k/\k<=(out.length:Int)/\(out.length:Int)<=(out.length:Nat)) /\
 ((((([]:List Int)++(out.take k.toNat))++([l.getD i.toNat 0]:List Int)).length+(out.drop k.toNat).length)*8<=140737488355328) /\
 J1 (((([]:List Int)++(out.take k.toNat))++([l.getD i.toNat 0]:List Int))++(out.drop k.toNat))))))) (0:Int)) /\
 (∀ out2:List Int,J1 out2->(In .i64 (i+(1:Int))) /\
 kont1 out2 (i+(1:Int)))) /\
 (¬ (i<(l.length:Int))->K out))) [] (0:Int))
def kJ (a_Tool:Int) (a_Args:List (List UInt8)) (a_Inputs:List (List UInt8)) (a_Output:List UInt8) (K:Int->(List (List UInt8))->(List (List UInt8))->(List UInt8)->Prop):Prop :=
 (a_Args.length<=maxLen ->
 (a_Inputs.length<=maxLen ->
 kq a_Args (fun (t7:List (List UInt8)) =>
 kq a_Inputs (fun (t10:List (List UInt8)) =>
 K a_Tool t7 t10 a_Output))))
def kA (a:List (Int × List (List UInt8) × List (List UInt8) × List UInt8)) (K:(List (Int × List (List UInt8) × List (List UInt8) × List UInt8))->Prop):Prop :=
 (a.length<=maxLen ->
 (0<=(a.length:Int)/\(a.length:Int)*72<=140737488355328/\(a.length:Int)<=140737488355328) /\
 Lp2 (fun (out:List (Int × List (List UInt8) × List (List UInt8) × List UInt8)) (i:Int) kont1=>((i<(a.length:Int)->(0<=i/\i<(a.length:Nat)) /\
 kJ ((a.getD i.toNat (0,[],[],[])).1) ((a.getD i.toNat (0,[],[],[])).2.1) ((a.getD i.toNat (0,[],[],[])).2.2.1) ((a.getD i.toNat (0,[],[],[])).2.2.2) (fun (a3:Int) (a2:List (List UInt8)) (a0:List (List UInt8)) (a1:List UInt8) =>
 ((out.length+(([(a3,a2,a0,a1)]:List (Int × List (List UInt8) × List (List UInt8) × List UInt8))).length)*72<=140737488355328) /\
 (In .i64 (i+(1:Int))) /\
 kont1 (out++([(a3,a2,a0,a1)]:List (Int × List (List UInt8) × List (List UInt8) × List UInt8))) (i+(1:Int)))) /\
 (¬ (i<(a.length:Int))->K out))) ([]:List (Int × List (List UInt8) × List (List UInt8) × List UInt8)) (0:Int))
def qZ (g_L:List (Int × List (List UInt8) × List (List UInt8) × List UInt8)) (p:List UInt8) (K:Int->Prop):Prop :=
 (g_L.length<=maxLen ->
 Lp1 (fun (i:Int) kont1=>((i<(g_L.length:Int)->(0<=i/\i<(g_L.length:Nat)) /\
 ((((g_L.getD i.toNat (0,[],[],[])).2.2.2)=p->K i) /\
 (¬ (((g_L.getD i.toNat (0,[],[],[])).2.2.2)=p)->(In .i64 (i+(1:Int))) /\
 kont1 (i+(1:Int))))) /\
 (¬ (i<(g_L.length:Int))->K (-1:Int)))) (0:Int))
def qU (g_L:List (Int × List (List UInt8) × List (List UInt8) × List UInt8)) (i:Int) (K:(List Int)->Prop):Prop :=
 (g_L.length<=maxLen ->
 ((((decide (i<(0:Int))) || (decide ((g_L.length:Int)<=i)))=true->K []) /\
 (((decide (i<(0:Int))) || (decide ((g_L.length:Int)<=i)))=false->Lp2 (fun (l:List Int) (k:Int) kont1=>(0<=i/\i<(g_L.length:Nat)) /\
 ((k<(((g_L.getD i.toNat (0,[],[],[])).2.2.1).length:Int)->∃ J1:(List Int)->Prop,((0<=i/\i<(g_L.length:Nat)) /\
 (0<=k/\k<(((g_L.getD i.toNat (0,[],[],[])).2.2.1).length:Nat)) /\
 qZ g_L (((g_L.getD i.toNat (0,[],[],[])).2.2.1).getD k.toNat []) (fun (m:Int) =>
 (((0:Int)<=m->((l.length+(([m]:List Int)).length)*8<=140737488355328) /\
 J1 (l++([m]:List Int))) /\
 (¬ ((0:Int)<=m)->J1 l)))) /\
 (∀ l2:List Int,J1 l2->(In .i64 (k+(1:Int))) /\
 kont1 l2 (k+(1:Int)))) /\
 (¬ (k<(((g_L.getD i.toNat (0,[],[],[])).2.2.1).length:Int))->kK l (fun (t4:List Int) =>
 K t4)))) [] (0:Int))))
def ju (g_L:List (Int × List (List UInt8) × List (List UInt8) × List UInt8)) (l:List Int) (K:(List Int)->Prop):Prop :=
 (g_L.length<=maxLen ->
 (l.length<=maxLen ->
 (0<=(g_L.length:Int)/\(g_L.length:Int)*1<=140737488355328/\(g_L.length:Int)<=140737488355328) /\
 Lp2 (fun (l2:List Int) (seen:List Bool) kont1=>(g_L.length:Int).toNat=seen.length->(((0:Int)<(l2.length:Int)->(In .i64 ((l2.length:Int) - (1:Int))) /\
 (0<=(l2.length:Int) - (1:Int)/\(l2.length:Int) - (1:Int)<(l2.length:Nat)) /\
 (In .i64 ((l2.length:Int) - (1:Int))) /\
 (0<=(l2.length:Int) - (1:Int)/\(l2.length:Int) - (1:Int)<=(l2.length:Nat)) /\
 (0<=l2.getD (((l2.length:Int) - (1:Int)).toNat) 0/\l2.getD (((l2.length:Int) - (1:Int)).toNat) 0<((g_L.length:Int).toNat:Nat)) /\
 (((seen.getD ((l2.getD (((l2.length:Int) - (1:Int)).toNat) 0).toNat) false)=true->kont1 (l2.take ((l2.length:Int) - (1:Int)).toNat) seen) /\
 ((seen.getD ((l2.getD (((l2.length:Int) - (1:Int)).toNat) 0).toNat) false)=false->(0<=l2.getD (((l2.length:Int) - (1:Int)).toNat) 0/\l2.getD (((l2.length:Int) - (1:Int)).toNat) 0<((g_L.length:Int).toNat:Nat)) /\
 qU g_L (l2.getD (((l2.length:Int) - (1:Int)).toNat) 0) (fun (t39:List Int) =>
 (((l2.take ((l2.length:Int) - (1:Int)).toNat).length+t39.length)*8<=140737488355328) /\
 kont1 ((l2.take ((l2.length:Int) - (1:Int)).toNat)++t39) (seen.set ((l2.getD (((l2.length:Int) - (1:Int)).toNat) 0).toNat) true))))) /\
 (¬ ((0:Int)<(l2.length:Int))->Lp2 (fun (out:List Int) (i:Int) kont2=>((i<((g_L.length:Int).toNat:Int)->∃ J1:(List Int)->Prop,((0<=i/\i<((g_L.length:Int).toNat:Nat)) /\
 (((seen.getD i.toNat false)=true->((out.length+(([i]:List Int)).length)*8<=140737488355328) /\
 J1 (out++([i]:List Int))) /\
 ((seen.getD i.toNat false)=false->J1 out))) /\
 (∀ out2:List Int,J1 out2->(In .i64 (i+(1:Int))) /\
 kont2 out2 (i+(1:Int)))) /\
 (¬ (i<((g_L.length:Int).toNat:Int))->K out))) [] (0:Int)))) l (List.replicate (g_L.length:Int).toNat false)))
def jt (g_L:List (Int × List (List UInt8) × List (List UInt8) × List UInt8)) (K:(List Int)->Prop):Prop :=
 (g_L.length<=maxLen ->
 Lp1 (fun (out:List Int) kont1=>(((out.length:Int)<(g_L.length:Int)->Lp2 (fun (best:Int) (i:Int) kont2=>((((decide (i<(g_L.length:Int))) && (decide (best<(0:Int))))=true->∃ J1:Int->Prop,(jy out i (fun (t32:Bool) =>
 ((t32=true->J1 best) /\
 (t32=false->qU g_L i (fun (b:List Int) =>
 Lp2 (fun (free:Bool) (k:Int) kont3=>((k<(b.length:Int)->∃ J2:Bool->Prop,(((free=true->(0<=k/\k<(b.length:Nat)) /\
 jy out (b.getD k.toNat 0) (fun (t49:Bool) =>
 J2 t49)) /\
 (free=false->J2 false))) /\
 (∀ q2:Bool,J2 q2->(In .i64 (k+(1:Int))) /\
 kont3 q2 (k+(1:Int)))) /\
 (¬ (k<(b.length:Int))->((free=true->J1 i) /\
 (free=false->J1 best))))) true (0:Int)))))) /\
 (∀ best2:Int,J1 best2->(In .i64 (i+(1:Int))) /\
 kont2 best2 (i+(1:Int)))) /\
 (((decide (i<(g_L.length:Int))) && (decide (best<(0:Int))))=false->((best<(0:Int)->K out) /\
 (¬ (best<(0:Int))->((out.length+(([best]:List Int)).length)*8<=140737488355328) /\
 kont1 (out++([best]:List Int))))))) (-1:Int) (0:Int)) /\
 (¬ ((out.length:Int)<(g_L.length:Int))->K out))) [])
def jx (l:List (Int × List (List UInt8) × List (List UInt8) × List UInt8)) (K0:Int->Bool->Int->Bool->(List UInt8)->Prop) (K:(List (Int × List (List UInt8) × List (List UInt8) × List UInt8))->Int->Bool->Int->Bool->(List UInt8)->Prop):Prop :=
 (l.length<=maxLen ->
 (((1000:Int)<(l.length:Int)->Zj (110:Int) (fun (g8:Int) (d5:Bool) (l0:Int) (e7:Bool) (g9:List UInt8) =>
 K0 g8 d5 l0 e7 g9)) /\
 (¬ ((1000:Int)<(l.length:Int))->Lp6 (fun (i:Int) (t30:Int) (t31:Bool) (t32:Int) (t33:Bool) (t34:List UInt8) kont1=>((i<(l.length:Int)->(0<=i/\i<(l.length:Nat)) /\
 ((decide ((1000:Int)<(((l.getD i.toNat (0,[],[],[])).2.2.1).length:Int)))=false->(0<=i/\i<(l.length:Nat))) /\
 ((((decide ((1000:Int)<(((l.getD i.toNat (0,[],[],[])).2.2.1).length:Int))) || (decide ((1000:Int)<(((l.getD i.toNat (0,[],[],[])).2.1).length:Int))))=true->Zj (110:Int) (fun (h0:Int) (d6:Bool) (l1:Int) (e8:Bool) (i0:List UInt8) =>
 K0 h0 d6 l1 e8 i0)) /\
 (((decide ((1000:Int)<(((l.getD i.toNat (0,[],[],[])).2.2.1).length:Int))) || (decide ((1000:Int)<(((l.getD i.toNat (0,[],[],[])).2.1).length:Int))))=false->(In .i64 (i+(1:Int))) /\
 kont1 (i+(1:Int)) t30 t31 t32 t33 t34))) /\
 (¬ (i<(l.length:Int))->Lp6 (fun (i2:Int) (t302:Int) (t312:Bool) (t322:Int) (t332:Bool) (t342:List UInt8) kont2=>((i2<(l.length:Int)->(0<=i2/\i2<(l.length:Nat)) /\
 ((((decide (((l.getD i2.toNat (0,[],[],[])).1)<(1:Int))) || (decide ((5:Int)<((l.getD i2.toNat (0,[],[],[])).1))))=true->jm (111:Int) i2 (fun (i1:Int) (d7:Bool) (l3:Int) (e9:Bool) (i4:List UInt8) =>
 K0 i1 d7 l3 e9 i4)) /\
 (((decide (((l.getD i2.toNat (0,[],[],[])).1)<(1:Int))) || (decide ((5:Int)<((l.getD i2.toNat (0,[],[],[])).1))))=false->j5 ((l.getD i2.toNat (0,[],[],[])).2.2.2) (fun (good:Bool) =>
 Lp2 (fun (good2:Bool) (k:Int) kont3=>((k<(((l.getD i2.toNat (0,[],[],[])).2.2.1).length:Int)->∃ J1:Bool->Prop,(((good2=true->(0<=k/\k<(((l.getD i2.toNat (0,[],[],[])).2.2.1).length:Nat)) /\
 j5 (((l.getD i2.toNat (0,[],[],[])).2.2.1).getD k.toNat []) (fun (t76:Bool) =>
 J1 t76)) /\
 (good2=false->J1 false))) /\
 (∀ q3:Bool,J1 q3->(In .i64 (k+(1:Int))) /\
 kont3 q3 (k+(1:Int)))) /\
 (¬ (k<(((l.getD i2.toNat (0,[],[],[])).2.2.1).length:Int))->(((!good2)=true->jm (112:Int) i2 (fun (i5:Int) (d8:Bool) (l4:Int) (f0:Bool) (i6:List UInt8) =>
 K0 i5 d8 l4 f0 i6)) /\
 ((!good2)=false->Lp6 (fun (k_2:Int) (t303:Int) (t313:Bool) (t323:Int) (t333:Bool) (t343:List UInt8) kont4=>((k_2<i2->(0<=k_2/\k_2<(l.length:Nat)) /\
 ((((l.getD k_2.toNat (0,[],[],[])).2.2.2)=((l.getD i2.toNat (0,[],[],[])).2.2.2)->jm (107:Int) i2 (fun (i7:Int) (d9:Bool) (l5:Int) (f7:Bool) (i8:List UInt8) =>
 K0 i7 d9 l5 f7 i8)) /\
 (¬ (((l.getD k_2.toNat (0,[],[],[])).2.2.2)=((l.getD i2.toNat (0,[],[],[])).2.2.2))->(In .i64 (k_2+(1:Int))) /\
 kont4 (k_2+(1:Int)) t303 t313 t323 t333 t343))) /\
 (¬ (k_2<i2)->(In .i64 (i2+(1:Int))) /\
 kont2 (i2+(1:Int)) t303 t313 t323 t333 t343))) (0:Int) t302 t312 t322 t332 t342))))) good (0:Int))))) /\
 (¬ (i2<(l.length:Int))->kA l (fun (t98:List (Int × List (List UInt8) × List (List UInt8) × List UInt8)) =>
 Lp6 (fun (i3:Int) (t304:Int) (t314:Bool) (t324:Int) (t334:Bool) (t344:List UInt8) kont5=>((i3<(l.length:Int)->qU t98 i3 (fun (t110:List Int) =>
 ju t98 t110 (fun (t111:List Int) =>
 jy t111 i3 (fun (t113:Bool) =>
 ((t113=true->jm (105:Int) i3 (fun (e3:Int) (c9:Bool) (g6:Int) (d3:Bool) (e4:List UInt8) =>
 K0 e3 c9 g6 d3 e4)) /\
 (t113=false->(In .i64 (i3+(1:Int))) /\
 kont5 (i3+(1:Int)) t304 t314 t324 t334 t344)))))) /\
 (¬ (i3<(l.length:Int))->Zk (fun (e5:Int) (d0:Bool) (g7:Int) (d4:Bool) (e6:List UInt8) =>
 K t98 e5 d0 g7 d4 e6)))) (0:Int) t302 t312 t322 t332 t342)))) (0:Int) t30 t31 t32 t33 t34))) (0:Int) (0:Int) false (0:Int) false ([]:List UInt8))))
set_option maxHeartbeats 8000000 in
theorem kY {w:World} {l:List Int} {A_l:Option Addr} {c_l:Nat} {n:Int} {n_l:Nat} {K:Bool->Prop} (hl:Rd vi w A_l c_l l) (o9:n_l=l.length) (H:jy l n K):Fn Tryz.prog 12 ⟨[.slice A_l n_l c_l,.int .i64 n]⟩ w (fun v w'=>w=w'/\∃ (r:Bool),v=.bool r/\K r):=by
 subst o9
 unfold jy at H
 refine Fn.enter (by kernel_rfl) Tryz.func12 rfl Tryz.ntmps12 rfl ?_
 replace H:=H (Nat.le_trans hl.cap hl.max)
 refine zc (zb (yp (h:=(zd (za (zc (zc (zb (yp (h:=(zd (za (WC.block ?_)))))))))))))
 obtain ⟨I1,mu1,c5,HR1⟩:=H
 refine zA (fun n' L' w'=>∃ (i:Int),n'=mu1 i/\L'=[(0,.slice A_l l.length c_l),(1,.int .i64 n),(5,.int .i64 i)]/\I1 i/\w=w') _ _ ⟨(0:Int),rfl,rfl,c5,rfl⟩ sb ?_
 clear c5
 rintro _ _ _ ⟨i,rfl,rfl,hI1,rfl⟩
 have H:=HR1 i hI1
 refine zc (zc (zb (yp (h:=(yp (h:=(yp (h:=(yp (h:=(zd (za (zk rfl (fun b1=>?_) (fun b1=>?_))))))))))))))
 ·replace H:=H.1 (of_decide_eq_true b1)
  refine zm (za (zc (WC.block (zc (zb (yp (h:=(yp (h:=?_)))))))))
  obtain ⟨h1,H⟩:=H
  refine zi rfl (zn qD hl rfl rfl rfl rfl h1.1 h1.2) (zi rfl (zo 0 qD hl rfl rfl (iltN h1 rfl)) (yp (h:=(yp (h:=(zd (za (zk rfl (fun b2=>?_) (fun b2=>?_)))))))))
  ·replace H:=H.1 (of_decide_eq_true b2)
   exact zc (zb (yp (h:=(zd (za (zq (zp (zh (zh (zp (zh (zx rfl rfl ⟨rfl,true,rfl,H⟩))))))))))))
  ·replace H:=H.2 (of_decide_eq_false b2)
   refine zm (zg (za (zb (yp (h:=?_)))))
   obtain ⟨h2,H⟩:=H
   exact zi rfl (Yld.add rfl rfl h2) (yp (h:=(zd (zw _ ⟨i+(1:Int),rfl,rfl,H.1,rfl⟩ sb H.2))))
 ·replace H:=H.2 (of_decide_eq_false b1)
  exact zz (zf (zf (zj (za (zc (zb (yp (h:=(zd (za (zq (zx rfl rfl ⟨rfl,false,rfl,H⟩))))))))))))
set_option maxHeartbeats 8000000 in
theorem W_smithyref_Sorted {w:World} {l:List Int} {A_l:Option Addr} {c_l:Nat} {n_l:Nat} {K:(List Int)->Prop} (hl:Rd vi w A_l c_l l) (o9:n_l=l.length) (H:kK l K):Fn Tryz.prog 65 ⟨[.slice A_l n_l c_l]⟩ w (fun v w'=>w.grownBy w' none/\∃ (r:List Int),∃ (A_r:Option Addr),∃ (c_r:Nat),v=.slice A_r r.length c_r/\Own vi w' w.heap.size 3 A_r c_r r/\K r):=by
 subst o9
 unfold kK at H
 refine Fn.enter (by kernel_rfl) Tryz.func65 rfl Tryz.ntmps65 rfl ?_
 replace H:=H (Nat.le_trans hl.cap hl.max)
 refine zc (zb (yp (h:=(zd (za (zc (zb (yp (h:=(zd (za (zc (zc (zb (yp (h:=(zd (za (WC.block ?_)))))))))))))))))))
 obtain ⟨I1,mu1,c5,HR1⟩:=H
 refine zA (fun n' L' w'=>∃ (out:List Int),∃ (a8:Option Addr),∃ (b0:Nat),∃ (c7:Nat),∃ (i:Int),n'=mu1 out i/\L'=[(0,.slice A_l l.length c_l),(3,.slice a8 c7 b0),(4,.int .i64 i)]/\I1 out i/\c7=out.length/\w.grownBy w' none/\Own vi w' w.heap.size 3 a8 b0 out) _ _ ⟨[],none,0,0,(0:Int),rfl,rfl,c5,rfl,(qK _ _),(Own.nil vi w w.heap.size 3)⟩ sb ?_
 clear c5
 rintro _ _ w1 ⟨out,a8,b0,c7,i,rfl,rfl,hI1,rfl,gr1,k1⟩
 have H:=HR1 out i hI1
 refine zc (zc (zb (yp (h:=(yp (h:=(yp (h:=(yp (h:=(zd (za (zk rfl (fun b1=>?_) (fun b1=>?_))))))))))))))
 ·replace H:=H.1 (of_decide_eq_true b1)
  refine zm (za (zc ?_))
  obtain ⟨J1,H,hJ1⟩:=H
  refine zL (fun L' w'=>∃ (out2:List Int),∃ (c0:Option Addr),∃ (c1:Nat),∃ (f9:Nat),L'=[(0,.slice A_l l.length c_l),(3,.slice c0 f9 c1),(4,.int .i64 i)]/\J1 out2/\f9=out2.length/\w.grownBy w' none/\Own vi w' w.heap.size 3 c0 c1 out2) ?_ (fun hQ=>?_)
  ·clear H
   rintro _ w2 ⟨out2,c0,c1,f9,rfl,H,rfl,gr2,k2⟩
   replace H:=hJ1 out2 H
   refine za (zb (yp (h:=?_)))
   obtain ⟨h1,H⟩:=H
   exact zi rfl (Yld.add rfl rfl h1) (yp (h:=(zd (zw _ ⟨out2,c0,c1,out2.length,i+(1:Int),rfl,rfl,H.1,rfl,gr2,k2⟩ sb H.2))))
  ·clear hJ1
   refine WC.block (zc (zb (yp (h:=(zd (za (zc (WC.block ?_))))))))
   obtain ⟨I2,mu2,m1,HR2⟩:=H
   refine zA (fun n' L' w'=>∃ (k:Int),n'=mu2 k/\L'=[(0,.slice A_l l.length c_l),(3,.slice a8 out.length b0),(4,.int .i64 i),(5,.int .i64 k)]/\I2 k/\w1=w') _ _ ⟨(0:Int),rfl,rfl,m1,rfl⟩ sb ?_
   clear m1
   rintro _ _ _ ⟨k,rfl,rfl,hI2,rfl⟩
   have H:=HR2 k hI2
   refine zc (zc (zQ mixed (by kernel_rfl) (zB rfl (ze qD rfl) (zB rfl (ze qD rfl) (zB rfl (ze qD rfl) (zB rfl (ze qD rfl) (zB rfl (ze qD rfl) ?_)))))))
   obtain ⟨h2,H⟩:=H
   obtain ⟨h3,H⟩:=H
   refine qp 10 (fun L' w'=>∃ q1:Bool,L'=[(27,.bool q1),(0,.slice A_l l.length c_l),(3,.slice a8 out.length b0),(4,.int .i64 i),(5,.int .i64 k)]/\((decide (k<(out.length:Int))) && (decide ((out.getD k.toNat 0)<(l.getD i.toNat 0))))=q1/\w1=w') ?_ (fun hQ=>?_)
   ·rintro _ _ ⟨q1,rfl,rfl,rfl⟩
    refine zW (za (zk rfl (fun b2=>?_) (fun b2=>?_)))
    ·replace H:=H.1 (b2)
     refine zm (za (WC.block (zb (yp (h:=?_)))))
     obtain ⟨h4,H⟩:=H
     exact zi rfl (Yld.add rfl rfl h4) (yp (h:=(zd (zg (zw _ ⟨k+(1:Int),rfl,rfl,H.1,rfl⟩ sb H.2)))))
    ·replace H:=H.2 (b2)
     refine zz (zf (zf (zj (za (zc (zc (zQ mixed (by kernel_rfl) (zB rfl (ze qD rfl) (zB rfl (ze qD rfl) (zB rfl (ze qD rfl) (zB rfl (ze qD rfl) (zB rfl (ze qD rfl) ?_))))))))))))
     obtain ⟨h5,H⟩:=H
     obtain ⟨h6,H⟩:=H
     refine qp 10 (fun L' w'=>∃ q2:Bool,L'=[(44,.bool q2),(0,.slice A_l l.length c_l),(3,.slice a8 out.length b0),(4,.int .i64 i),(5,.int .i64 k)]/\((decide (k<(out.length:Int))) && (decide ((out.getD k.toNat 0)=(l.getD i.toNat 0))))=q2/\w1=w') ?_ (fun hQ=>?_)
     ·rintro _ _ ⟨q2,rfl,rfl,rfl⟩
      refine zW (za (zk rfl (fun b3=>?_) (fun b3=>?_)))
      ·replace H:=H.1 (b3)
       exact zz (zf (zj (WX.weaken sb (hQ _ _ ⟨out,a8,b0,out.length,rfl,H,rfl,gr1,k1⟩))))
      ·replace H:=H.2 (b3)
       refine zm (za (zc (zO (fun k => !(Nat.beq k 3 || Nat.beq k 7)) (LD [] (fun w'=>True)) mixed (by kernel_rfl) (fun k w' h _=>trivial) (zu rfl rfl (fun w' hw'=>ze qD rfl) (zu rfl rfl (fun w' hw'=>ze qD rfl) ?_)))))
       obtain ⟨h7,H⟩:=H
       refine zu rfl rfl (fun w' hw'=>Yld.add rfl rfl h7) ?_
       obtain ⟨h8,H⟩:=H
       refine z6 rfl (qI) rfl (Eff.makeCI (f:=vi) (B:=w.heap.size) qD rfl rfl rfl h8.1 h8.2.1 h8.2.2 (qF gr1)) (fun v w' ⟨_,_,h⟩=>DD.keep trivial) ?_
       rintro _ w3 ⟨rfl,hB1,hg1⟩
       obtain ⟨s2,hl1⟩:∃ g,g=w1.heap.size:=⟨_,rfl⟩
       rw [<-hl1] at hB1
       rw [<-hl1]
       have hO1:Own vi w3 w.heap.size 3 (some ⟨s2,0,none⟩) (((out.length:Int)+(1:Int)).toNat) ([]:List Int):=hB1.base (fun g hg=>by cases hg; exact Nat.le_trans (qF gr1) (Nat.le_of_eq hl1.symm))
       have gr3:=qE gr1 hg1
       have k3:=k1.grown hg1
       refine zu rfl rfl (fun w' hw'=>ze qD rfl) (zu rfl rfl (fun w' hw'=>ze qD rfl) ?_)
       obtain ⟨h9,H⟩:=H
       refine zu rfl rfl (fun w' hw'=>Yld.ocutY qD k3.rd rfl rfl rfl rfl rfl h9.1 h9.2) ?_
       obtain ⟨h10,H⟩:=H
       refine z6 rfl (qI) rfl (Eff.append qD rfl One.i hO1 rfl rfl (k3.rd.take k.toNat) rfl rfl h10 (qN h10) (qF gr3)) (fun v w' ⟨_,_,_,_,h,_⟩=>DD.keep trivial) ?_
       rintro _ w4 ⟨s9,t3,rfl,hO2,hg2,hk1⟩
       have gr4:=qH gr3 hg2 hO1.ge'
       refine zu rfl rfl (fun w' hw'=>ze qD rfl) (zX (za (zc (zb (yp (h:=(yp (h:=(yp (h:=?_))))))))))
       obtain ⟨h11,H⟩:=H
       refine zi rfl (zn qD (hl.grown gr4) rfl rfl rfl rfl h11.1 h11.2) (zi rfl (zo 0 qD (hl.grown gr4) rfl rfl (iltN h11 rfl)) (zP qD rfl rfl rfl (qG rfl qR) rfl (by omega) (fun g1 w5 hB2 hg3 hl2=>?_)))
       have hO3:Own vi w5 w.heap.size 3 (some ⟨g1,0,none⟩) 1 ([l.getD i.toNat 0]:List Int):=Own.ofBl hB2 (Nat.le_trans (qF gr4) hl2) (by simp [maxLen]) rfl
       have gr5:=qE gr4 hg3
       have k6:=hO2.grown hg3
       obtain ⟨h12,H⟩:=H
       refine zG qD rfl rfl One.i k6 rfl rfl hO3.rd rfl rfl h12 (qN h12) (qF gr5) (fun s7 s8 w6 hO4 hg4 hk2=>?_)
       have gr6:=qH gr5 hg4 k6.ge'
       refine yp (h:=(zd (za (zb (yp (h:=(yp (h:=(yp (h:=?_))))))))))
       obtain ⟨h13,H⟩:=H
       refine WL.cutF qD (((k3.go hg2 (Dj.new k1.lt' (Ge.box (Nat.le_of_eq hl1.symm)))).grown hg3).go hg4 ((Dj.app (Dj.new k1.lt' (Ge.box (Nat.le_of_eq hl1.symm))).symm k3.lt' hk1).symm)).rd rfl rfl rfl rfl rfl h13.1 h13.2.1 (fun u3 u7 hR1 hb1=>?_)
       obtain ⟨h14,H⟩:=H
       exact zG qD rfl rfl One.i hO4 rfl rfl hR1 rfl rfl h14 (qN h14) (qF gr6) (fun o7 o8 w7 hO5 hg5 hk3=>yp (h:=(zd (zg (WX.weaken sb (hQ _ _ ⟨((([]:List Int)++(out.take k.toNat))++([l.getD i.toNat 0]:List Int))++(out.drop k.toNat),o7,o8,(((([]:List Int)++(out.take k.toNat))++([l.getD i.toNat 0]:List Int))++(out.drop k.toNat)).length,rfl,H,rfl,(qH gr6 hg5 hO4.ge'),hO5⟩))))))
     ·clear H
      rcases Bool.eq_false_or_eq_true (decide (k<(out.length:Int))) with b4 | b4
      ·exact zF rfl rfl (okb b4) rfl (ze qD rfl) (zF rfl rfl (okb b4) rfl (ze qD rfl) (zF rfl rfl (okb b4) rfl (zn qD k1.rd rfl rfl rfl rfl (h5 b4).1 (h5 b4).2) (zF rfl rfl (okb b4) rfl (zo 0 qD k1.rd rfl rfl (iltN (h5 b4) rfl)) (zF rfl rfl (okb b4) rfl (ze qD rfl) (zF rfl rfl (okb b4) rfl (ze qD rfl) (zF rfl rfl (okb b4) rfl (zn qD (hl.grown gr1) rfl rfl rfl rfl (h6 b4).1 (h6 b4).2) (zF rfl rfl (okb b4) rfl (zo 0 qD (hl.grown gr1) rfl rfl (iltN (h6 b4) rfl)) (zF rfl rfl (okb b4) rfl (ze qD rfl) (zB rfl (zy (okb b4) rfl) (WQ.weaken sb (hQ _ _ ⟨decide ((out.getD k.toNat 0)=(l.getD i.toNat 0)),rfl,by rw [b4] <;> rfl,rfl⟩)))))))))))
      ·exact zI rfl rfl (okb b4) rfl (zI rfl rfl (okb b4) rfl (zI rfl rfl (okb b4) rfl (zI rfl rfl (okb b4) rfl (zI rfl rfl (okb b4) rfl (zI rfl rfl (okb b4) rfl (zI rfl rfl (okb b4) rfl (zI rfl rfl (okb b4) rfl (zI rfl rfl (okb b4) rfl (zB rfl (zv (okb b4) rfl) (WQ.weaken sb (hQ _ _ ⟨false,rfl,by rw [b4] <;> rfl,rfl⟩)))))))))))
   ·clear H
    rcases Bool.eq_false_or_eq_true (decide (k<(out.length:Int))) with b5 | b5
    ·exact zF rfl rfl (okb b5) rfl (ze qD rfl) (zF rfl rfl (okb b5) rfl (ze qD rfl) (zF rfl rfl (okb b5) rfl (zn qD k1.rd rfl rfl rfl rfl (h2 b5).1 (h2 b5).2) (zF rfl rfl (okb b5) rfl (zo 0 qD k1.rd rfl rfl (iltN (h2 b5) rfl)) (zF rfl rfl (okb b5) rfl (ze qD rfl) (zF rfl rfl (okb b5) rfl (ze qD rfl) (zF rfl rfl (okb b5) rfl (zn qD (hl.grown gr1) rfl rfl rfl rfl (h3 b5).1 (h3 b5).2) (zF rfl rfl (okb b5) rfl (zo 0 qD (hl.grown gr1) rfl rfl (iltN (h3 b5) rfl)) (zF rfl rfl (okb b5) rfl (ze qD rfl) (zB rfl (zy (okb b5) rfl) (WQ.weaken sb (hQ _ _ ⟨decide ((out.getD k.toNat 0)<(l.getD i.toNat 0)),rfl,by rw [b5] <;> rfl,rfl⟩)))))))))))
    ·exact zI rfl rfl (okb b5) rfl (zI rfl rfl (okb b5) rfl (zI rfl rfl (okb b5) rfl (zI rfl rfl (okb b5) rfl (zI rfl rfl (okb b5) rfl (zI rfl rfl (okb b5) rfl (zI rfl rfl (okb b5) rfl (zI rfl rfl (okb b5) rfl (zI rfl rfl (okb b5) rfl (zB rfl (zv (okb b5) rfl) (WQ.weaken sb (hQ _ _ ⟨false,rfl,by rw [b5] <;> rfl,rfl⟩)))))))))))
 ·replace H:=H.2 (of_decide_eq_false b1)
  exact zz (zf (zf (zj (za (zc (zb (yp (h:=(yp (h:=(zd (za (zq (zx rfl rfl ⟨gr1,out,a8,b0,rfl,k1,H⟩))))))))))))))
set_option maxHeartbeats 8000000 in
theorem W_smithyref_Action {w:World} {a_Tool:Int} {a_Args:List (List UInt8)} {g4:Option Addr} {g5:Nat} {a_Inputs:List (List UInt8)} {d1:Option Addr} {d2:Nat} {a_Output:List UInt8} {o3:Nat} {m2:Nat} {K:Int->(List (List UInt8))->(List (List UInt8))->(List UInt8)->Prop} (ha_Args:Rd vs w g4 g5 a_Args) (p4:o3=a_Args.length) (ha_Inputs:Rd vs w d1 d2 a_Inputs) (o2:m2=a_Inputs.length) (H:kJ a_Tool a_Args a_Inputs a_Output K):Fn Tryz.prog 64 ⟨[.agg ⟨[.int .i64 a_Tool,.slice g4 o3 g5,.slice d1 m2 d2,vs a_Output]⟩]⟩ w (fun v w'=>w.grownBy w' none/\∃ (r_Tool:Int),∃ (r_Args:List (List UInt8)),∃ (n0:Option Addr),∃ (o0:Nat),∃ (r_Inputs:List (List UInt8)),∃ (l8:Option Addr),∃ (m0:Nat),∃ (r_Output:List UInt8),v=.agg ⟨[.int .i64 r_Tool,.slice n0 r_Args.length o0,.slice l8 r_Inputs.length m0,vs r_Output]⟩/\Own vs w' w.heap.size 9 n0 o0 r_Args/\Own vs w' w.heap.size 9 l8 m0 r_Inputs/\K r_Tool r_Args r_Inputs r_Output):=by
 subst p4
 subst o2
 unfold kJ at H
 refine Fn.enter (by kernel_rfl) Tryz.func64 rfl Tryz.ntmps64 rfl ?_
 replace H:=H (Nat.le_trans ha_Args.cap ha_Args.max)
 replace H:=H (Nat.le_trans ha_Inputs.cap ha_Inputs.max)
 refine zc (zb (WL.box (us:=[.int .i64 a_Tool,.slice g4 a_Args.length g5,.slice d1 a_Inputs.length d2,vs a_Output]) rfl rfl rfl (fun g1 w1 hB1 hg1 hl1=>?_)))
 have gr1:=hg1
 refine WL.alloc rfl zero64 (fun g2 w2 hB2 hg2 hl2=>?_)
 have gr2:=qE gr1 hg2
 have k1:=hB1.g0 hg2
 refine zd (za (zc (zO (fun k => !(Nat.beq k 4 || Nat.beq k 7 || Nat.beq k 11)) (LD [1,3,6,9] (fun w'=>Bl w' g1 64 [.int .i64 a_Tool,.slice g4 a_Args.length g5,.slice d1 a_Inputs.length d2,vs a_Output])) mixed (by kernel_rfl) (fun k w' h _=>(jU h k1)) (zu rfl rfl (fun w' hw'=>ze qD rfl) (zu rfl rfl (fun w' hw'=>zt qD (hw' rfl) rfl rfl rfl) (zu rfl rfl (fun w' hw'=>ze qD rfl) (zu rfl rfl (fun w' hw'=>zt qD (hw' rfl) rfl rfl rfl) (zT rfl (qI) rfl rfl (W_smithyref_Texts (ha_Args.grown gr2) rfl H) (fun v w' h w2 e=>DD.keep (Bl.g0 k1 (qQ h.1 e))) ?_))))))))
 rintro _ w3 ⟨hg3,t7,r8,s0,rfl,ht7,H⟩
 have hb1:=ht7.ge'
 have gr3:=qE gr2 hg3
 have k3:=k1.g0 hg3
 have k4:=hB2.g0 hg3
 refine zu rfl rfl (fun w' hw'=>ze qD rfl) (zu rfl rfl (fun w' hw'=>zt qD (hw' rfl) rfl rfl rfl) (zT rfl (qI) rfl rfl (W_smithyref_Texts (ha_Inputs.grown gr3) rfl H) (fun v w' h w2 e=>DD.keep (Bl.g0 k3 (qQ h.1 e))) ?_))
 rintro _ w4 ⟨hg4,t10,p7,r0,rfl,ht10,H⟩
 have hb2:=ht10.ge'
 have k6:=k3.g0 hg4
 refine zu rfl rfl (fun w' hw'=>ze qD rfl) (zu rfl rfl (fun w' hw'=>zt qD (hw' rfl) rfl rfl rfl) (zu rfl rfl (fun w' hw'=>zS (us:=[.int .i64 a_Tool,.slice r8 t7.length s0,.slice p7 t10.length r0,vs a_Output]) zero64 places64 rfl rfl) (qn rfl (Ef0.storeW (vs:=[.int .i64 a_Tool,.slice r8 t7.length s0,.slice p7 t10.length r0,vs a_Output]) qD rfl rfl rfl (qG rfl (qG rfl (qG rfl (qG rfl qR)))) (k4.g0 hg4) rfl rfl) (fun w' h=>DD.keep (Bl.go k6 (qQ h.2 (Eqv.refl _)) (Dj.new hB1.lt' (Ge.box hl2)))) ?_)))
 rintro w5 ⟨hB3,hg5⟩
 have k9:=k6.go hg5 (Dj.new hB1.lt' (Ge.box hl2))
 exact zX (za (zq (z7 qD rfl rfl rfl hB3 rfl ⟨(qH (qE gr3 hg4) hg5 (Ge.le (Ge.box hl2) (qF gr1))),a_Tool,t7,r8,s0,t10,p7,r0,a_Output,rfl,(((ht7.base (fun g hg=>Nat.le_trans (qF gr2) (hb1 g hg))).grown hg4).go hg5 ((Dj.new hB2.lt' hb1).symm)),((ht10.base (fun g hg=>Nat.le_trans (qF gr3) (hb2 g hg))).go hg5 ((Dj.new k4.lt' hb2).symm)),H⟩)))
set_option maxHeartbeats 8000000 in
theorem W_smithyref_Actions {w:World} {a:List (Int × List (List UInt8) × List (List UInt8) × List UInt8)} {A_a:Option Addr} {c_a:Nat} {s5:List (Int × Hdr × Hdr × List UInt8)} {n_a:Nat} {K:(List (Int × List (List UInt8) × List (List UInt8) × List UInt8))->Prop} (ha:RdK 4 qP w A_a c_a s5) (t9:n_a=a.length) (p5:RelD de64 w s5 a) (H:kA a K):Fn Tryz.prog 35 ⟨[.slice A_a n_a c_a]⟩ w (fun v w'=>w.grownBy w' none/\∃ (r:List (Int × List (List UInt8) × List (List UInt8) × List UInt8)),∃ (A_r:Option Addr),∃ (c_r:Nat),∃ (r6:List (Int × Hdr × Hdr × List UInt8)),v=.slice A_r r.length c_r/\OwnK 4 qP w' w.heap.size 64 A_r c_r r6/\RelD de64 w' r6 r/\NewD de64 r6 r w.heap.size/\DnD de64 r6 r (blk A_r)/\K r):=by
 subst t9
 unfold kA at H
 refine Fn.enter (by kernel_rfl) Tryz.func35 rfl Tryz.ntmps35 rfl ?_
 replace H:=H (by rw [<-p5.1]; exact Nat.le_trans ha.cap ha.max)
 refine zc (zb (yp (h:=(zd (za (zc (zb (yp (h:=(yp (h:=?_)))))))))))
 obtain ⟨h1,H⟩:=H
 refine WL.makeCK (f:=qP) (B:=w.heap.size) Zl rfl ow22 rfl rfl h1.1 h1.2.1 h1.2.2 (Nat.le_refl _) (fun g1 w1 hO1 hg1 hl1=>?_)
 have hr1:RelD de64 w1 ([]:List (Int × Hdr × Hdr × List UInt8)) ([]:List (Int × List (List UInt8) × List (List UInt8) × List UInt8)):=RelD.nil
 refine yp (h:=(zd (za (zc (zc (zb (yp (h:=(zd (za (WC.block ?_)))))))))))
 obtain ⟨I1,mu1,c5,HR1⟩:=H
 refine zA (fun n' L' w'=>∃ (out:List (Int × List (List UInt8) × List (List UInt8) × List UInt8)),∃ (a8:Option Addr),∃ (b0:Nat),∃ (c7:Nat),∃ (c3:List (Int × Hdr × Hdr × List UInt8)),∃ (i:Int),n'=mu1 out i/\L'=[(0,.slice A_a a.length c_a),(3,.slice a8 c7 b0),(4,.int .i64 i)]/\I1 out i/\c7=out.length/\w.grownBy w' none/\OwnK 4 qP w' w.heap.size 64 a8 b0 c3/\RelD de64 w' c3 out/\DnD de64 c3 out (blk a8)/\NewD de64 c3 out w.heap.size) _ _ ⟨([]:List (Int × List (List UInt8) × List (List UInt8) × List UInt8)),(some ⟨g1,0,none⟩),(a.length:Int).toNat,0,([]:List (Int × Hdr × Hdr × List UInt8)),(0:Int),rfl,rfl,c5,(rfl.trans hr1.1),hg1,hO1,hr1,(DnD.nil (d:=de64)),(NewD.nil (d:=de64))⟩ sb ?_
 clear c5
 rintro _ _ w2 ⟨out,a8,b0,c7,c3,i,rfl,rfl,hI1,rfl,gr2,k1,k2,dj1,or1⟩
 have H:=HR1 out i hI1
 refine zc (zc (zb (yp (h:=(yp (h:=(yp (h:=(yp (h:=(zd (za (zk rfl (fun b1=>?_) (fun b1=>?_))))))))))))))
 ·replace H:=H.1 (of_decide_eq_true b1)
  refine zm (za (zc (WC.block (zb (yp (h:=(yp (h:=(yp (h:=?_))))))))))
  obtain ⟨h2,H⟩:=H
  refine zi rfl (zE qD (ha.grown gr2) rfl rfl p5.1.symm rfl h2.1 h2.2) ?_
  obtain ⟨⟨f1,⟨p6,n1,p8⟩,⟨l6,n2,l9⟩,f2⟩,eh1,⟨en1,⟨en2,hR1⟩,⟨en3,hR2⟩,en4⟩⟩:=RelD.at p5 (0,hd0,hd0,[]) (0,[],[],[]) (j:=i.toNat) (Nat.lt_of_lt_of_eq (iltN h2 p5.1.symm) p5.1)
  have en1:f1=(a.getD i.toNat (0,[],[],[])).1:=en1
  subst en1
  have en2:n1=((a.getD i.toNat (0,[],[],[])).2.1).length:=en2
  subst en2
  have en3:n2=((a.getD i.toNat (0,[],[],[])).2.2.1).length:=en3
  subst en3
  have en4:f2=(a.getD i.toNat (0,[],[],[])).2.2.2:=en4
  subst en4
  refine zi rfl (qk (v:=.agg ⟨[.int .i64 ((a.getD i.toNat (0,[],[],[])).1),.slice p6 (((a.getD i.toNat (0,[],[],[])).2.1).length) p8,.slice l6 (((a.getD i.toNat (0,[],[],[])).2.2.1).length) l9,vs ((a.getD i.toNat (0,[],[],[])).2.2.2)]⟩) (zU (0,hd0,hd0,[]) qD (ha.grown gr2) rfl rfl (iltN h2 p5.1.symm)) (by rw [eh1]; rfl)) (zr rfl rfl (W_smithyref_Action (hR1.grown gr2) rfl (hR2.grown gr2) rfl H) ?_)
  rintro _ w3 ⟨hg2,a3,a2,a6,a7,a0,a4,a5,a1,rfl,ht19_Args,ht19_Inputs,H⟩
  have hb1:=ht19_Args.ge'
  have k3:=ht19_Args.base (fun g hg=>Nat.le_trans (qF gr2) (hb1 g hg))
  have hb2:=ht19_Inputs.ge'
  have k4:=ht19_Inputs.base (fun g hg=>Nat.le_trans (qF gr2) (hb2 g hg))
  have gr3:=qE gr2 hg2
  have k6:=k2.grown hg2
  refine WL.litK (f:=qP) ([(a3,⟨a6,a2.length,a7⟩,⟨a4,a0.length,a5⟩,a1)]:List (Int × Hdr × Hdr × List UInt8)) Zl rfl ow22 rfl rfl rfl (fun g3 w5 hB2 hg4 hl3=>?_)
  have hO3:OwnK 4 qP w5 w.heap.size 64 (some ⟨g3,0,none⟩) 1 ([(a3,⟨a6,a2.length,a7⟩,⟨a4,a0.length,a5⟩,a1)]:List (Int × Hdr × Hdr × List UInt8)):=OwnK.ofBl Zl hB2 (Nat.le_trans (qF gr3) hl3) (by simp [maxLen]) rfl
  have gr4:=qE gr3 hg4
  have k7:=(k1.grown hg2).grown hg4
  have k8:=k6.grown hg4
  have k9:=k3.grown hg4
  have k10:=k4.grown hg4
  have hr2:RelD de64 w5 ([(a3,⟨a6,a2.length,a7⟩,⟨a4,a0.length,a5⟩,a1)]:List (Int × Hdr × Hdr × List UInt8)) ([(a3,a2,a0,a1)]:List (Int × List (List UInt8) × List (List UInt8) × List UInt8)):=(RelD.cons ⟨rfl,⟨rfl,k9.rd⟩,⟨rfl,k10.rd⟩,rfl⟩ RelD.nil)
  have nd1:NewD de64 ([(a3,⟨a6,a2.length,a7⟩,⟨a4,a0.length,a5⟩,a1)]:List (Int × Hdr × Hdr × List UInt8)) ([(a3,a2,a0,a1)]:List (Int × List (List UInt8) × List (List UInt8) × List UInt8)) w.heap.size:=(NewD.cons (d:=de64) (fun p_ hp_=>⟨trivial,(Dn.of (Dj.new hp_ k9.ge').symm),(Dn.of (Dj.new hp_ k10.ge').symm),trivial⟩) NewD.nil)
  have dj2:DnD de64 ([(a3,⟨a6,a2.length,a7⟩,⟨a4,a0.length,a5⟩,a1)]:List (Int × Hdr × Hdr × List UInt8)) ([(a3,a2,a0,a1)]:List (Int × List (List UInt8) × List (List UInt8) × List UInt8)) (blk a8):=(DnD.cons (d:=de64) ⟨trivial,(Dn.of (Dj.new k1.lt' hb1).symm),(Dn.of (Dj.new k1.lt' hb2).symm),trivial⟩ DnD.nil)
  have dj3:DnD de64 ([(a3,⟨a6,a2.length,a7⟩,⟨a4,a0.length,a5⟩,a1)]:List (Int × Hdr × Hdr × List UInt8)) ([(a3,a2,a0,a1)]:List (Int × List (List UInt8) × List (List UInt8) × List UInt8)) (blk (some ⟨g3,0,none⟩)):=(DnD.cons (d:=de64) ⟨trivial,(Dn.of (Dj.new k3.lt' (Ge.box hl3))),(Dn.of (Dj.new k4.lt' (Ge.box hl3))),trivial⟩ DnD.nil)
  obtain ⟨h3,H⟩:=H
  have h4:((c3:List (Int × Hdr × Hdr × List UInt8)).length+([(a3,⟨a6,a2.length,a7⟩,⟨a4,a0.length,a5⟩,a1)]:List (Int × Hdr × Hdr × List UInt8)).length)*72<=140737488355328:=by rw [k8.1,hr2.1]; exact h3
  refine qy rfl ow22 k7 rfl k2.1.symm hO3.rd rfl rfl h4 (qN h4) (qF gr4) (fun c0 c1 w6 hO4 hg5 hk1=>?_)
  have el1:(c3++([(a3,⟨a6,a2.length,a7⟩,⟨a4,a0.length,a5⟩,a1)]:List (Int × Hdr × Hdr × List UInt8))).length=(out++([(a3,a2,a0,a1)]:List (Int × List (List UInt8) × List (List UInt8) × List UInt8))).length:=by rw [List.length_append,List.length_append,k8.1,hr2.1]
  rw [el1]
  have hr3:RelD de64 w6 (c3++([(a3,⟨a6,a2.length,a7⟩,⟨a4,a0.length,a5⟩,a1)]:List (Int × Hdr × Hdr × List UInt8))) (out++([(a3,a2,a0,a1)]:List (Int × List (List UInt8) × List (List UInt8) × List UInt8))):=RelD.append (k8.go hg5 dj1) (hr2.go hg5 dj2)
  have nd2:NewD de64 (c3++([(a3,⟨a6,a2.length,a7⟩,⟨a4,a0.length,a5⟩,a1)]:List (Int × Hdr × Hdr × List UInt8))) (out++([(a3,a2,a0,a1)]:List (Int × List (List UInt8) × List (List UInt8) × List UInt8))) w.heap.size:=NewD.append k8.1 or1 nd1
  have dj4:DnD de64 (c3++([(a3,⟨a6,a2.length,a7⟩,⟨a4,a0.length,a5⟩,a1)]:List (Int × Hdr × Hdr × List UInt8))) (out++([(a3,a2,a0,a1)]:List (Int × List (List UInt8) × List (List UInt8) × List UInt8))) (blk (some ⟨g3,0,none⟩)):=(DnD.append k8.1 (k6.new (Ge.box hl3)) dj3)
  have dj5:DnD de64 (c3++([(a3,⟨a6,a2.length,a7⟩,⟨a4,a0.length,a5⟩,a1)]:List (Int × Hdr × Hdr × List UInt8))) (out++([(a3,a2,a0,a1)]:List (Int × List (List UInt8) × List (List UInt8) × List UInt8))) (blk c0):=(DnD.append k8.1 (RelD.app k8 dj1 hk1) (RelD.app hr2 dj2 hk1))
  refine yp (h:=(zd (zg (za (zb (yp (h:=?_)))))))
  obtain ⟨h5,H⟩:=H
  exact zi rfl (Yld.add rfl rfl h5) (yp (h:=(zd (zw _ ⟨out++([(a3,a2,a0,a1)]:List (Int × List (List UInt8) × List (List UInt8) × List UInt8)),c0,c1,(out++([(a3,a2,a0,a1)]:List (Int × List (List UInt8) × List (List UInt8) × List UInt8))).length,c3++([(a3,⟨a6,a2.length,a7⟩,⟨a4,a0.length,a5⟩,a1)]:List (Int × Hdr × Hdr × List UInt8)),i+(1:Int),rfl,rfl,H.1,rfl,(qH gr4 hg5 k7.ge'),hO4,hr3,dj5,nd2⟩ sb H.2))))
 ·replace H:=H.2 (of_decide_eq_false b1)
  exact zz (zf (zf (zj (za (zc (zb (yp (h:=(yp (h:=(zd (za (zq (zx rfl rfl ⟨gr2,out,a8,b0,c3,(by rw [k2.1.symm]),k1,k2,or1,dj1,H⟩))))))))))))))
set_option maxHeartbeats 8000000 in
theorem j6 {w:World} {g_g:Nat} {g_L:List (Int × List (List UInt8) × List (List UInt8) × List UInt8)} {e0:Option Addr} {e1:Nat} {c2:List (Int × Hdr × Hdr × List UInt8)} {p:List UInt8} {e2:Nat} {K:Int->Prop} (c6:RdK 4 qP w e0 e1 c2) (f8:e2=g_L.length) (a9:RelD de64 w c2 g_L) (hg:Bl w g_g 89 [.slice e0 e2 e1]) (H:qZ g_L p K):Fn Tryz.prog 45 ⟨[.pointer (some ⟨g_g,0,none⟩),vs p]⟩ w (fun v w'=>w=w'/\∃ (r:Int),v=.int .i64 r/\K r):=by
 subst f8
 unfold qZ at H
 refine Fn.enter (by kernel_rfl) Tryz.func45 rfl Tryz.ntmps45 rfl ?_
 replace H:=H (by rw [<-a9.1]; exact Nat.le_trans c6.cap c6.max)
 refine zc (zb (yp (h:=(zd (za (zc (zc (zb (yp (h:=(zd (za (WC.block ?_)))))))))))))
 obtain ⟨I1,mu1,c5,HR1⟩:=H
 refine zA (fun n' L' w'=>∃ (i:Int),n'=mu1 i/\L'=[(0,.pointer (some ⟨g_g,0,none⟩)),(1,vs p),(5,.int .i64 i)]/\I1 i/\w=w') _ _ ⟨(0:Int),rfl,rfl,c5,rfl⟩ sb ?_
 clear c5
 rintro _ _ _ ⟨i,rfl,rfl,hI1,rfl⟩
 have H:=HR1 i hI1
 refine zc (zc (zb (yp (h:=(yp (h:=(yp (h:=(yp (h:=(zi rfl (zt qD hg rfl rfl rfl) (yp (h:=(yp (h:=(zd (za (zk rfl (fun b1=>?_) (fun b1=>?_)))))))))))))))))))
 ·replace H:=H.1 (of_decide_eq_true b1)
  refine zm (za (zc (WC.block (zc (zb (yp (h:=(yp (h:=(yp (h:=(zi rfl (zt qD hg rfl rfl rfl) (yp (h:=?_))))))))))))))
  obtain ⟨h1,H⟩:=H
  refine zi rfl (zE qD c6 rfl rfl a9.1.symm rfl h1.1 h1.2) (zi rfl (zK qD c6 (iltN h1 a9.1.symm) rfl rfl rfl) ?_)
  obtain ⟨⟨f1,⟨p6,n1,p8⟩,⟨l6,n2,l9⟩,f2⟩,eh1,⟨en1,⟨en2,hR1⟩,⟨en3,hR2⟩,en4⟩⟩:=RelD.at a9 (0,hd0,hd0,[]) (0,[],[],[]) (j:=i.toNat) (Nat.lt_of_lt_of_eq (iltN h1 a9.1.symm) a9.1)
  have en1:f1=(g_L.getD i.toNat (0,[],[],[])).1:=en1
  subst en1
  have en2:n1=((g_L.getD i.toNat (0,[],[],[])).2.1).length:=en2
  subst en2
  have en3:n2=((g_L.getD i.toNat (0,[],[],[])).2.2.1).length:=en3
  subst en3
  have en4:f2=(g_L.getD i.toNat (0,[],[],[])).2.2.2:=en4
  subst en4
  refine zi rfl (zN (v:=vs ((g_L.getD i.toNat (0,[],[],[])).2.2.2)) (0,hd0,hd0,[]) qD c6 rfl rfl (iltN h1 a9.1.symm) (by rw [eh1]; rfl)) (yp (h:=(yp (h:=(zd (za (zk rfl (fun b2=>?_) (fun b2=>?_))))))))
  ·replace H:=H.1 (of_decide_eq_true b2)
   exact zc (zb (yp (h:=(yp (h:=(zd (za (zq (zp (zh (zh (zp (zh (zx rfl rfl ⟨rfl,i,rfl,H⟩))))))))))))))
  ·replace H:=H.2 (of_decide_eq_false b2)
   refine zm (zg (za (zb (yp (h:=?_)))))
   obtain ⟨h2,H⟩:=H
   exact zi rfl (Yld.add rfl rfl h2) (yp (h:=(zd (zw _ ⟨i+(1:Int),rfl,rfl,H.1,rfl⟩ sb H.2))))
 ·replace H:=H.2 (of_decide_eq_false b1)
  exact zz (zf (zf (zj (za (zc (zb (yp (h:=(zd (za (zq (zx rfl rfl ⟨rfl,(-1:Int),rfl,H⟩))))))))))))
set_option maxHeartbeats 8000000 in
theorem jp {w:World} {g_g:Nat} {g_L:List (Int × List (List UInt8) × List (List UInt8) × List UInt8)} {e0:Option Addr} {e1:Nat} {c2:List (Int × Hdr × Hdr × List UInt8)} {i:Int} {e2:Nat} {K:(List Int)->Prop} (c6:RdK 4 qP w e0 e1 c2) (f8:e2=g_L.length) (a9:RelD de64 w c2 g_L) (hg:Bl w g_g 89 [.slice e0 e2 e1]) (H:qU g_L i K):Fn Tryz.prog 37 ⟨[.pointer (some ⟨g_g,0,none⟩),.int .i64 i]⟩ w (fun v w'=>w.grownBy w' none/\∃ (r:List Int),∃ (A_r:Option Addr),∃ (c_r:Nat),v=.slice A_r r.length c_r/\Own vi w' w.heap.size 3 A_r c_r r/\K r):=by
 subst f8
 unfold qU at H
 refine Fn.enter (by kernel_rfl) Tryz.func37 rfl Tryz.ntmps37 rfl ?_
 replace H:=H (by rw [<-a9.1]; exact Nat.le_trans c6.cap c6.max)
 refine zc (zb (yp (h:=(zd (za (zc (zb (yp (h:=(zd (za (zc (zc (zb (yp (h:=(yp (h:=(yp (h:=(zD 8 (fun L' w'=>∃ q1:Bool,L'=[(18,.bool q1),(0,.pointer (some ⟨g_g,0,none⟩)),(1,.int .i64 i),(5,.slice none 0 0)]/\((decide (i<(0:Int))) || (decide ((g_L.length:Int)<=i)))=q1/\w=w') ?_ (fun hQ=>?_))))))))))))))))))))))
 ·rintro _ _ ⟨q1,rfl,rfl,rfl⟩
  refine zd (za (zk rfl (fun b1=>?_) (fun b1=>?_)))
  ·replace H:=H.1 (b1)
   exact zc (zb (yp (h:=(yp (h:=(zd (za (zq (zh (zx rfl rfl ⟨(qK _ _),[],none,0,rfl,(Own.nil vi w w.heap.size 3),H⟩))))))))))
  ·replace H:=H.2 (b1)
   refine zm (za (zc (zc (zb (yp (h:=(zd (za (WC.block ?_)))))))))
   obtain ⟨I1,mu1,c5,HR1⟩:=H
   refine zA (fun n' L' w'=>∃ (l:List Int),∃ (A_l:Option Addr),∃ (c_l:Nat),∃ (n_l:Nat),∃ (k:Int),n'=mu1 l k/\L'=[(0,.pointer (some ⟨g_g,0,none⟩)),(1,.int .i64 i),(5,.slice A_l n_l c_l),(6,.int .i64 k)]/\I1 l k/\n_l=l.length/\w.grownBy w' none/\Own vi w' w.heap.size 3 A_l c_l l) _ _ ⟨[],none,0,0,(0:Int),rfl,rfl,c5,rfl,(qK _ _),(Own.nil vi w w.heap.size 3)⟩ sb ?_
   clear c5
   rintro _ _ w1 ⟨l,A_l,c_l,n_l,k,rfl,rfl,hI1,rfl,gr1,k1⟩
   have H:=HR1 l k hI1
   refine zc (zc (zb (yp (h:=(yp (h:=(yp (h:=(yp (h:=(zi rfl (zt qD (hg.g0 gr1) rfl rfl rfl) (yp (h:=?_)))))))))))))
   obtain ⟨h1,H⟩:=H
   refine zi rfl (zE qD (c6.grown gr1) rfl rfl a9.1.symm rfl h1.1 h1.2) (zi rfl (zK qD (c6.grown gr1) (iltN h1 a9.1.symm) rfl rfl rfl) ?_)
   obtain ⟨⟨f1,⟨p6,n1,p8⟩,⟨l6,n2,l9⟩,f2⟩,eh1,⟨en1,⟨en2,hR1⟩,⟨en3,hR2⟩,en4⟩⟩:=RelD.at a9 (0,hd0,hd0,[]) (0,[],[],[]) (j:=i.toNat) (Nat.lt_of_lt_of_eq (iltN h1 a9.1.symm) a9.1)
   have en1:f1=(g_L.getD i.toNat (0,[],[],[])).1:=en1
   subst en1
   have en2:n1=((g_L.getD i.toNat (0,[],[],[])).2.1).length:=en2
   subst en2
   have en3:n2=((g_L.getD i.toNat (0,[],[],[])).2.2.1).length:=en3
   subst en3
   have en4:f2=(g_L.getD i.toNat (0,[],[],[])).2.2.2:=en4
   subst en4
   refine zi rfl (zN (v:=.slice l6 (((g_L.getD i.toNat (0,[],[],[])).2.2.1).length) l9) (0,hd0,hd0,[]) qD (c6.grown gr1) rfl rfl (iltN h1 a9.1.symm) (by rw [eh1]; rfl)) (yp (h:=(yp (h:=(zd (za (zk rfl (fun b2=>?_) (fun b2=>?_))))))))
   ·replace H:=H.1 (of_decide_eq_true b2)
    refine zm (za (zc ?_))
    obtain ⟨J1,H,hJ1⟩:=H
    refine zL (fun L' w'=>∃ (l2:List Int),∃ (l7:Option Addr),∃ (m7:Nat),∃ (s1:Nat),L'=[(0,.pointer (some ⟨g_g,0,none⟩)),(1,.int .i64 i),(5,.slice l7 s1 m7),(6,.int .i64 k)]/\J1 l2/\s1=l2.length/\w.grownBy w' none/\Own vi w' w.heap.size 3 l7 m7 l2) ?_ (fun hQ=>?_)
    ·clear H
     rintro _ w2 ⟨l2,l7,m7,s1,rfl,H,rfl,gr2,k2⟩
     replace H:=hJ1 l2 H
     refine za (zb (yp (h:=?_)))
     obtain ⟨h2,H⟩:=H
     exact zi rfl (Yld.add rfl rfl h2) (yp (h:=(zd (zw _ ⟨l2,l7,m7,l2.length,k+(1:Int),rfl,rfl,H.1,rfl,gr2,k2⟩ sb H.2))))
    ·clear hJ1
     refine WC.block (zc (zb (yp (h:=(yp (h:=(yp (h:=(yp (h:=(zi rfl (zt qD (hg.g0 gr1) rfl rfl rfl) (yp (h:=?_)))))))))))))
     obtain ⟨h3,H⟩:=H
     refine zi rfl (zE qD (c6.grown gr1) rfl rfl a9.1.symm rfl h3.1 h3.2) (zi rfl (zK qD (c6.grown gr1) (iltN h3 a9.1.symm) rfl rfl rfl) (zi rfl (zN (v:=.slice l6 (((g_L.getD i.toNat (0,[],[],[])).2.2.1).length) l9) (0,hd0,hd0,[]) qD (c6.grown gr1) rfl rfl (iltN h3 a9.1.symm) (by rw [eh1]; rfl)) (yp (h:=?_))))
     obtain ⟨h4,H⟩:=H
     refine zi rfl (zn qD (hR2.grown gr1) rfl rfl rfl rfl h4.1 h4.2) (zi rfl (zo [] qD (hR2.grown gr1) rfl rfl (iltN h4 rfl)) (zr rfl rfl (j6 (c6.grown gr1) rfl (a9.grown gr1) (hg.g0 gr1) H) ?_))
     rintro _ _ ⟨rfl,m,rfl,H⟩
     refine yp (h:=(zd (za (zc (zb (yp (h:=(yp (h:=(zd (za (zk rfl (fun b3=>?_) (fun b3=>?_)))))))))))))
     ·replace H:=H.1 (of_decide_eq_true b3)
      refine zb (yp (h:=(yp (h:=(zP qD rfl rfl rfl (qG rfl qR) rfl (by omega) (fun g1 w3 hB1 hg1 hl1=>?_))))))
      have hO1:Own vi w3 w.heap.size 3 (some ⟨g1,0,none⟩) 1 ([m]:List Int):=Own.ofBl hB1 (Nat.le_trans (qF gr1) hl1) (by simp [maxLen]) rfl
      have gr3:=qE gr1 hg1
      have k3:=k1.grown hg1
      obtain ⟨h5,H⟩:=H
      exact zG qD rfl rfl One.i k3 rfl rfl hO1.rd rfl rfl h5 (qN h5) (qF gr3) (fun r7 r9 w4 hO2 hg2 hk1=>yp (h:=(zd (zg (WX.weaken sb (hQ _ _ ⟨l++([m]:List Int),r7,r9,(l++([m]:List Int)).length,rfl,H,rfl,(qH gr3 hg2 k3.ge'),hO2⟩))))))
     ·replace H:=H.2 (of_decide_eq_false b3)
      exact zm (zg (WX.weaken sb (hQ _ _ ⟨l,A_l,c_l,l.length,rfl,H,rfl,gr1,k1⟩)))
   ·replace H:=H.2 (of_decide_eq_false b2)
    refine zz (zf (zf (zj (za (zc (zb (yp (h:=(zr rfl rfl (W_smithyref_Sorted k1.rd rfl H) ?_)))))))))
    rintro _ w5 ⟨hg3,t4,t2,t8,rfl,ht4,H⟩
    have hb1:=ht4.ge'
    exact yp (h:=(zd (za (zq (zx rfl rfl ⟨(qE gr1 hg3),t4,t2,t8,rfl,(ht4.base (fun g hg=>Nat.le_trans (qF gr1) (hb1 g hg))),H⟩)))))
 ·clear H
  rcases Bool.eq_false_or_eq_true (decide (i<(0:Int))) with b4 | b4
  ·exact gn b4 (h:=(gn b4 (h:=(gn b4 (h:=(gn b4 (h:=(gn b4 (h:=(gn b4 (h:=(gn b4 (h:=(zi rfl (zy (okb b4) rfl) (wk (hQ _ _ ⟨true,rfl,by rw [b4] <;> rfl,rfl⟩))))))))))))))))
  ·exact gp b4 (h:=(gp b4 (h:=(gp b4 (h:=(gp b4 (h:=(zC rfl rfl (okb b4) rfl (zt qD hg rfl rfl rfl) (gp b4 (h:=(gp b4 (h:=(zi rfl (zv (okb b4) rfl) (wk (hQ _ _ ⟨decide ((g_L.length:Int)<=i),rfl,by rw [b4] <;> rfl,rfl⟩)))))))))))))))
set_option maxHeartbeats 8000000 in
theorem W_psmithyref17_Graph_reach {w:World} {g_g:Nat} {g_L:List (Int × List (List UInt8) × List (List UInt8) × List UInt8)} {e0:Option Addr} {e1:Nat} {c2:List (Int × Hdr × Hdr × List UInt8)} {l:List Int} {A_l:Option Addr} {c_l:Nat} {e2:Nat} {n_l:Nat} {K:(List Int)->Prop} (c6:RdK 4 qP w e0 e1 c2) (f8:e2=g_L.length) (a9:RelD de64 w c2 g_L) (hg:Bl w g_g 89 [.slice e0 e2 e1]) (hl:Own vi w 0 3 A_l c_l l) (o9:n_l=l.length) (hap0:AllP (Dn c2 (blk e0)) [(blk A_l)]) (hap1:AllP (DnD de64 c2 g_L) [(blk A_l)]) (hap2:AllP (Dj (some g_g)) [(blk A_l)]) (H:ju g_L l K):Fn Tryz.prog 36 ⟨[.pointer (some ⟨g_g,0,none⟩),.slice A_l n_l c_l]⟩ w (fun v w'=>GrL [(blk A_l)] w w'/\∃ (r:List Int),∃ (A_r:Option Addr),∃ (c_r:Nat),v=.slice A_r r.length c_r/\Own vi w' w.heap.size 3 A_r c_r r/\K r):=by
 subst f8
 subst o9
 unfold ju at H
 refine Fn.enter (by kernel_rfl) Tryz.func36 rfl Tryz.ntmps36 rfl ?_
 replace H:=H (by rw [<-a9.1]; exact Nat.le_trans c6.cap c6.max)
 replace H:=H (Nat.le_trans hl.rd.cap hl.rd.max)
 have hNoAt:AllP (NoAt w) [(blk A_l)]:=(apC (NoAt.own hl rfl) apN)
 refine zc (zb (yp (h:=(zd (za (zc (zb (yp (h:=(yp (h:=(yp (h:=(zi rfl (zt qD hg rfl rfl rfl) (yp (h:=?_))))))))))))))))
 obtain ⟨h1,H⟩:=H
 refine qq (f:=vB) (z:=false) (B:=w.heap.size) qD rfl rfl zero4 rfl rfl h1.1 h1.2.1 h1.2.2 (Nat.le_refl _) (fun g1 w1 hO1 hg1 hl1=>yp (h:=(zd (za (zc (WC.block ?_))))))
 obtain ⟨I1,mu1,c5,HR1⟩:=H
 refine zA (fun n' L' w'=>∃ (l2:List Int),∃ (l7:Option Addr),∃ (m7:Nat),∃ (n_l:Nat),∃ (seen:List Bool),n'=mu1 l2 seen/\L'=[(0,.pointer (some ⟨g_g,0,none⟩)),(1,.slice l7 n_l m7),(5,.slice (some ⟨g1,0,none⟩) ((g_L.length:Int).toNat) ((g_L.length:Int).toNat))]/\I1 l2 seen/\(g_L.length:Int).toNat=seen.length/\n_l=l2.length/\GrL [(blk A_l)] w w'/\Own vB w' w.heap.size 4 (some ⟨g1,0,none⟩) ((g_L.length:Int).toNat) seen/\Own vi w' 0 3 l7 m7 l2/\Dj (blk (some ⟨g1,0,none⟩)) (blk l7)/\InP [(blk A_l)] w.heap.size (blk l7)) _ _ ⟨l,A_l,c_l,l.length,(List.replicate (g_L.length:Int).toNat false),rfl,rfl,c5,(List.length_replicate).symm,rfl,((GrL.of0 (ps:=[(blk A_l)]) hg1)),hO1,(hl.grown hg1),(Dj.new hl.lt' (Ge.box hl1)).symm,(InP.mem (List.Mem.head _))⟩ sb ?_
 clear c5
 rintro _ _ w2 ⟨l2,l7,m7,n_l,seen,rfl,rfl,hI1,c4,rfl,gr2,k2,k3,dj1,hi1⟩
 have H:=HR1 l2 seen hI1
 replace H:=H c4
 refine zc (zc (zb (yp (h:=(yp (h:=(yp (h:=(zd (za (zk rfl (fun b1=>?_) (fun b1=>?_))))))))))))
 ·replace H:=H.1 (of_decide_eq_true b1)
  refine zm (za (WC.block (zc (zb (yp (h:=(yp (h:=(yp (h:=?_))))))))))
  obtain ⟨h2,H⟩:=H
  refine zi rfl (Yld.sub rfl rfl h2) ?_
  obtain ⟨h3,H⟩:=H
  refine zi rfl (zn qD k3.rd rfl rfl rfl rfl h3.1 h3.2) (zi rfl (zo 0 qD k3.rd rfl rfl (iltN h3 rfl)) (yp (h:=(zd (za (zc (zb (yp (h:=(yp (h:=(yp (h:=?_)))))))))))))
  obtain ⟨h4,H⟩:=H
  refine zi rfl (Yld.sub rfl rfl h4) ?_
  obtain ⟨h5,H⟩:=H
  refine WL.ocut qD rfl rfl k3 rfl rfl rfl rfl h5.1 h5.2 (fun hO2=>yp (h:=(zd (za (zc (zc (zb (yp (h:=(yp (h:=?_)))))))))))
  obtain ⟨h6,H⟩:=H
  refine zi rfl (zn qD k2.rd rfl rfl c4 rfl h6.1 h6.2) (zi rfl (zo false qD k2.rd rfl rfl (iltN h6 c4)) (zd (za (zk rfl (fun b2=>?_) (fun b2=>?_)))))
  ·replace H:=H.1 (b2)
   exact zz (zf (zj (zw _ ⟨l2.take ((l2.length:Int) - (1:Int)).toNat,l7,m7,(l2.take ((l2.length:Int) - (1:Int)).toNat).length,seen,rfl,rfl,H.1,c4,rfl,gr2,k2,hO2,dj1,hi1⟩ sb H.2)))
  ·replace H:=H.2 (b2)
   refine zm (za (zc (zb (yp (h:=(yp (h:=?_)))))))
   obtain ⟨h7,H⟩:=H
   refine zi rfl (zn qD k2.rd rfl rfl c4 rfl h7.1 h7.2) (ql (v:=true) one4 One.B k2 rfl rfl (iltN h7 c4) (fun w3 hO3 hg2=>?_))
   have gr3:GrL [(blk A_l)] w w3:=GrL.mod gr2 hg2 (InP.ge k2.ge')
   refine zd (za (zb (yp (h:=(yp (h:=(yp (h:=(zr rfl rfl (jp (c6.goL gr3 hap0) rfl (a9.goL gr3 hap1) (hg.goL gr3 hap2) H) ?_)))))))))
   rintro _ w4 ⟨hg3,t39,u2,u6,rfl,ht39,H⟩
   have hb1:=ht39.ge'
   have gr4:=GrL.add0 gr3 hg3
   have k6:=hO3.grown hg3
   obtain ⟨h8,H⟩:=H
   refine zG qD rfl rfl One.i ((hO2.go hg2 dj1.symm).grown hg3) rfl rfl (ht39.base (fun g hg=>Nat.le_trans (GrL.sizeL gr3) (hb1 g hg))).rd rfl rfl h8 (qN h8) (Nat.zero_le _) (fun r7 r9 w5 hO4 hg4 hk1=>?_)
   have gr5:GrL [(blk A_l)] w w5:=GrL.mod gr4 hg4 hi1
   exact yp (h:=(zd (zg (zw _ ⟨(l2.take ((l2.length:Int) - (1:Int)).toNat)++t39,r7,r9,((l2.take ((l2.length:Int) - (1:Int)).toNat)++t39).length,seen.set ((l2.getD (((l2.length:Int) - (1:Int)).toNat) 0).toNat) true,rfl,rfl,H.1,(c4.trans List.length_set.symm),rfl,gr5,(k6.go hg4 dj1),hO4,(Dj.app dj1.symm k6.lt' hk1).symm,(InP.app hi1 hk1 (GrL.sizeL gr4))⟩ sb H.2))))
 ·replace H:=H.2 (of_decide_eq_false b1)
  refine zz (zf (zf (zj (za (zc (zb (yp (h:=(zd (za (zc (zc (zb (yp (h:=(zd (za (WC.block ?_))))))))))))))))))
  obtain ⟨I2,mu2,m1,HR2⟩:=H
  refine zA (fun n' L' w'=>∃ (out:List Int),∃ (a8:Option Addr),∃ (b0:Nat),∃ (c7:Nat),∃ (i:Int),n'=mu2 out i/\L'=[(5,.slice (some ⟨g1,0,none⟩) ((g_L.length:Int).toNat) ((g_L.length:Int).toNat)),(7,.slice a8 c7 b0),(8,.int .i64 i)]/\I2 out i/\c7=out.length/\GrL [(blk A_l)] w w'/\Own vB w' w.heap.size 4 (some ⟨g1,0,none⟩) ((g_L.length:Int).toNat) seen/\Own vi w' w.heap.size 3 a8 b0 out/\Dj (blk (some ⟨g1,0,none⟩)) (blk a8)) _ _ ⟨[],none,0,0,(0:Int),rfl,rfl,m1,rfl,gr2,k2,(Own.nil vi w2 w.heap.size 3),Dj.nr⟩ sb ?_
  clear m1
  rintro _ _ w6 ⟨out,a8,b0,c7,i,rfl,rfl,hI2,rfl,gr6,k9,k10,dj2⟩
  have H:=HR2 out i hI2
  refine zc (zc (zb (yp (h:=(yp (h:=(yp (h:=(yp (h:=(zd (za (zk rfl (fun b3=>?_) (fun b3=>?_))))))))))))))
  ·replace H:=H.1 (of_decide_eq_true b3)
   refine zm (za (zc ?_))
   obtain ⟨J1,H,hJ1⟩:=H
   refine zL (fun L' w'=>∃ (out2:List Int),∃ (c0:Option Addr),∃ (c1:Nat),∃ (f9:Nat),L'=[(5,.slice (some ⟨g1,0,none⟩) ((g_L.length:Int).toNat) ((g_L.length:Int).toNat)),(7,.slice c0 f9 c1),(8,.int .i64 i)]/\J1 out2/\f9=out2.length/\GrL [(blk A_l)] w w'/\Own vB w' w.heap.size 4 (some ⟨g1,0,none⟩) ((g_L.length:Int).toNat) seen/\Own vi w' w.heap.size 3 c0 c1 out2/\Dj (blk (some ⟨g1,0,none⟩)) (blk c0)) ?_ (fun hQ=>?_)
   ·clear H
    rintro _ w7 ⟨out2,c0,c1,f9,rfl,H,rfl,gr7,k11,k12,dj3⟩
    replace H:=hJ1 out2 H
    refine za (zb (yp (h:=?_)))
    obtain ⟨h9,H⟩:=H
    exact zi rfl (Yld.add rfl rfl h9) (yp (h:=(zd (zw _ ⟨out2,c0,c1,out2.length,i+(1:Int),rfl,rfl,H.1,rfl,gr7,k11,k12,dj3⟩ sb H.2))))
   ·clear hJ1
    refine WC.block (zc (zb (yp (h:=(yp (h:=?_))))))
    obtain ⟨h10,H⟩:=H
    refine zi rfl (zn qD k9.rd rfl rfl c4 rfl h10.1 h10.2) (zi rfl (zo false qD k9.rd rfl rfl (iltN h10 c4)) (zd (za (zk rfl (fun b4=>?_) (fun b4=>?_)))))
    ·replace H:=H.1 (b4)
     refine zb (yp (h:=(yp (h:=(zP qD rfl rfl rfl (qG rfl qR) rfl (by omega) (fun g2 w8 hB1 hg5 hl2=>?_))))))
     have hO5:Own vi w8 w.heap.size 3 (some ⟨g2,0,none⟩) 1 ([i]:List Int):=Own.ofBl hB1 (Nat.le_trans (GrL.sizeL gr6) hl2) (by simp [maxLen]) rfl
     have gr8:=GrL.add0 gr6 hg5
     have k13:=k9.grown hg5
     have k14:=k10.grown hg5
     obtain ⟨h11,H⟩:=H
     refine zG qD rfl rfl One.i k14 rfl rfl hO5.rd rfl rfl h11 (qN h11) (GrL.sizeL gr8) (fun o7 o8 w9 hO6 hg6 hk2=>?_)
     have gr9:GrL [(blk A_l)] w w9:=GrL.mod gr8 hg6 (InP.ge k14.ge')
     exact yp (h:=(zd (zg (WX.weaken sb (hQ _ _ ⟨out++([i]:List Int),o7,o8,(out++([i]:List Int)).length,rfl,H,rfl,gr9,(k13.go hg6 dj2),hO6,(Dj.app dj2.symm k13.lt' hk2).symm⟩)))))
    ·replace H:=H.2 (b4)
     exact zm (zg (WX.weaken sb (hQ _ _ ⟨out,a8,b0,out.length,rfl,H,rfl,gr6,k9,k10,dj2⟩)))
  ·replace H:=H.2 (of_decide_eq_false b3)
   exact zz (zf (zf (zj (za (zc (zb (yp (h:=(yp (h:=(zd (za (zq (zx rfl rfl ⟨gr6,out,a8,b0,rfl,k10,H⟩))))))))))))))
set_option maxHeartbeats 8000000 in
theorem W_psmithyref17_Graph_Order {w:World} {g_g:Nat} {g_L:List (Int × List (List UInt8) × List (List UInt8) × List UInt8)} {e0:Option Addr} {e1:Nat} {c2:List (Int × Hdr × Hdr × List UInt8)} {e2:Nat} {K:(List Int)->Prop} (c6:RdK 4 qP w e0 e1 c2) (f8:e2=g_L.length) (a9:RelD de64 w c2 g_L) (hg:Bl w g_g 89 [.slice e0 e2 e1]) (H:jt g_L K):Fn Tryz.prog 44 ⟨[.pointer (some ⟨g_g,0,none⟩)]⟩ w (fun v w'=>w.grownBy w' none/\∃ (r:List Int),∃ (A_r:Option Addr),∃ (c_r:Nat),v=.slice A_r r.length c_r/\Own vi w' w.heap.size 3 A_r c_r r/\K r):=by
 subst f8
 unfold jt at H
 refine Fn.enter (by kernel_rfl) Tryz.func44 rfl Tryz.ntmps44 rfl ?_
 replace H:=H (by rw [<-a9.1]; exact Nat.le_trans c6.cap c6.max)
 refine zc (zb (yp (h:=(zd (za (zc (zb (yp (h:=(zd (za (zc (WC.block ?_)))))))))))))
 obtain ⟨I1,mu1,c5,HR1⟩:=H
 refine zA (fun n' L' w'=>∃ (out:List Int),∃ (a8:Option Addr),∃ (b0:Nat),∃ (c7:Nat),n'=mu1 out/\L'=[(0,.pointer (some ⟨g_g,0,none⟩)),(3,.slice a8 c7 b0)]/\I1 out/\c7=out.length/\w.grownBy w' none/\Own vi w' w.heap.size 3 a8 b0 out) _ _ ⟨[],none,0,0,rfl,rfl,c5,rfl,(qK _ _),(Own.nil vi w w.heap.size 3)⟩ sb ?_
 clear c5
 rintro _ _ w1 ⟨out,a8,b0,c7,rfl,rfl,hI1,rfl,gr1,k1⟩
 have H:=HR1 out hI1
 refine zc (zc (zb (yp (h:=(yp (h:=(yp (h:=(yp (h:=(yp (h:=(zi rfl (zt qD (hg.g0 gr1) rfl rfl rfl) (yp (h:=(yp (h:=(zd (za (zk rfl (fun b1=>?_) (fun b1=>?_)))))))))))))))))))))
 ·replace H:=H.1 (of_decide_eq_true b1)
  refine zm (za (WC.block (zc (zb (yp (h:=(zd (za (zc (zc (zb (yp (h:=(zd (za (WC.block ?_))))))))))))))))
  obtain ⟨I2,mu2,m1,HR2⟩:=H
  refine zA (fun n' L' w'=>∃ (best:Int),∃ (i:Int),n'=mu2 best i/\L'=[(0,.pointer (some ⟨g_g,0,none⟩)),(3,.slice a8 out.length b0),(4,.int .i64 best),(5,.int .i64 i)]/\I2 best i/\w.grownBy w' none/\Own vi w' w.heap.size 3 a8 b0 out) _ _ ⟨(-1:Int),(0:Int),rfl,rfl,m1,gr1,k1⟩ sb ?_
  clear m1
  rintro _ _ w2 ⟨best,i,rfl,rfl,hI2,gr2,k2⟩
  have H:=HR2 best i hI2
  refine zc (zc (zb (yp (h:=(yp (h:=(yp (h:=(yp (h:=(zi rfl (zt qD (hg.g0 gr2) rfl rfl rfl) (yp (h:=(yp (h:=(yp (h:=(zD 3 (fun L' w'=>∃ q1:Bool,L'=[(27,.bool q1),(0,.pointer (some ⟨g_g,0,none⟩)),(3,.slice a8 out.length b0),(4,.int .i64 best),(5,.int .i64 i)]/\((decide (i<(g_L.length:Int))) && (decide (best<(0:Int))))=q1/\w2=w') ?_ (fun hQ=>?_)))))))))))))))))))
  ·rintro _ _ ⟨q1,rfl,rfl,rfl⟩
   refine zd (za (zk rfl (fun b2=>?_) (fun b2=>?_)))
   ·replace H:=H.1 (b2)
    refine zm (za (zc ?_))
    obtain ⟨J1,H,hJ1⟩:=H
    refine zL (fun L' w'=>∃ (best2:Int),L'=[(0,.pointer (some ⟨g_g,0,none⟩)),(3,.slice a8 out.length b0),(4,.int .i64 best2),(5,.int .i64 i)]/\J1 best2/\w.grownBy w' none/\Own vi w' w.heap.size 3 a8 b0 out) ?_ (fun hQ=>?_)
    ·clear H
     rintro _ w3 ⟨best2,rfl,H,gr3,k3⟩
     replace H:=hJ1 best2 H
     refine za (zb (yp (h:=?_)))
     obtain ⟨h1,H⟩:=H
     exact zi rfl (Yld.add rfl rfl h1) (yp (h:=(zd (zw _ ⟨best2,i+(1:Int),rfl,rfl,H.1,gr3,k3⟩ sb H.2))))
    ·clear hJ1
     refine WC.block (zc (zc (zb (yp (h:=(yp (h:=(zr rfl rfl (kY k2.rd rfl H) ?_))))))))
     rintro _ _ ⟨rfl,t32,rfl,H⟩
     refine zd (za (zk rfl (fun b3=>?_) (fun b3=>?_)))
     ·replace H:=H.1 (b3)
      exact zz (zf (zj (WX.weaken sb (hQ _ _ ⟨best,rfl,H,gr2,k2⟩))))
     ·replace H:=H.2 (b3)
      refine zm (za (zc (zb (yp (h:=(zd (za (zc (zb (yp (h:=(yp (h:=(zr rfl rfl (jp (c6.grown gr2) rfl (a9.grown gr2) (hg.g0 gr2) H) ?_))))))))))))))
      rintro _ w4 ⟨hg1,b,A_b,c_b,rfl,hb,H⟩
      have hb1:=hb.ge'
      have k4:=hb.base (fun g hg=>Nat.le_trans (qF gr2) (hb1 g hg))
      have gr4:=qE gr2 hg1
      have k5:=k2.grown hg1
      refine yp (h:=(zd (za (zc (zc (zb (yp (h:=(zd (za (WC.block ?_)))))))))))
      obtain ⟨I3,mu3,r2,HR3⟩:=H
      refine zA (fun n' L' w'=>∃ (free:Bool),∃ (k:Int),n'=mu3 free k/\L'=[(0,.pointer (some ⟨g_g,0,none⟩)),(3,.slice a8 out.length b0),(4,.int .i64 best),(5,.int .i64 i),(6,.bool free),(7,.slice A_b b.length c_b),(8,.int .i64 k)]/\I3 free k/\w4=w') _ _ ⟨true,(0:Int),rfl,rfl,r2,rfl⟩ sb ?_
      clear r2
      rintro _ _ _ ⟨free,k,rfl,rfl,hI3,rfl⟩
      have H:=HR3 free k hI3
      refine zc (zc (zb (yp (h:=(yp (h:=(yp (h:=(yp (h:=(zd (za (zk rfl (fun b4=>?_) (fun b4=>?_))))))))))))))
      ·replace H:=H.1 (of_decide_eq_true b4)
       refine zm (za (zc (WC.block (zb (yp (h:=(yp (h:=?_))))))))
       obtain ⟨J2,H,hJ2⟩:=H
       refine zD 7 (fun L' w'=>∃ q2:Bool,L'=[(50,.bool q2),(0,.pointer (some ⟨g_g,0,none⟩)),(3,.slice a8 out.length b0),(4,.int .i64 best),(5,.int .i64 i),(7,.slice A_b b.length c_b),(8,.int .i64 k)]/\J2 q2/\w4=w') ?_ (fun hQ=>?_)
       ·clear H
        rintro _ _ ⟨q2,rfl,H,rfl⟩
        replace H:=hJ2 q2 H
        refine yp (h:=(zd (zg (za (zb (yp (h:=?_)))))))
        obtain ⟨h2,H⟩:=H
        exact zi rfl (Yld.add rfl rfl h2) (yp (h:=(zd (zw _ ⟨q2,k+(1:Int),rfl,rfl,H.1,rfl⟩ sb H.2))))
       ·clear hJ2
        rcases Bool.eq_false_or_eq_true (free) with b5 | b5
        ·replace H:=H.1 b5
         refine gp b5 (h:=(gp b5 (h:=(gp b5 (h:=?_)))))
         obtain ⟨h3,H⟩:=H
         refine zC rfl rfl (okb b5) rfl (zn qD k4.rd rfl rfl rfl rfl h3.1 h3.2) (zC rfl rfl (okb b5) rfl (zo 0 qD k4.rd rfl rfl (iltN h3 rfl)) (qe (qX rfl rfl (okb b5)) rfl rfl (kY k5.rd rfl H) ?_))
         rintro _ _ ⟨rfl,t49,rfl,H⟩
         exact zi rfl (zy (okb b5) rfl) (wk (hQ _ _ ⟨t49,rfl,H,rfl⟩))
        ·replace H:=H.2 b5
         exact gn b5 (h:=(gn b5 (h:=(gn b5 (h:=(gn b5 (h:=(gn b5 (h:=(gn b5 (h:=(zi rfl (zv (okb b5) rfl) (wk (hQ _ _ ⟨false,rfl,H,rfl⟩))))))))))))))
      ·replace H:=H.2 (of_decide_eq_false b4)
       refine zz (zf (zf (zj (za (zc (zb (yp (h:=(zd (za (zk rfl (fun b6=>?_) (fun b6=>?_))))))))))))
       ·replace H:=H.1 (b6)
        exact zb (yp (h:=(yp (h:=(zd (zg (WX.weaken sb (hQ _ _ ⟨i,rfl,H,gr4,k5⟩))))))))
       ·replace H:=H.2 (b6)
        exact zm (zg (WX.weaken sb (hQ _ _ ⟨best,rfl,H,gr4,k5⟩)))
   ·replace H:=H.2 (b2)
    refine zz (zf (zf (zj (za (zc (zc (zb (yp (h:=(yp (h:=(zd (za (zk rfl (fun b7=>?_) (fun b7=>?_)))))))))))))))
    ·replace H:=H.1 (of_decide_eq_true b7)
     exact zc (zb (yp (h:=(yp (h:=(zd (za (zq (zh (zp (zh (zp (zh (zx rfl rfl ⟨gr2,out,a8,b0,rfl,k2,H⟩))))))))))))))
    ·replace H:=H.2 (of_decide_eq_false b7)
     refine zm (za (zb (yp (h:=(yp (h:=(zP qD rfl rfl rfl (qG rfl qR) rfl (by omega) (fun g1 w5 hB1 hg2 hl1=>?_))))))))
     have hO1:Own vi w5 w.heap.size 3 (some ⟨g1,0,none⟩) 1 ([best]:List Int):=Own.ofBl hB1 (Nat.le_trans (qF gr2) hl1) (by simp [maxLen]) rfl
     have gr5:=qE gr2 hg2
     have k6:=k2.grown hg2
     obtain ⟨h4,H⟩:=H
     exact zG qD rfl rfl One.i k6 rfl rfl hO1.rd rfl rfl h4 (qN h4) (qF gr5) (fun c0 c1 w6 hO2 hg3 hk1=>yp (h:=(zd (zg (zw _ ⟨out++([best]:List Int),c0,c1,(out++([best]:List Int)).length,rfl,rfl,H.1,rfl,(qH gr5 hg3 k6.ge'),hO2⟩ sb H.2)))))
  ·clear H
   rcases Bool.eq_false_or_eq_true (decide (i<(g_L.length:Int))) with b8 | b8
   ·exact gp b8 (h:=(gp b8 (h:=(zi rfl (zy (okb b8) rfl) (wk (hQ _ _ ⟨decide (best<(0:Int)),rfl,by rw [b8] <;> rfl,rfl⟩))))))
   ·exact gn b8 (h:=(gn b8 (h:=(zi rfl (zv (okb b8) rfl) (wk (hQ _ _ ⟨false,rfl,by rw [b8] <;> rfl,rfl⟩))))))
 ·replace H:=H.2 (of_decide_eq_false b1)
  exact zz (zf (zf (zj (za (zc (zb (yp (h:=(yp (h:=(zd (za (zq (zx rfl rfl ⟨gr1,out,a8,b0,rfl,k1,H⟩))))))))))))))
set_option maxHeartbeats 8000000 in
theorem W_smithyref17_NewGraph {w:World} {l:List (Int × List (List UInt8) × List (List UInt8) × List UInt8)} {A_l:Option Addr} {c_l:Nat} {s6:List (Int × Hdr × Hdr × List UInt8)} {n_l:Nat} {K0:Int->Bool->Int->Bool->(List UInt8)->Prop} {K:(List (Int × List (List UInt8) × List (List UInt8) × List UInt8))->Int->Bool->Int->Bool->(List UInt8)->Prop} (hl:RdK 4 qP w A_l c_l s6) (o9:n_l=l.length) (c8:RelD de64 w s6 l) (H:jx l K0 K):Fn Tryz.prog 8 ⟨[.slice A_l n_l c_l]⟩ w (fun v w'=>w.grownBy w' none/\((∃ (o4:Int),∃ (m3:Bool),∃ (p3:Int),∃ (m4:Bool),∃ (o5:List UInt8),v=.tuple #[.pointer none,.agg ⟨[.int .i64 o4,.bool m3,.int .i64 p3,.bool m4,vs o5]⟩]/\K0 o4 m3 p3 m4 o5)∨(∃ (r1:Nat),∃ (r4:List (Int × List (List UInt8) × List (List UInt8) × List UInt8)),∃ (m6:Option Addr),∃ (p9:Nat),∃ (i9:List (Int × Hdr × Hdr × List UInt8)),∃ (p1:Int),∃ (m5:Bool),∃ (r5:Int),∃ (o6:Bool),∃ (p2:List UInt8),v=.tuple #[.pointer (some ⟨r1,0,none⟩),.agg ⟨[.int .i64 p1,.bool m5,.int .i64 r5,.bool o6,vs p2]⟩]/\OwnK 4 qP w' w.heap.size 64 m6 p9 i9/\RelD de64 w' i9 r4/\Bl w' r1 89 [.slice m6 r4.length p9]/\Ge (some r1) w.heap.size/\DnD de64 i9 r4 (blk m6)/\DnD de64 i9 r4 (some r1)/\Dj (blk m6) (some r1)/\K r4 p1 m5 r5 o6 p2))):=by
 subst o9
 unfold jx at H
 refine Fn.enter (by kernel_rfl) Tryz.func8 rfl Tryz.ntmps8 rfl ?_
 replace H:=H (by rw [<-c8.1]; exact Nat.le_trans hl.cap hl.max)
 refine zc (zb (yp (h:=(WL.alloc rfl zero35 (fun g1 w1 hB1 hg1 hl1=>?_)))))
 have gr1:=hg1
 refine zd (za (zc (zc (zb (yp (h:=(yp (h:=(yp (h:=(zd (za (zk rfl (fun b1=>?_) (fun b1=>?_))))))))))))))
 ·replace H:=H.1 (of_decide_eq_true b1)
  refine zc (zb (zr rfl rfl (W_smithyref_Bare H) ?_))
  rintro _ w2 ⟨hg2,g8,d5,l0,e7,g9,rfl,H⟩
  exact yp (h:=(zH (vs:=[.int .i64 g8,.bool d5,.int .i64 l0,.bool e7,vs g9]) qD rfl rfl rfl (qG rfl (qG rfl (qG rfl (qG rfl (qG rfl qR))))) (hB1.g0 hg2) rfl rfl (fun w3 hB2 hg3=>zd (za (zq (zh (qo qD rfl rfl rfl rfl hB2 rfl ⟨(qH (qE gr1 hg2) hg3 (Ge.le (Ge.box hl1) (Nat.le_refl _))),Or.inl ⟨g8,d5,l0,e7,g9,rfl,H⟩⟩)))))))
 ·replace H:=H.2 (of_decide_eq_false b1)
  refine zm (za (zc (zc (zb (yp (h:=(zd (za (WC.block ?_)))))))))
  obtain ⟨I1,mu1,c5,HR1⟩:=H
  refine zA (fun n' L' w'=>∃ (i:Int),∃ (t30:Int),∃ (t31:Bool),∃ (t32:Int),∃ (t33:Bool),∃ (t34:List UInt8),n'=mu1 i t30 t31 t32 t33 t34/\L'=[(0,.slice A_l l.length c_l),(3,.pointer (some ⟨g1,0,none⟩)),(4,.int .i64 i)]/\I1 i t30 t31 t32 t33 t34/\w.grownBy w' none/\Bl w' g1 35 [.int .i64 t30,.bool t31,.int .i64 t32,.bool t33,vs t34]) _ _ ⟨(0:Int),(0:Int),false,(0:Int),false,([]:List UInt8),rfl,rfl,c5,gr1,hB1⟩ sb ?_
  clear c5
  rintro _ _ w4 ⟨i,t30,t31,t32,t33,t34,rfl,rfl,hI1,gr4,k2⟩
  have H:=HR1 i t30 t31 t32 t33 t34 hI1
  refine zc (zc (zb (yp (h:=(yp (h:=(yp (h:=(yp (h:=(zd (za (zk rfl (fun b2=>?_) (fun b2=>?_))))))))))))))
  ·replace H:=H.1 (of_decide_eq_true b2)
   refine zm (za (zc (WC.block (zc (zb (yp (h:=(yp (h:=?_)))))))))
   obtain ⟨h1,H⟩:=H
   refine zi rfl (zE qD (hl.grown gr4) rfl rfl c8.1.symm rfl h1.1 h1.2) (zi rfl (zK qD (hl.grown gr4) (iltN h1 c8.1.symm) rfl rfl rfl) ?_)
   obtain ⟨⟨f1,⟨p6,n1,p8⟩,⟨l6,n2,l9⟩,f2⟩,eh1,⟨en1,⟨en2,hR1⟩,⟨en3,hR2⟩,en4⟩⟩:=RelD.at c8 (0,hd0,hd0,[]) (0,[],[],[]) (j:=i.toNat) (Nat.lt_of_lt_of_eq (iltN h1 c8.1.symm) c8.1)
   have en1:f1=(l.getD i.toNat (0,[],[],[])).1:=en1
   subst en1
   have en2:n1=((l.getD i.toNat (0,[],[],[])).2.1).length:=en2
   subst en2
   have en3:n2=((l.getD i.toNat (0,[],[],[])).2.2.1).length:=en3
   subst en3
   have en4:f2=(l.getD i.toNat (0,[],[],[])).2.2.2:=en4
   subst en4
   refine zi rfl (zN (v:=.slice l6 (((l.getD i.toNat (0,[],[],[])).2.2.1).length) l9) (0,hd0,hd0,[]) qD (hl.grown gr4) rfl rfl (iltN h1 c8.1.symm) (by rw [eh1]; rfl)) (yp (h:=(yp (h:=(yp (h:=?_))))))
   obtain ⟨h2,H⟩:=H
   refine zD 8 (fun L' w'=>∃ q1:Bool,L'=[(37,.bool q1),(0,.slice A_l l.length c_l),(3,.pointer (some ⟨g1,0,none⟩)),(4,.int .i64 i)]/\((decide ((1000:Int)<(((l.getD i.toNat (0,[],[],[])).2.2.1).length:Int))) || (decide ((1000:Int)<(((l.getD i.toNat (0,[],[],[])).2.1).length:Int))))=q1/\w4=w') ?_ (fun hQ=>?_)
   ·rintro _ _ ⟨q1,rfl,rfl,rfl⟩
    refine zd (za (zk rfl (fun b3=>?_) (fun b3=>?_)))
    ·replace H:=H.1 (b3)
     refine zc (zb (zr rfl rfl (W_smithyref_Bare H) ?_))
     rintro _ w5 ⟨hg4,h0,d6,l1,e8,i0,rfl,H⟩
     exact yp (h:=(zH (vs:=[.int .i64 h0,.bool d6,.int .i64 l1,.bool e8,vs i0]) qD rfl rfl rfl (qG rfl (qG rfl (qG rfl (qG rfl (qG rfl qR))))) (k2.g0 hg4) rfl rfl (fun w6 hB3 hg5=>zd (za (zq (zp (zh (zh (zp (zh (qo qD rfl rfl rfl rfl hB3 rfl ⟨(qH (qE gr4 hg4) hg5 (Ge.le (Ge.box hl1) (Nat.le_refl _))),Or.inl ⟨h0,d6,l1,e8,i0,rfl,H⟩⟩)))))))))))
    ·replace H:=H.2 (b3)
     refine zm (zg (za (zb (yp (h:=?_)))))
     obtain ⟨h3,H⟩:=H
     exact zi rfl (Yld.add rfl rfl h3) (yp (h:=(zd (zw _ ⟨i+(1:Int),t30,t31,t32,t33,t34,rfl,rfl,H.1,gr4,k2⟩ sb H.2))))
   ·clear H
    rcases Bool.eq_false_or_eq_true (decide ((1000:Int)<(((l.getD i.toNat (0,[],[],[])).2.2.1).length:Int))) with b4 | b4
    ·exact gn b4 (h:=(gn b4 (h:=(gn b4 (h:=(gn b4 (h:=(gn b4 (h:=(gn b4 (h:=(gn b4 (h:=(zi rfl (zy (okb b4) rfl) (wk (hQ _ _ ⟨true,rfl,by rw [b4] <;> rfl,rfl⟩))))))))))))))))
    ·exact gp b4 (h:=(gp b4 (h:=(zC rfl rfl (okb b4) rfl (zE qD (hl.grown gr4) rfl rfl c8.1.symm rfl (h2 b4).1 (h2 b4).2) (zC rfl rfl (okb b4) rfl (zK qD (hl.grown gr4) (iltN (h2 b4) c8.1.symm) rfl rfl rfl) (zC rfl rfl (okb b4) rfl (zN (v:=.slice p6 (((l.getD i.toNat (0,[],[],[])).2.1).length) p8) (0,hd0,hd0,[]) qD (hl.grown gr4) rfl rfl (iltN (h2 b4) c8.1.symm) (by rw [eh1]; rfl)) (gp b4 (h:=(gp b4 (h:=(zi rfl (zv (okb b4) rfl) (wk (hQ _ _ ⟨decide ((1000:Int)<(((l.getD i.toNat (0,[],[],[])).2.1).length:Int)),rfl,by rw [b4] <;> rfl,rfl⟩)))))))))))))
  ·replace H:=H.2 (of_decide_eq_false b2)
   refine zz (zf (zf (zj (za (zc (zc (zb (yp (h:=(zd (za (WC.block ?_))))))))))))
   obtain ⟨I2,mu2,m1,HR2⟩:=H
   refine zA (fun n' L' w'=>∃ (i2:Int),∃ (t302:Int),∃ (t312:Bool),∃ (t322:Int),∃ (t332:Bool),∃ (t342:List UInt8),n'=mu2 i2 t302 t312 t322 t332 t342/\L'=[(0,.slice A_l l.length c_l),(3,.pointer (some ⟨g1,0,none⟩)),(5,.int .i64 i2)]/\I2 i2 t302 t312 t322 t332 t342/\w.grownBy w' none/\Bl w' g1 35 [.int .i64 t302,.bool t312,.int .i64 t322,.bool t332,vs t342]) _ _ ⟨(0:Int),t30,t31,t32,t33,t34,rfl,rfl,m1,gr4,k2⟩ sb ?_
   clear m1
   rintro _ _ w7 ⟨i2,t302,t312,t322,t332,t342,rfl,rfl,hI2,gr7,k4⟩
   have H:=HR2 i2 t302 t312 t322 t332 t342 hI2
   refine zc (zc (zb (yp (h:=(yp (h:=(yp (h:=(yp (h:=(zd (za (zk rfl (fun b5=>?_) (fun b5=>?_))))))))))))))
   ·replace H:=H.1 (of_decide_eq_true b5)
    refine zm (za (zc (WC.block (zc (zb (yp (h:=(yp (h:=?_)))))))))
    obtain ⟨h4,H⟩:=H
    refine zi rfl (zE qD (hl.grown gr7) rfl rfl c8.1.symm rfl h4.1 h4.2) ?_
    obtain ⟨⟨f3,⟨m8,n3,n8⟩,⟨m9,n4,n9⟩,f4⟩,eh2,⟨en5,⟨en6,hR3⟩,⟨en7,hR4⟩,en8⟩⟩:=RelD.at c8 (0,hd0,hd0,[]) (0,[],[],[]) (j:=i2.toNat) (Nat.lt_of_lt_of_eq (iltN h4 c8.1.symm) c8.1)
    have en5:f3=(l.getD i2.toNat (0,[],[],[])).1:=en5
    subst en5
    have en6:n3=((l.getD i2.toNat (0,[],[],[])).2.1).length:=en6
    subst en6
    have en7:n4=((l.getD i2.toNat (0,[],[],[])).2.2.1).length:=en7
    subst en7
    have en8:f4=(l.getD i2.toNat (0,[],[],[])).2.2.2:=en8
    subst en8
    refine zi rfl (qk (v:=.agg ⟨[.int .i64 ((l.getD i2.toNat (0,[],[],[])).1),.slice m8 (((l.getD i2.toNat (0,[],[],[])).2.1).length) n8,.slice m9 (((l.getD i2.toNat (0,[],[],[])).2.2.1).length) n9,vs ((l.getD i2.toNat (0,[],[],[])).2.2.2)]⟩) (zU (0,hd0,hd0,[]) qD (hl.grown gr7) rfl rfl (iltN h4 c8.1.symm)) (by rw [eh2]; rfl)) (WL.alloc rfl zero64 (fun g2 w8 hB4 hg6 hl2=>zH (vs:=[.int .i64 ((l.getD i2.toNat (0,[],[],[])).1),.slice m8 (((l.getD i2.toNat (0,[],[],[])).2.1).length) n8,.slice m9 (((l.getD i2.toNat (0,[],[],[])).2.2.1).length) n9,vs ((l.getD i2.toNat (0,[],[],[])).2.2.2)]) qD rfl rfl rfl (qG rfl (qG rfl (qG rfl (qG rfl qR)))) hB4 rfl rfl (fun w9 hB5 hg7=>?_)))
    have gr9:=qH (qE gr7 hg6) hg7 (Ge.le (Ge.box hl2) (qF gr7))
    have k6:=(k4.g0 hg6).go hg7 (Dj.new k4.lt' (Ge.box hl2))
    refine zd (za (zc (zc (zb (yp (h:=(zi rfl (zt qD hB5 rfl rfl rfl) (yp (h:=(yp (h:=(zD 4 (fun L' w'=>∃ q2:Bool,L'=[(56,.bool q2),(0,.slice A_l l.length c_l),(3,.pointer (some ⟨g1,0,none⟩)),(5,.int .i64 i2),(6,.pointer (some ⟨g2,0,none⟩))]/\((decide (((l.getD i2.toNat (0,[],[],[])).1)<(1:Int))) || (decide ((5:Int)<((l.getD i2.toNat (0,[],[],[])).1))))=q2/\w9=w') ?_ (fun hQ=>?_)))))))))))))
    ·rintro _ _ ⟨q2,rfl,rfl,rfl⟩
     refine zd (za (zk rfl (fun b6=>?_) (fun b6=>?_)))
     ·replace H:=H.1 (b6)
      refine zc (zb (yp (h:=(zr rfl rfl (kL H) ?_))))
      rintro _ w10 ⟨hg8,i1,d7,l3,e9,i4,rfl,H⟩
      exact yp (h:=(zH (vs:=[.int .i64 i1,.bool d7,.int .i64 l3,.bool e9,vs i4]) qD rfl rfl rfl (qG rfl (qG rfl (qG rfl (qG rfl (qG rfl qR))))) (k6.g0 hg8) rfl rfl (fun w11 hB6 hg9=>zd (za (zq (zh (zp (zh (zh (zp (zh (qo qD rfl rfl rfl rfl hB6 rfl ⟨(qH (qE gr9 hg8) hg9 (Ge.le (Ge.box hl1) (Nat.le_refl _))),Or.inl ⟨i1,d7,l3,e9,i4,rfl,H⟩⟩))))))))))))
     ·replace H:=H.2 (b6)
      refine zm (za (zc (zb (yp (h:=(zi rfl (zt qD hB5 rfl rfl rfl) (zr rfl rfl (W_smithyref1_Valid H) ?_)))))))
      rintro _ w12 ⟨hg10,good,rfl,H⟩
      refine yp (h:=(zd (za (zc (zc (zb (yp (h:=(zd (za (WC.block ?_)))))))))))
      obtain ⟨I3,mu3,r2,HR3⟩:=H
      refine zA (fun n' L' w'=>∃ (good2:Bool),∃ (k:Int),n'=mu3 good2 k/\L'=[(0,.slice A_l l.length c_l),(3,.pointer (some ⟨g1,0,none⟩)),(5,.int .i64 i2),(6,.pointer (some ⟨g2,0,none⟩)),(7,.bool good2),(8,.int .i64 k)]/\I3 good2 k/\w.grownBy w' none/\Bl w' g1 35 [.int .i64 t302,.bool t312,.int .i64 t322,.bool t332,vs t342]/\Bl w' g2 64 [.int .i64 ((l.getD i2.toNat (0,[],[],[])).1),.slice m8 (((l.getD i2.toNat (0,[],[],[])).2.1).length) n8,.slice m9 (((l.getD i2.toNat (0,[],[],[])).2.2.1).length) n9,vs ((l.getD i2.toNat (0,[],[],[])).2.2.2)]) _ _ ⟨good,(0:Int),rfl,rfl,r2,(qE gr9 hg10),(k6.g0 hg10),(hB5.g0 hg10)⟩ sb ?_
      clear r2
      rintro _ _ w13 ⟨good2,k,rfl,rfl,hI3,gr13,k10,k11⟩
      have H:=HR3 good2 k hI3
      refine zc (zc (zb (yp (h:=(yp (h:=(zi rfl (zt qD k11 rfl rfl rfl) (yp (h:=(yp (h:=(zd (za (zk rfl (fun b7=>?_) (fun b7=>?_)))))))))))))))
      ·replace H:=H.1 (of_decide_eq_true b7)
       refine zm (za (zc (WC.block (zb (yp (h:=(yp (h:=?_))))))))
       obtain ⟨J1,H,hJ1⟩:=H
       refine zD 7 (fun L' w'=>∃ q3:Bool,L'=[(77,.bool q3),(0,.slice A_l l.length c_l),(3,.pointer (some ⟨g1,0,none⟩)),(5,.int .i64 i2),(6,.pointer (some ⟨g2,0,none⟩)),(8,.int .i64 k)]/\J1 q3/\w.grownBy w' none/\Bl w' g1 35 [.int .i64 t302,.bool t312,.int .i64 t322,.bool t332,vs t342]/\Bl w' g2 64 [.int .i64 ((l.getD i2.toNat (0,[],[],[])).1),.slice m8 (((l.getD i2.toNat (0,[],[],[])).2.1).length) n8,.slice m9 (((l.getD i2.toNat (0,[],[],[])).2.2.1).length) n9,vs ((l.getD i2.toNat (0,[],[],[])).2.2.2)]) ?_ (fun hQ=>?_)
       ·clear H
        rintro _ w14 ⟨q3,rfl,H,gr14,k12,k13⟩
        replace H:=hJ1 q3 H
        refine yp (h:=(zd (zg (za (zb (yp (h:=?_)))))))
        obtain ⟨h5,H⟩:=H
        exact zi rfl (Yld.add rfl rfl h5) (yp (h:=(zd (zw _ ⟨q3,k+(1:Int),rfl,rfl,H.1,gr14,k12,k13⟩ sb H.2))))
       ·clear hJ1
        rcases Bool.eq_false_or_eq_true (good2) with b8 | b8
        ·replace H:=H.1 b8
         refine gp b8 (h:=(zC rfl rfl (okb b8) rfl (zt qD k11 rfl rfl rfl) (gp b8 (h:=?_))))
         obtain ⟨h6,H⟩:=H
         refine zC rfl rfl (okb b8) rfl (zn qD (hR4.grown gr13) rfl rfl rfl rfl h6.1 h6.2) (zC rfl rfl (okb b8) rfl (zo [] qD (hR4.grown gr13) rfl rfl (iltN h6 rfl)) (qe (qX rfl rfl (okb b8)) rfl rfl (W_smithyref1_Valid H) ?_))
         rintro _ w15 ⟨hg11,t76,rfl,H⟩
         exact zi rfl (zy (okb b8) rfl) (wk (hQ _ _ ⟨t76,rfl,H,(qE gr13 hg11),(k10.g0 hg11),(k11.g0 hg11)⟩))
        ·replace H:=H.2 b8
         exact gn b8 (h:=(gn b8 (h:=(gn b8 (h:=(gn b8 (h:=(gn b8 (h:=(gn b8 (h:=(zi rfl (zv (okb b8) rfl) (wk (hQ _ _ ⟨false,rfl,H,gr13,k10,k11⟩))))))))))))))
      ·replace H:=H.2 (of_decide_eq_false b7)
       refine zz (zf (zf (zj (za (zc (zc (zb (yp (h:=(yp (h:=(zd (za (zk rfl (fun b9=>?_) (fun b9=>?_)))))))))))))))
       ·replace H:=H.1 (b9)
        refine zc (zb (yp (h:=(zr rfl rfl (kL H) ?_))))
        rintro _ w16 ⟨hg12,i5,d8,l4,f0,i6,rfl,H⟩
        exact yp (h:=(zH (vs:=[.int .i64 i5,.bool d8,.int .i64 l4,.bool f0,vs i6]) qD rfl rfl rfl (qG rfl (qG rfl (qG rfl (qG rfl (qG rfl qR))))) (k10.g0 hg12) rfl rfl (fun w17 hB7 hg13=>zd (za (zq (zh (zp (zh (zh (zp (zh (qo qD rfl rfl rfl rfl hB7 rfl ⟨(qH (qE gr13 hg12) hg13 (Ge.le (Ge.box hl1) (Nat.le_refl _))),Or.inl ⟨i5,d8,l4,f0,i6,rfl,H⟩⟩))))))))))))
       ·replace H:=H.2 (b9)
        refine zm (za (zc (zb (yp (h:=(zd (za (WC.block ?_))))))))
        obtain ⟨I4,mu4,s3,HR4⟩:=H
        refine zA (fun n' L' w'=>∃ (k_2:Int),∃ (t303:Int),∃ (t313:Bool),∃ (t323:Int),∃ (t333:Bool),∃ (t343:List UInt8),n'=mu4 k_2 t303 t313 t323 t333 t343/\L'=[(0,.slice A_l l.length c_l),(3,.pointer (some ⟨g1,0,none⟩)),(5,.int .i64 i2),(6,.pointer (some ⟨g2,0,none⟩)),(9,.int .i64 k_2)]/\I4 k_2 t303 t313 t323 t333 t343/\w.grownBy w' none/\Bl w' g1 35 [.int .i64 t303,.bool t313,.int .i64 t323,.bool t333,vs t343]/\Bl w' g2 64 [.int .i64 ((l.getD i2.toNat (0,[],[],[])).1),.slice m8 (((l.getD i2.toNat (0,[],[],[])).2.1).length) n8,.slice m9 (((l.getD i2.toNat (0,[],[],[])).2.2.1).length) n9,vs ((l.getD i2.toNat (0,[],[],[])).2.2.2)]) _ _ ⟨(0:Int),t302,t312,t322,t332,t342,rfl,rfl,s3,gr13,k10,k11⟩ sb ?_
        clear s3
        rintro _ _ w18 ⟨k_2,t303,t313,t323,t333,t343,rfl,rfl,hI4,gr18,k17,k18⟩
        have H:=HR4 k_2 t303 t313 t323 t333 t343 hI4
        refine zc (zc (zb (yp (h:=(yp (h:=(yp (h:=(zd (za (zk rfl (fun b10=>?_) (fun b10=>?_))))))))))))
        ·replace H:=H.1 (of_decide_eq_true b10)
         refine zm (za (zc (WC.block (zc (zQ mixed (by kernel_rfl) (zB rfl (ze qD rfl) (zB rfl (ze qD rfl) ?_)))))))
         obtain ⟨h7,H⟩:=H
         refine zB rfl (zE qD (hl.grown gr18) rfl rfl c8.1.symm rfl h7.1 h7.2) (zB rfl (zK qD (hl.grown gr18) (iltN h7 c8.1.symm) rfl rfl rfl) ?_)
         obtain ⟨⟨f5,⟨u0,n5,u4⟩,⟨u1,n6,u5⟩,f6⟩,eh3,⟨en9,⟨en10,hR5⟩,⟨en11,hR6⟩,en12⟩⟩:=RelD.at c8 (0,hd0,hd0,[]) (0,[],[],[]) (j:=k_2.toNat) (Nat.lt_of_lt_of_eq (iltN h7 c8.1.symm) c8.1)
         have en9:f5=(l.getD k_2.toNat (0,[],[],[])).1:=en9
         subst en9
         have en10:n5=((l.getD k_2.toNat (0,[],[],[])).2.1).length:=en10
         subst en10
         have en11:n6=((l.getD k_2.toNat (0,[],[],[])).2.2.1).length:=en11
         subst en11
         have en12:f6=(l.getD k_2.toNat (0,[],[],[])).2.2.2:=en12
         subst en12
         refine zB rfl (zN (v:=vs ((l.getD k_2.toNat (0,[],[],[])).2.2.2)) (0,hd0,hd0,[]) qD (hl.grown gr18) rfl rfl (iltN h7 c8.1.symm) (by rw [eh3]; rfl)) (zB rfl (ze qD rfl) (zB rfl (zt qD k18 rfl rfl rfl) (zB rfl (ze qD rfl) (zW (za (zk rfl (fun b11=>?_) (fun b11=>?_)))))))
         ·replace H:=H.1 (of_decide_eq_true b11)
          refine zc (zb (yp (h:=(zr rfl rfl (kL H) ?_))))
          rintro _ w19 ⟨hg14,i7,d9,l5,f7,i8,rfl,H⟩
          exact yp (h:=(zH (vs:=[.int .i64 i7,.bool d9,.int .i64 l5,.bool f7,vs i8]) qD rfl rfl rfl (qG rfl (qG rfl (qG rfl (qG rfl (qG rfl qR))))) (k17.g0 hg14) rfl rfl (fun w20 hB8 hg15=>zd (za (zq (zp (zh (zh (zp (zp (zh (zh (zp (zh (qo qD rfl rfl rfl rfl hB8 rfl ⟨(qH (qE gr18 hg14) hg15 (Ge.le (Ge.box hl1) (Nat.le_refl _))),Or.inl ⟨i7,d9,l5,f7,i8,rfl,H⟩⟩)))))))))))))))
         ·replace H:=H.2 (of_decide_eq_false b11)
          refine zm (zg (za (zb (yp (h:=?_)))))
          obtain ⟨h8,H⟩:=H
          exact zi rfl (Yld.add rfl rfl h8) (yp (h:=(zd (zw _ ⟨k_2+(1:Int),t303,t313,t323,t333,t343,rfl,rfl,H.1,gr18,k17,k18⟩ sb H.2))))
        ·replace H:=H.2 (of_decide_eq_false b10)
         refine zz (zf (zf (zj (zg (za (zb (yp (h:=?_))))))))
         obtain ⟨h9,H⟩:=H
         exact zi rfl (Yld.add rfl rfl h9) (yp (h:=(zd (zw _ ⟨i2+(1:Int),t303,t313,t323,t333,t343,rfl,rfl,H.1,gr18,k17⟩ sb H.2))))
    ·clear H
     rcases Bool.eq_false_or_eq_true (decide (((l.getD i2.toNat (0,[],[],[])).1)<(1:Int))) with b12 | b12
     ·exact gn b12 (h:=(gn b12 (h:=(gn b12 (h:=(zi rfl (zy (okb b12) rfl) (wk (hQ _ _ ⟨true,rfl,by rw [b12] <;> rfl,rfl⟩))))))))
     ·exact gp b12 (h:=(zC rfl rfl (okb b12) rfl (zt qD hB5 rfl rfl rfl) (gp b12 (h:=(zi rfl (zv (okb b12) rfl) (wk (hQ _ _ ⟨decide ((5:Int)<((l.getD i2.toNat (0,[],[],[])).1)),rfl,by rw [b12] <;> rfl,rfl⟩)))))))
   ·replace H:=H.2 (of_decide_eq_false b5)
    refine zz (zf (zf (zj (za (zc (zb (yp (h:=(zr rfl rfl (W_smithyref_Actions (hl.grown gr7) rfl (c8.grown gr7) H) ?_)))))))))
    rintro _ w21 ⟨hg16,t98,n7,o1,p0,rfl,ht98,r3,nd1,dj1,H⟩
    have hb1:=ht98.ge'
    have k20:=ht98.base (fun g hg=>Nat.le_trans (qF gr7) (hb1 g hg))
    have gr21:=qE gr7 hg16
    have k21:=k4.g0 hg16
    refine zi rfl (zS (us:=[.slice n7 t98.length o1]) zero89 places89 rfl rfl) (WL.box (us:=[.slice n7 t98.length o1]) rfl rfl rfl (fun g3 w22 hB9 hg17 hl3=>yp (h:=(zd (za (zc (zc (zb (yp (h:=(zd (za (WC.block ?_)))))))))))))
    obtain ⟨I5,mu5,s4,HR5⟩:=H
    refine zA (fun n' L' w'=>∃ (i3:Int),∃ (t304:Int),∃ (t314:Bool),∃ (t324:Int),∃ (t334:Bool),∃ (t344:List UInt8),n'=mu5 i3 t304 t314 t324 t334 t344/\L'=[(0,.slice A_l l.length c_l),(3,.pointer (some ⟨g1,0,none⟩)),(10,.pointer (some ⟨g3,0,none⟩)),(11,.int .i64 i3)]/\I5 i3 t304 t314 t324 t334 t344/\w.grownBy w' none/\Bl w' g1 35 [.int .i64 t304,.bool t314,.int .i64 t324,.bool t334,vs t344]/\OwnK 4 qP w' w.heap.size 64 n7 o1 p0/\RelD de64 w' p0 t98/\Bl w' g3 89 [.slice n7 t98.length o1]) _ _ ⟨(0:Int),t302,t312,t322,t332,t342,rfl,rfl,s4,(qE gr21 hg17),(k21.g0 hg17),(k20.grown hg17),(r3.grown hg17),hB9⟩ sb ?_
    clear s4
    rintro _ _ w23 ⟨i3,t304,t314,t324,t334,t344,rfl,rfl,hI5,gr23,k25,k26,k27,k28⟩
    have H:=HR5 i3 t304 t314 t324 t334 t344 hI5
    refine zc (zc (zb (yp (h:=(yp (h:=(yp (h:=(yp (h:=(zd (za (zk rfl (fun b13=>?_) (fun b13=>?_))))))))))))))
    ·replace H:=H.1 (of_decide_eq_true b13)
     refine zm (za (zc (WC.block (zc (zb (yp (h:=(yp (h:=(yp (h:=(zr rfl rfl (jp k26.rd rfl k27 k28 H) ?_))))))))))))
     rintro _ w24 ⟨hg18,t110,t0,t5,rfl,ht110,H⟩
     have hb2:=ht110.ge'
     have k29:=ht110.base (fun g hg=>Nat.le_trans (qF gr23) (hb2 g hg))
     have gr24:=qE gr23 hg18
     have k31:=k26.grown hg18
     have k32:=k27.grown hg18
     have k33:=k28.g0 hg18
     refine zr rfl rfl (W_psmithyref17_Graph_reach k31.rd rfl k32 k33 (k29.base (fun _ _=>Nat.zero_le _)) rfl (apC (Dn.of (Dj.new k26.lt' hb2)) apN) (apC (k27.new hb2) apN) (apC (Dj.new k28.lt' hb2) apN) H) ?_
     rintro _ w25 ⟨hgl1,t111,t1,t6,rfl,ht111,H⟩
     have hb3:=ht111.ge'
     have gr25:=gr_modL gr24 hgl1 (apC k29.ge' apN)
     have k35:=(k25.g0 hg18).goL hgl1 (apC (Dj.new k25.lt' hb2) apN)
     refine yp (h:=(zr rfl rfl (kY (ht111.base (fun g hg=>Nat.le_trans (qF gr24) (hb3 g hg))).rd rfl H) ?_))
     rintro _ _ ⟨rfl,t113,rfl,H⟩
     refine zd (za (zk rfl (fun b14=>?_) (fun b14=>?_)))
     ·replace H:=H.1 (b14)
      refine zc (zb (yp (h:=(zr rfl rfl (kL H) ?_))))
      rintro _ w26 ⟨hg19,e3,c9,g6,d3,e4,rfl,H⟩
      exact yp (h:=(zH (vs:=[.int .i64 e3,.bool c9,.int .i64 g6,.bool d3,vs e4]) qD rfl rfl rfl (qG rfl (qG rfl (qG rfl (qG rfl (qG rfl qR))))) (k35.g0 hg19) rfl rfl (fun w27 hB10 hg20=>zd (za (zq (zp (zh (zh (zp (zh (qo qD rfl rfl rfl rfl hB10 rfl ⟨(qH (qE gr25 hg19) hg20 (Ge.le (Ge.box hl1) (Nat.le_refl _))),Or.inl ⟨e3,c9,g6,d3,e4,rfl,H⟩⟩)))))))))))
     ·replace H:=H.2 (b14)
      refine zm (zg (za (zb (yp (h:=?_)))))
      obtain ⟨h10,H⟩:=H
      exact zi rfl (Yld.add rfl rfl h10) (yp (h:=(zd (zw _ ⟨i3+(1:Int),t304,t314,t324,t334,t344,rfl,rfl,H.1,gr25,k35,(k31.goL hgl1 (apC (Dj.new k26.lt' hb2) apN)),(k32.goL hgl1 (apC (k27.new hb2) apN)),(k33.goL hgl1 (apC (Dj.new k28.lt' hb2) apN))⟩ sb H.2))))
    ·replace H:=H.2 (of_decide_eq_false b13)
     refine zz (zf (zf (zj (za (zc (zb (yp (h:=(zr rfl rfl (W_smithyref_None H) ?_)))))))))
     rintro _ w28 ⟨hg21,e5,d0,g7,d4,e6,rfl,H⟩
     exact yp (h:=(zH (vs:=[.int .i64 e5,.bool d0,.int .i64 g7,.bool d4,vs e6]) qD rfl rfl rfl (qG rfl (qG rfl (qG rfl (qG rfl (qG rfl qR))))) (k25.g0 hg21) rfl rfl (fun w29 hB11 hg22=>zd (za (zq (qo qD rfl rfl rfl rfl hB11 rfl ⟨(qH (qE gr23 hg21) hg22 (Ge.le (Ge.box hl1) (Nat.le_refl _))),Or.inr ⟨g3,t98,n7,o1,p0,e5,d0,g7,d4,e6,rfl,((k26.grown hg21).go hg22 ((Dj.new k4.lt' hb1).symm)),((k27.grown hg21).go hg22 (nd1 _ k4.lt')),((k28.g0 hg21).go hg22 ((Dj.new k21.lt' (Ge.box hl3)).symm)),(Ge.le (Ge.box hl3) (qF gr21)),dj1,(r3.new (Ge.box hl3)),(Dj.new k20.lt' (Ge.box hl3)),H⟩⟩))))))
end
 
section
open Go Go.RowKit
theorem rvalid_M {p:List UInt8} {K:Bool->Prop} (hp:p.length<=3999999999) (h:K (jr p)):j5 p K :=
 rclean_M (by omega) (kr (by rw [valid_is]; exact h))
theorem amongI_M {l:List Int} {n:Int} {K:Bool->Prop} (hl:l.length<=1000000000) (h:K (decide (n∈l))):jy l n K:=by
 intro _
 refine ⟨fun i=>0<=i/\i<=l.length/\∀ j,j<i.toNat->l.getD j 0≠n,fun i=>l.length - i.toNat,⟨by omega,by omega,by intro j hj; simp at hj⟩,fun i ⟨a0,a1,a2⟩=>⟨fun hlt=>⟨⟨a0,hlt⟩,fun he=>?_,fun hne=>⟨by simp only [In]; omega,⟨by omega,by omega,fun j hj=>?_⟩,by (try dsimp only); omega⟩⟩,fun hge=>?_⟩⟩
 ·rwa [decide_eq_true (he ▸ qT (by omega))] at h
 ·by_cases e:j=i.toNat
  ·rw [e]; exact hne
  ·exact a2 j (by omega)
 ·rwa [decide_eq_false fun hm=>by
   obtain ⟨j,hj,he⟩:=List.getElem_of_mem hm
   exact a2 j (by omega) (by simp [List.getD,hj,he])] at h
theorem strictI_insert {out:List Int} {x:Int} {k:Nat} (h:StrictG ltI out) (hk:k<=out.length) (h1:∀ j,j<k->out.getD j 0<x) (h2:k<out.length->x<out.getD k 0):StrictG ltI (out.take k++([x]++out.drop k)):=by
 have hp:=List.pairwise_iff_getElem.1 h
 have hL:∀ a b:Int,ltI a b=true↔a<b:=fun a b=>decide_eq_true_iff
 refine List.pairwise_append.2 ⟨List.Pairwise.take h,List.pairwise_append.2 ⟨List.pairwise_singleton _ _,List.Pairwise.drop h,fun a ha b hb=>?_⟩,fun a ha b hb=>?_⟩
 ·simp only [List.mem_singleton] at ha
  subst ha
  obtain ⟨i,hi,rfl⟩:=List.getElem_of_mem hb
  simp only [List.length_drop] at hi
  rw [List.getElem_drop]
  have hk':k<out.length:=by omega
  have e:out.getD k 0=out[k]:=by simp [List.getD,hk']
  have h3:=h2 hk'
  rw [e] at h3
  by_cases h0:i=0
  ·subst h0; exact (hL _ _).2 h3
  ·exact (hL _ _).2 (Int.lt_trans h3 ((hL _ _).1 (hp k (k+i) hk' (by omega) (by omega))))
 ·obtain ⟨i,hi,rfl⟩:=List.getElem_of_mem ha
  simp only [List.length_take] at hi
  rw [List.getElem_take]
  have h3:out[i]'(by omega)<x:=by
   have:=h1 i (by omega)
   rwa [show out.getD i 0=out[i]'(by omega) by simp [List.getD,show i<out.length by omega]] at this
  rcases List.mem_append.1 hb with hb | hb
  ·simp only [List.mem_singleton] at hb
   subst hb; exact (hL _ _).2 h3
  ·obtain ⟨j,hj,rfl⟩:=List.getElem_of_mem hb
   simp only [List.length_drop] at hj
   rw [List.getElem_drop]
   exact hp i (k+j) (by omega) (by omega) (by omega)
theorem sortedI_M {l:List Int} {K:List Int->Prop} (hl:l.length<=1000000) (h:K (uniqG ltI l)):kK l K:=by
 intro _
 refine ⟨fun out i=>0<=i/\i<=l.length/\StrictG ltI out/\(∀ x,x∈out↔x∈l.take i.toNat)/\out.length<=i.toNat,fun _ i=>l.length - i.toNat,⟨by omega,by omega,List.Pairwise.nil,by simp,by simp⟩,fun out i ⟨a0,a1,a2,a3,a4⟩=>⟨fun hlt=>?_,fun hge=>?_⟩⟩
 ·generalize hx:l.getD i.toNat 0=x
  have htk:∀ y,y∈l.take (i+1).toNat↔y∈l.take i.toNat∨y=x:=fun y=>by
   rw [show (i+1).toNat=i.toNat+1 by omega,List.take_succ_eq_append_getElem (by omega),List.mem_append,List.mem_singleton,<-hx]
   simp [List.getD,show i.toNat<l.length by omega]
  refine ⟨fun o=>StrictG ltI o/\(∀ y,y∈o↔y∈l.take (i+1).toNat)/\o.length<=i.toNat+1,?_,fun o ⟨h1,h2,h3⟩=>⟨by simp only [In]; omega,⟨by omega,by omega,h1,h2,by omega⟩,by (try dsimp only); omega⟩⟩
  refine ⟨fun k=>0<=k/\k<=out.length/\∀ j,j<k.toNat->out.getD j 0<x,fun k=>out.length - k.toNat,⟨by omega,by omega,by intro j hj; simp at hj⟩,fun k ⟨b0,b1,b2⟩=>⟨fun hd=>?_,fun hd=>?_,fun hc=>?_,fun hc=>⟨fun hd=>?_,fun hd=>?_,fun he=>?_,fun he=>?_⟩⟩⟩
  ·simp only [decide_eq_true_eq] at hd; omega
  ·omega
  ·rw [Bool.and_eq_true,decide_eq_true_eq,decide_eq_true_eq] at hc
   refine ⟨by simp only [In]; omega,⟨by omega,by omega,fun j hj=>?_⟩,by (try dsimp only); omega⟩
   by_cases e:j=k.toNat
   ·rw [e]; exact hc.2
   ·exact b2 j (by omega)
  ·simp only [decide_eq_true_eq] at hd; omega
  ·omega
  ·rw [Bool.and_eq_true,decide_eq_true_eq,decide_eq_true_eq] at he
   refine ⟨a2,fun y=>?_,by omega⟩
   rw [htk,a3]
   refine ⟨.inl,fun h=>h.elim id fun h=>?_⟩
   rw [h,<-a3,<-he.2]
   exact qT (by omega)
  ·have hlen:(out.take k.toNat).length=k.toNat:=by simp; omega
   refine ⟨by simp only [In]; omega,by omega,by omega,?_,by omega,?_,by omega,?_,?_⟩
   ·simp only [List.length_nil,hlen]; omega
   ·simp only [List.nil_append,List.length_cons,List.length_nil,hlen]; omega
   ·simp only [List.nil_append,List.length_append,List.length_cons,List.length_nil,List.length_drop,hlen]; omega
   ·rw [List.nil_append,List.append_assoc]
    refine ⟨strictI_insert a2 (by omega) b2 fun hk=>?_,fun y=>?_,?_⟩
    ·have hk':k<out.length:=by omega
     rw [decide_eq_true hk',Bool.true_and,decide_eq_false_iff_not] at hc
     rw [decide_eq_true hk',Bool.true_and,decide_eq_false_iff_not] at he
     omega
    ·rw [htk,<-a3,List.mem_append,List.mem_append,List.mem_singleton]
     conv=>rhs; lhs; rw [<-List.take_append_drop k.toNat out,List.mem_append]
     constructor
     ·rintro (h | h | h)
      ·exact .inl (.inl h)
      ·exact .inr h
      ·exact .inl (.inr h)
     ·rintro ((h | h) | h)
      ·exact .inl h
      ·exact .inr (.inr h)
      ·exact .inr (.inl h)
    ·simp only [List.length_append,List.length_cons,List.length_nil,List.length_drop,hlen]; omega
 ·have e:i.toNat=l.length:=by omega
  rw [e,List.take_length] at a3
  rw [strictG_uniq ltI_T a2 (uniqG_strict ltI_T l) fun x=>(a3 x).trans (uniqG_mem ltI_T l x).symm]
  exact h
def Dst (l:List GAct):Prop:=∀ i j,i<l.length->j<l.length->(l.getD i az).2.2.2=(l.getD j az).2.2.2->i=j
theorem mkP_get {l:List GAct} (hd:Dst l):∀ {i:Nat},i<=l.length->∀ j,j<i->mget (mkP l i) (l.getD j az).2.2.2=some (j:Int)
 | 0,_,j,hj=>absurd hj (Nat.not_lt_zero _)
 | i+1,hi,j,hj=>by
  rw [mkP_succ,jX]
  by_cases e:(l.getD i az).2.2.2=(l.getD j az).2.2.2
  ·rw [if_pos e,hd i j (by omega) (by omega) e]
  ·rw [if_neg e]
   have hne:j≠i:=fun h=>e (by rw [h])
   exact mkP_get hd (by omega) j (by omega)
theorem fits_dst {l:List GAct} (h:∀ j,j<l.length->fitsAt l j=.ok):Dst l:=by
 have key:∀ i,i<=l.length->∀ j k,j<i->k<i->(l.getD j az).2.2.2=(l.getD k az).2.2.2->j=k:=by
  intro i
  induction i with
  | zero=>intro _ j k hj; exact absurd hj (Nat.not_lt_zero _)
  | succ i ih =>
   intro hi j k hj hk e
   have hf:=h i (by omega)
   have hnew:∀ q,q<i->(l.getD q az).2.2.2≠(l.getD i az).2.2.2:=fun q hq he=>by
    have hdst:∀ m,m<=i->q<m->mget (mkP l m) (l.getD q az).2.2.2=some (q:Int):=by
     intro m
     induction m with
     | zero=>intro _ h; exact absurd h (Nat.not_lt_zero _)
     | succ m ihm =>
      intro hm hqm
      rw [mkP_succ,jX]
      by_cases e2:(l.getD m az).2.2.2=(l.getD q az).2.2.2
      ·rw [if_pos e2,ih (by omega) m q (by omega) (by omega) e2]
      ·rw [if_neg e2]
       have hne:q≠m:=fun h=>e2 (by rw [h])
       exact ihm (by omega) (by omega)
    have hg:=hdst i (Nat.le_refl _) hq
    unfold fitsAt fitsP at hf
    rw [<-he,hg] at hf
    split at hf
    ·cases hf
    ·split at hf
     ·cases hf
     ·rw [if_pos (show (some (q:Int)).isSome=true from rfl)] at hf; cases hf
   rcases Nat.lt_or_eq_of_le (Nat.le_of_lt_succ hj) with hj | hj <;> rcases Nat.lt_or_eq_of_le (Nat.le_of_lt_succ hk) with hk | hk
   ·exact ih (by omega) j k hj hk e
   ·subst hk; exact absurd e (hnew j hj)
   ·subst hj; exact absurd e.symm (hnew k hk)
   ·omega
 exact fun i j hi hj e=>key l.length (Nat.le_refl _) i j hi hj e
def mkI (l:List GAct) (s:List UInt8):Int:=(mget (mkP l l.length) s).getD (-1)
theorem mkI_nonneg {l:List GAct} {s:List UInt8}:0<=mkI l s↔(mget (mkP l l.length) s).isSome=true:=by
 unfold mkI
 cases h:mget (mkP l l.length) s with
 | none=>simp
 | some v =>
  obtain ⟨j,_,rfl,_⟩:=mkP_val h
  simp
theorem rmaker_M {l:List GAct} {s:List UInt8} {K:Int->Prop} (hl:l.length<=1000000) (hd:Dst l) (h:K (mkI l s)):qZ l s K:=by
 intro _
 refine ⟨fun i=>0<=i/\i<=l.length/\∀ j,j<i.toNat->(l.getD j az).2.2.2≠s,fun i=>l.length - i.toNat,⟨by omega,by omega,by intro j hj; simp at hj⟩,fun i ⟨a0,a1,a2⟩=>⟨fun hlt=>⟨⟨a0,hlt⟩,fun he=>?_,fun hne=>⟨by simp only [In]; omega,⟨by omega,by omega,fun j hj=>?_⟩,by (try dsimp only); omega⟩⟩,fun hge=>?_⟩⟩
 ·have hi:i.toNat<l.length:=by omega
  have he:(l.getD i.toNat az).2.2.2=s:=he
  have:=mkP_get hd (Nat.le_refl _) i.toNat hi
  rw [he] at this
  unfold mkI at h
  rw [this] at h
  rwa [show (i:Int)=((i.toNat:Nat):Int) by omega]
 ·by_cases e:j=i.toNat
  ·rw [e]; exact hne
  ·exact a2 j (by omega)
 ·have:mget (mkP l l.length) s=none:=by
   cases hm:mget (mkP l l.length) s with
   | none=>rfl
   | some v =>
    obtain ⟨j,h1,_,h3⟩:=mkP_val hm
    exact absurd h3 (a2 j (by omega))
  unfold mkI at h
  rwa [this] at h
theorem fm_snoc {mk:MK} {xs:TL} {k:Nat} (hk:k<xs.length):(xs.take (k+1)).filterMap (mget mk)=(xs.take k).filterMap (mget mk)++(mget mk (xs.getD k [])).toList:=by
 rw [jd [] hk,List.filterMap_append,List.filterMap_cons]
 cases mget mk (xs.getD k []) <;> rfl
theorem rbefore_M {l:List GAct} {i:Int} {K:List Int->Prop} (hl:l.length<=1000000) (hd:Dst l) (hi:∀ j,(l.getD j az).2.2.1.length<=1000) (h0:¬ (0<=i/\i<(l.length:Int))->K []) (h:0<=i/\i<(l.length:Int)->K (bsP l i.toNat)):qU l i K:=by
 intro _
 refine ⟨fun hb=>h0 fun hc=>?_,fun hb=>?_⟩
 ·rw [Bool.or_eq_true,decide_eq_true_eq,decide_eq_true_eq] at hb
  omega
 rw [Bool.or_eq_false_iff,decide_eq_false_iff_not,decide_eq_false_iff_not] at hb
 have hii:0<=i/\i<(l.length:Int):=by omega
 have h:=h hii
 have hil:=hi i.toNat
 have hin:(l.getD i.toNat (0,[],[],[])).2.2.1=(l.getD i.toNat az).2.2.1:=rfl
 rw [hin]
 unfold bsP befA at h
 generalize (l.getD i.toNat az).2.2.1=xs at h hil
 refine ⟨fun o k=>0<=k/\k<=xs.length/\o=(xs.take k.toNat).filterMap (mget (mkP l l.length)),fun _ k=>xs.length - k.toNat,⟨by omega,by omega,rfl⟩,fun o k ⟨a0,a1,a2⟩=>⟨hii,fun hlt=>?_,fun hge=>?_⟩⟩
 ·have hk:k.toNat<xs.length:=by omega
  have hs:=fm_snoc (mk:=mkP l l.length) hk
  have hol:o.length<=k.toNat:=by
   rw [a2]
   exact Nat.le_trans (List.length_filterMap_le _ _) (by rw [List.length_take]; omega)
  refine ⟨fun o2=>o2=(xs.take (k+1).toNat).filterMap (mget (mkP l l.length)),⟨hii,⟨a0,hlt⟩,rmaker_M hl hd ⟨fun hm=>⟨by rw [List.length_singleton]; omega,?_⟩,fun hm=>?_⟩⟩,fun o2 hb2=>⟨by simp only [In]; omega,⟨by omega,by omega,hb2⟩,by (try dsimp only); omega⟩⟩
  ·rw [show (k+1).toNat=k.toNat+1 by omega,hs,<-a2]
   obtain ⟨v,hv⟩:=Option.isSome_iff_exists.1 (mkI_nonneg.1 hm)
   unfold mkI
   rw [hv]; rfl
  ·rw [show (k+1).toNat=k.toNat+1 by omega,hs,<-a2]
   have hn:mget (mkP l l.length) (xs.getD k.toNat [])=none:=by
    cases hv:mget (mkP l l.length) (xs.getD k.toNat []) with
    | none=>rfl
    | some v=>exact absurd (mkI_nonneg.2 (by rw [hv]; rfl)) hm
   rw [hn]; simp
 ·have hk:k.toNat=xs.length:=by omega
  rw [hk,List.take_length] at a2
  subst a2
  have:=List.length_filterMap_le (mget (mkP l l.length)) xs
  exact sortedI_M (by omega) h
end
 
section
open Go Go.RowKit
section
variable {l:List GAct}
theorem tot_bef {c:Nat} (hi:∀ j,(l.getD j az).2.2.1.length<=c) (m:Nat):tot (befL l l.length) m<=c*m:=tot_le (fun j=>by
 rw [kf]
 split
 ·exact Nat.le_trans (bsP_len l j) (hi j)
 ·simp) m
theorem bef_in {j:Nat} {k:Int} (h:k∈(befL l l.length).getD j []):0<=k/\k<(l.length:Int):=by
 rw [kf] at h
 split at h
 ·exact bsP_in h
 ·cases h
theorem rreach_M {fr:List Int} {K:List Int->Prop} (hl:l.length<=1000) (hd:Dst l) (hi:∀ j,(l.getD j az).2.2.1.length<=1000) (hf:∀ k∈fr,0<=k/\k<(l.length:Int)) (hs:fr.length<=1000000)
  (h:∀ met:List Bool,met.length=l.length->(∀ k:Nat,k<l.length->(met.getD k false=true↔Rch (befL l l.length) fr k))->K (onesN met l.length)):ju l fr K:=by
 intro _ _
 have htt:=tot_bef (c:=1000) hi l.length
 have hnn:((l.length:Int)).toNat=l.length:=by omega
 rw [hnn]
 refine ⟨⟨by omega,by omega,by omega⟩,?_⟩
 refine ⟨fun work met=>met.length=l.length/\(∀ k∈work,Rch (befL l l.length) fr k/\0<=k/\k<(l.length:Int))/\(∀ k:Nat,k<l.length->met.getD k false=true->Rch (befL l l.length) fr k)/\(∀ f∈fr,f∈work∨met.getD f.toNat false=true)/\(∀ k:Nat,k<l.length->met.getD k false=true->∀ j∈(befL l l.length).getD k [],j∈work∨met.getD j.toNat false=true)/\work.length+unm (befL l l.length) met l.length<=fr.length+tot (befL l l.length) l.length,fun work met=>work.length+unm (befL l l.length) met l.length,⟨by simp,fun k hk=>⟨.base hk,hf k hk⟩,fun k hk hm=>?_,fun f hf=>.inl hf,fun k hk hm=>?_,?_⟩,fun work met ⟨a0,a1,a2,a3,a4,a5⟩ _=>⟨fun hpos=>?_,fun hz=>?_⟩⟩
 ·simp [List.getD,List.getElem?_replicate,hk] at hm
 ·simp [List.getD,List.getElem?_replicate,hk] at hm
 ·have:=unm_le (befL l l.length) (List.replicate l.length false) l.length
  omega
 ·have hne:work≠[]:=fun e=>by rw [e] at hpos; simp at hpos
  obtain ⟨w',k,rfl⟩:∃ w' k,work=w'++[k]:=⟨work.dropLast,work.getLast hne,(List.dropLast_concat_getLast hne).symm⟩
  have hwl:(w'++[k]).length=w'.length+1:=by simp
  have ht:(((w'++[k]).length:Int) - 1).toNat=w'.length:=by omega
  have hg:(w'++[k]).getD w'.length 0=k:=by simp [List.getD]
  have htk:(w'++[k]).take w'.length=w':=List.take_left' rfl
  obtain ⟨k1,k2,k3⟩:=a1 k (by simp)
  have hkn:k.toNat<l.length:=by omega
  have hkk:((k.toNat:Nat):Int)=k:=by omega
  rw [ht,hg,htk]
  refine ⟨by simp only [In]; omega,⟨by omega,by omega⟩,by simp only [In]; omega,⟨by omega,by omega⟩,⟨k2,by omega⟩,fun hm=>?_,fun hm=>?_⟩
  ·refine ⟨⟨a0,fun j hj=>a1 j (List.mem_append_left _ hj),a2,fun f hf=>?_,fun j hj hmj x hx=>?_,by omega⟩,by (try dsimp only); omega⟩
   ·rcases a3 f hf with hf' | hf'
    ·rcases List.mem_append.1 hf' with hf' | hf'
     ·exact .inl hf'
     ·right; rw [List.mem_singleton.1 hf']; exact hm
    ·exact .inr hf'
   ·rcases a4 j hj hmj x hx with hx' | hx'
    ·rcases List.mem_append.1 hx' with hx' | hx'
     ·exact .inl hx'
     ·right; rw [List.mem_singleton.1 hx']; exact hm
    ·exact .inr hx'
  ·have hu:=unm_set (befL l l.length) (met:=met) (by omega) hm l.length (by omega)
   rw [if_pos hkn] at hu
   have hbk:(befL l l.length).getD k.toNat []=bsP l k.toNat:=by rw [kf,if_pos hkn]
   refine ⟨⟨k2,by omega⟩,rbefore_M (by omega) hd hi (fun hn=>absurd ⟨k2,k3⟩ hn) fun _=>?_⟩
   rw [<-hbk]
   refine ⟨by omega,⟨by rw [List.length_set,a0],fun j hj=>?_,fun j hj hmj=>?_,fun f hf=>?_,fun j hj hmj x hx=>?_,by rw [List.length_append]; omega⟩,by (try dsimp only); rw [List.length_append]; omega⟩
   ·rcases List.mem_append.1 hj with hj | hj
    ·exact a1 j (List.mem_append_left _ hj)
    ·exact ⟨.step k1 hj,bef_in hj⟩
   ·rw [jI (by omega)] at hmj
    by_cases e:k.toNat=j
    ·rw [<-e,hkk]; exact k1
    ·rw [if_neg e] at hmj; exact a2 j hj hmj
   ·rcases a3 f hf with hf' | hf'
    ·rcases List.mem_append.1 hf' with hf' | hf'
     ·exact .inl (List.mem_append_left _ hf')
     ·right
      rw [List.mem_singleton.1 hf',jI (by omega),if_pos rfl]
    ·right
     rw [jI (by omega)]
     split
     ·rfl
     ·exact hf'
   ·rw [jI (by omega)] at hmj
    by_cases e:k.toNat=j
    ·rw [<-e] at hx
     exact .inl (List.mem_append_right _ hx)
    ·rw [if_neg e] at hmj
     rcases a4 j hj hmj x hx with hx' | hx'
     ·rcases List.mem_append.1 hx' with hx' | hx'
      ·exact .inl (List.mem_append_left _ hx')
      ·right
       rw [List.mem_singleton.1 hx',jI (by omega),if_pos rfl]
     ·right
      rw [jI (by omega)]
      split
      ·rfl
      ·exact hx'
 ·have hw:work=[]:=List.eq_nil_of_length_eq_zero (by omega)
  subst hw
  have hin:∀ k,Rch (befL l l.length) fr k->0<=k/\k<(l.length:Int)/\met.getD k.toNat false=true:=fun k hk=>by
   induction hk with
   | base hf' =>
    obtain ⟨h1,h2⟩:=hf _ hf'
    exact ⟨h1,h2,(a3 _ hf').resolve_left (by simp)⟩
   | step _ hj ih =>
    obtain ⟨i1,i2,i3⟩:=ih
    obtain ⟨h1,h2⟩:=bef_in hj
    exact ⟨h1,h2,(a4 _ (by omega) i3 _ hj).resolve_left (by simp)⟩
  have hK:=h met a0 fun k hk=>⟨fun hm=>a2 k hk hm,fun hR=>by have:=(hin _ hR).2.2; simpa using this⟩
  refine ⟨fun out i=>0<=i/\i<=l.length/\out=onesN met i.toNat,fun _ i=>l.length - i.toNat,⟨by omega,by omega,rfl⟩,fun out i ⟨b0,b1,b2⟩=>⟨fun hlt=>?_,fun hge=>?_⟩⟩
  ·have hii:(i.toNat:Int)=i:=by omega
   have hol:=onesN_len met i.toNat
   refine ⟨fun o2=>o2=onesN met (i+1).toNat,⟨⟨b0,hlt⟩,fun hm=>⟨by rw [b2,List.length_singleton]; omega,?_⟩,fun hm=>?_⟩,fun o2 hb2=>⟨by simp only [In]; omega,⟨by omega,by omega,hb2⟩,by (try dsimp only); omega⟩⟩
   ·rw [show (i+1).toNat=i.toNat+1 by omega,onesN_succ,if_pos hm,b2,hii]
   ·rw [show (i+1).toNat=i.toNat+1 by omega,onesN_succ,if_neg (by rw [hm]; simp),b2,List.append_nil]
  ·have:i.toNat=l.length:=by omega
   rw [this] at b2
   rw [b2]; exact hK
theorem onesN_mem {met:List Bool} {n:Nat} {x:Int}:x∈onesN met n↔∃ k:Nat,k<n/\x=(k:Int)/\met.getD k false=true:=by
 unfold onesN
 rw [List.mem_map]
 constructor
 ·rintro ⟨q,hq,rfl⟩
  rw [List.mem_filter,List.mem_range] at hq
  exact ⟨q,hq.1,rfl,hq.2⟩
 ·rintro ⟨q,h1,rfl,h2⟩
  exact ⟨q,List.mem_filter.2 ⟨List.mem_range.2 h1,h2⟩,rfl⟩
theorem rorder_M {K:List Int->Prop} (hl:l.length<=1000) (hd:Dst l) (hi:∀ j,(l.getD j az).2.2.1.length<=1000) (ha:AcyB (befL l l.length) l.length) (h:K (ordR (befL l l.length) l.length l.length)):jt l K:=by
 intro _
 refine ⟨fun out=>∃ m,m<=l.length/\out=ordR (befL l l.length) l.length m,fun out=>l.length - out.length,⟨0,by omega,rfl⟩,fun out ⟨m,m1,m2⟩=>⟨fun hlt=>?_,fun hge=>?_⟩⟩
 ·obtain ⟨o1,o2,o3⟩:=ji ha m m1
  rw [<-m2] at o1 o2 o3
  have hm:m<l.length:=by omega
  obtain ⟨i,hp,he⟩:=ordR_step ha hm
  rw [<-m2] at hp he
  obtain ⟨i1,i2,i3⟩:=pickF_some hp
  refine ⟨fun best q=>0<=q/\q<=l.length/\((best = -1/\q.toNat<=i)∨best=(i:Int)),fun _ q=>l.length - q.toNat,⟨by omega,by omega,.inl ⟨rfl,by simp⟩⟩,fun best q ⟨a0,a1,a2⟩=>⟨fun hc=>?_,fun hc=>?_⟩⟩
  ·simp only [Bool.and_eq_true,decide_eq_true_eq] at hc
   have hb:best = -1/\q.toNat<=i:=a2.resolve_right (by omega)
   have hq:q.toNat<l.length:=by omega
   have hqq:((q.toNat:Nat):Int)=q:=by omega
   have hbq:(befL l l.length).getD q.toNat []=bsP l q.toNat:=by rw [kf,if_pos hq]
   have hbl:=bsP_len l q.toNat
   have hil:=hi q.toNat
   have hfq:freeB (befL l l.length) out q.toNat=true↔q.toNat=i:=by
    constructor
    ·intro hf
     rcases Nat.lt_or_eq_of_le hb.2 with h1 | h1
     ·rw [i3 _ h1] at hf; cases hf
     ·exact h1
    ·rintro rfl; exact i2
   unfold freeB at hfq
   rw [hbq,hqq,Bool.and_eq_true] at hfq
   refine ⟨fun b2=>(b2 = -1/\q.toNat+1<=i)∨b2=(i:Int),amongI_M (by omega) ⟨fun hm=>?_,fun hm=>rbefore_M (by omega) hd hi (fun hn=>absurd ⟨a0,hc.1⟩ hn) fun _=>?_⟩,fun b2 hb2=>⟨by simp only [In]; omega,⟨by omega,by omega,hb2.imp (fun h=>⟨h.1,by omega⟩) id⟩,by (try dsimp only); omega⟩⟩
   ·left
    refine ⟨hb.1,?_⟩
    have:q.toNat≠i:=fun e=>by
     have:=(hfq.2 e).1
     rw [decide_eq_true_eq] at hm
     simp [hm] at this
    omega
   ·rw [decide_eq_false_iff_not] at hm
    have hfq2:((bsP l q.toNat).all fun b=>out.contains b)=true↔q.toNat=i:=by
     rw [<-hfq]
     exact ⟨fun h=>⟨by simpa using hm,h⟩,fun h=>h.2⟩
    generalize bsP l q.toNat=bs at hfq2 hbl
    refine ⟨fun fr k=>0<=k/\k<=bs.length/\fr=(bs.take k.toNat).all fun b=>out.contains b,fun _ k=>bs.length - k.toNat,⟨by omega,by omega,rfl⟩,fun fr k ⟨c0,c1,c2⟩=>⟨fun hlt3=>?_,fun hge3=>?_⟩⟩
    ·have hk:k.toNat<bs.length:=by omega
     have hst:((bs.take (k+1).toNat).all fun b=>out.contains b)=(((bs.take k.toNat).all fun b=>out.contains b) && out.contains (bs.getD k.toNat 0)):=by
      rw [show (k+1).toNat=k.toNat+1 by omega,jd 0 hk,List.all_append]
      simp
     refine ⟨fun f2=>f2=(bs.take (k+1).toNat).all fun b=>out.contains b,⟨fun ht=>⟨⟨c0,hlt3⟩,amongI_M (by omega) ?_⟩,fun hf=>?_⟩,fun f2 hf2=>⟨by simp only [In]; omega,⟨by omega,by omega,hf2⟩,by (try dsimp only); omega⟩⟩
     ·rw [hst,<-c2,ht,Bool.true_and]
      show decide (bs.getD k.toNat 0∈out)=out.contains (bs.getD k.toNat 0)
      rw [Bool.eq_iff_iff,decide_eq_true_iff,List.contains_iff_mem]
     ·rw [hst,<-c2,hf,Bool.false_and]
    ·have hk:k.toNat=bs.length:=by omega
     rw [hk,List.take_length] at c2
     refine ⟨fun ht=>?_,fun hf=>?_⟩
     ·right
      have:=hfq2.1 (by rw [<-c2,ht])
      omega
     ·left
      refine ⟨hb.1,?_⟩
      have:q.toNat≠i:=fun e=>by
       have:=hfq2.2 e
       rw [<-c2,hf] at this; cases this
      omega
  ·rcases a2 with ⟨rfl,h2⟩ | rfl
   ·exfalso
    simp only [Bool.and_eq_false_iff,decide_eq_false_iff_not] at hc
    omega
   ·exact ⟨fun hb=>by omega,fun _=>⟨by rw [List.length_singleton]; omega,⟨m+1,by omega,he.symm⟩,by (try dsimp only); rw [List.length_append,List.length_singleton]; omega⟩⟩
 ·have:m=l.length:=by
   have:=(ji ha m m1).1
   rw [<-m2] at this
   omega
  rw [m2,this]; exact h
end
end
 
section
open Go Go.RowKit
def GBad (l:List GAct):Prop:=1000<l.length∨l.any manyA=true
def GCy (l:List GAct) (i:Nat):Prop:=Rch (befL l l.length) (bsP l i) (i:Int)
def GRes (l:List GAct) (e:Er):Prop :=
 (GBad l/\e=.e 9)∨(¬ GBad l/\∃ (i n:Nat),i<l.length/\(∀ j,j<i->fitsAt l j=.ok)/\fitsAt l i=.e n/\e=.at_ (i:Int) n) ∨
 (¬ GBad l/\(∀ j,j<l.length->fitsAt l j=.ok)/\∃ i:Nat,i<l.length/\(∀ j,j<i->¬ GCy l j)/\GCy l i/\e=.at_ (i:Int) 4) ∨
 (¬ GBad l/\(∀ j,j<l.length->fitsAt l j=.ok)/\(∀ j,j<l.length->¬ GCy l j)/\e=.ok)
theorem GRes.uniq {l:List GAct} {e e':Er} (h:GRes l e) (h':GRes l e'):e=e':=by
 rcases h with ⟨a,rfl⟩ | ⟨a,i,n,a1,a2,a3,rfl⟩ | ⟨a,a1,i,a2,a3,a4,rfl⟩ | ⟨a,a1,a2,rfl⟩ <;>
 rcases h' with ⟨b,rfl⟩ | ⟨b,i',n',b1,b2,b3,rfl⟩ | ⟨b,b1,i',b2,b3,b4,rfl⟩ | ⟨b,b1,b2,rfl⟩
 ·rfl
 ·exact absurd a b
 ·exact absurd a b
 ·exact absurd a b
 ·exact absurd b a
 ·rcases Nat.lt_trichotomy i i' with h | h | h
  ·rw [b2 i h] at a3; cases a3
  ·subst h; rw [a3] at b3; cases b3; rfl
  ·rw [a2 i' h] at b3; cases b3
 ·rw [b1 i a1] at a3; cases a3
 ·rw [b1 i a1] at a3; cases a3
 ·exact absurd b a
 ·rw [a1 i' b1] at b3; cases b3
 ·rcases Nat.lt_trichotomy i i' with h | h | h
  ·exact absurd a4 (b3 i h)
  ·subst h; rfl
  ·exact absurd b4 (a3 i' h)
 ·exact absurd a4 (b2 i a2)
 ·exact absurd b a
 ·rw [a1 i' b1] at b3; cases b3
 ·exact absurd b4 (a2 i' b2)
 ·rfl
structure GOk (l:List GAct):Prop where
 len:l.length<=1000
 dst:Dst l
 inp:∀ j,(l.getD j az).2.2.1.length<=1000
 arg:∀ j,(l.getD j az).2.1.length<=1000
 acy:AcyB (befL l l.length) l.length
theorem not_bad {l:List GAct} (h:¬ GBad l):l.length<=1000/\l.any manyA=false/\∀ j,(l.getD j az).2.2.1.length<=1000/\(l.getD j az).2.1.length<=1000:=by
 have h1:l.length<=1000:=Nat.le_of_not_lt fun h2=>h (.inl h2)
 have h2:l.any manyA=false:=by simpa using fun h3=>h (.inr h3)
 refine ⟨h1,h2,fun j=>?_⟩
 by_cases hj:j<l.length
 ·have h3:=List.any_eq_false.1 h2 _ (qT (d:=az) hj)
  have h3:manyA (l.getD j az)=false:=by simpa using h3
  unfold manyA at h3
  rw [Bool.or_eq_false_iff,decide_eq_false_iff_not,decide_eq_false_iff_not] at h3
  omega
 ·have:l.getD j az=az:=by simp [List.getD,List.getElem?_eq_none (show l.length<=j by omega)]
  rw [this]; decide
theorem GRes.good {l:List GAct} (h:GRes l .ok):GOk l:=by
 rcases h with ⟨_,h⟩ | ⟨_,_,_,_,_,_,h⟩ | ⟨_,_,_,_,_,_,h⟩ | ⟨a,a1,a2,_⟩
 ·cases h
 ·cases h
 ·cases h
 ·obtain ⟨h1,h2,h3⟩:=not_bad a
  refine ⟨h1,fits_dst a1,fun j=>(h3 j).1,fun j=>(h3 j).2,fun j hj k hk=>bef_in hk,fun j hj=>?_⟩
  have:=a2 j hj
  unfold GCy at this
  rwa [kf,if_pos hj]
theorem new_R {l:List GAct} {K0:Er->Prop} {K:List GAct->MK->List (List Int)->List (List Int)->Er->Prop} (hl:l.length<=1000000) (hsz:∀ a∈l,(∀ s∈a.2.2.1,s.length<=3999999999)/\a.2.2.2.length<=3999999999)
  (h0:∀ e,GRes l e->e≠.ok->K0 e) (h1:GRes l .ok->K l (mkP l l.length) (befL l l.length) (aftL l l.length) .ok):kZ l K0 K:=by
 have nb:l.length<=1000->l.any manyA=false->¬ GBad l:=fun a b h=>h.elim (fun h=>by omega) (fun h=>by rw [b] at h; cases h)
 refine new_M hl (fun a ha=>⟨fun s hs=>Nat.le_trans ((hsz a ha).1 s hs) (by omega),Nat.le_trans (hsz a ha).2 (by omega)⟩) (fun h=>h0 _ (.inl ⟨h,rfl⟩) (by simp)) (fun a b i n hi hj he=>?_) (fun a b hf i hi hj hc=>?_) (fun a b hf hc=>?_)
 ·exact h0 _ (.inr (.inl ⟨nb a b,i,n,hi,hj,he,rfl⟩)) (by simp)
 ·exact h0 _ (.inr (.inr (.inl ⟨nb a b,hf,i,hi,hj,hc,rfl⟩))) (by simp)
 ·exact h1 (.inr (.inr (.inr ⟨nb a b,hf,hc,rfl⟩)))
def fC:Er->Int
 | .ok=>0
 | .e n=>101+(n:Int)
 | .at_ _ n=>101+(n:Int)
def fP:Er->Bool
 | .at_ _ _=>true
 | _=>false
def fQ:Er->Int
 | .at_ p _=>p
 | _=>0
theorem placed_M {c p:Int} {K:Int->Bool->Int->Bool->List UInt8->Prop} (hc:c≠0) (h:K c true p false []):jm c p K:=⟨fun e=>absurd e hc,fun _=>h⟩
theorem raction_M {t:Int} {a i:TL} {o:List UInt8} {K:Int->TL->TL->List UInt8->Prop} (ha:a.length<=1000000) (hi:i.length<=1000000) (h:K t a i o):kJ t a i o K:=fun _ _=>gtexts_M (by omega) (gtexts_M (by omega) h)
theorem ractions_M {l:List GAct} {K:List GAct->Prop} (hl:l.length<=1000000) (hi:∀ j,(l.getD j az).2.2.1.length<=1000/\(l.getD j az).2.1.length<=1000) (h:K l):kA l K:=by
 intro _
 refine ⟨by omega,fun out i=>0<=i/\i<=l.length/\out=l.take i.toNat,fun _ i=>l.length - i.toNat,⟨by omega,by omega,rfl⟩,fun out i ⟨a0,a1,a2⟩=>⟨fun hlt=>?_,fun hge=>?_⟩⟩
 ·have hii:i.toNat<l.length:=by omega
  have:=hi i.toNat
  refine ⟨⟨a0,hlt⟩,raction_M (by show (l.getD i.toNat az).2.1.length<=_; omega) (by show (l.getD i.toNat az).2.2.1.length<=_; omega) ⟨?_,by simp only [In]; omega,⟨by omega,by omega,?_⟩,by (try dsimp only); omega⟩⟩
  ·rw [a2,List.length_take,List.length_singleton]; omega
  ·rw [show (i+1).toNat=i.toNat+1 by omega,jd az hii,a2]; rfl
 ·have:i.toNat=l.length:=by omega
  rw [a2,this,List.take_length]; exact h
theorem mkP_some {l:List GAct}:∀ {i j:Nat},j<i->(mget (mkP l i) (l.getD j az).2.2.2).isSome=true
 | i+1,j,h=>by
  rw [mkP_succ,jX]
  by_cases e:(l.getD i az).2.2.2=(l.getD j az).2.2.2
  ·rw [if_pos e]; rfl
  ·rw [if_neg e]
   have hne:j≠i:=fun h=>e (by rw [h])
   exact mkP_some (by omega)
theorem rnew_R {l:List GAct} {K0:Int->Bool->Int->Bool->List UInt8->Prop} {K:List GAct->Int->Bool->Int->Bool->List UInt8->Prop} (hl:l.length<=1000000) (hsz:∀ a∈l,(∀ s∈a.2.2.1,s.length<=3999999999)/\a.2.2.2.length<=3999999999)
  (h0:∀ e,GRes l e->e≠.ok->K0 (fC e) (fP e) (fQ e) false []) (h1:GRes l .ok->K l 0 false 0 false []):jx l K0 K:=by
 intro _
 have hbad:GBad l->K0 110 false 0 false []:=fun h=>h0 _ (.inl ⟨h,rfl⟩) (by simp)
 refine ⟨fun h=>hbad (.inl (by omega)),fun hlen=>?_⟩
 refine ⟨fun i _ _ _ _ _=>0<=i/\i<=l.length/\∀ j,j<i.toNat->manyA (l.getD j az)=false,fun i _ _ _ _ _=>l.length - i.toNat,⟨by omega,by omega,fun j hj=>by simp at hj⟩,fun i c1 c2 c3 c4 c5 ⟨a0,a1,a2⟩=>⟨fun hlt=>?_,fun hge=>?_⟩⟩
 ·have hii:i.toNat<l.length:=by omega
  refine ⟨⟨a0,hlt⟩,fun _=>⟨a0,hlt⟩,fun ht=>hbad (.inr (List.any_eq_true.2 ⟨_,qT (d:=az) hii,ht⟩)),fun hf=>⟨by simp only [In]; omega,⟨by omega,by omega,fun j hj=>?_⟩,by (try dsimp only); omega⟩⟩
  by_cases e:j=i.toNat
  ·rw [e]; exact hf
  ·exact a2 j (by omega)
 have hnb:¬ GBad l:=fun h=>h.elim (fun h=>by omega) fun h=>by
  obtain ⟨a,ha,hm⟩:=List.any_eq_true.1 h
  obtain ⟨j,hj,rfl⟩:=List.getElem_of_mem ha
  have:=a2 j (by omega)
  simp only [List.getD,List.getElem?_eq_getElem hj,Option.getD_some] at this
  rw [hm] at this; cases this
 obtain ⟨hl1,_,hin⟩:=not_bad hnb
 clear a2 hbad
 refine ⟨fun i _ _ _ _ _=>0<=i/\i<=l.length/\∀ j,j<i.toNat->fitsAt l j=.ok,fun i _ _ _ _ _=>l.length - i.toNat,⟨by omega,by omega,fun j hj=>by simp at hj⟩,fun i d1 d2 d3 d4 d5 ⟨a0,a1,a2⟩=>⟨fun hlt=>?_,fun hge=>?_⟩⟩
 ·have hii:i.toNat<l.length:=by omega
  have hiz:((i.toNat:Nat):Int)=i:=by omega
  have hbadR:∀ n:Nat,fitsAt l i.toNat=.e n->K0 (101+(n:Int)) true i false []:=fun n hn=>by
   have:=h0 (.at_ (i.toNat:Int) n) (.inr (.inl ⟨hnb,i.toNat,n,hii,a2,hn,rfl⟩)) (by simp)
   rwa [show fQ (.at_ (i.toNat:Int) n)=i from hiz] at this
  have hg:=hsz _ (qT (d:=az) hii)
  have hil:=hin i.toNat
  have hgd:l.getD i.toNat (0,[],[],[])=l.getD i.toNat az:=rfl
  rw [hgd]
  have hfe:fitsAt l i.toNat=fitsP (mkP l i.toNat) (l.getD i.toNat az):=rfl
  have hout:∀ q:Int,(l.getD q.toNat (0,[],[],[])).2.2.2=(l.getD q.toNat az).2.2.2:=fun _=>rfl
  generalize ha:l.getD i.toNat az=a at hg hil hfe
  refine ⟨⟨a0,hlt⟩,fun ht=>placed_M (by omega) (hbadR 10 ?_),fun hf=>rvalid_M (by omega) ?_⟩
  ·rw [hfe]; unfold fitsP
   rw [if_pos (by simpa using ht)]
  ·have hnt:¬ (a.1<1∨5<a.1):=fun hn=>by
    rw [Bool.or_eq_false_iff,decide_eq_false_iff_not,decide_eq_false_iff_not] at hf
    exact hn.elim hf.1 hf.2
   refine ⟨fun g k=>0<=k/\k<=a.2.2.1.length/\g=(jr a.2.2.2 && (a.2.2.1.take k.toNat).all jr),fun _ k=>a.2.2.1.length - k.toNat,⟨by omega,by omega,by simp⟩,fun g k ⟨b0,b1,b2⟩=>⟨fun hlt2=>?_,fun hge2=>?_⟩⟩
   ·have hk:k.toNat<a.2.2.1.length:=by omega
    have hst:(a.2.2.1.take (k+1).toNat).all jr=((a.2.2.1.take k.toNat).all jr && jr (a.2.2.1.getD k.toNat [])):=by
     rw [show (k+1).toNat=k.toNat+1 by omega,jd [] hk,List.all_append]; simp
    refine ⟨fun g2=>g2=(jr a.2.2.2 && (a.2.2.1.take (k+1).toNat).all jr),⟨fun ht=>⟨⟨b0,hlt2⟩,rvalid_M (hg.1 _ (qT hk)) ?_⟩,fun hf=>?_⟩,fun g2 hg2=>⟨by simp only [In]; omega,⟨by omega,by omega,hg2⟩,by (try dsimp only); omega⟩⟩
    ·rw [hst,<-Bool.and_assoc,<-b2,ht,Bool.true_and]
    ·rw [hst,<-Bool.and_assoc,<-b2,hf,Bool.false_and]
   ·have hk:k.toNat=a.2.2.1.length:=by omega
    rw [hk,List.take_length] at b2
    have hgv:g=true↔¬ (jr a.2.2.2=false∨inval a.2.2.1=true):=by
     rw [b2,Bool.and_eq_true,List.all_eq_true]
     unfold inval
     rw [List.any_eq_true]
     constructor
     ·rintro ⟨h1,h2⟩ (h3 | ⟨x,hx,h3⟩)
      ·rw [h1] at h3; cases h3
      ·rw [h2 x hx] at h3; simp at h3
     ·intro h
      refine ⟨by simpa using fun h1=>h (.inl h1),fun x hx=>?_⟩
      cases hv:jr x with
      | true=>rfl
      | false=>exact absurd (.inr ⟨x,hx,by rw [hv]; rfl⟩) h
    refine ⟨fun ht=>placed_M (by omega) (hbadR 11 ?_),fun hf2=>?_⟩
    ·rw [hfe]; unfold fitsP
     rw [if_neg hnt,if_pos]
     refine Classical.byContradiction fun hn=>?_
     rw [hgv.2 hn] at ht; cases ht
    ·have hvv:¬ (jr a.2.2.2=false∨inval a.2.2.1=true):=hgv.1 (by simpa using hf2)
     refine ⟨fun q _ _ _ _ _=>0<=q/\q<=i/\∀ j,j<q.toNat->(l.getD j az).2.2.2≠a.2.2.2,fun q _ _ _ _ _=>i.toNat - q.toNat,⟨by omega,by omega,fun j hj=>by simp at hj⟩,fun q e1 e2 e3 e4 e5 ⟨g0,g1,g2⟩=>⟨fun hlt3=>⟨⟨g0,by omega⟩,fun he=>placed_M (by omega) (hbadR 6 ?_),fun hne=>⟨by simp only [In]; omega,⟨by omega,by omega,fun j hj=>?_⟩,by (try dsimp only); omega⟩⟩,fun hge3=>?_⟩⟩
     ·rw [hfe]; unfold fitsP
      rw [if_neg hnt,if_neg hvv,if_pos]
      rw [hout] at he
      rw [<-he]
      exact mkP_some (by omega)
     ·by_cases e:j=q.toNat
      ·rw [e]; exact hne
      ·exact g2 j (by omega)
     ·refine ⟨by simp only [In]; omega,⟨by omega,by omega,fun j hj=>?_⟩,by (try dsimp only); omega⟩
      by_cases e:j=i.toNat
      ·rw [e,hfe]
       unfold fitsP
       rw [if_neg hnt,if_neg hvv,if_neg]
       intro hs
       obtain ⟨v,hv⟩:=Option.isSome_iff_exists.1 hs
       obtain ⟨j2,h1,_,h3⟩:=mkP_val hv
       exact g2 j2 (by omega) h3
      ·exact a2 j (by omega)
 have hfit:∀ j,j<l.length->fitsAt l j=.ok:=fun j hj=>a2 j (by omega)
 have hd:=fits_dst hfit
 clear a2
 refine ractions_M (by omega) hin ?_
 refine ⟨fun i _ _ _ _ _=>0<=i/\i<=l.length/\∀ j,j<i.toNat->¬ GCy l j,fun i _ _ _ _ _=>l.length - i.toNat,⟨by omega,by omega,fun j hj=>by simp at hj⟩,fun i d1 d2 d3 d4 d5 ⟨a0,a1,a2⟩=>⟨fun hlt=>?_,fun hge=>?_⟩⟩
 ·have hii:i.toNat<l.length:=by omega
  have hiz:((i.toNat:Nat):Int)=i:=by omega
  have hbl:=bsP_len l i.toNat
  have hil:=(hin i.toNat).1
  refine rbefore_M (by omega) hd (fun j=>(hin j).1) (fun hn=>absurd ⟨a0,hlt⟩ hn) fun _=>rreach_M hl1 hd (fun j=>(hin j).1) (fun k hk=>bsP_in hk) (by omega) fun met m1 m2=>amongI_M (by have:=onesN_len met l.length; omega) ?_
  have hm:i∈onesN met l.length↔GCy l i.toNat:=by
   rw [onesN_mem]
   constructor
   ·rintro ⟨k,h1,h2,h3⟩
    have:k=i.toNat:=by omega
    subst this
    exact (m2 _ h1).1 h3
   ·intro h
    exact ⟨i.toNat,hii,hiz.symm,(m2 _ hii).2 h⟩
  refine ⟨fun ht=>placed_M (by omega) ?_,fun hf=>⟨by simp only [In]; omega,⟨by omega,by omega,fun j hj=>?_⟩,by (try dsimp only); omega⟩⟩
  ·rw [decide_eq_true_eq] at ht
   have:=h0 (.at_ (i.toNat:Int) 4) (.inr (.inr (.inl ⟨hnb,hfit,i.toNat,hii,a2,hm.1 ht,rfl⟩))) (by simp)
   rwa [show fQ (.at_ (i.toNat:Int) 4)=i from hiz] at this
  ·rw [decide_eq_false_iff_not] at hf
   by_cases e:j=i.toNat
   ·rw [e]; exact fun h=>hf (hm.2 h)
   ·exact a2 j (by omega)
 ·exact h1 (.inr (.inr (.inr ⟨hnb,hfit,fun j hj=>a2 j (by omega),rfl⟩)))
end
 
section
open Go Go.RowKit
abbrev FT:=Int × List UInt8 × List UInt8
abbrev TX:=List (List UInt8 × List UInt8)
section
variable (F:GAct->TL->FT) (l:List GAct)
def fskip:FT:=(3,[],List.replicate 32 0)
def flack:FT:=(2,[],List.replicate 32 0)
def fz:FT:=(0,[],[])
def allT (tx:TX):TL->Option TL
 | []=>some []
 | s :: xs=>match mget tx s with
  | none=>none
  | some t=>(allT tx xs).map (t :: ·)
def fate1 (i:Nat) (known:List FT) (tx:TX):FT :=
 if ((bsP l i).any fun k => !decide ((known.getD k.toNat fz).1=1))=true then fskip
 else match allT tx (l.getD i az).2.2.1 with
  | none=>flack
  | some ts=>F (l.getD i az) ts
def step1 (st:List FT × TX) (i:Int):List FT × TX :=
 (st.1.set i.toNat (fate1 F l i.toNat st.1 st.2),if (fate1 F l i.toNat st.1 st.2).1=1 then mput st.2 (l.getD i.toNat az).2.2.2 (fate1 F l i.toNat st.1 st.2).2.1 else st.2)
def text0 (files:TX):TX:=files.foldl (fun m f=>if mkI l f.1<0 then mput m f.1 f.2 else m) []
def runP (files:TX) (m:Nat):List FT × TX:=((ordR (befL l l.length) l.length l.length).take m).foldl (step1 F l) (List.replicate l.length fz,text0 l files)
def kE (files:TX):List FT:=(runP F l files l.length).1
end
section
variable {F:GAct->TL->FT} {l:List GAct}
theorem text0_snoc (files:TX) (f:List UInt8 × List UInt8):text0 l (files++[f])=if mkI l f.1<0 then mput (text0 l files) f.1 f.2 else text0 l files:=by
 unfold text0
 rw [List.foldl_append]; rfl
theorem text0_made (files:TX) {s:List UInt8} (h:0<=mkI l s):mget (text0 l files) s=none:=by
 unfold text0
 have key:∀ (fs:TX) (m:TX),mget m s=none->mget (fs.foldl (fun m f=>if mkI l f.1<0 then mput m f.1 f.2 else m) m) s=none:=by
  intro fs
  induction fs with
  | nil=>intro m h; exact h
  | cons f fs ih =>
   intro m hm
   rw [List.foldl_cons]
   refine ih _ ?_
   split
   ·rw [jX]
    split
    ·rename_i h1 h2; rw [h2] at h1; omega
    ·exact hm
   ·exact hm
 exact key files [] rfl
theorem runP_zero (files:TX):runP F l files 0=(List.replicate l.length fz,text0 l files):=rfl
theorem runP_succ (files:TX) {m:Nat} (g:GOk l) (h:m<l.length):∃ i:Nat,i<l.length/\(ordR (befL l l.length) l.length l.length).getD m 0=(i:Int)/\(i:Int)∉(ordR (befL l l.length) l.length l.length).take m/\(∀ k∈bsP l i,k∈(ordR (befL l l.length) l.length l.length).take m)/\runP F l files (m+1)=step1 F l (runP F l files m) (i:Int):=by
 obtain ⟨o1,o2,o3⟩:=ji g.acy l.length (Nat.le_refl _)
 obtain ⟨q,hq,he⟩:=ordR_step g.acy h
 obtain ⟨q1,q2,_⟩:=pickF_some hq
 have ht:=ordR_take g.acy (l.length - m) m (by omega)
 have ht1:=ordR_take g.acy (l.length - (m+1)) (m+1) (by omega)
 have hl:=(ji g.acy m (by omega)).1
 unfold freeB at q2
 rw [Bool.and_eq_true,kf,if_pos q1,List.all_eq_true] at q2
 have hg:(ordR (befL l l.length) l.length l.length).getD m 0=(q:Int):=by
  rw [he] at ht1
  have h2:=congrArg (fun l=>l.getD m 0) ht1
  simp only [List.getD,List.getElem?_append_right (show (ordR (befL l l.length) l.length m).length<=m by omega),hl,Nat.sub_self,List.getElem?_cons_zero,Option.getD_some,List.getElem?_take,if_pos (Nat.lt_succ_self m)] at h2
  exact h2.symm
 refine ⟨q,q1,hg,?_,fun k hk=>?_,?_⟩
 ·rw [<-ht]; simpa using q2.1
 ·rw [<-ht]; simpa using q2.2 k hk
 ·unfold runP
  rw [jd 0 (by omega),List.foldl_append,hg]; rfl
theorem Zg (files:TX) (g:GOk l):∀ m,m<=l.length->(runP F l files m).1.length=l.length
 | 0,_=>by rw [runP_zero]; simp
 | m+1,h=>by
  obtain ⟨i,_,_,_,_,he⟩:=runP_succ (F:=F) files g (show m<l.length by omega)
  rw [he]
  show ((runP F l files m).1.set _ _).length=_
  rw [List.length_set]; exact Zg files g m (by omega)
theorem mkI_bs {i:Nat} {s:List UInt8} (h:s∈(l.getD i az).2.2.1) (h0:0<=mkI l s):mkI l s∈bsP l i:=by
 obtain ⟨v,hv⟩:=Option.isSome_iff_exists.1 (mkI_nonneg.1 h0)
 rw [bsP_mem]
 refine ⟨s,h,?_⟩
 unfold mkI
 rw [hv]; rfl
theorem mkI_out (g:GOk l) {i:Nat} (hi:i<l.length):mkI l (l.getD i az).2.2.2=(i:Int):=by
 unfold mkI
 rw [mkP_get g.dst (Nat.le_refl _) i hi]; rfl
end
end
 
section
open Go Go.RowKit
structure NOk (nm:Nat->List UInt8) (ex:TL) (N:Nat):Prop where
 inj:∀ i,i<N->∀ j,j<N->nm i=nm j->i=j
 val:∀ i,i<N->jr (nm i)=true
 len:∀ i,i<N->(nm i).length<=10
 exv:∀ s∈ex,jr s=true
 exs:∀ s∈ex,s.length<=10
 exn:∀ s∈ex,∀ i,i<N->nm i≠s
 exl:ex.length<=10
section
variable {nm:Nat->List UInt8} {ex:TL} {N n:Nat} {b:Option Nat}
end
end
 
section
open Go Go.RowKit
end
 
section
open Go Go.RowKit
def pick (l:List GAct) (ns:List Int):List GAct:=ns.map fun k=>l.getD k.toNat az
structure GSmall (l:List GAct):Prop where
 len:l.length<=24
 arg:∀ a∈l,a.2.1.length<=8/\∀ s∈a.2.1,s.length<=100
 inp:∀ a∈l,a.2.2.1.length<=10/\∀ s∈a.2.2.1,s.length<=250
 out:∀ a∈l,a.2.2.2.length<=250
theorem GSmall.sz {l:List GAct} (h:GSmall l):∀ a∈l,(∀ s∈a.2.2.1,s.length<=3999999999)/\a.2.2.2.length<=3999999999:=fun a ha=>⟨fun s hs=>Nat.le_trans ((h.inp a ha).2 s hs) (by omega),Nat.le_trans (h.out a ha) (by omega)⟩
theorem GSmall.at {l:List GAct} (h:GSmall l) (j:Nat):(l.getD j az).2.1.length<=8/\(l.getD j az).2.2.1.length<=10:=by
 by_cases hj:j<l.length
 ·exact ⟨(h.arg _ (qT hj)).1,(h.inp _ (qT hj)).1⟩
 ·have:l.getD j az=az:=by simp [List.getD,List.getElem?_eq_none (show l.length<=j by omega)]
  rw [this]; decide
theorem gtx_B {l:TL} {most long:Int} {K:Bool->Prop} (hm:most<=1000000) (h:∀ t:Bool,(t=true->(l.length:Int)<=most/\∀ x∈l,(x.length:Int)<=long)->K t):jO l most long K:=by
 intro _
 refine ⟨fun _=>h false fun h=>(by cases h),fun hle=>?_⟩
 refine ⟨fun i=>0<=i/\i<=l.length/\∀ j,j<i.toNat->((l.getD j []).length:Int)<=long,fun i=>l.length - i.toNat,⟨by omega,by omega,fun j hj=>by simp at hj⟩,fun i ⟨a0,a1,a2⟩=>⟨fun hlt=>⟨⟨a0,hlt⟩,fun _=>h false fun h=>(by cases h),fun hn=>⟨by simp only [In]; omega,⟨by omega,by omega,fun j hj=>?_⟩,by (try dsimp only); omega⟩⟩,fun hge=>h true fun _=>⟨by omega,fun x hx=>?_⟩⟩⟩
 ·by_cases e:j=i.toNat
  ·rw [e]; omega
  ·exact a2 j (by omega)
 ·obtain ⟨j,hj,rfl⟩:=List.getElem_of_mem hx
  have:=a2 j (by omega)
  simpa [List.getD,hj] using this
theorem gacts_B {l:List GAct} {K:Bool->Prop} (h:∀ t:Bool,(t=true->GSmall l)->K t):ke l K:=by
 intro _
 refine ⟨fun _=>h false fun h=>(by cases h),fun hle=>?_⟩
 refine ⟨fun i=>0<=i/\i<=l.length/\∀ j,j<i.toNat->((l.getD j az).2.1.length<=8/\∀ s∈(l.getD j az).2.1,s.length<=100)/\((l.getD j az).2.2.1.length<=10/\∀ s∈(l.getD j az).2.2.1,s.length<=250)/\(l.getD j az).2.2.2.length<=250,fun i=>l.length - i.toNat,⟨by omega,by omega,fun j hj=>by simp at hj⟩,fun i ⟨a0,a1,a2⟩=>⟨fun hlt=>?_,fun hge=>h true fun _=>?_⟩⟩
 ·have hgd:l.getD i.toNat (0,[],[],[])=l.getD i.toNat az:=rfl
  rw [hgd]
  refine ⟨⟨a0,hlt⟩,gtx_B (by omega) fun t ht=>?_⟩
  refine ⟨fun q=>q=false->((l.getD i.toNat az).2.1.length<=8/\∀ s∈(l.getD i.toNat az).2.1,s.length<=100)/\((l.getD i.toNat az).2.2.1.length<=10/\∀ s∈(l.getD i.toNat az).2.2.1,s.length<=250),⟨fun _ h=>(by cases h),fun hq=>⟨⟨a0,hlt⟩,gtx_B (by omega) fun t2 ht2 h2=>?_⟩⟩,fun q hq=>⟨fun _=>⟨a0,hlt⟩,fun _=>h false fun h=>(by cases h),fun hc=>⟨by simp only [In]; omega,⟨by omega,by omega,fun j hj=>?_⟩,by (try dsimp only); omega⟩⟩⟩
  ·obtain ⟨p1,p2⟩:=ht (by simpa using hq)
   obtain ⟨p3,p4⟩:=ht2 (by simpa using h2)
   exact ⟨⟨by omega,fun s hs=>by have:=p2 s hs; omega⟩,⟨by omega,fun s hs=>by have:=p4 s hs; omega⟩⟩
  ·rw [Bool.or_eq_false_iff,decide_eq_false_iff_not] at hc
   by_cases e:j=i.toNat
   ·rw [e]
    obtain ⟨p1,p2⟩:=hq hc.1
    exact ⟨p1,p2,by omega⟩
   ·exact a2 j (by omega)
 ·have key:∀ a∈l,(a.2.1.length<=8/\∀ s∈a.2.1,s.length<=100)/\(a.2.2.1.length<=10/\∀ s∈a.2.2.1,s.length<=250)/\a.2.2.2.length<=250:=fun a ha=>by
   obtain ⟨j,hj,rfl⟩:=List.getElem_of_mem ha
   have:=a2 j (by omega)
   simpa [List.getD,hj] using this
  exact ⟨by omega,fun a ha=>(key a ha).1,fun a ha=>(key a ha).2.1,fun a ha=>(key a ha).2.2⟩
section
variable {l:List GAct} {outs:TL}
variable {i:Int}
def inR (l:List GAct) (i:Int):Prop:=0<=i/\i<(l.length:Int)
theorem action_R {mk:MK} {bef aft:List (List Int)} {K:Int->TL->TL->List UInt8->Bool->Prop} (hs:GSmall l) (h:∀ (a:GAct) (b:Bool),(b=true/\inR l i/\a=l.getD i.toNat az)∨(b=false/\¬ inR l i/\a=az)->a.2.2.1.length<=1000->K a.1 a.2.1 a.2.2.1 a.2.2.2 b):jl l mk bef aft i K:=by
 intro _ _ _
 refine ⟨fun hb=>?_,fun hb=>?_⟩
 ·rw [Bool.or_eq_true,decide_eq_true_eq,decide_eq_true_eq] at hb
  exact h az false (.inr ⟨rfl,fun hc=>by unfold inR at hc; omega,rfl⟩) (by decide)
 ·rw [Bool.or_eq_false_iff,decide_eq_false_iff_not,decide_eq_false_iff_not] at hb
  have hat:=hs.at i.toNat
  have hr:inR l i:=by unfold inR; omega
  exact ⟨hr,copied_M (by show (l.getD i.toNat az).2.1.length<=_; omega) (by show (l.getD i.toNat az).2.2.1.length<=_; omega) (h (l.getD i.toNat az) true (.inl ⟨rfl,hr,rfl⟩) (by omega))⟩
theorem pmaker_R {bef aft:List (List Int)} {p:List UInt8} {K:Int->Prop} (hp:p.length<=1000000) (h:K (mkI l p)):kg l (mkP l l.length) bef aft p K:=by
 intro _ _ _
 unfold mkI at h
 refine ⟨by unfold maxLen; omega,fun hs=>?_,fun hs=>?_⟩
 ·obtain ⟨v,hv⟩:=Option.isSome_iff_exists.1 hs
  rw [hv] at h |-; exact h
 ·have hn:mget (mkP l l.length) p=none:=by simpa using hs
  rw [hn] at h; exact h
theorem pbefore_R {mk:MK} {aft:List (List Int)} {K:List Int->Prop} (hs:GSmall l) (h0:¬ inR l i->K []) (h:inR l i->K (bsP l i.toNat)):ka l mk (befL l l.length) aft i K:=by
 intro _ _ _
 refine ⟨fun hb=>h0 fun hc=>?_,fun hb=>?_⟩
 ·rw [Bool.or_eq_true,decide_eq_true_eq,decide_eq_true_eq] at hb
  unfold inR at hc; omega
 ·rw [Bool.or_eq_false_iff,decide_eq_false_iff_not,decide_eq_false_iff_not] at hb
  have hr:inR l i:=by unfold inR; omega
  have hil:i.toNat<l.length:=by omega
  have h1:=bsP_len l i.toNat
  have h2:=(hs.at i.toNat).2
  refine ⟨by rw [befL_len]; exact hr,?_⟩
  rw [kf,if_pos hil]
  exact cloneI_M (by omega) (h hr)
end
end
 
section
open Go Go.RowKit
def cutC (c:UInt8):Bs->List Bs
 | []=>[[]]
 | x :: s=>if x=c then [] :: cutC c s else match cutC c s with
  | []=>[[x]]
  | h :: t=>(x :: h) :: t
theorem split_cutC (d:UInt8):∀ s:Bs,Lib.split s [d]=cutC d s
 | []=>by simp [Lib.split,Lib.count_miss,Lib.index,Lib.splitK,cutC]
 | c :: s=>by
  have ih:=split_cutC d s
  unfold Lib.split at ih |-
  by_cases hc:c=d
  ·subst hc
   have hix:Lib.index (c :: s) [c]=0:=by rw [Lib.index]; simp [List.isPrefixOf]
   rw [Lib.count_cons_eq,Nat.add_comm,Lib.splitK,if_neg (by rw [hix]; decide),hix]
   simp only [cutC,if_true]
   rw [<-ih]
   simp
  ·have hp:([d]:List UInt8).isPrefixOf (c :: s)=false:=by simp [List.isPrefixOf,Ne.symm hc]
   have hix:Lib.index (c :: s) [d]=if Lib.index s [d] == -1 then -1 else Lib.index s [d]+1:=by rw [Lib.index,hp]; simp
   rw [Lib.count_cons_ne c d s hc]
   simp only [cutC,if_neg hc]
   rw [<-ih]
   cases hk:Lib.count s [d] with
   | zero=>simp [Lib.splitK]
   | succ k =>
    have hne:Lib.index s [d] ≠ -1:=fun e=>by rw [Lib.count_miss e] at hk; cases hk
    have hge:=Lib.index_ge s [d]
    obtain ⟨j,hj⟩:∃ j:Nat,Lib.index s [d]=j:=⟨(Lib.index s [d]).toNat,by omega⟩
    have hix':Lib.index (c :: s) [d]=((j+1:Nat):Int):=by rw [hix,if_neg (fun e=>hne (beq_iff_eq.1 e)),hj]; omega
    rw [Lib.splitK,Lib.splitK,if_neg (fun e=>hne (beq_iff_eq.1 e)),if_neg (by rw [hix']; simp; omega),hix',hj]
    simp
def lineR:Bs->List Bs
 | []=>[]
 | x :: s=>if x=10 then [] :: lineR s else match lineR s with
  | []=>[[x]]
  | h :: t=>(x :: h) :: t
theorem suffix_one (x:UInt8):∀ s:Bs,s≠[]->Lib.hasSuffix (x :: s) [10]=Lib.hasSuffix s [10]:=by
 intro s hs
 unfold Lib.hasSuffix
 rw [Bool.eq_iff_iff,List.isSuffixOf_iff_suffix,List.isSuffixOf_iff_suffix,List.suffix_cons_iff]
 constructor
 ·rintro (h | h)
  ·cases s with
   | nil=>exact absurd rfl hs
   | cons y s=>cases h
  ·exact h
 ·exact .inr
theorem trim_cons (x:UInt8) {s:Bs} (hs:s≠[]):Lib.trimSuffix (x :: s) [10]=x :: Lib.trimSuffix s [10]:=by
 unfold Lib.trimSuffix
 rw [suffix_one x s hs]
 have hl:0<s.length:=List.length_pos_iff.2 hs
 split
 ·rw [show (x :: s).length - ([10]:Bs).length=(s.length - ([10]:Bs).length)+1 by simp; omega]
  rfl
 ·rfl
theorem lineR_cut:∀ s:Bs,lineR s=if s=[] then [] else cutC 10 (Lib.trimSuffix s [10])
 | []=>by simp [lineR]
 | x :: s=>by
  rw [if_neg (by simp)]
  have ih:=lineR_cut s
  by_cases hs:s=[]
  ·subst hs
   by_cases hx:x=10
   ·subst hx; decide
   ·have:Lib.hasSuffix [x] [10]=false:=by
     unfold Lib.hasSuffix
     rw [<-Bool.not_eq_true,List.isSuffixOf_iff_suffix]
     intro h
     have:=h.eq_of_length rfl
     simp at this
     exact hx this.symm
    unfold Lib.trimSuffix
    rw [this]
    simp [lineR,cutC,hx]
  ·rw [if_neg hs] at ih
   rw [trim_cons x hs]
   unfold lineR cutC
   rw [ih]
theorem lineR_hit:∀ (a t:Bs),(10:UInt8)∉a->lineR (a++10 :: t)=a :: lineR t
 | [],t,_=>by simp [lineR]
 | x :: a,t,h=>by
  have hx:x≠10:=fun e=>h (by simp [e])
  have ih:=lineR_hit a t fun hm=>h (by simp [hm])
  rw [List.cons_append,lineR,if_neg hx,ih]
theorem lineR_last:∀ {a:Bs},(10:UInt8)∉a->a≠[]->lineR a=[a]
 | [],_,h=>absurd rfl h
 | x :: a,h,_=>by
  have hx:x≠10:=fun e=>h (by simp [e])
  by_cases ha:a=[]
  ·subst ha; simp [lineR,hx]
  ·rw [lineR,if_neg hx,lineR_last (fun hm=>h (by simp [hm])) ha]
def wtL (l:List Bs):Nat:=(l.map fun x=>x.length+1).sum
theorem lineR_wt:∀ s:Bs,wtL (lineR s)<=s.length+1
 | []=>by simp [lineR,wtL]
 | c :: s=>by
  have ih:=lineR_wt s
  unfold lineR
  split
  ·simp only [wtL,List.map_cons,List.sum_cons,List.length_nil,List.length_cons] at ih |-; omega
  ·split
   ·simp [wtL]
   ·rename_i h t e
    rw [e] at ih
    simp only [wtL,List.map_cons,List.sum_cons,List.length_cons] at ih |-; omega
theorem wtL_mem {a:List Bs} {x:Bs} (h:x∈a):x.length+1<=wtL a:=by
 induction a with
 | nil=>cases h
 | cons y a ih =>
  rcases List.mem_cons.1 h with h | h
  ·subst h; simp only [wtL,List.map_cons,List.sum_cons]; omega
  ·have:=ih h; simp only [wtL,List.map_cons,List.sum_cons] at this |-; omega
theorem wtL_len (a:List Bs):a.length<=wtL a:=by
 induction a with
 | nil=>simp [wtL]
 | cons y a ih=>simp only [wtL,List.map_cons,List.sum_cons,List.length_cons] at ih |-; omega
def jE (l:List Bs):List Bs:=l.flatMap lineR
theorem sorted_uniq:∀ {a b:List Bs},a.Pairwise (· <= ·)->b.Pairwise (· <= ·)->a.Perm b->a=b
 | [],b,_,_,h=>h.nil_eq.symm ▸ rfl
 | x :: a,[],_,_,h=>absurd h.eq_nil (by simp)
 | x :: a,y :: b,ha,hb,h=>by
  have ha':=List.pairwise_cons.1 ha
  have hb':=List.pairwise_cons.1 hb
  have h1:y<=x:=by
   rcases List.mem_cons.1 (h.mem_iff.1 (List.mem_cons_self (a:=x) (l:=a))) with e | e
   ·rw [e]; exact List.le_refl _
   ·exact hb'.1 x e
  have h2:x<=y:=by
   rcases List.mem_cons.1 (h.mem_iff.2 (List.mem_cons_self (a:=y) (l:=b))) with e | e
   ·rw [e]; exact List.le_refl _
   ·exact ha'.1 y e
  obtain rfl:x=y:=List.le_antisymm h2 h1
  rw [sorted_uniq ha'.2 hb'.2 h.cons_inv]
theorem sortB_perm (l:List Bs):(sortB l).Perm l:=List.mergeSort_perm l _
theorem sortB_of {a l:List Bs} (h:a.Pairwise (· <= ·)) (k:a.Perm l):a=sortB l:=sorted_uniq h (sortB_le l) (k.trans (sortB_perm l).symm)
end
 
section
open Go Go.RowKit
theorem trimS_M {s:List UInt8} {K:List UInt8->Prop} (hs:s.length<=4000000000) (h:K (Lib.trimSuffix s [10])):ks s [10] K:=by
 have e:((decide ((([10]:List UInt8).length:Int)<=(s.length:Int))) && (decide ((s.drop ((s.length:Int) - (([10]:List UInt8).length:Int)).toNat)=([10]:List UInt8))))=Lib.hasSuffix s [10]:=by
  unfold Lib.hasSuffix
  rw [Bool.eq_iff_iff,Bool.and_eq_true,decide_eq_true_eq,decide_eq_true_eq,List.isSuffixOf_iff_suffix]
  have hn:((s.length:Int) - (([10]:List UInt8).length:Int)).toNat=s.length - ([10]:List UInt8).length:=by simp
  rw [hn]
  exact ⟨fun h=>List.suffix_iff_eq_drop.2 h.2.symm,fun h=>⟨by have:=h.length_le; omega,(List.suffix_iff_eq_drop.1 h).symm⟩⟩
 refine ⟨fun h1=>?_,fun h1=>?_,?_⟩
 ·simp only [In]; simp; omega
 ·rw [decide_eq_true_eq] at h1; simp at h1 |-; omega
 ·rw [e]
  unfold Lib.trimSuffix at h
  refine ⟨fun h1=>?_,fun h1=>?_⟩
  ·rw [if_pos h1] at h
   have hl:1<=s.length:=by
    unfold Lib.hasSuffix at h1
    have:=(List.isSuffixOf_iff_suffix.1 h1).length_le
    simpa using this
   refine ⟨by simp only [In]; simp; omega,by simp; omega,?_⟩
   have hn:((s.length:Int) - (([10]:List UInt8).length:Int)).toNat=s.length - ([10]:List UInt8).length:=by simp
   rw [hn]
   exact h
  ·rw [if_neg (by rw [h1]; decide)] at h
   exact h
theorem lineRs_M {s:List UInt8} {K:List (List UInt8)->Prop} (hs:s.length<=4000000000) (h:K (lineR s)):M_tool_Lines s K:=by
 rw [lineR_cut] at h
 refine ⟨fun e=>by rw [if_pos e] at h; exact h,fun e=>trimS_M hs ⟨?_,by simp,?_⟩⟩
 ·have:(Lib.trimSuffix s [10]).length<=s.length:=by
   unfold Lib.trimSuffix
   split
   ·rw [List.length_take]; omega
   ·exact Nat.le_refl _
  omega
 ·rw [if_neg e] at h
  rw [show splitL [10] (Lib.trimSuffix s [10])=cutC 10 (Lib.trimSuffix s [10]) from split_cutC 10 _]
  exact h
theorem lineR_len (s:List UInt8):(lineR s).length<=s.length+1:=Nat.le_trans (wtL_len _) (lineR_wt s)
theorem linesA_take {l:List (List UInt8)} {i:Nat} (h:i<l.length):jE (l.take (i+1))=jE (l.take i)++lineR (l.getD i []):=by
 unfold jE
 rw [List.take_succ_eq_append_getElem h,List.flatMap_append]
 simp [List.getD,h]
theorem linesA_len {l:List (List UInt8)} (h:∀ x∈l,x.length<=100000):(jE l).length<=100001*l.length:=by
 induction l with
 | nil=>simp [jE]
 | cons x l ih =>
  have h1:=lineR_len x
  have h2:=h x (by simp)
  have h3:=ih fun y hy=>h y (by simp [hy])
  have e:jE (x :: l)=lineR x++jE l:=rfl
  rw [e,List.length_append,List.length_cons]
  omega
theorem linesA_M {l:List (List UInt8)} {K:List (List UInt8)->Prop} (hl:l.length<=1000) (hx:∀ x∈l,x.length<=100000) (h:K (jE l)):M_tool_lines l K:=by
 intro _
 refine ⟨fun o i=>0<=i/\i<=l.length/\o=jE (l.take i.toNat),fun _ i=>l.length - i.toNat,⟨by omega,by omega,rfl⟩,fun o i ⟨a0,a1,a2⟩=>⟨fun hlt=>?_,fun hge=>?_⟩⟩
 ·have h1:=hx _ (jf (l:=l) (k:=i.toNat) (d:=[]) (by omega))
  have h2:=lineR_len (l.getD i.toNat [])
  have h3:=linesA_len (l:=l.take i.toNat) fun x hx'=>hx x (List.mem_of_mem_take hx')
  rw [List.length_take,<-a2] at h3
  refine ⟨by omega,lineRs_M (by omega) ⟨by omega,by simp only [In]; omega,⟨by omega,by omega,?_⟩,by dsimp only; omega⟩⟩
  rw [show (i+1).toNat=i.toNat+1 by omega,linesA_take (by omega),<-a2]
 ·rw [a2,List.take_of_length_le (by omega)]
  exact h
def wNot:List UInt8:=[110,111,116]
def wRev:List UInt8:=[114,101,118,101,114,115,101]
def wUni:List UInt8:=[117,110,105,113,117,101]
def filtOk (args:List (List UInt8)):Bool := !((decide ((args.length:Int)<1) || decide ((2:Int)<(args.length:Int))) || (decide ((args.length:Int)=2) && !decide (args.getD 1 []=wNot)))
def filtB (args:List (List UInt8)) (x:List UInt8):Bool:=Lib.contains x (args.getD 0 []) == decide ((args.length:Int)=1)
theorem filter_step (p:List UInt8->Bool) (l:List (List UInt8)) (i:Nat) (h:i<l.length):(l.take (i+1)).filter p=(l.take i).filter p++(if p (l.getD i [])=true then [l.getD i []] else []):=by
 rw [List.take_succ_eq_append_getElem h,List.filter_append]
 have:l.getD i []=l[i]:=by simp [List.getD,h]
 rw [this]
 cases hp:p l[i] <;> simp [hp]
theorem filter_M {args l:List (List UInt8)} {K:List (List UInt8)->Bool->Prop} (hl:l.length<=1000000000) (hx:∀ x∈l,x.length<=1000000) (h0:filtOk args=false->K [] false) (h1:filtOk args=true->K (l.filter (filtB args)) true):M_tool_filter args l K:=by
 intro _ _
 refine ⟨fun _ h2=>by rw [decide_eq_true_eq] at h2; omega,fun h=>h0 (by unfold filtOk; rw [show wNot=([110,111,116]:List UInt8) from rfl,h]; rfl),fun h=>?_⟩
 have hok:filtOk args=true:=by unfold filtOk; rw [show wNot=([110,111,116]:List UInt8) from rfl,h]; rfl
 have hn:1<=args.length:=by
  rw [Bool.or_eq_false_iff,Bool.or_eq_false_iff,decide_eq_false_iff_not] at h
  omega
 refine ⟨fun o i=>0<=i/\i<=l.length/\o=(l.take i.toNat).filter (filtB args),fun _ i=>l.length - i.toNat,⟨by omega,by omega,rfl⟩,fun o i ⟨a0,a1,a2⟩=>⟨fun hlt=>?_,fun hge=>?_⟩⟩
 ·have hol:o.length<=l.length:=by
   rw [a2]
   exact Nat.le_trans (List.length_filter_le _ _) (by rw [List.length_take]; omega)
  have hxl:=hx _ (jf (l:=l) (k:=i.toNat) (d:=[]) (by omega))
  refine ⟨fun o'=>o'=(l.take (i.toNat+1)).filter (filtB args),⟨by omega,by omega,by omega,fun e=>⟨by simp only [List.length_singleton]; omega,?_⟩,fun e=>?_⟩,?_⟩
  ·rw [filter_step _ _ _ (by omega),if_pos (show filtB args (l.getD i.toNat [])=true from e),<-a2]
  ·rw [filter_step _ _ _ (by omega),if_neg (by rw [show filtB args (l.getD i.toNat [])=false from e]; decide),<-a2,List.append_nil]
  ·rintro _ rfl
   exact ⟨by simp only [In]; omega,⟨by omega,by omega,by rw [show (i+1).toNat=i.toNat+1 by omega]⟩,by dsimp only; omega⟩
 ·rw [a2,List.take_of_length_le (by omega)]
  exact h1 hok
theorem contains_M {l:List (List UInt8)} {v:List UInt8} {K:Bool->Prop} (h:K (l.contains v)):qY l v K:=by
 intro hm _
 refine ⟨fun i=>0<=i/\i<=l.length/\∀ j,j<i.toNat->l.getD j []≠v,fun i=>l.length - i.toNat,⟨by omega,by omega,fun j hj=>by simp at hj⟩,fun i ⟨a0,a1,a2⟩=>⟨fun hlt=>⟨by omega,fun e=>?_,fun e=>⟨by simp only [In]; simp only [maxLen] at hm; omega,⟨by omega,by omega,fun j hj=>?_⟩,by dsimp only; omega⟩⟩,fun hge=>?_⟩⟩
 ·have:l.contains v=true:=by rw [e]; exact List.contains_iff_mem.2 (jf (by omega))
  rw [this] at h
  show K (decide ((0:Int)<=i))
  rw [decide_eq_true a0]; exact h
 ·by_cases e2:j=i.toNat
  ·rw [e2]; exact fun e3=>e e3.symm
  ·exact a2 j (by omega)
 ·have:l.contains v=false:=by
   rw [<-Bool.not_eq_true,List.contains_iff_mem]
   intro hmem
   obtain ⟨j,hj,rfl⟩:=List.getElem_of_mem hmem
   exact a2 j (by omega) (by simp [List.getD,hj])
  rw [this] at h
  exact h
def sortOk (args:List (List UInt8)):Bool:=decide (((if args.contains wRev then 1 else 0)+(if args.contains wUni then 1 else 0):Int)=(args.length:Int))
def sortR (args l:List (List UInt8)):List (List UInt8):=if args.contains wRev then (if args.contains wUni then sortU l else sortB l).reverse else (if args.contains wUni then sortU l else sortB l)
theorem sorted_M {args l:List (List UInt8)} {K:List (List UInt8)->Bool->Prop} (hl:l.length<=1000000000) (h0:sortOk args=false->K [] false) (h1:sortOk args=true->K (sortR args l) true):M_tool_sorted args l K:=by
 intro _ _
 refine contains_M (contains_M ?_)
 have e1:args.contains ([114,101,118,101,114,115,101]:List UInt8)=args.contains wRev:=rfl
 have e2:args.contains ([117,110,105,113,117,101]:List UInt8)=args.contains wUni:=rfl
 rw [e1,e2]
 unfold sortOk at h0 h1
 unfold sortR at h1
 revert h0 h1
 generalize args.contains wRev=r
 generalize args.contains wUni=u
 intro h0 h1
 cases r <;> cases u
 all_goals
  simp only [if_true,if_false,Bool.false_eq_true,decide_eq_true_eq,decide_eq_false_iff_not] at h0 h1
 ·refine ⟨fun n=>n=0,⟨fun h=>(by cases h),fun _=>rfl⟩,?_⟩
  rintro _ rfl
  refine ⟨fun n=>n=0,⟨fun h=>(by cases h),fun _=>rfl⟩,?_⟩
  rintro _ rfl
  refine ⟨fun h=>h0 (by simpa using h),fun h=>⟨hl,fun o=>o=sortB l,⟨fun h=>(by cases h),fun _=>rfl⟩,?_⟩⟩
  rintro _ rfl
  refine ⟨fun o=>o=sortB l,⟨fun h=>(by cases h),fun _=>rfl⟩,?_⟩
  rintro _ rfl
  exact h1 (by simpa using h)
 ·refine ⟨fun n=>n=0,⟨fun h=>(by cases h),fun _=>rfl⟩,?_⟩
  rintro _ rfl
  refine ⟨fun n=>n=1,⟨fun _=>⟨by simp only [In]; omega,rfl⟩,fun h=>(by cases h)⟩,?_⟩
  rintro _ rfl
  refine ⟨fun h=>h0 (by simpa using h),fun h=>⟨hl,fun o=>o=sortU l,⟨fun _=>rfl,fun h=>(by cases h)⟩,?_⟩⟩
  rintro _ rfl
  refine ⟨fun o=>o=sortU l,⟨fun h=>(by cases h),fun _=>rfl⟩,?_⟩
  rintro _ rfl
  exact h1 (by simpa using h)
 ·refine ⟨fun n=>n=1,⟨fun _=>⟨by simp only [In]; omega,rfl⟩,fun h=>(by cases h)⟩,?_⟩
  rintro _ rfl
  refine ⟨fun n=>n=1,⟨fun h=>(by cases h),fun _=>rfl⟩,?_⟩
  rintro _ rfl
  refine ⟨fun h=>h0 (by simpa using h),fun h=>⟨hl,fun o=>o=sortB l,⟨fun h=>(by cases h),fun _=>rfl⟩,?_⟩⟩
  rintro _ rfl
  refine ⟨fun o=>o=(sortB l).reverse,⟨fun _=>rfl,fun h=>(by cases h)⟩,?_⟩
  rintro _ rfl
  exact h1 (by simpa using h)
 ·refine ⟨fun n=>n=1,⟨fun _=>⟨by simp only [In]; omega,rfl⟩,fun h=>(by cases h)⟩,?_⟩
  rintro _ rfl
  refine ⟨fun n=>n=2,⟨fun _=>⟨by simp only [In]; omega,rfl⟩,fun h=>(by cases h)⟩,?_⟩
  rintro _ rfl
  refine ⟨fun h=>h0 (by simpa using h),fun h=>⟨hl,fun o=>o=sortU l,⟨fun _=>rfl,fun h=>(by cases h)⟩,?_⟩⟩
  rintro _ rfl
  refine ⟨fun o=>o=(sortU l).reverse,⟨fun _=>rfl,fun h=>(by cases h)⟩,?_⟩
  rintro _ rfl
  exact h1 (by simpa using h)
end
 
section
open Go Go.RowKit
theorem joined_M {l:List (List UInt8)} {by_ end_:List UInt8} {K:List UInt8->Er->Prop} (hx:∀ x∈l,x.length<=1000000000) (hb:by_.length<=1000000000) (he:end_.length<=1000000000)
  (h1:(jC l by_ end_).length<=65536->K (jC l by_ end_) .ok) (h0:65536<(jC l by_ end_).length->K [] (.e 16)):kR l by_ end_ K:=by
 intro hm
 refine ⟨fun n i=>0<=i/\i<=l.length/\n=((jC (l.take i.toNat) by_ end_).length:Int)/\n<=65536,fun _ i=>l.length - i.toNat,⟨by omega,by omega,rfl,by omega⟩,fun n i ⟨a0,a1,a2,a3⟩=>⟨fun hlt=>⟨by omega,?_⟩,fun hge=>?_⟩⟩
 ·have hxl:=hx _ (jf (l:=l) (k:=i.toNat) (d:=[]) (by omega))
  have ht:=congrArg List.length (joinE_take (l:=l) (i:=i.toNat) (by omega) by_ end_)
  have hle:=joinE_le l (i.toNat+1) by_ end_
  simp only [List.length_append] at ht
  simp only [maxLen] at hm
  refine ⟨fun n2=>n2=n+((if i.toNat=0 then ([]:List UInt8) else by_).length:Int),⟨fun h=>⟨by simp only [In]; omega,by rw [if_neg (by omega)]⟩,fun h=>by rw [if_pos (by omega)]; simp⟩,?_⟩
  rintro n2 rfl
  have hif:(if i.toNat=0 then ([]:List UInt8) else by_).length<=1000000000:=by
   split
   ·simp
   ·exact hb
  refine ⟨by simp only [In]; omega,by simp only [In]; omega,fun h=>h0 (by omega),fun h=>⟨by simp only [In]; omega,⟨by omega,by omega,?_,by omega⟩,by dsimp only; omega⟩⟩
  rw [show (i+1).toNat=i.toNat+1 by omega]
  omega
 ·rw [List.take_of_length_le (by omega)] at a2
  exact ⟨by omega,h1 (by omega)⟩
def Ze (l:List (List UInt8)):List (List UInt8):=l.map fun s=>hexS (shaS s)
theorem textZ_M {s:List UInt8} {K:List UInt8->Prop} (hl:s.length=32) (h:K (hexS s)):M_sha_Text s K:=by
 intro t ht he
 have:t=s:=List.ext_getElem (by omega) fun i h1 h2=>by
  have:=he i (by omega)
  simpa [List.getD,h1,h2] using this
 rw [this]; exact h
def listP (tool:Int) (args inputs:List (List UInt8)):List (List UInt8) × Bool :=
 if tool=2 then (if filtOk args then ((jE inputs).filter (filtB args),true) else ([],false))
 else if tool=4 then (if sortOk args then (sortR args (jE inputs),true) else ([],false))
 else (Ze inputs,decide ((args.length:Int)=0))
theorem lineR_le {s x:List UInt8} (h:x∈lineR s):x.length<=s.length:=by
 have h1:=wtL_mem h
 have h2:=lineR_wt s
 omega
theorem linesA_le {l:List (List UInt8)} {x:List UInt8} (h:x∈jE l) (hx:∀ y∈l,y.length<=100000):x.length<=100000:=by
 unfold jE at h
 obtain ⟨y,hy,hxy⟩:=List.mem_flatMap.1 h
 have:=lineR_le hxy
 have:=hx y hy
 omega
theorem listed_M {tool:Int} {args inputs:List (List UInt8)} {K:List (List UInt8)->Bool->Prop} (hl:inputs.length<=1000) (hx:∀ x∈inputs,x.length<=100000) (h:K (listP tool args inputs).1 (listP tool args inputs).2):M_tool_listed tool args inputs K:=by
 intro _ _
 have hlen:=linesA_len hx
 unfold listP at h
 refine ⟨fun e=>linesA_M hl hx (filter_M (by omega) (fun x hx'=>by have:=linesA_le hx' hx; omega) (fun e2=>?_) (fun e2=>?_)),fun e=>⟨fun e3=>linesA_M hl hx (sorted_M (by omega) (fun e2=>?_) (fun e2=>?_)),fun e3=>?_⟩⟩
 ·rw [if_pos e,if_neg (by rw [e2]; decide)] at h; exact h
 ·rw [if_pos e,if_pos e2] at h; exact h
 ·rw [if_neg e,if_pos e3,if_neg (by rw [e2]; decide)] at h; exact h
 ·rw [if_neg e,if_pos e3,if_pos e2] at h; exact h
 ·rw [if_neg e,if_neg e3] at h
  refine ⟨fun o i=>0<=i/\i<=inputs.length/\o=Ze (inputs.take i.toNat),fun _ i=>inputs.length - i.toNat,⟨by omega,by omega,rfl⟩,fun o i ⟨a0,a1,a2⟩=>⟨fun hlt=>?_,fun hge=>?_⟩⟩
  ·have hxl:=hx _ (jf (l:=inputs) (k:=i.toNat) (d:=[]) (by omega))
   have hol:o.length<=1000:=by rw [a2,Ze,List.length_map,List.length_take]; omega
   refine ⟨by omega,by simp only [maxLen]; omega,by omega,textZ_M (shaS_len _) ⟨by simp only [List.length_singleton]; omega,by simp only [In]; omega,⟨by omega,by omega,?_⟩,by dsimp only; omega⟩⟩
   rw [show (i+1).toNat=i.toNat+1 by omega,a2]
   unfold Ze
   rw [List.take_succ_eq_append_getElem (show i.toNat<inputs.length by omega),List.map_append]
   simp [List.getD,show i.toNat<inputs.length by omega]
  ·rw [a2,List.take_of_length_le (by omega)]
   exact h
end
 
section
open Go Go.RowKit
theorem replK_len (old new:List UInt8) (ho:old≠[]):∀ (k:Nat) (s:List UInt8),Lib.count s old=k->(Lib.replaceK old new k s).length+k*old.length=s.length+k*new.length:=by
 intro k
 induction k with
 | zero=>intro s _; simp [Lib.replaceK]
 | succ k ih =>
  intro s hc
  obtain ⟨i,hi⟩:=Lib.index_of_count (s:=s) (old:=old) (by omega)
  have h1:=Lib.count_hit ho hi
  have h2:=Lib.index_room s old (by omega)
  have h3:=ih (s.drop (i+old.length)) (by omega)
  rw [Lib.replaceK_hit old new k s i hi,List.length_append,List.length_append,List.length_take]
  rw [List.length_drop] at h3
  rw [Nat.succ_mul,Nat.succ_mul]
  omega
theorem replAll_len (s old new:List UInt8) (ho:old≠[]):(Lib.replaceAll s old new).length+Lib.count s old*old.length=s.length+Lib.count s old*new.length:=by
 by_cases he:old=new
 ·have:Lib.replaceAll s old new=s:=by
   unfold Lib.replaceAll Lib.replace
   simp [he]
  rw [this,he]
 ·have:Lib.replaceAll s old new=Lib.replaceK old new (Lib.count s old) s:=by
   unfold Lib.replaceAll Lib.replace Lib.replaceNum
   simp [he]
  rw [this]
  exact replK_len old new ho _ s rfl
def subP:List (List UInt8)->List UInt8->List UInt8 × Er
 | a :: b :: r,s=>if a=[] then ([],.e 16) else if (0:Int)<(b.length:Int) - (a.length:Int)/\(65536 - (s.length:Int)) / ((b.length:Int) - (a.length:Int))<(Lib.count s a:Int) then ([],.e 16) else subP r (Lib.replaceAll s a b)
 | _,s=>(s,.ok)
theorem subP_cons (a b:List UInt8) (r:List (List UInt8)) (s:List UInt8):subP (a :: b :: r) s=if a=[] then ([],.e 16) else if (0:Int)<(b.length:Int) - (a.length:Int)/\(65536 - (s.length:Int)) / ((b.length:Int) - (a.length:Int))<(Lib.count s a:Int) then ([],.e 16) else subP r (Lib.replaceAll s a b):=rfl
def substP (args inputs:List (List UInt8)):List UInt8 × Er :=
 if (args.length:Int) % 2=0 then (if 65536<(jC inputs [] []).length then ([],.e 16) else subP args (jC inputs [] [])) else ([],.e 16)
theorem substitute_M {args inputs:List (List UInt8)} {K:List UInt8->Er->Prop} (ha:∀ x∈args,x.length<=1000000) (hx:∀ x∈inputs,x.length<=1000000000) (h:K (substP args inputs).1 (substP args inputs).2):kX args inputs K:=by
 intro hm _
 simp only [maxLen] at hm
 unfold substP at h
 refine ⟨by omega,fun e=>by rw [if_neg e] at h; exact h,fun e=>?_⟩
 rw [if_pos e] at h
 refine joined_M hx (by simp) (by simp) (fun hj=>⟨fun e2=>absurd rfl e2,fun _=>?_⟩) (fun hj=>⟨fun _=>?_,fun e2=>by cases e2⟩)
 ·rw [if_neg (by omega)] at h
  generalize jC inputs [] []=s0 at *
  refine ⟨fun s i=>0<=i/\i<=args.length/\i % 2=0/\s.length<=65536/\subP args s0=subP (args.drop i.toNat) s,fun _ i=>args.length - i.toNat,⟨by omega,by omega,by omega,hj,by simp⟩,fun s i ⟨a0,a1,a2,a3,a4⟩=>⟨fun hlt=>⟨by omega,?_⟩,fun hge=>?_⟩⟩
  ·have hd:args.drop i.toNat=args.getD i.toNat [] :: args.getD (i.toNat+1) [] :: args.drop (i.toNat+2):=by
    rw [List.drop_eq_getElem_cons (show i.toNat<args.length by omega),List.drop_eq_getElem_cons (show i.toNat+1<args.length by omega)]
    simp [List.getD,show i.toNat<args.length by omega,show i.toNat+1<args.length by omega]
   rw [hd] at a4
   have l1:=ha _ (jf (l:=args) (k:=i.toNat) (d:=[]) (by omega))
   have l2:=ha _ (jf (l:=args) (k:=i.toNat+1) (d:=[]) (by omega))
   have ei:(i+1).toNat=i.toNat+1:=by omega
   rw [ei]
   generalize args.getD i.toNat []=a at *
   generalize args.getD (i.toNat+1) []=b at *
   rw [subP_cons] at a4
   refine ⟨fun hn=>?_,fun hn=>?_⟩
   ·rw [if_pos hn] at a4
    rw [a4] at h; exact h
   ·rw [if_neg hn] at a4
    have hal:1<=a.length:=List.length_pos_iff.2 hn
    have hcnt:(Lib.countB ⟨⟨s⟩⟩ ⟨⟨a⟩⟩:Nat)=Lib.count s a:=rfl
    have hlen:=replAll_len s a b hn
    have hcl:=Lib.count_le s a
    have hmulle:Lib.count s a*b.length<=65537*1000000:=Nat.mul_le_mul (by omega) l2
    refine ⟨by omega,by omega,hal,?_⟩
    rw [hcnt]
    refine ⟨by simp only [In]; omega,by omega,by omega,by simp only [In]; omega,fun _=>by simp only [In]; omega,fun hp=>?_,fun hp=>?_,fun hp=>?_⟩
    ·rw [decide_eq_true_eq] at hp
     exact ⟨by omega,by omega,by simp only [In]; omega⟩
    ·rw [Bool.and_eq_true,decide_eq_true_eq,decide_eq_true_eq] at hp
     rw [if_pos hp] at a4
     rw [a4] at h; exact h
    ·rw [Bool.and_eq_false_iff,decide_eq_false_iff_not,decide_eq_false_iff_not] at hp
     rw [if_neg (by rintro ⟨q1,q2⟩; rcases hp with hp | hp <;> contradiction)] at a4
     refine ⟨by omega,by simp only [In]; omega,by omega,by omega,hal,by rw [hcnt]; omega,by simp only [In]; omega,⟨by omega,by omega,by omega,?_,?_⟩,by dsimp only; omega⟩
     ·rcases hp with hp | hp
      ·have:Lib.count s a*b.length<=Lib.count s a*a.length:=Nat.mul_le_mul_left _ (by omega)
       omega
      ·by_cases hd0:(0:Int)<(b.length:Int) - (a.length:Int)
       ·have h5:(Lib.count s a:Int)*((b.length:Int) - (a.length:Int))<=65536 - (s.length:Int):=(Int.le_ediv_iff_mul_le hd0).1 (by omega)
        rw [Int.mul_sub] at h5
        have h6:((Lib.count s a*b.length:Nat):Int)=(Lib.count s a:Int)*(b.length:Int):=Int.natCast_mul _ _
        have h7:((Lib.count s a*a.length:Nat):Int)=(Lib.count s a:Int)*(a.length:Int):=Int.natCast_mul _ _
        omega
       ·have:Lib.count s a*b.length<=Lib.count s a*a.length:=Nat.mul_le_mul_left _ (by omega)
        omega
     ·rw [show (i+2).toNat=i.toNat+2 by omega]
      exact a4
  ·rw [List.drop_eq_nil_of_le (by omega)] at a4
   rw [a4] at h
   exact h
 ·rw [if_pos hj] at h
  exact h
def fitP (t:List UInt8):List UInt8 × Er:=if t.length<=65536 then (t,.ok) else ([],.e 16)
def doP (tool:Int) (args inputs:List (List UInt8)):List UInt8 × Er :=
 if tool=3 then substP args inputs
 else if tool=1 then (if 1<args.length then ([],.e 16) else fitP (jC inputs (if args.length=1 then args.getD 0 [] else []) []))
 else if tool=2∨tool=4∨tool=5 then (if (listP tool args inputs).2=true then fitP (jC (listP tool args inputs).1 [] [10]) else ([],.e 16))
 else ([],.e 10)
theorem sortU_le {l:List (List UInt8)} {x:List UInt8} (h:x∈sortU l):x∈l:=(sortU_mem l x).1 h
theorem listP_le {tool:Int} {args inputs:List (List UInt8)} (hx:∀ x∈inputs,x.length<=100000):∀ x∈(listP tool args inputs).1,x.length<=100000:=by
 intro x h
 unfold listP at h
 split at h
 ·split at h
  ·exact linesA_le (List.mem_filter.1 h).1 hx
  ·cases h
 ·split at h
  ·split at h
   ·refine linesA_le (l:=inputs) ?_ hx
    unfold sortR at h
    split at h
    ·rw [List.mem_reverse] at h
     split at h
     ·exact sortU_le h
     ·exact (sortB_mem _ _).1 h
    ·split at h
     ·exact sortU_le h
     ·exact (sortB_mem _ _).1 h
   ·cases h
  ·unfold Ze at h
   obtain ⟨y,_,rfl⟩:=List.mem_map.1 h
   rw [hexS_len,shaS_len]; omega
theorem do_M {tool:Int} {args inputs:List (List UInt8)} {K:List UInt8->Er->Prop} (ha:∀ x∈args,x.length<=1000000) (hl:inputs.length<=1000) (hx:∀ x∈inputs,x.length<=100000) (h:K (doP tool args inputs).1 (doP tool args inputs).2):M_tool_Do tool args inputs K:=by
 intro _ _
 have fit:∀ (l:List (List UInt8)) (b e:List UInt8),(∀ x∈l,x.length<=1000000)->b.length<=1000000->e.length<=1000000->K (fitP (jC l b e)).1 (fitP (jC l b e)).2->kR l b e K:=fun l b e q1 q2 q3 q4=>by
  unfold fitP at q4
  refine joined_M (fun x hx'=>by have:=q1 x hx'; omega) (by omega) (by omega) (fun q5=>?_) (fun q5=>?_)
  ·rw [if_pos q5] at q4; exact q4
  ·rw [if_neg (by omega)] at q4; exact q4
 unfold doP at h
 refine ⟨fun a2 i2 e is=>(tool=1/\a2=args/\i2=inputs/\e=[]/\is=true)∨((tool=2∨tool=4∨tool=5)/\a2=[]/\i2=(listP tool args inputs).1/\e=[10]/\is=(listP tool args inputs).2),⟨fun e=>substitute_M ha (fun x hx'=>by have:=hx x hx'; omega) (by rw [if_pos e] at h; exact h),fun e=>?_⟩,?_⟩
 ·rw [if_neg e] at h
  refine ⟨fun b=>b=decide (tool=2∨tool=4∨tool=5),⟨fun e2=>by simp [e2],fun e2=>⟨fun e3=>by simp [e3],fun e3=>by simp [e2,e3]⟩⟩,?_⟩
  rintro b rfl
  refine ⟨fun hb=>listed_M hl hx (.inr ⟨of_decide_eq_true hb,rfl,rfl,rfl,rfl⟩),fun hb=>⟨fun e1=>.inl ⟨e1,rfl,rfl,rfl,rfl⟩,fun e1=>?_⟩⟩
  rw [if_neg e1,if_neg (of_decide_eq_false hb)] at h
  exact h
 ·rintro a2 i2 e is (⟨rfl,rfl,rfl,rfl,rfl⟩ | ⟨ht,rfl,rfl,rfl,rfl⟩)
  ·rw [if_neg (by decide),if_pos rfl] at h
   refine ⟨fun h1=>?_,fun h1=>?_⟩
   ·have:1<a2.length:=by simp at h1; omega
    rw [if_pos this] at h
    exact h
   ·have hle:¬ 1<a2.length:=by simp at h1; omega
    rw [if_neg hle] at h
    refine ⟨fun b=>b=(if a2.length=1 then a2.getD 0 [] else []),⟨fun e1=>⟨by omega,by rw [if_pos (by omega)]⟩,fun e1=>by rw [if_neg (by omega)]⟩,?_⟩
    rintro b rfl
    refine fit _ _ _ (fun x hx'=>by have:=hx x hx'; omega) ?_ (by simp) h
    split
    ·exact ha _ (jf (by omega))
    ·simp
  ·have hn3:¬ tool=3:=by omega
   have hn1:¬ tool=1:=by omega
   rw [if_neg hn3,if_neg hn1,if_pos ht] at h
   refine ⟨fun h1=>?_,fun h1=>?_⟩
   ·have:¬ (listP tool args inputs).2=true:=by simpa using h1
    rw [if_neg this] at h
    exact h
   ·have:(listP tool args inputs).2=true:=by simpa using h1
    rw [if_pos this] at h
    refine ⟨fun b=>b=[],⟨fun e1=>by simp at e1,fun _=>rfl⟩,?_⟩
    rintro b rfl
    exact fit _ _ _ (fun x hx'=>by have:=listP_le hx x hx'; omega) (by simp) (by simp) h
end
 
section
open Go Go.RowKit
theorem textD_M {s:List UInt8} {K:List UInt8->Prop} (hl:s.length=32) (h:K (hexS s)):M_sha_Text s K:=by
 intro t ht he
 have:t=s:=List.ext_getElem (by omega) fun i h1 h2=>by
  have:=he i (by omega)
  simpa [List.getD,h1,h2] using this
 rw [this]; exact h
def smithyT:List UInt8:=[115,109,105,116,104,121]
def partsP (tool:Int) (args inputs:List (List UInt8)):List (List UInt8):=[smithyT,Lib.itoa tool,Lib.itoa (args.length:Int)]++args++inputs.map hexS
theorem mapD_take_succ {α β:Type} (f:α->β) (l:List α) (d:α) (i:Nat) (h:i<l.length):(l.take (i+1)).map f=(l.take i).map f++[f (l.getD i d)]:=by
 rw [List.take_succ_eq_append_getElem h,List.map_append]
 simp [List.getD,h]
theorem parts_loop {inputs pre:List (List UInt8)} {K:List (List UInt8)->Prop} {T:List UInt8->(List UInt8->Prop)->Prop} (hT:∀ s (K:List UInt8->Prop),s.length=32->K (hexS s)->T s K) (hp:pre.length<=1000) (hi:inputs.length<=1000) (hx:∀ x∈inputs,x.length=32) (h:K (pre++inputs.map hexS)) :
  Lp2 (fun (l:List (List UInt8)) (i:Int) k_1=>((i<(inputs.length:Int)->(0<=i/\i<(inputs.length:Nat))/\T (inputs.getD i.toNat []) (fun (t27:List UInt8)=>((l.length+(([t27]:List (List UInt8))).length)*16<=140737488355328)/\(In .i64 (i+(1:Int)))/\k_1 (l++([t27]:List (List UInt8))) (i+(1:Int))))/\(¬ (i<(inputs.length:Int))->K l))) pre (0:Int):=by
 refine ⟨fun l i=>0<=i/\i<=inputs.length/\l=pre++(inputs.take i.toNat).map hexS,fun _ i=>inputs.length - i.toNat,⟨by omega,by omega,by simp⟩,fun l i ⟨a0,a1,a2⟩=>⟨fun hlt=>⟨by omega,?_⟩,fun hge=>?_⟩⟩
 ·have hl:l.length<=2000:=by rw [a2,List.length_append,List.length_map,List.length_take]; omega
  refine hT _ _ (hx _ (jf (by omega))) ⟨by simp only [List.length_singleton]; omega,by simp only [In]; omega,⟨by omega,by omega,?_⟩,by dsimp only; omega⟩
  rw [show (i+1).toNat=i.toNat+1 by omega,mapD_take_succ hexS inputs [] i.toNat (by omega),a2,List.append_assoc]
 ·rw [a2,List.take_of_length_le (by omega)]
  exact h
theorem kparts_M {tool:Int} {args inputs:List (List UInt8)} {K:List (List UInt8)->Prop} (ht:In .i64 tool) (ha:args.length<=100) (hi:inputs.length<=100) (hx:∀ x∈inputs,x.length=32) (h:K (partsP tool args inputs)):M_key_Parts tool args inputs K:=by
 intro _ _
 refine ⟨ht,by simp only [In]; omega,by simp only [List.length_cons,List.length_nil]; omega,parts_loop (fun s K h1 h2=>textD_M h1 h2) (by simp only [List.length_append,List.length_cons,List.length_nil]; omega) (by omega) hx h⟩
theorem itoa_le {n:Int} (h:In .i64 n):(Lib.itoa n).length<=21:=by
 simp only [In] at h
 exact Lib.itoa_length_le n (by omega) (by omega)
theorem partsP_le {tool:Int} {args inputs:List (List UInt8)} (ht:In .i64 tool) (ha:args.length<=100) (hax:∀ x∈args,x.length<=1000) (hx:∀ x∈inputs,x.length=32):∀ x∈partsP tool args inputs,x.length<=1000:=by
 intro x h
 unfold partsP at h
 rcases List.mem_append.1 h with h | h
 ·rcases List.mem_append.1 h with h | h
  ·have h1:=itoa_le ht
   have h2:=itoa_le (n:=(args.length:Int)) (by simp only [In]; omega)
   simp only [List.mem_cons,List.not_mem_nil,or_false] at h
   rcases h with rfl | rfl | rfl
   ·decide
   ·omega
   ·omega
  ·exact hax x h
 ·obtain ⟨y,hy,rfl⟩:=List.mem_map.1 h
  rw [hexS_len,hx y hy]; omega
theorem partsP_len (tool:Int) (args inputs:List (List UInt8)):(partsP tool args inputs).length=3+args.length+inputs.length:=by simp [partsP]; omega
theorem kof_M {tool:Int} {args inputs:List (List UInt8)} {K:List UInt8->Prop} (ht:In .i64 tool) (ha:args.length<=40) (hi:inputs.length<=40) (hax:∀ x∈args,x.length<=1000) (hx:∀ x∈inputs,x.length=32) (h:K (manyS (partsP tool args inputs))):M_key_Of tool args inputs K:=by
 intro _ _
 refine kparts_M ht (by omega) (by omega) hx ⟨by rw [partsP_len]; omega,fun x hx'=>?_,h⟩
 have:=partsP_le ht (by omega) hax hx x hx'
 omega
theorem map_sha (l:List (List UInt8)):∀ x∈l.map shaS,x.length=32:=fun x h=>by
 obtain ⟨y,_,rfl⟩:=List.mem_map.1 h
 exact shaS_len y
end
 
section
open Go Go.RowKit
def okN:Er->Int
 | .ok=>1
 | _=>2
theorem okN_ok {e:Er} (h:e=.ok):okN e=1:=by rw [h]; rfl
theorem okN_ne {e:Er} (h:¬ e=.ok):okN e=2:=by
 cases e with
 | ok=>exact absurd rfl h
 | e n=>rfl
 | at_ p n=>rfl
def FQ1 (a:GAct) (ts:TL):FT:=(okN (doP a.1 a.2.1 ts).2,(doP a.1 a.2.1 ts).1,manyS (partsP a.1 a.2.1 (ts.map shaS)))
theorem subP_le:∀ (n:Nat) (args:TL) (s:List UInt8),args.length<=n->s.length<=65536->(subP args s).1.length<=65536
 | _,[],_,_,hs=>hs
 | _,[_],_,_,hs=>hs
 | 0,_ :: _ :: _,_,h,_=>by simp at h
 | n+1,a :: b :: r,s,h,hs=>by
  rw [subP_cons]
  split
  ·simp
  rename_i ha
  split
  ·simp
  rename_i hp
  refine subP_le n r _ (by simp at h; omega) ?_
  have hlen:=replAll_len s a b ha
  by_cases hd0:(0:Int)<(b.length:Int) - (a.length:Int)
  ·have h4:¬ (65536 - (s.length:Int)) / ((b.length:Int) - (a.length:Int))<(Lib.count s a:Int):=fun h=>hp ⟨hd0,h⟩
   have h5:(Lib.count s a:Int)*((b.length:Int) - (a.length:Int))<=65536 - (s.length:Int):=(Int.le_ediv_iff_mul_le hd0).1 (by omega)
   rw [Int.mul_sub] at h5
   have h6:((Lib.count s a*b.length:Nat):Int)=(Lib.count s a:Int)*(b.length:Int):=Int.natCast_mul _ _
   have h7:((Lib.count s a*a.length:Nat):Int)=(Lib.count s a:Int)*(a.length:Int):=Int.natCast_mul _ _
   omega
  ·have:Lib.count s a*b.length<=Lib.count s a*a.length:=Nat.mul_le_mul_left _ (by omega)
   omega
theorem fitP_le (t:List UInt8):(fitP t).1.length<=65536:=by unfold fitP; split <;> simp_all
theorem doP_le (t:Int) (args inputs:TL):(doP t args inputs).1.length<=65536:=by
 unfold doP
 split
 ·unfold substP
  split
  ·split
   ·simp
   ·exact subP_le _ _ _ (Nat.le_refl _) (by omega)
  ·simp
 ·split
  ·split
   ·simp
   ·exact fitP_le _
  ·split
   ·split
    ·exact fitP_le _
    ·simp
   ·simp
section
variable {tx:TX}
theorem allT_snoc {s t:List UInt8} (h2:mget tx s=some t):∀ {xs ts:TL},allT tx xs=some ts->allT tx (xs++[s])=some (ts++[t])
 | [],ts,h=>by
  cases h
  show allT tx [s]=_
  unfold allT
  rw [h2]; rfl
 | x :: xs,ts,h=>by
  rw [List.cons_append]
  unfold allT at h |-
  cases hx:mget tx x with
  | none=>rw [hx] at h; cases h
  | some u =>
   rw [hx] at h
   cases ha:allT tx xs with
   | none=>rw [ha] at h; cases h
   | some ts'=>rw [ha] at h; cases h; dsimp only; rw [allT_snoc h2 ha]; rfl
theorem allT_none {s:List UInt8} (h2:mget tx s=none):∀ {xs:TL},s∈xs->allT tx xs=none
 | x :: xs,h=>by
  unfold allT
  rcases List.mem_cons.1 h with rfl | h
  ·rw [h2]
  ·rw [allT_none h2 h]; cases mget tx x <;> rfl
theorem allT_mem {P:List UInt8->Prop} (hp:∀ s v,mget tx s=some v->P v):∀ {xs ts:TL},allT tx xs=some ts->ts.length=xs.length/\∀ t∈ts,P t
 | [],ts,h=>by cases h; exact ⟨rfl,fun t ht=>by cases ht⟩
 | x :: xs,ts,h=>by
  unfold allT at h
  cases hx:mget tx x with
  | none=>rw [hx] at h; cases h
  | some u =>
   rw [hx] at h
   cases ha:allT tx xs with
   | none=>rw [ha] at h; cases h
   | some ts' =>
    rw [ha] at h; cases h
    obtain ⟨h1,h3⟩:=allT_mem hp ha
    exact ⟨by simp only [List.length_cons,h1],fun t ht=>by
     rcases List.mem_cons.1 ht with rfl | ht
     ·exact hp _ _ hx
     ·exact h3 t ht⟩
end
section
variable {l:List GAct}
theorem fate1_le (i:Nat) (known:List FT) (tx:TX):(fate1 FQ1 l i known tx).2.1.length<=65536:=by
 unfold fate1
 split
 ·simp [fskip]
 ·split
  ·simp [flack]
  ·exact doP_le _ _ _
theorem fate_M {i:Nat} {known:List FT} {tx:TX} {aft:List (List Int)} {K:Int->List UInt8->List UInt8->Prop} (hs:GSmall l) (hi:i<l.length) (hk:known.length=l.length) (ht:∀ s v,mget tx s=some v->v.length<=100000) (hty:1<=(l.getD i az).1/\(l.getD i az).1<=5) (h:K (fate1 FQ1 l i known tx).1 (fate1 FQ1 l i known tx).2.1 (fate1 FQ1 l i known tx).2.2):M_plan_fate l (mkP l l.length) (befL l l.length) aft (i:Int) known tx K:=by
 intro _ _ _ _
 have hir:inR l (i:Int):=by unfold inR; omega
 refine pbefore_R hs (fun hn=>absurd hir hn) fun _=>?_
 rw [Int.toNat_natCast]
 unfold fate1 at h
 have hbl:(bsP l i).length<=10:=Nat.le_trans (bsP_len l i) (hs.at i).2
 refine ⟨fun k _ _ _=>0<=k/\k<=(bsP l i).length/\∀ j,j<k.toNat->(known.getD ((bsP l i).getD j 0).toNat fz).1=1,fun k _ _ _=>(bsP l i).length - k.toNat,⟨by omega,by omega,fun j hj=>by simp at hj⟩,fun k c1 c2 c3 ⟨a0,a1,a2⟩=>⟨fun hlt=>?_,fun hge=>?_⟩⟩
 ·have hkl:k.toNat<(bsP l i).length:=by omega
  have hb:=bsP_in (qT (d:=0) hkl)
  refine ⟨⟨a0,hlt⟩,⟨hb.1,by omega⟩,fun hne=>?_,fun he=>⟨by simp only [In]; omega,⟨by omega,by omega,fun j hj=>?_⟩,by (try dsimp only); omega⟩⟩
  ·rw [if_pos (List.any_eq_true.2 ⟨_,qT (d:=0) hkl,by have hne':¬ (known.getD ((bsP l i).getD k.toNat 0).toNat fz).1=1:=hne; rw [decide_eq_false hne']; rfl⟩)] at h
   exact h
  ·by_cases e:j=k.toNat
   ·rw [e]; exact he
   ·exact a2 j (by omega)
 ·have hfalse:¬ ((bsP l i).any fun k => !decide ((known.getD k.toNat fz).1=1))=true:=by
   rw [List.any_eq_true]
   rintro ⟨x,hx,hb⟩
   obtain ⟨j,hj,rfl⟩:=List.getElem_of_mem hx
   have:=a2 j (by omega)
   rw [show (bsP l i).getD j 0=(bsP l i)[j] by simp [List.getD,hj]] at this
   rw [decide_eq_true this] at hb
   cases hb
  rw [if_neg hfalse] at h
  refine action_R hs fun a b hab hal=>?_
  obtain rfl:a=l.getD (i:Int).toNat az:=hab.elim (fun h=>h.2.2) fun h=>absurd hir h.2.1
  rw [Int.toNat_natCast] at hal |-
  have hin:=hs.inp _ (qT (d:=az) hi)
  have harg:=hs.arg _ (qT (d:=az) hi)
  generalize l.getD i az=a at *
  refine ⟨fun ins sums k _ _ _=>0<=k/\k<=a.2.2.1.length/\allT tx (a.2.2.1.take k.toNat)=some ins/\sums=ins.map shaS,fun _ _ k _ _ _=>a.2.2.1.length - k.toNat,⟨by omega,by omega,rfl,rfl⟩,fun ins sums k d1 d2 d3 ⟨b0,b1,b2,b3⟩=>⟨fun hlt=>?_,fun hge2=>?_⟩⟩
  ·have hkk:k.toNat<a.2.2.1.length:=by omega
   obtain ⟨n1,n2⟩:=allT_mem ht b2
   rw [List.length_take] at n1
   have hpl:=hin.2 _ (qT (d:=[]) hkk)
   refine ⟨⟨b0,hlt⟩,by unfold maxLen; omega,fun hno=>?_,fun his=>?_⟩
   ·have hn:mget tx (a.2.2.1.getD k.toNat [])=none:=by simpa using hno
    rw [allT_none hn (qT hkk)] at h
    exact h
   ·obtain ⟨v,hv⟩:=Option.isSome_iff_exists.1 (show (mget tx (a.2.2.1.getD k.toNat [])).isSome=true by simpa using his)
    have hvl:=ht _ _ hv
    rw [hv,Option.getD_some]
    refine ⟨by simp only [List.length_singleton]; omega,⟨by unfold maxLen; omega,by omega,?_⟩⟩
    refine ⟨by rw [b3]; simp only [List.length_map,List.length_singleton]; omega,by simp only [In]; omega,⟨by omega,by omega,?_,?_⟩,by (try dsimp only); omega⟩
    ·rw [show (k+1).toNat=k.toNat+1 by omega,jd [] hkk]
     exact allT_snoc hv b2
    ·rw [b3,List.map_append]; rfl
  ·have hkk:k.toNat=a.2.2.1.length:=by omega
   rw [hkk,List.take_length] at b2
   rw [b2] at h
   obtain ⟨n1,n2⟩:=allT_mem ht b2
   rw [b3]
   refine kof_M (by simp only [In]; omega) (by omega) (by rw [List.length_map]; omega) (fun x hx=>by have:=harg.2 x hx; omega) (map_sha ins) ?_
   refine ⟨fun f0 f1=>f0=okN (doP a.1 a.2.1 ins).2/\f1=(doP a.1 a.2.1 ins).1,do_M (fun x hx=>by have:=harg.2 x hx; omega) (by omega) (fun x hx=>n2 x hx) ⟨fun hne=>⟨(okN_ne hne).symm,rfl⟩,fun he=>⟨(okN_ok he).symm,rfl⟩⟩,fun f0 f1 hf=>?_⟩
   rw [hf.1,hf.2]
   dsimp only [FQ1] at h
   exact h
theorem ord_mem (g:GOk l) {j:Nat} (hj:j<l.length):(j:Int)∈ordR (befL l l.length) l.length l.length:=by
 obtain ⟨o1,o2,o3⟩:=ji g.acy l.length (Nat.le_refl _)
 refine Classical.byContradiction fun hx=>?_
 have:=List.Nodup.length_le_of_subset (l₁:=(j:Int) :: ordR (befL l l.length) l.length l.length) (l₂:=(List.range l.length).map fun (k:Nat)=>(k:Int)) (List.nodup_cons.2 ⟨hx,o2⟩) fun x hm=>by
  rcases List.mem_cons.1 hm with rfl | hm
  ·exact List.mem_map.2 ⟨j,List.mem_range.2 hj,rfl⟩
  ·have:=o3 x hm
   exact List.mem_map.2 ⟨x.toNat,List.mem_range.2 (by omega),by omega⟩
 rw [List.length_cons,List.length_map,List.length_range] at this
 omega
theorem mput_leT (m:TX) (k v:List UInt8):(mput m k v).length<=m.length+1:=by rw [mput_len]; split <;> omega
theorem mput_all {m:TX} {k v:List UInt8} {n:Nat} (hm:∀ s w,mget m s=some w->w.length<=n) (hv:v.length<=n):∀ s w,mget (mput m k v) s=some w->w.length<=n:=fun s w h=>by
 rw [jX] at h
 split at h
 ·cases h; exact hv
 ·exact hm s w h
theorem fates_M {files:TX} {K:List FT->Prop} (hs:GSmall l) (g:GOk l) (hty:∀ j,j<l.length->1<=(l.getD j az).1/\(l.getD j az).1<=5) (hf:files.length<=100) (hfp:∀ f∈files,f.1.length<=1000/\f.2.length<=100000) (h:K (kE FQ1 l files)):kj l (mkP l l.length) (befL l l.length) (aftL l l.length) files K:=by
 intro _ _ _ _
 have hl:=hs.len
 refine ⟨fun k tx=>0<=k/\k<=files.length/\tx=text0 l (files.take k.toNat)/\tx.length<=k.toNat/\∀ s v,mget tx s=some v->v.length<=100000,fun k _=>files.length - k.toNat,⟨by omega,by omega,rfl,by simp,fun s v hv=>by cases hv⟩,fun k tx ⟨a0,a1,a2,a3,a4⟩=>⟨fun hlt=>?_,fun hge=>?_⟩⟩
 ·have hkk:k.toNat<files.length:=by omega
  have hfk:=hfp _ (qT (d:=([],[])) hkk)
  have hst:text0 l (files.take (k+1).toNat)=if mkI l (files.getD k.toNat ([],[])).1<0 then mput tx (files.getD k.toNat ([],[])).1 (files.getD k.toNat ([],[])).2 else tx:=by
   rw [show (k+1).toNat=k.toNat+1 by omega,jd ([],[]) hkk,text0_snoc,a2]
  refine ⟨fun m=>m=text0 l (files.take (k+1).toNat)/\m.length<=k.toNat+1/\∀ s v,mget m s=some v->v.length<=100000,⟨⟨a0,hlt⟩,pmaker_R (by omega) ⟨fun hn=>⟨⟨by unfold maxLen; omega,by unfold maxLen; omega⟩,?_,?_,?_⟩,fun hn=>⟨?_,by omega,a4⟩⟩⟩,fun m ⟨m1,m2,m3⟩=>⟨by simp only [In]; omega,⟨by omega,by omega,m1,by omega,m3⟩,by (try dsimp only); omega⟩⟩
  ·rw [hst,if_pos hn]
  ·have:=mput_leT tx (files.getD k.toNat ([],[])).1 (files.getD k.toNat ([],[])).2; omega
  ·exact mput_all a4 hfk.2
  ·rw [hst,if_neg hn]
 ·have hkk:k.toNat=files.length:=by omega
  rw [hkk,List.take_length] at a2
  rw [hkk] at a3
  intro _ _ _
  refine ⟨by omega,order_M (by omega) (fun j=>by have:=bsP_len l j; have:=(hs.at j).2; omega) g.acy ?_⟩
  obtain ⟨o1,o2,o3⟩:=ji g.acy l.length (Nat.le_refl _)
  rw [Int.toNat_natCast]
  refine ⟨fun k2 tx2 out=>0<=k2/\k2<=l.length/\(out,tx2)=runP FQ1 l files k2.toNat/\tx2.length<=100+k2.toNat/\∀ s v,mget tx2 s=some v->v.length<=100000,fun k2 _ _=>l.length - k2.toNat,⟨by omega,by omega,by rw [a2]; rfl,by omega,a4⟩,fun k2 tx2 out ⟨b0,b1,b2,b3,b4⟩ _=>⟨fun hlt=>?_,fun hge2=>?_⟩⟩
  ·have hk2:k2.toNat<l.length:=by omega
   obtain ⟨i,i1,i2,_,_,e1⟩:=runP_succ (F:=FQ1) files g hk2
   have hol:=Zg (F:=FQ1) files g k2.toNat (by omega)
   rw [<-b2] at e1 hol
   dsimp only at hol
   rw [i2]
   have hin:0<=(i:Int)/\(i:Int)<(l.length:Nat):=by omega
   refine ⟨fun m xs=>(xs,m)=step1 FQ1 l (out,tx2) (i:Int)/\m.length<=tx2.length+1/\∀ s v,mget m s=some v->v.length<=100000,⟨⟨b0,hlt⟩,fate_M hs i1 hol b4 (hty i i1) ⟨hin,hin,?_⟩⟩,fun m xs ⟨m1,m2,m3⟩ _=>⟨by simp only [In]; omega,⟨by omega,by omega,?_,by omega,m3⟩,by (try dsimp only); omega⟩⟩
   ·have hle:=fate1_le (l:=l) i out tx2
    unfold step1
    rw [Int.toNat_natCast]
    dsimp only
    generalize fate1 FQ1 l i out tx2=fv at hle |-
    rw [jI (by omega),if_pos rfl]
    refine ⟨fun hc=>action_R hs fun a b hab hal=>?_,fun hc=>⟨by rw [if_neg hc],by omega,b4⟩⟩
    obtain rfl:a=l.getD (i:Int).toNat az:=hab.elim (fun h=>h.2.2) fun h=>absurd hin h.2.1
    rw [Int.toNat_natCast,if_pos hc]
    have ho:=hs.out _ (qT (d:=az) i1)
    exact ⟨hin,⟨by unfold maxLen; omega,by unfold maxLen; omega⟩,rfl,mput_leT _ _ _,mput_all b4 (Nat.le_trans hle (by omega))⟩
   ·rw [m1,show (k2+1).toNat=k2.toNat+1 by omega,e1]
  ·have:k2.toNat=l.length:=by omega
   rw [this] at b2
   unfold kE at h
   rw [<-b2] at h
   exact h
end
end
 
section
open Go Go.RowKit
def lastT (files:TX) (s:List UInt8):Option (List UInt8):=files.foldl (fun o f=>if f.1=s then some f.2 else o) none
section
variable {F:GAct->TL->FT} {l:List GAct}
theorem text0_src (files:TX) {s:List UInt8} (h:mkI l s<0):mget (text0 l files) s=lastT files s:=by
 unfold text0 lastT
 have key:∀ (fs:TX) (m:TX) (o:Option (List UInt8)),mget m s=o->mget (fs.foldl (fun m f=>if mkI l f.1<0 then mput m f.1 f.2 else m) m) s=fs.foldl (fun o f=>if f.1=s then some f.2 else o) o:=by
  intro fs
  induction fs with
  | nil=>intro m o h; exact h
  | cons f fs ih =>
   intro m o hm
   rw [List.foldl_cons,List.foldl_cons]
   refine ih _ _ ?_
   split
   ·rw [jX]
    split
    ·rfl
    ·exact hm
   ·rename_i h1
    rw [if_neg (fun e=>h1 (by rw [e]; exact h))]
    exact hm
 exact key files [] none rfl
theorem mkI_inv {s:List UInt8} {i:Nat} (h:mkI l s=(i:Int)):(l.getD i az).2.2.2=s:=by
 unfold mkI at h
 cases hm:mget (mkP l l.length) s with
 | none=>rw [hm] at h; simp at h
 | some v =>
  obtain ⟨j,_,hv,hs⟩:=mkP_val hm
  rw [hm] at h
  simp only [Option.getD_some] at h
  rw [h] at hv
  obtain rfl:i=j:=by omega
  exact hs
theorem mkI_lt {s:List UInt8} (h:0<=mkI l s):(mkI l s).toNat<l.length:=by
 obtain ⟨v,hv⟩:=Option.isSome_iff_exists.1 (mkI_nonneg.1 h)
 obtain ⟨j,hj,e,_⟩:=mkP_val hv
 unfold mkI
 rw [hv,e]
 simpa using hj
structure TxI (l:List GAct) (files:TX) (st:List FT × TX) (dn:List Int):Prop where
 src:∀ s,mkI l s<0->mget st.2 s=lastT files s
 made:∀ s,0<=mkI l s->mget st.2 s=if mkI l s∈dn/\(st.1.getD (mkI l s).toNat fz).1=1 then some (st.1.getD (mkI l s).toNat fz).2.1 else none
theorem getD_setF {α:Type} {l:List α} {i j:Nat} {x d:α} (hi:i<l.length):(l.set i x).getD j d=if i=j then x else l.getD j d:=by
 by_cases h:i=j
 ·subst h
  rw [List.getD_eq_getElem?_getD,List.getElem?_set_self hi,if_pos rfl]; rfl
 ·rw [List.getD_eq_getElem?_getD,List.getElem?_set_ne h,if_neg h,List.getD_eq_getElem?_getD]
theorem txI_run (files:TX) (g:GOk l):∀ m,m<=l.length->TxI l files (runP F l files m) ((ordR (befL l l.length) l.length l.length).take m)
 | 0,_=>⟨fun s hs=>text0_src files hs,fun s hs=>by
   rw [runP_zero,if_neg (fun h=>by simp at h)]
   exact text0_made files hs⟩
 | m+1,h=>by
  have ih:=txI_run files g m (by omega)
  have hlen:=Zg (F:=F) files g m (by omega)
  obtain ⟨i,hi,hg,hni,_,hrun⟩:=runP_succ (F:=F) files g h
  obtain ⟨o1,_,_⟩:=ji g.acy l.length (Nat.le_refl _)
  have htk:(ordR (befL l l.length) l.length l.length).take (m+1)=(ordR (befL l l.length) l.length l.length).take m++[(i:Int)]:=by
   have hlt:m<(ordR (befL l l.length) l.length l.length).length:=by omega
   rw [List.take_add_one,List.getElem?_eq_getElem hlt]
   have:(ordR (befL l l.length) l.length l.length)[m]=(i:Int):=by rw [<-hg]; simp [List.getD,hlt]
   rw [this]; rfl
  rw [htk,hrun]
  generalize runP F l files m=st at *
  generalize (ordR (befL l l.length) l.length l.length).take m=dn at *
  have hst1:(step1 F l st (i:Int)).1=st.1.set i (fate1 F l i st.1 st.2):=rfl
  have hst2:(step1 F l st (i:Int)).2=if (fate1 F l i st.1 st.2).1=1 then mput st.2 (l.getD i az).2.2.2 (fate1 F l i st.1 st.2).2.1 else st.2:=rfl
  generalize fate1 F l i st.1 st.2=f at *
  have hgi:∀ s,0<=mkI l s->((l.getD i az).2.2.2=s↔(mkI l s).toNat=i):=fun s hs=>by
   constructor
   ·intro e; rw [<-e,mkI_out g hi]; rfl
   ·intro e; exact mkI_inv (by omega)
  refine ⟨fun s hs=>?_,fun s hs=>?_⟩
  ·rw [hst2]
   split
   ·rw [jX,if_neg (fun e=>by rw [<-e,mkI_out g hi] at hs; omega)]
    exact ih.src s hs
   ·exact ih.src s hs
  ·rw [hst1,hst2,getD_setF (by omega)]
   by_cases e:(mkI l s).toNat=i
   ·have e1:mkI l s∈dn++[(i:Int)]:=List.mem_append_right _ (by rw [List.mem_singleton]; omega)
    rw [if_pos e.symm]
    by_cases hf:f.1=1
    ·rw [if_pos hf,jX,if_pos ((hgi s hs).2 e),if_pos ⟨e1,hf⟩]
    ·rw [if_neg hf,if_neg (fun h=>hf h.2),ih.made s hs,if_neg]
     rintro ⟨h1,_⟩
     exact hni (by rw [show (i:Int)=mkI l s by omega]; exact h1)
   ·rw [if_neg (Ne.symm e)]
    have e1:mkI l s∈dn++[(i:Int)]↔mkI l s∈dn:=by
     rw [List.mem_append,List.mem_singleton]
     exact ⟨fun h=>h.resolve_right (by omega),.inl⟩
    have e2:mget (if f.1=1 then mput st.2 (l.getD i az).2.2.2 f.2.1 else st.2) s=mget st.2 s:=by
     split
     ·rw [jX,if_neg (fun h=>e ((hgi s hs).1 h))]
     ·rfl
    rw [e2,ih.made s hs]
    simp only [e1]
end
section
variable (l:List GAct) (files:TX) (known:List FT)
def inTx (s:List UInt8):List UInt8:=if 0<=mkI l s then (known.getD (mkI l s).toNat fz).2.1 else (lastT files s).getD []
def thereB (s:List UInt8):Bool:=decide (0<=mkI l s) || (lastT files s).isSome
def stS (st:Int) (s:List UInt8):Int :=
 let st1:=if 0<=mkI l s/\(known.getD (mkI l s).toNat fz).1≠1 then 3 else st
 if thereB l files s=false/\st1=1 then 2 else st1
def stB (st:Int) (b:Int):Int:=if (known.getD b.toNat fz).1≠1 then 3 else st
end
section
variable {l:List GAct} {files:TX} {known:List FT}
theorem stB_fold:∀ (bs:List Int) (st:Int),bs.foldl (stB known) st=if (bs.any fun k => !decide ((known.getD k.toNat fz).1=1))=true then 3 else st
 | [],st=>rfl
 | b :: bs,st=>by
  rw [List.foldl_cons,stB_fold bs,List.any_cons]
  by_cases h:(known.getD b.toNat fz).1=1
  ·have e:stB known st b=st:=if_neg (fun q=>q h)
   rw [e,decide_eq_true h]
   simp only [Bool.not_true,Bool.false_or]
  ·have e:stB known st b=3:=if_pos h
   rw [e,decide_eq_false h]
   simp only [Bool.not_false,Bool.true_or,if_true]
   split <;> rfl
theorem stS_fold {tx:TX} (h1:∀ s,mkI l s<0->mget tx s=lastT files s):∀ (xs:TL) (st:Int),(∀ s∈xs,0<=mkI l s->(known.getD (mkI l s).toNat fz).1=1/\mget tx s=some (known.getD (mkI l s).toNat fz).2.1)->(st=1∨st=2) ->
  (allT tx xs=none->xs.foldl (stS l files known) st=2)/\(∀ ts,allT tx xs=some ts->xs.foldl (stS l files known) st=st/\ts=xs.map (inTx l files known))
 | [],st,_,hst=>⟨fun e=>(by cases e),fun ts e=>(by cases e; exact ⟨rfl,rfl⟩)⟩
 | s :: xs,st,h2,hst=>by
  have h2':=fun t ht=>h2 t (List.mem_cons_of_mem _ ht)
  have hs:=h2 s List.mem_cons_self
  rw [List.foldl_cons]
  have e1:stS l files known st s=if thereB l files s=false/\st=1 then 2 else st:=by
   have e0:(if 0<=mkI l s/\(known.getD (mkI l s).toNat fz).1≠1 then (3:Int) else st)=st:=if_neg (fun h=>h.2 (hs h.1).1)
   unfold stS
   simp only [e0]
  rw [e1]
  unfold allT
  by_cases hm:0<=mkI l s
  ·have ht:thereB l files s=true:=by unfold thereB; rw [decide_eq_true hm]; rfl
   rw [if_neg (fun h=>by rw [ht] at h; cases h.1),(hs hm).2]
   obtain ⟨a,b⟩:=stS_fold h1 xs st h2' hst
   refine ⟨fun e=>a ?_,fun ts e=>?_⟩
   ·cases hx:allT tx xs with
    | none=>rfl
    | some u=>rw [hx] at e; cases e
   ·cases hx:allT tx xs with
    | none=>rw [hx] at e; cases e
    | some u =>
     rw [hx] at e; cases e
     obtain ⟨c,d⟩:=b u hx
     refine ⟨c,?_⟩
     rw [List.map_cons,<-d]
     unfold inTx
     rw [if_pos hm]
  ·have hsrc:=h1 s (by omega)
   rw [hsrc]
   cases hl:lastT files s with
   | none =>
    have ht:thereB l files s=false:=by unfold thereB; rw [decide_eq_false hm,hl]; rfl
    refine ⟨fun _=>?_,fun ts e=>(by cases e)⟩
    have e2:(if thereB l files s=false/\st=1 then (2:Int) else st)=2:=by
     split
     ·rfl
     ·rename_i h; rcases hst with e | e
      ·exact absurd ⟨ht,e⟩ h
      ·exact e
    rw [e2]
    obtain ⟨a,b⟩:=stS_fold h1 xs 2 h2' (.inr rfl)
    cases hx:allT tx xs with
    | none=>exact a hx
    | some u=>exact (b u hx).1
   | some t =>
    have ht:thereB l files s=true:=by unfold thereB; rw [hl]; simp
    rw [if_neg (fun h=>by rw [ht] at h; cases h.1)]
    obtain ⟨a,b⟩:=stS_fold h1 xs st h2' hst
    refine ⟨fun e=>a ?_,fun ts e=>?_⟩
    ·cases hx:allT tx xs with
     | none=>rfl
     | some u=>rw [hx] at e; cases e
    ·cases hx:allT tx xs with
     | none=>rw [hx] at e; cases e
     | some u =>
      rw [hx] at e; cases e
      obtain ⟨c,d⟩:=b u hx
      refine ⟨c,?_⟩
      rw [List.map_cons,<-d]
      unfold inTx
      rw [if_neg hm,hl]; rfl
theorem subP_bad:∀ (n:Nat) (args:TL) (s:List UInt8),args.length<=n->(subP args s).2≠.ok->(subP args s).1=[]
 | _,[],_,_,h=>absurd rfl h
 | _,[_],_,_,h=>absurd rfl h
 | 0,_ :: _ :: _,_,hn,_=>by simp at hn
 | n+1,a :: b :: r,s,hn,h=>by
  rw [subP_cons] at h |-
  split
  ·rfl
  ·rename_i h1
   rw [if_neg h1] at h
   split
   ·rfl
   ·rename_i h2
    rw [if_neg h2] at h
    exact subP_bad n r _ (by simp at hn; omega) h
theorem doP_bad {t:Int} {args inputs:TL} (h:(doP t args inputs).2≠.ok):(doP t args inputs).1=[]:=by
 have hf:∀ x,(fitP x).2≠.ok->(fitP x).1=[]:=fun x h=>by
  unfold fitP at h |-
  split
  ·rename_i h1; rw [if_pos h1] at h; exact absurd rfl h
  ·rfl
 unfold doP at h |-
 split
 ·rename_i h1
  rw [if_pos h1] at h
  unfold substP at h |-
  split
  ·rename_i h2
   rw [if_pos h2] at h
   split
   ·rfl
   ·rename_i h3
    rw [if_neg h3] at h
    exact subP_bad _ _ _ (Nat.le_refl _) h
  ·rfl
 ·rename_i h1
  rw [if_neg h1] at h
  split
  ·rename_i h2
   rw [if_pos h2] at h
   split
   ·rfl
   ·rename_i h3
    rw [if_neg h3] at h
    exact hf _ h
  ·rename_i h2
   rw [if_neg h2] at h
   split
   ·rename_i h3
    rw [if_pos h3] at h
    split
    ·rename_i h4
     rw [if_pos h4] at h
     exact hf _ h
    ·rfl
   ·rfl
end
end
 end Go.Proofs.YtjobklaengaamaaGreatDoor
