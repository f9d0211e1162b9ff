/- Texts of this claim, joined by a program: GCp, CpH. -/
import Derived.Test.YtafpeckmdjplnaaGreatDoorJ5
namespace Go.Proofs.YtafpeckmdjplnaaGreatDoor

section
open Go Go.RowKit
attribute [local irreducible] WL WC WX WQ WK WJ Yld Eff Ef0 Fn
def kn (_:List UInt8) (c_l:List (List UInt8 × List UInt8)) (K:(List (List UInt8 × List UInt8))->Prop):Prop :=
 Lp2 (fun (l:List (List UInt8 × List UInt8)) (left:List (List UInt8 × List UInt8)) kont1=>((left=[]->jp l (fun (ys:List (List UInt8 × List UInt8)) =>
 K ys)) /\
 (∀ (ix:Nat) (key:List UInt8 × List UInt8),left[ix]? = some key->((l.length+(([(key.1,key.2)]:List (List UInt8 × List UInt8))).length)*64<=140737488355328) /\
 kont1 (l++([(key.1,key.2)]:List (List UInt8 × List UInt8))) (left.eraseIdx ix)))) [] c_l
def j9 (text:List UInt8) (l:List (Int × Int × Int × List UInt8)) (K:Bool->Prop):Prop :=
 (l.length<=maxLen ->
 kP (fun (ok:Bool) =>
 (((!ok)=true->K false) /\
 ((!ok)=false->(((((decide ((2000:Int)<(text.length:Int))) || (decide ((60:Int)<(l.length:Int)))) || (!ok))=true->K ok) /\
 ((((decide ((2000:Int)<(text.length:Int))) || (decide ((60:Int)<(l.length:Int)))) || (!ok))=false->M_disk_New ([(([106]:List UInt8),text)]:List (List UInt8 × List UInt8)) (fun (_:Er) =>
 kR ([(([106]:List UInt8),text)]:List (List UInt8 × List UInt8)) (fun (_:Int) =>
 K false) (fun (_:List UInt8) (_:Bool) (_:List UInt8) (_:Bool) (_:List UInt8) (_:List (Bool × List UInt8 × Int)) (_:Int) (_:Int) (_:Bool) (_:Int) =>
 K false)) (fun (f6:List (List UInt8 × List UInt8 × Bool × List UInt8 × Bool × List (Int × List UInt8))) (o7:Int) (h7:Int) (h6:Bool) (t4512:Er) =>
 kR ([(([106]:List UInt8),text)]:List (List UInt8 × List UInt8)) (fun (t5213:Int) =>
 ((((!decide (t4512=Er.ok)) || (!decide (t5213=(0:Int))))=true->K false) /\
 (((!decide (t4512=Er.ok)) || (!decide (t5213=(0:Int))))=false->km f6 o7 h7 h6 ([106]:List UInt8) (fun (_:Er) (_:List (List UInt8 × List UInt8 × Bool × List UInt8 × Bool × List (Int × List UInt8))) (_:Int) (_:Int) (_:Bool) =>
 False) (fun (_:List UInt8) (_:List (List UInt8 × List UInt8)) (_:Er) (_:List (List UInt8 × List UInt8 × Bool × List UInt8 × Bool × List (Int × List UInt8))) (_:Int) (_:Int) (_:Bool) =>
 False)))) (fun (e3:List UInt8) (d9:Bool) (e4:List UInt8) (d8:Bool) (d4:List UInt8) (d6:List (Bool × List UInt8 × Int)) (o4:Int) (e6:Int) (f7:Bool) (t5214:Int) =>
 ((((!decide (t4512=Er.ok)) || (!decide (t5214=(0:Int))))=true->K false) /\
 (((!decide (t4512=Er.ok)) || (!decide (t5214=(0:Int))))=false->km f6 o7 h7 h6 ([106]:List UInt8) (fun (_:Er) (_:List (List UInt8 × List UInt8 × Bool × List UInt8 × Bool × List (Int × List UInt8))) (_:Int) (_:Int) (_:Bool) =>
 jo e3 d9 e4 d8 d4 d6 o4 e6 f7 ([106]:List UInt8) (fun (_:Int) (_:Int) (_:Int) (_:Bool) (_:List UInt8) (_:Bool) (_:List UInt8) (_:Bool) (_:List UInt8) (_:List (Bool × List UInt8 × Int)) =>
 K false) (fun (_:List UInt8) (_:List (List UInt8 × List UInt8)) (_:Int) (_:Int) (_:Int) (_:Bool) (_:List UInt8) (_:Bool) (_:List UInt8) (_:Bool) (_:List UInt8) (_:List (Bool × List UInt8 × Int)) =>
 K false)) (fun (y7:List UInt8) (y6:List (List UInt8 × List UInt8)) (t6714:Er) (p3:List (List UInt8 × List UInt8 × Bool × List UInt8 × Bool × List (Int × List UInt8))) (p4:Int) (p5:Int) (p6:Bool) =>
 jo e3 d9 e4 d8 d4 d6 o4 e6 f7 ([106]:List UInt8) (fun (t7213:Int) (_:Int) (_:Int) (_:Bool) (_:List UInt8) (_:Bool) (_:List UInt8) (_:Bool) (_:List UInt8) (_:List (Bool × List UInt8 × Int)) =>
 ((((!decide (t6714=Er.ok)) || (!decide (t7213=(0:Int))))=true->K false) /\
 (((!decide (t6714=Er.ok)) || (!decide (t7213=(0:Int))))=false->False))) (fun (f8:List UInt8) (o5:List (List UInt8 × List UInt8)) (t7214:Int) (s7:Int) (s8:Int) (s9:Bool) (h8:List UInt8) (h9:Bool) (i0:List UInt8) (i1:Bool) (i2:List UInt8) (e7:List (Bool × List UInt8 × Int)) =>
 ((((!decide (t6714=Er.ok)) || (!decide (t7214=(0:Int))))=true->K false) /\
 (((!decide (t6714=Er.ok)) || (!decide (t7214=(0:Int))))=false->Lp18 (fun (c1:List UInt8) (c2:List (List UInt8 × List UInt8)) (y1:List UInt8) (y2:List (List UInt8 × List UInt8)) (i:Int) (t4500:List (List UInt8 × List UInt8 × Bool × List UInt8 × Bool × List (Int × List UInt8))) (t4501:Int) (t4502:Int) (t4503:Bool) (t5201:Int) (t5202:Int) (t5203:Bool) (b0:List UInt8) (c0:Bool) (c3:List UInt8) (c4:Bool) (c5:List UInt8) (a8:List (Bool × List UInt8 × Int)) kont1=>((i<(l.length:Int)->(0<=i/\i<(l.length:Nat)) /\
 (((300:Int)<(((l.getD i.toNat (0,0,0,[])).2.2.2).length:Int)->K true) /\
 (¬ ((300:Int)<(((l.getD i.toNat (0,0,0,[])).2.2.2).length:Int))->∃ J1:(List UInt8)->(List (List UInt8 × List UInt8))->(List UInt8)->(List (List UInt8 × List UInt8))->(List (List UInt8 × List UInt8 × Bool × List UInt8 × Bool × List (Int × List UInt8)))->Int->Int->Bool->(List UInt8)->Bool->(List UInt8)->Bool->(List UInt8)->(List (Bool × List UInt8 × Int))->Int->Int->Bool->Prop,(((((l.getD i.toNat (0,0,0,[])).1)=(1:Int)->jA ((l.getD i.toNat (0,0,0,[])).2.1) (fun (t117:List UInt8) =>
 jT t117 (fun (t118:List UInt8) =>
 jA ((l.getD i.toNat (0,0,0,[])).2.2.1) (fun (t121:List UInt8) =>
 jT t121 (fun (t122:List UInt8) =>
 jQ t4500 t4501 t4502 t4503 c1 c2 t118 t122 (fun (g:Er) (t670_:List UInt8) (a0u:List (List UInt8 × List UInt8)) (p7:List (List UInt8 × List UInt8 × Bool × List UInt8 × Bool × List (Int × List UInt8))) (p8:Int) (p9:Int) (r0:Bool) =>
 jA ((l.getD i.toNat (0,0,0,[])).2.1) (fun (t128:List UInt8) =>
 j3 t128 (fun (t129:List UInt8) =>
 jA ((l.getD i.toNat (0,0,0,[])).2.2.1) (fun (t132:List UInt8) =>
 j3 t132 (fun (t133:List UInt8) =>
 jO b0 c0 c3 c4 c5 a8 t5201 t5202 t5203 y1 y2 t129 t133 (fun (t134:Int) (t720_:List UInt8) (y8:List (List UInt8 × List UInt8)) (t0:Int) (t1:Int) (t2:Bool) (i3:List UInt8) (i4:Bool) (i5:List UInt8) (i6:Bool) (i7:List UInt8) (e8:List (Bool × List UInt8 × Int)) =>
 jJ g t134 (fun (t135:Bool) =>
 (((!t135)=true->K false) /\
 ((!t135)=false->J1 t670_ a0u t720_ y8 p7 p8 p9 r0 i3 i4 i5 i6 i7 e8 t0 t1 t2)))))))))))))) /\
 (¬ (((l.getD i.toNat (0,0,0,[])).1)=(1:Int))->((((l.getD i.toNat (0,0,0,[])).1)=(2:Int)->Zw t4500 t4501 t4502 t4503 c1 c2 (fun (t140:Er) (a0v:List UInt8) (a0w:List (List UInt8 × List UInt8)) (r1:List (List UInt8 × List UInt8 × Bool × List UInt8 × Bool × List (Int × List UInt8))) (r2:Int) (r3:Int) (r4:Bool) =>
 jx b0 c0 c3 c4 c5 a8 t5201 t5202 t5203 ([106]:List UInt8) (fun (t142:Int) (t3:Int) (t4:Int) (t5:Bool) (i8:List UInt8) (i9:Bool) (l0:List UInt8) (l1:Bool) (l2:List UInt8) (e9:List (Bool × List UInt8 × Int)) =>
 jJ t140 t142 (fun (t143:Bool) =>
 (((!t143)=true->K false) /\
 ((!t143)=false->J1 a0v a0w y1 y2 r1 r2 r3 r4 i8 i9 l0 l1 l2 e9 t3 t4 t5)))))) /\
 (¬ (((l.getD i.toNat (0,0,0,[])).1)=(2:Int))->((((l.getD i.toNat (0,0,0,[])).1)=(3:Int)->jA ((l.getD i.toNat (0,0,0,[])).2.1) (fun (t151:List UInt8) =>
 jT t151 (fun (t152:List UInt8) =>
 ZB t4500 t4501 t4502 t4503 c1 c2 t152 (fun (t1530:List UInt8) (t1531:Bool) =>
 jA ((l.getD i.toNat (0,0,0,[])).2.1) (fun (t160:List UInt8) =>
 j3 t160 (fun (t161:List UInt8) =>
 jD y1 y2 t161 (fun (t1620:List UInt8) (t1621:Bool) =>
 ∃ J6:Bool->Prop,((((!(t1531 == t1621))=true->J6 true) /\
 ((!(t1531 == t1621))=false->jl t1530 t1620 (fun (t171:Bool) =>
 J6 (!t171))))) /\
 (∀ q23:Bool,J6 q23->((q23=true->K false) /\
 (q23=false->J1 c1 c2 y1 y2 t4500 t4501 t4502 t4503 b0 c0 c3 c4 c5 a8 t5201 t5202 t5203)))))))))) /\
 (¬ (((l.getD i.toNat (0,0,0,[])).1)=(3:Int))->((((l.getD i.toNat (0,0,0,[])).1)=(4:Int)->jz ((l.getD i.toNat (0,0,0,[])).2.1) (9:Int) (fun (t179:Int) =>
 Zr t4500 t4501 t4502 t4503 t179 (fun (r5:List (List UInt8 × List UInt8 × Bool × List UInt8 × Bool × List (Int × List UInt8))) (r6:Int) (r7:Int) (r8:Bool) =>
 jz ((l.getD i.toNat (0,0,0,[])).2.1) (9:Int) (fun (t184:Int) =>
 ko b0 c0 c3 c4 c5 a8 t5201 t5202 t5203 t184 (fun (t6:Int) (t7:Int) (t8:Bool) (l3:List UInt8) (l4:Bool) (l5:List UInt8) (l6:Bool) (l7:List UInt8) (f0:List (Bool × List UInt8 × Int)) =>
 J1 c1 c2 y1 y2 r5 r6 r7 r8 l3 l4 l5 l6 l7 f0 t6 t7 t8))))) /\
 (¬ (((l.getD i.toNat (0,0,0,[])).1)=(4:Int))->((((l.getD i.toNat (0,0,0,[])).1)=(5:Int)->kH t4500 t4501 t4502 t4503 ((l.getD i.toNat (0,0,0,[])).2.1) ((l.getD i.toNat (0,0,0,[])).2.2.1) (fun (a0z:List (List UInt8 × List UInt8 × Bool × List UInt8 × Bool × List (Int × List UInt8))) (a1a:Int) (a1b:Int) (a1c:Bool) =>
 jR b0 c0 c3 c4 c5 a8 t5201 t5202 t5203 ((l.getD i.toNat (0,0,0,[])).2.1) ((l.getD i.toNat (0,0,0,[])).2.2.1) (fun (t9:Int) (u0:Int) (u1:Bool) (l8:List UInt8) (l9:Bool) (m0:List UInt8) (m1:Bool) (m2:List UInt8) (m3:List (Bool × List UInt8 × Int)) =>
 km a0z a1a a1b a1c ([106]:List UInt8) (fun (t2021:Er) (g9:List (List UInt8 × List UInt8 × Bool × List UInt8 × Bool × List (Int × List UInt8))) (h0:Int) (h3:Int) (h4:Bool) =>
 jo l8 l9 m0 m1 m2 m3 t9 u0 u1 ([106]:List UInt8) (fun (t2071:Int) (u2:Int) (u3:Int) (u4:Bool) (m4:List UInt8) (m5:Bool) (m6:List UInt8) (m7:Bool) (m8:List UInt8) (f1:List (Bool × List UInt8 × Int)) =>
 jJ t2021 t2071 (fun (t212:Bool) =>
 ((((!t212) || (!(false == (decide (t2071=(0:Int))))))=true->K false) /\
 (((!t212) || (!(false == (decide (t2071=(0:Int))))))=false->J1 c1 c2 y1 y2 g9 h0 h3 h4 m4 m5 m6 m7 m8 f1 u2 u3 u4)))) (fun (_:List UInt8) (_:List (List UInt8 × List UInt8)) (t20712:Int) (u5:Int) (u6:Int) (u7:Bool) (m9:List UInt8) (n0:Bool) (n1:List UInt8) (n2:Bool) (n3:List UInt8) (f2:List (Bool × List UInt8 × Int)) =>
 jJ t2021 t20712 (fun (t2122:Bool) =>
 ((((!t2122) || (!(false == (decide (t20712=(0:Int))))))=true->K false) /\
 (((!t2122) || (!(false == (decide (t20712=(0:Int))))))=false->J1 c1 c2 y1 y2 g9 h0 h3 h4 m9 n0 n1 n2 n3 f2 u5 u6 u7))))) (fun (p2:List UInt8) (p1:List (List UInt8 × List UInt8)) (t20212:Er) (r9:List (List UInt8 × List UInt8 × Bool × List UInt8 × Bool × List (Int × List UInt8))) (s0:Int) (s1:Int) (s2:Bool) =>
 jo l8 l9 m0 m1 m2 m3 t9 u0 u1 ([106]:List UInt8) (fun (t20713:Int) (_:Int) (_:Int) (_:Bool) (_:List UInt8) (_:Bool) (_:List UInt8) (_:Bool) (_:List UInt8) (_:List (Bool × List UInt8 × Int)) =>
 jJ t20212 t20713 (fun (t2123:Bool) =>
 ((((!t2123) || (!(true == (decide (t20713=(0:Int))))))=true->K false) /\
 (((!t2123) || (!(true == (decide (t20713=(0:Int))))))=false->False)))) (fun (e5:List UInt8) (g8:List (List UInt8 × List UInt8)) (t20714:Int) (u8:Int) (u9:Int) (y0:Bool) (n4:List UInt8) (n5:Bool) (n6:List UInt8) (n7:Bool) (n8:List UInt8) (f3:List (Bool × List UInt8 × Int)) =>
 jJ t20212 t20714 (fun (t2124:Bool) =>
 ((((!t2124) || (!(true == (decide (t20714=(0:Int))))))=true->K false) /\
 (((!t2124) || (!(true == (decide (t20714=(0:Int))))))=false->J1 p2 p1 e5 g8 r9 s0 s1 s2 n4 n5 n6 n7 n8 f3 u8 u9 y0)))))))) /\
 (¬ (((l.getD i.toNat (0,0,0,[])).1)=(5:Int))->kN t4500 t4501 t4502 t4503 ([106]:List UInt8) ((l.getD i.toNat (0,0,0,[])).2.2.2) (fun (g_2:Er) (s3:List (List UInt8 × List UInt8 × Bool × List UInt8 × Bool × List (Int × List UInt8))) (s4:Int) (s5:Int) (s6:Bool) =>
 jt b0 c0 c3 c4 c5 a8 t5201 t5202 t5203 ([106]:List UInt8) ((l.getD i.toNat (0,0,0,[])).2.2.2) true (fun (t109:Int) (y3:Int) (y4:Int) (y5:Bool) (n9:List UInt8) (o0:Bool) (o1:List UInt8) (o2:Bool) (o3:List UInt8) (f4:List (Bool × List UInt8 × Int)) =>
 jJ g_2 t109 (fun (t110:Bool) =>
 (((!t110)=true->K false) /\
 ((!t110)=false->J1 c1 c2 y1 y2 s3 s4 s5 s6 n9 o0 o1 o2 o3 f4 y3 y4 y5)))))))))))))))) /\
 (∀ c12:List UInt8,∀ c22:List (List UInt8 × List UInt8),∀ y12:List UInt8,∀ y22:List (List UInt8 × List UInt8),∀ t45002:List (List UInt8 × List UInt8 × Bool × List UInt8 × Bool × List (Int × List UInt8)),∀ t45012:Int,∀ t45022:Int,∀ t45032:Bool,∀ c8:List UInt8,∀ c9:Bool,∀ d0:List UInt8,∀ d1:Bool,∀ d2:List UInt8,∀ a7:List (Bool × List UInt8 × Int),∀ t52012:Int,∀ t52022:Int,∀ t52032:Bool,J1 c12 c22 y12 y22 t45002 t45012 t45022 t45032 c8 c9 d0 d1 d2 a7 t52012 t52022 t52032->kY t45002 t45012 t45022 t45032 c12 c22 (fun (t226:Int) =>
 ∃ J2:Bool->Prop,((((!decide (t226=(y22.length:Int)))=true->J2 true) /\
 ((!decide (t226=(y22.length:Int)))=false->kn c12 c22 (fun (t235:List (List UInt8 × List UInt8)) =>
 jP y12 y22 (fun (t237:List (List UInt8 × List UInt8)) =>
 Zb t235 t237 (fun (t238:Bool) =>
 J2 (!t238))))))) /\
 (∀ q19:Bool,J2 q19->∃ J3:Bool->Prop,(((q19=true->J3 true) /\
 (q19=false->M_pdisk_Disk_Down t45002 t45012 t45022 t45032 (fun (t243:Bool) =>
 J3 (!(t243 == t52032)))))) /\
 (∀ q20:Bool,J3 q20->∃ J4:Bool->Prop,(((q20=true->J4 true) /\
 (q20=false->M_pdisk_Disk_Ops t45002 t45012 t45022 t45032 (fun (t252:Int) =>
 J4 (!decide (t252=t52012)))))) /\
 (∀ q21:Bool,J4 q21->∃ J5:Bool->Prop,(((q21=true->J5 true) /\
 (q21=false->kG t45002 t45012 t45022 t45032 (fun (t261:List (List UInt8 × List UInt8)) =>
 ke c8 c9 d0 d1 d2 a7 t52012 t52022 t52032 (fun (t263:List (List UInt8 × List UInt8)) =>
 kC t261 t263 (fun (t264:Bool) =>
 J5 (!t264))))))) /\
 (∀ q22:Bool,J5 q22->((q22=true->K false) /\
 (q22=false->(In .i64 (i+(1:Int))) /\
 kont1 c12 c22 y12 y22 (i+(1:Int)) t45002 t45012 t45022 t45032 t52012 t52022 t52032 c8 c9 d0 d1 d2 a7))))))))))) /\
 (¬ (i<(l.length:Int))->K true))) y7 y6 f8 o5 (0:Int) p3 p4 p5 p6 s7 s8 s9 h8 h9 i0 i1 i2 e7))))))))))))))
set_option maxHeartbeats 8000000 in
theorem W_pcache_Cache_Entries {w:World} {g_c:Nat} {v_c_d:Value} {c_p:List UInt8} {a1o:Nat} {c_l:List (List UInt8 × List UInt8)} {K:(List (List UInt8 × List UInt8))->Prop} (one_c_d:v_c_d.oneCell'=true) (hc_l:MapB vA okA vA w a1o c_l) (hc:Bl w g_c 95 [v_c_d,vs c_p,.map (some a1o)]) (H:kn c_p c_l K):Fn Tryz.prog 29 ⟨[.pointer (some ⟨g_c,0,none⟩)]⟩ w (fun v w'=>w.grownBy w' none/\∃ (r:List (List UInt8 × List UInt8)),∃ (A_r:Option Addr),∃ (c_r:Nat),v=.slice A_r r.length c_r/\OwnK 64 enc97 w' w.heap.size 97 A_r c_r r/\K r):=by
 unfold kn at H
 refine Fn.enter (by kernel_rfl) Tryz.func29 rfl Tryz.ntmps29 rfl ?_
 refine zd (zb (yp (h:=(zf (za (zd (zb (yp (h:=(zf (za (zd (zd (zb (yp (h:=(yp (h:=(yp (h:=(zg rfl (zk qY hc rfl rfl rfl) (qQ je rfl (Eff.range hc_l Tryz.underlying93 rfl) ?_))))))))))))))))))))))
 rintro _ w1 ⟨rfl,k1,hg1⟩
 refine zf (za (WC.block ?_))
 obtain ⟨I1,mu1,a1r,HR1⟩:=H
 refine zW (fun n' L' w'=>∃ (l:List (List UInt8 × List UInt8)),∃ (A_l:Option Addr),∃ (a1x:Nat),∃ (n_l:Nat),∃ (left:List (List UInt8 × List UInt8)),n'=mu1 l left/\L'=[(3,.slice A_l n_l a1x),(10,.pointer (some ⟨w.heap.size,0,none⟩))]/\I1 l left/\n_l=l.length/\w.grownBy w' none/\RngB vA vA w' a1o w.heap.size c_l left/\OwnK 64 enc97 w' w.heap.size 97 A_l a1x l/\Dj (some w.heap.size) (blk A_l)) _ _ ⟨[],none,0,0,c_l,rfl,rfl,a1r,rfl,hg1,k1,(OwnK.nil enc97_ok w1 w.heap.size 97),Dj.nr⟩ sb ?_
 clear a1r
 rintro _ _ w2 ⟨l,A_l,a1x,n_l,left,rfl,rfl,hI1,rfl,gr2,k2,k3,dj1⟩
 have H:=HR1 l left hI1
 refine zd (zb (qQ je rfl (Eff.next k2 rfl) ?_))
 rintro _ w3 (⟨hks1,rfl,k4,hg2⟩ | ⟨ix,key,hq1,rfl,k4,hg2,hE1⟩)
 ·replace H:=H.1 hks1
  have k5:=k3.grown hg2
  refine yp (h:=(zf (za (zd (zp rfl (fun h=>by cases h) (fun _=>zD (zj (zj (zm (za (zd (zb (yp (h:=(WL.call rfl rfl (jS k5 rfl H) ?_)))))))))))))))
  rintro _ w4 ⟨ys,rfl,hO1,hg3,hl2,H⟩
  exact zf (za (zd (zb (yp (h:=(yp (h:=(zf (za (zq (zw rfl rfl ⟨(jk (ja gr2 hg2) hg3 k5.ge'),ys,A_l,a1x,(by rw [((rfl:l.length=l.length).trans hl2.symm)]),hO1,H⟩)))))))))))
 ·replace H:=H.2 ix key hq1
  have gr5:=jk gr2 hg2 (Ge.le (Ge.box (Nat.le_refl _)) (Nat.le_refl _))
  have k6:=k3.go hg2 dj1.symm
  refine yp (h:=(zf (za (zd (zp rfl (fun _=>zo (za (WC.block (zd (zb (zg rfl (Yld.entry hE1 rfl) (yp (h:=(yp (h:=(WL.alloc rfl zero45 (fun g1 w5 hB1 hg4 hl3=>?_)))))))))))) (fun h=>by cases h))))))
  rw [kc] at hB1
  have gr6:=ja gr5 hg4
  have k7:=k4.g0 hg4
  have k8:=k6.grown hg4
  refine WL.alloc rfl zero45 (fun g2 w6 hB2 hg5 hl4=>?_)
  rw [kc] at hB2
  refine zP (vs:=(a32 key.1)) qY rfl rfl rfl (jq _) (hB1.g0 hg5) rfl rfl (fun w7 hB3 hg6=>zP (vs:=(a32 key.2)) qY rfl rfl rfl (jq _) (hB2.go hg6 ((Dj.new hB1.lt' (Ge.box hl4)).symm)) rfl rfl (fun w8 hB4 hg7=>?_))
  have gr9:=jk (jk (ja gr6 hg5) hg6 (Ge.le (Ge.box hl3) (qZ gr5))) hg7 (Ge.le (Ge.box hl4) (qZ gr6))
  refine zf (za (zb (yp (h:=(zg rfl (zQ (vs:=(a32 key.1)) qY (hB3.go hg7 (Dj.new hB1.lt' (Ge.box hl4))) rfl rfl rfl rfl) (zg rfl (zQ (vs:=(a32 key.2)) qY hB4 rfl rfl rfl rfl) (zg rfl (z6 (us:=(a32 key.1++a32 key.2)) zero97 places97 rfl rfl) (qO (f:=enc97) ([(key.1,key.2)]:List (List UInt8 × List UInt8)) enc97_ok rfl ow68 rfl rfl rfl (fun g3 w9 hB5 hg8 hl5=>?_)))))))))
  have hO2:OwnK 64 enc97 w9 w.heap.size 97 (some ⟨g3,0,none⟩) 1 ([(key.1,key.2)]:List (List UInt8 × List UInt8)):=OwnK.ofBl enc97_ok hB5 (Nat.le_trans (qZ gr9) hl5) (by simp [maxLen]) rfl
  have gr10:=ja gr9 hg8
  have k18:=(((k7.g0 hg5).go hg6 (Dj.new k4.lt' (Ge.box hl3)) (Dj.new hc_l.lt' (Ge.le (Ge.box hl3) (qZ gr5)))).go hg7 (Dj.new k7.lt' (Ge.box hl4)) (Dj.new hc_l.lt' (Ge.le (Ge.box hl4) (qZ gr6)))).g0 hg8
  have k19:=(((k8.grown hg5).go hg6 (Dj.new k6.lt' (Ge.box hl3))).go hg7 (Dj.new k8.lt' (Ge.box hl4))).grown hg8
  obtain ⟨h1,H⟩:=H
  exact qL rfl ow68 k19 rfl rfl hO2.rd rfl rfl h1 (kF h1) (qZ gr10) (fun a4i a4n w10 hO3 hg9 hk1=>yp (h:=(zf (zi (zS _ ⟨l++([(key.1,key.2)]:List (List UInt8 × List UInt8)),a4i,a4n,(l++([(key.1,key.2)]:List (List UInt8 × List UInt8))).length,left.eraseIdx ix,rfl,rfl,H.1,rfl,(jk gr10 hg9 k19.ge'),(k18.go hg9 dj1 (Dj.new hc_l.lt' k19.ge')),hO3,(Dj.app dj1.symm k18.lt' hk1).symm⟩ sb H.2)))))
set_option maxHeartbeats 8000000 in
theorem W_smithylaw25_CachePlays {S:List Nat} {w:World} {text:List UInt8} {l:List (Int × Int × Int × List UInt8)} {A_l:Option Addr} {c_l:Nat} {n_l:Nat} {K:Bool->Prop} (hG:GOK S w) (hS0:0∈S) (hS1:1∈S) (hS2:2∈S) (hS3:3∈S) (hS4:4∈S) (hS5:5∈S) (hS6:6∈S) (hS7:7∈S) (hS8:8∈S) (hS9:9∈S) (hS10:10∈S) (hS11:11∈S) (hS12:12∈S) (hS13:13∈S) (hS14:14∈S) (hS15:15∈S) (hS16:16∈S) (hS100:100∈S) (hl:RdK 4 enc42 w A_l c_l l) (a4u:n_l=l.length) (H:j9 text l K):Fn Tryz.prog 3 ⟨[vs text,.slice A_l n_l c_l]⟩ w (fun v w'=>w.grownBy w' none/\∃ (r:Bool),v=.bool r/\K r):=by
 subst a4u
 unfold j9 at H
 refine Fn.enter (by kernel_rfl) Tryz.func3 rfl Tryz.ntmps3 rfl ?_
 replace H:=H (Nat.le_trans hl.cap hl.max)
 refine zd (zb (yp (h:=(zf (za (zd (zb (WL.call rfl rfl (W_smithylaw25_first hG hS9 hS11 hS12 hS15 hS100 H) ?_))))))))
 rintro _ w1 ⟨hg1,ok,rfl,H⟩
 have gr1:=hg1
 refine yp (h:=(zf (za (zd (zd (zb (yp (h:=(yp (h:=(zf (za (zp rfl (fun b1=>?_) (fun b1=>?_))))))))))))))
 ·replace H:=H.1 (b1)
  exact zd (zb (yp (h:=(zf (za (zq (zh (zw rfl rfl ⟨gr1,false,rfl,H⟩))))))))
 ·replace H:=H.2 (b1)
  refine zo (za (zd (zd (zb (yp (h:=(yp (h:=(yp (h:=(yp (h:=(zL 4 (fun L' w'=>∃ q1:Bool,L'=[(35,.bool q1),(0,vs text),(1,.slice A_l l.length c_l),(5,.bool ok)]/\((decide ((2000:Int)<(text.length:Int))) || (decide ((60:Int)<(l.length:Int))))=q1/\w1=w') ?_ (fun hQ=>?_))))))))))))))
  ·rintro _ _ ⟨q1,rfl,rfl,rfl⟩
   refine yp (h:=(zL 3 (fun L' w'=>∃ q2:Bool,L'=[(39,.bool q2),(0,vs text),(1,.slice A_l l.length c_l),(5,.bool ok)]/\(((decide ((2000:Int)<(text.length:Int))) || (decide ((60:Int)<(l.length:Int)))) || (!ok))=q2/\w1=w') ?_ (fun hQ=>?_)))
   ·rintro _ _ ⟨q2,rfl,rfl,rfl⟩
    refine zf (za (zp rfl (fun b2=>?_) (fun b2=>?_)))
    ·replace H:=H.1 (b2)
     exact zd (zb (yp (h:=(yp (h:=(zf (za (zq (zh (zw rfl rfl ⟨gr1,ok,rfl,H⟩))))))))))
    ·replace H:=H.2 (b2)
     refine zo (za (zd (zb (yp (h:=(zg rfl (z6 (us:=[vs ([106]:List UInt8),vs text]) zero30 places30 rfl rfl) (qO (f:=enc30) ([(([106]:List UInt8),text)]:List (List UInt8 × List UInt8)) kU rfl ow34 rfl rfl rfl (fun g1 w2 hB1 hg2 hl1=>?_))))))))
     have hO1:OwnK 2 enc30 w2 w.heap.size 30 (some ⟨g1,0,none⟩) 1 ([(([106]:List UInt8),text)]:List (List UInt8 × List UInt8)):=OwnK.ofBl kU hB1 (Nat.le_trans (qZ gr1) hl1) (by simp [maxLen]) rfl
     have gr2:=ja gr1 hg2
     refine WL.call rfl rfl (W_disk_New (hG.grown gr2) hS9 hS11 hS100 hO1.rd rfl H) ?_
     rintro v_ w3 ⟨hg_,hc_ | hc_⟩
     ·obtain ⟨v_t451,t451,rfl,ht451,H⟩:=hc_
      have hg3:=hg_
      have gr3:=ja gr2 hg3
      refine yp (h:=(yp (h:=(yp (h:=(yp (h:=(yp (h:=(zf (za (zd (zb (yp (h:=(zg rfl (z6 (us:=[vs ([106]:List UInt8),vs text]) zero30 places30 rfl rfl) (qO (f:=enc30) ([(([106]:List UInt8),text)]:List (List UInt8 × List UInt8)) kU rfl ow34 rfl rfl rfl (fun g2 w5 hB2 hg4 hl2=>?_))))))))))))))))))
      have hO2:OwnK 2 enc30 w5 w.heap.size 30 (some ⟨g2,0,none⟩) 1 ([(([106]:List UInt8),text)]:List (List UInt8 × List UInt8)):=OwnK.ofBl kU hB2 (Nat.le_trans (qZ gr3) hl2) (by simp [maxLen]) rfl
      have gr4:=ja gr3 hg4
      have k1:=ht451.grown hg4
      refine WL.call rfl rfl (W_smithyref3_New hO2.rd rfl H) ?_
      rintro v_ w6 ⟨hg_,hc_ | hc_⟩
      ·obtain ⟨t521,rfl,H⟩:=hc_
       have hg5:=hg_
       have k2:=k1.grown hg5
       refine yp (h:=(yp (h:=(yp (h:=(yp (h:=(yp (h:=(zf (za (zd (zd (zb (yp (h:=(zg rfl (qe Tryz.underlying24 rfl rfl) (yp (h:=(zL 3 (fun L' w'=>∃ q3:Bool,L'=[(60,.bool q3),(1,.slice A_l l.length c_l),(6,.pointer none),(8,.pointer none),(9,.int .i64 t521)]/\true=q3/\w6=w') ?_ (fun hQ=>?_)))))))))))))))))))))
       ·rintro _ _ ⟨q3,rfl,rfl,rfl⟩
        refine yp (h:=(zL 3 (fun L' w'=>∃ q4:Bool,L'=[(64,.bool q4),(1,.slice A_l l.length c_l),(6,.pointer none),(8,.pointer none)]/\true=q4/\w6=w') ?_ (fun hQ=>?_)))
        ·rintro _ _ ⟨q4,rfl,rfl,rfl⟩
         exact zf (za (zp rfl (fun _=>zd (zb (yp (h:=(zf (za (zq (zh (zw rfl rfl ⟨(ja gr4 hg5),false,rfl,H⟩))))))))) (fun h=>by cases h)))
        ·clear H
         exact zV rfl rfl (rfl) rfl (zV rfl rfl (rfl) rfl (zg rfl (zt (rfl) rfl) (wk (hQ _ _ ⟨true,rfl,rfl,rfl⟩))))
       ·clear H
        exact zV rfl rfl (rfl) rfl (zV rfl rfl (rfl) rfl (zg rfl (zt (rfl) rfl) (wk (hQ _ _ ⟨true,rfl,rfl,rfl⟩))))
      ·obtain ⟨a1p,a3o,a2d,a2a,a2e,a1v,a1d,a1t,a1e,a1g,a3z,a2n,a2v,t5212,rfl,ht520_L_Changes,ht520_L,hge1,ht520,hge2,dj1,dj2,dj3,H⟩:=hc_
       have hg6:=hg_
       have hb1:=ht520_L_Changes.ge'
       have k3:=ht520_L_Changes.base (fun g hg=>Nat.le_trans (qZ gr4) (hb1 g hg))
       have k4:=k1.grown hg6
       refine yp (h:=(yp (h:=(yp (h:=(yp (h:=(yp (h:=(zf (za (zd (zd (zb (yp (h:=(zg rfl (qe Tryz.underlying24 rfl rfl) (yp (h:=(zL 3 (fun L' w'=>∃ q5:Bool,L'=[(60,.bool q5),(1,.slice A_l l.length c_l),(6,.pointer none),(8,.pointer (some ⟨a1p,0,none⟩)),(9,.int .i64 t5212)]/\true=q5/\w6=w') ?_ (fun hQ=>?_)))))))))))))))))))))
       ·rintro _ _ ⟨q5,rfl,rfl,rfl⟩
        refine yp (h:=(zL 3 (fun L' w'=>∃ q6:Bool,L'=[(64,.bool q6),(1,.slice A_l l.length c_l),(6,.pointer none),(8,.pointer (some ⟨a1p,0,none⟩))]/\true=q6/\w6=w') ?_ (fun hQ=>?_)))
        ·rintro _ _ ⟨q6,rfl,rfl,rfl⟩
         exact zf (za (zp rfl (fun _=>zd (zb (yp (h:=(zf (za (zq (zh (zw rfl rfl ⟨(ja gr4 hg6),false,rfl,H⟩))))))))) (fun h=>by cases h)))
        ·clear H
         exact zV rfl rfl (rfl) rfl (zV rfl rfl (rfl) rfl (zg rfl (zt (rfl) rfl) (wk (hQ _ _ ⟨true,rfl,rfl,rfl⟩))))
       ·clear H
        exact zV rfl rfl (rfl) rfl (zV rfl rfl (rfl) rfl (zg rfl (zt (rfl) rfl) (wk (hQ _ _ ⟨true,rfl,rfl,rfl⟩))))
     ·obtain ⟨a2,a0,a1u,f6,o7,h7,h6,v_t4512,t4512,rfl,ht4512,ht450_files,hge3,ht450,hge4,dj4,H⟩:=hc_
      have hg7:=hg_
      have gr7:=ja gr2 hg7
      refine yp (h:=(yp (h:=(yp (h:=(yp (h:=(yp (h:=(zf (za (zd (zb (yp (h:=(zg rfl (z6 (us:=[vs ([106]:List UInt8),vs text]) zero30 places30 rfl rfl) (qO (f:=enc30) ([(([106]:List UInt8),text)]:List (List UInt8 × List UInt8)) kU rfl ow34 rfl rfl rfl (fun g3 w10 hB3 hg8 hl3=>?_))))))))))))))))))
      have hO3:OwnK 2 enc30 w10 w.heap.size 30 (some ⟨g3,0,none⟩) 1 ([(([106]:List UInt8),text)]:List (List UInt8 × List UInt8)):=OwnK.ofBl kU hB3 (Nat.le_trans (qZ gr7) hl3) (by simp [maxLen]) rfl
      have gr8:=ja gr7 hg8
      have k5:=ht4512.grown hg8
      have k6:=ht450_files.g0 hg8
      have k7:=ht450.g0 hg8
      refine WL.call rfl rfl (W_smithyref3_New hO3.rd rfl H) ?_
      rintro v_ w11 ⟨hg_,hc_ | hc_⟩
      ·obtain ⟨t5213,rfl,H⟩:=hc_
       have hg9:=hg_
       have gr9:=ja gr8 hg9
       refine yp (h:=(yp (h:=(yp (h:=(yp (h:=(yp (h:=(zf (za (zd (zd (zb (yp (h:=(zg rfl (qe Tryz.underlying24 rfl rfl) (yp (h:=(zL 3 (fun L' w'=>∃ q7:Bool,L'=[(60,.bool q7),(1,.slice A_l l.length c_l),(6,.pointer (some ⟨a2,0,none⟩)),(8,.pointer none),(9,.int .i64 t5213)]/\(!decide (t4512=Er.ok))=q7/\w11=w') ?_ (fun hQ=>?_)))))))))))))))))))))
       ·rintro _ _ ⟨q7,rfl,rfl,rfl⟩
        refine yp (h:=(zL 3 (fun L' w'=>∃ q8:Bool,L'=[(64,.bool q8),(1,.slice A_l l.length c_l),(6,.pointer (some ⟨a2,0,none⟩)),(8,.pointer none)]/\((!decide (t4512=Er.ok)) || (!decide (t5213=(0:Int))))=q8/\w11=w') ?_ (fun hQ=>?_)))
        ·rintro _ _ ⟨q8,rfl,rfl,rfl⟩
         refine zf (za (zp rfl (fun b3=>?_) (fun b3=>?_)))
         ·replace H:=H.1 (b3)
          exact zd (zb (yp (h:=(zf (za (zq (zh (zw rfl rfl ⟨gr9,false,rfl,H⟩))))))))
         ·replace H:=H.2 (b3)
          refine zo (za (zd (zb (yp (h:=(WL.call rfl rfl (W_cache_Open (GB.grown hG gr9) (qZ gr9) (apC (Ge.le hge4 (qZ gr2)) (fun p hp=>Ge.le (hge3 p hp) (qZ gr2))) hS9 hS11 hS12 hS15 hS100 (k6.g0 hg9) (k7.g0 hg9) dj4 H) ?_))))))
          rintro v_ w13 ⟨hg_,hc_ | hc_⟩
          ·obtain ⟨v_t671,t671,a3q,t450_,a4v,a4w,a4x,rfl,ht671,hB4,hM1,hi1,dj5,H⟩:=hc_
           have hgl1:=hg_
           have gr10:=jC gr9 hgl1 (apC (Ge.le hge4 (qZ gr2)) (fun p hp=>Ge.le (hge3 p hp) (qZ gr2)))
           exact yp (h:=(yp (h:=(yp (h:=(yp (h:=(yp (h:=(zf (za (zd (zb (yp (h:=(False.elim H))))))))))))))))
          ·obtain ⟨a4s,a5m,a3p,a5l,v_t6712,t6712,a2s,a4y,a4z,a5a,a5b,rfl,ht6712,ht670_l,hge5,ht670,hge6,dj6,hB5,hM2,hi2,dj7,dj8,dj9,dj10,dj11,H⟩:=hc_
           have hgl2:=hg_
           have gr11:=jC gr9 hgl2 (apC (Ge.le hge4 (qZ gr2)) (fun p hp=>Ge.le (hge3 p hp) (qZ gr2)))
           exact yp (h:=(yp (h:=(yp (h:=(yp (h:=(yp (h:=(zf (za (zd (zb (yp (h:=(False.elim H))))))))))))))))
        ·clear H
         rcases Bool.eq_false_or_eq_true (!decide (t4512=Er.ok)) with b4 | b4
         ·exact gn b4 (h:=(gn b4 (h:=(zg rfl (zt (okb b4) rfl) (wk (hQ _ _ ⟨true,rfl,by rw [b4] <;> rfl,rfl⟩))))))
         ·exact gp b4 (h:=(gp b4 (h:=(zg rfl (zr (okb b4) rfl) (wk (hQ _ _ ⟨!decide (t5213=(0:Int)),rfl,by rw [b4] <;> rfl,rfl⟩))))))
       ·clear H
        exact ze rfl rfl (rfl) rfl (zc qY rfl) (ze rfl rfl (rfl) rfl (qj Tryz.underlying26 (k5.grown hg9) rfl) (zg rfl (zr (rfl) rfl) (wk (hQ _ _ ⟨!decide (t4512=Er.ok),rfl,rfl,rfl⟩))))
      ·obtain ⟨a1,a3,e3,d9,e4,d8,d4,d6,a0x,a0y,o4,e6,f7,t5214,rfl,ht520_L_Changes2,ht520_L2,hge7,ht5202,hge8,dj12,dj13,dj14,H⟩:=hc_
       have hg10:=hg_
       have hb2:=ht520_L_Changes2.ge'
       have k11:=ht520_L_Changes2.base (fun g hg=>Nat.le_trans (qZ gr8) (hb2 g hg))
       have gr12:=ja gr8 hg10
       refine yp (h:=(yp (h:=(yp (h:=(yp (h:=(yp (h:=(zf (za (zd (zd (zb (yp (h:=(zg rfl (qe Tryz.underlying24 rfl rfl) (yp (h:=(zL 3 (fun L' w'=>∃ q9:Bool,L'=[(60,.bool q9),(1,.slice A_l l.length c_l),(6,.pointer (some ⟨a2,0,none⟩)),(8,.pointer (some ⟨a1,0,none⟩)),(9,.int .i64 t5214)]/\(!decide (t4512=Er.ok))=q9/\w11=w') ?_ (fun hQ=>?_)))))))))))))))))))))
       ·rintro _ _ ⟨q9,rfl,rfl,rfl⟩
        refine yp (h:=(zL 3 (fun L' w'=>∃ q10:Bool,L'=[(64,.bool q10),(1,.slice A_l l.length c_l),(6,.pointer (some ⟨a2,0,none⟩)),(8,.pointer (some ⟨a1,0,none⟩))]/\((!decide (t4512=Er.ok)) || (!decide (t5214=(0:Int))))=q10/\w11=w') ?_ (fun hQ=>?_)))
        ·rintro _ _ ⟨q10,rfl,rfl,rfl⟩
         refine zf (za (zp rfl (fun b5=>?_) (fun b5=>?_)))
         ·replace H:=H.1 (b5)
          exact zd (zb (yp (h:=(zf (za (zq (zh (zw rfl rfl ⟨gr12,false,rfl,H⟩))))))))
         ·replace H:=H.2 (b5)
          refine zo (za (zd (zb (yp (h:=(WL.call rfl rfl (W_cache_Open (GB.grown hG gr12) (qZ gr12) (apC (Ge.le hge4 (qZ gr2)) (fun p hp=>Ge.le (hge3 p hp) (qZ gr2))) hS9 hS11 hS12 hS15 hS100 (k6.g0 hg10) (k7.g0 hg10) dj4 H) ?_))))))
          rintro v_ w17 ⟨hg_,hc_ | hc_⟩
          ·obtain ⟨v_t6713,t6713,a2t,a5c,a4b,a4c,a4d,rfl,ht6713,hB6,hM3,hi3,dj15,H⟩:=hc_
           have hgl3:=hg_
           have gr13:=jC gr12 hgl3 (apC (Ge.le hge4 (qZ gr2)) (fun p hp=>Ge.le (hge3 p hp) (qZ gr2)))
           have k15:=k11.goL hgl3 (apC (Dj.new k7.lt' hb2).symm (k6.new hb2))
           have k16:=ht520_L2.goL hgl3 (apC (Dj.new k7.lt' hge7).symm (k6.new hge7))
           have k17:=ht5202.goL hgl3 (apC (Dj.new k7.lt' hge8).symm (k6.new hge8))
           refine yp (h:=(yp (h:=(yp (h:=(yp (h:=(yp (h:=(zf (za (zd (zb (yp (h:=(WL.call rfl rfl (Zh (k15.base (fun _ _=>Nat.zero_le _)) rfl k16 k17 dj14.symm dj13.symm dj12.symm H) ?_))))))))))))))))
           rintro v_ w19 ⟨hg_,hc_ | hc_⟩
           ·obtain ⟨t721,t520_,a5d,a5e,a4h,a3r,a3s,a3t,a3u,a3v,a2p,a2r,rfl,hB7,hB8,hO4,hi4,dj16,dj17,dj18,H⟩:=hc_
            have hgl4:=hg_
            have hO5:=hO4.base (InP.toGe hi4 (apC (Ge.le hge8 (qZ gr8)) (apC (Ge.le hge7 (qZ gr8)) (apC k15.ge' apN))) (qZ gr13))
            have k18:=hM3.goL hgl4 (apC (InA.dj hi3 ht5202.lt' (apC (Dj.new k7.lt' hge8).symm (k6.new hge8))) (apC (InA.dj hi3 ht520_L2.lt' (apC (Dj.new k7.lt' hge7).symm (k6.new hge7))) (apC (InA.dj hi3 k11.lt' (apC (Dj.new k7.lt' hb2).symm (k6.new hb2))) apN)))
            have k19:=hB6.goL hgl4 (apC (Dj.new k7.lt' hge8) (apC (Dj.new k7.lt' hge7) (apC (Dj.new k7.lt' hb2) apN)))
            have k20:=ErrR.goB ht6713 (GB.grown hG gr13) hgl4 (apC (Ge.le hge8 (qZ gr8)) (apC (Ge.le hge7 (qZ gr8)) (apC k15.ge' apN))) (apC (NoAt.bl k17 rfl) (apC (NoAt.bl k16 rfl) (apC (NoAt.ownK k15 rfl) apN)))
            refine yp (h:=(yp (h:=(yp (h:=(yp (h:=(yp (h:=(zf (za (zd (zd (zb (yp (h:=(zg rfl (qe Tryz.underlying35 rfl rfl) (yp (h:=(zL 3 (fun L' w'=>∃ q11:Bool,L'=[(80,.bool q11),(1,.slice A_l l.length c_l),(6,.pointer (some ⟨a2,0,none⟩)),(8,.pointer (some ⟨a1,0,none⟩)),(9,.int .i64 t721),(10,.pointer none),(12,.pointer none)]/\true=q11/\w19=w') ?_ (fun hQ=>?_)))))))))))))))))))))
            ·rintro _ _ ⟨q11,rfl,rfl,rfl⟩
             refine yp (h:=(zL 3 (fun L' w'=>∃ q12:Bool,L'=[(84,.bool q12),(1,.slice A_l l.length c_l),(6,.pointer (some ⟨a2,0,none⟩)),(8,.pointer (some ⟨a1,0,none⟩)),(10,.pointer none),(12,.pointer none)]/\true=q12/\w19=w') ?_ (fun hQ=>?_)))
             ·rintro _ _ ⟨q12,rfl,rfl,rfl⟩
              exact zf (za (zp rfl (fun _=>zd (zb (yp (h:=(zf (za (zq (zh (zw rfl rfl ⟨(jC gr13 hgl4 (apC (Ge.le hge8 (qZ gr8)) (apC (Ge.le hge7 (qZ gr8)) (apC k15.ge' apN)))),false,rfl,H⟩))))))))) (fun h=>by cases h)))
             ·clear H
              exact zV rfl rfl (rfl) rfl (zV rfl rfl (rfl) rfl (zg rfl (zt (rfl) rfl) (wk (hQ _ _ ⟨true,rfl,rfl,rfl⟩))))
            ·clear H
             exact zV rfl rfl (rfl) rfl (zV rfl rfl (rfl) rfl (zg rfl (zt (rfl) rfl) (wk (hQ _ _ ⟨true,rfl,rfl,rfl⟩))))
           ·obtain ⟨a1q,a3l,a5n,a3m,a3n,t7212,a5f,a5g,a5h,a3w,a3x,a3y,a2w,a2x,a2y,a2f,a2i,rfl,ht720_L,ht720,hge9,dj19,hB9,hB10,hO6,hi5,dj20,dj21,dj22,dj23,dj24,dj25,dj26,dj27,dj28,H⟩:=hc_
            have hgl5:=hg_
            have hO7:=hO6.base (InP.toGe hi5 (apC (Ge.le hge8 (qZ gr8)) (apC (Ge.le hge7 (qZ gr8)) (apC k15.ge' apN))) (qZ gr13))
            have hb3:=ht720_L.ge'
            have k21:=ht720_L.base (fun g hg=>Nat.le_trans (qZ gr13) (hb3 g hg))
            have k22:=hM3.goL hgl5 (apC (InA.dj hi3 ht5202.lt' (apC (Dj.new k7.lt' hge8).symm (k6.new hge8))) (apC (InA.dj hi3 ht520_L2.lt' (apC (Dj.new k7.lt' hge7).symm (k6.new hge7))) (apC (InA.dj hi3 k11.lt' (apC (Dj.new k7.lt' hb2).symm (k6.new hb2))) apN)))
            have k23:=hB6.goL hgl5 (apC (Dj.new k7.lt' hge8) (apC (Dj.new k7.lt' hge7) (apC (Dj.new k7.lt' hb2) apN)))
            have k24:=ErrR.goB ht6713 (GB.grown hG gr13) hgl5 (apC (Ge.le hge8 (qZ gr8)) (apC (Ge.le hge7 (qZ gr8)) (apC k15.ge' apN))) (apC (NoAt.bl k17 rfl) (apC (NoAt.bl k16 rfl) (apC (NoAt.ownK k15 rfl) apN)))
            refine yp (h:=(yp (h:=(yp (h:=(yp (h:=(yp (h:=(zf (za (zd (zd (zb (yp (h:=(zg rfl (qe Tryz.underlying35 rfl rfl) (yp (h:=(zL 3 (fun L' w'=>∃ q13:Bool,L'=[(80,.bool q13),(1,.slice A_l l.length c_l),(6,.pointer (some ⟨a2,0,none⟩)),(8,.pointer (some ⟨a1,0,none⟩)),(9,.int .i64 t7212),(10,.pointer none),(12,.pointer (some ⟨a1q,0,none⟩))]/\true=q13/\w19=w') ?_ (fun hQ=>?_)))))))))))))))))))))
            ·rintro _ _ ⟨q13,rfl,rfl,rfl⟩
             refine yp (h:=(zL 3 (fun L' w'=>∃ q14:Bool,L'=[(84,.bool q14),(1,.slice A_l l.length c_l),(6,.pointer (some ⟨a2,0,none⟩)),(8,.pointer (some ⟨a1,0,none⟩)),(10,.pointer none),(12,.pointer (some ⟨a1q,0,none⟩))]/\true=q14/\w19=w') ?_ (fun hQ=>?_)))
             ·rintro _ _ ⟨q14,rfl,rfl,rfl⟩
              exact zf (za (zp rfl (fun _=>zd (zb (yp (h:=(zf (za (zq (zh (zw rfl rfl ⟨(jC gr13 hgl5 (apC (Ge.le hge8 (qZ gr8)) (apC (Ge.le hge7 (qZ gr8)) (apC k15.ge' apN)))),false,rfl,H⟩))))))))) (fun h=>by cases h)))
             ·clear H
              exact zV rfl rfl (rfl) rfl (zV rfl rfl (rfl) rfl (zg rfl (zt (rfl) rfl) (wk (hQ _ _ ⟨true,rfl,rfl,rfl⟩))))
            ·clear H
             exact zV rfl rfl (rfl) rfl (zV rfl rfl (rfl) rfl (zg rfl (zt (rfl) rfl) (wk (hQ _ _ ⟨true,rfl,rfl,rfl⟩))))
          ·obtain ⟨g7,y7,a1j,y6,v_t6714,t6714,a1k,p3,p4,p5,p6,rfl,ht6714,ht670_l2,hge10,ht6702,hge11,dj29,hB11,hM4,hi6,dj30,dj31,dj32,dj33,dj34,H⟩:=hc_
           have hgl6:=hg_
           have gr16:=jC gr12 hgl6 (apC (Ge.le hge4 (qZ gr2)) (fun p hp=>Ge.le (hge3 p hp) (qZ gr2)))
           have k25:=k11.goL hgl6 (apC (Dj.new k7.lt' hb2).symm (k6.new hb2))
           have k26:=ht520_L2.goL hgl6 (apC (Dj.new k7.lt' hge7).symm (k6.new hge7))
           have k27:=ht5202.goL hgl6 (apC (Dj.new k7.lt' hge8).symm (k6.new hge8))
           refine yp (h:=(yp (h:=(yp (h:=(yp (h:=(yp (h:=(zf (za (zd (zb (yp (h:=(WL.call rfl rfl (Zh (k25.base (fun _ _=>Nat.zero_le _)) rfl k26 k27 dj14.symm dj13.symm dj12.symm H) ?_))))))))))))))))
           rintro v_ w23 ⟨hg_,hc_ | hc_⟩
           ·obtain ⟨t7213,a5i,a5j,a5k,a2z,a3a,a3b,a3c,a3d,a3e,a2g,a2j,rfl,hB12,hB13,hO8,hi7,dj35,dj36,dj37,H⟩:=hc_
            have hgl7:=hg_
            have hO9:=hO8.base (InP.toGe hi7 (apC (Ge.le hge8 (qZ gr8)) (apC (Ge.le hge7 (qZ gr8)) (apC k25.ge' apN))) (qZ gr16))
            have k28:=hM4.goL hgl7 (apC (InA.dj hi6 ht5202.lt' (apC (Dj.new k7.lt' hge8).symm (k6.new hge8))) (apC (InA.dj hi6 ht520_L2.lt' (apC (Dj.new k7.lt' hge7).symm (k6.new hge7))) (apC (InA.dj hi6 k11.lt' (apC (Dj.new k7.lt' hb2).symm (k6.new hb2))) apN)))
            have k29:=hB11.goL hgl7 (apC (Dj.new k7.lt' hge8) (apC (Dj.new k7.lt' hge7) (apC (Dj.new k7.lt' hb2) apN)))
            have k31:=ht670_l2.goL hgl7 (apC (Dj.new ht5202.lt' hge10).symm (apC (Dj.new ht520_L2.lt' hge10).symm (apC (Dj.new k11.lt' hge10).symm apN)))
            have k32:=ht6702.goL hgl7 (apC (Dj.new ht5202.lt' hge11).symm (apC (Dj.new ht520_L2.lt' hge11).symm (apC (Dj.new k11.lt' hge11).symm apN)))
            refine yp (h:=(yp (h:=(yp (h:=(yp (h:=(yp (h:=(zf (za (zd (zd (zb (yp (h:=(zg rfl (qe Tryz.underlying35 rfl rfl) (yp (h:=(zL 3 (fun L' w'=>∃ q15:Bool,L'=[(80,.bool q15),(1,.slice A_l l.length c_l),(6,.pointer (some ⟨a2,0,none⟩)),(8,.pointer (some ⟨a1,0,none⟩)),(9,.int .i64 t7213),(10,.pointer (some ⟨g7,0,none⟩)),(12,.pointer none)]/\(!decide (t6714=Er.ok))=q15/\w23=w') ?_ (fun hQ=>?_)))))))))))))))))))))
            ·rintro _ _ ⟨q15,rfl,rfl,rfl⟩
             refine yp (h:=(zL 3 (fun L' w'=>∃ q16:Bool,L'=[(84,.bool q16),(1,.slice A_l l.length c_l),(6,.pointer (some ⟨a2,0,none⟩)),(8,.pointer (some ⟨a1,0,none⟩)),(10,.pointer (some ⟨g7,0,none⟩)),(12,.pointer none)]/\((!decide (t6714=Er.ok)) || (!decide (t7213=(0:Int))))=q16/\w23=w') ?_ (fun hQ=>?_)))
             ·rintro _ _ ⟨q16,rfl,rfl,rfl⟩
              refine zf (za (zp rfl (fun b6=>?_) (fun b6=>?_)))
              ·replace H:=H.1 (b6)
               exact zd (zb (yp (h:=(zf (za (zq (zh (zw rfl rfl ⟨(jC gr16 hgl7 (apC (Ge.le hge8 (qZ gr8)) (apC (Ge.le hge7 (qZ gr8)) (apC k25.ge' apN)))),false,rfl,H⟩))))))))
              ·replace H:=H.2 (b6)
               exact zo (za (zd (zd (False.elim H))))
             ·clear H
              rcases Bool.eq_false_or_eq_true (!decide (t6714=Er.ok)) with b7 | b7
              ·exact gn b7 (h:=(gn b7 (h:=(zg rfl (zt (okb b7) rfl) (wk (hQ _ _ ⟨true,rfl,by rw [b7] <;> rfl,rfl⟩))))))
              ·exact gp b7 (h:=(gp b7 (h:=(zg rfl (zr (okb b7) rfl) (wk (hQ _ _ ⟨!decide (t7213=(0:Int)),rfl,by rw [b7] <;> rfl,rfl⟩))))))
            ·clear H
             exact ze rfl rfl (rfl) rfl (zc qY rfl) (ze rfl rfl (rfl) rfl (qj Tryz.underlying26 (ErrR.goB ht6714 (GB.grown hG gr16) hgl7 (apC (Ge.le hge8 (qZ gr8)) (apC (Ge.le hge7 (qZ gr8)) (apC k25.ge' apN))) (apC (NoAt.bl k27 rfl) (apC (NoAt.bl k26 rfl) (apC (NoAt.ownK k25 rfl) apN)))) rfl) (zg rfl (zr (rfl) rfl) (wk (hQ _ _ ⟨!decide (t6714=Er.ok),rfl,rfl,rfl⟩))))
           ·obtain ⟨p0,f8,o5,a1f,a1h,t7214,s7,s8,s9,h8,h9,i0,i1,i2,e7,a0h,a0n,rfl,ht720_L2,ht7202,hge12,dj38,hB14,hB15,hO10,hi8,dj39,dj40,dj41,dj42,dj43,dj44,dj45,dj46,dj47,H⟩:=hc_
            have hgl8:=hg_
            have hO11:=hO10.base (InP.toGe hi8 (apC (Ge.le hge8 (qZ gr8)) (apC (Ge.le hge7 (qZ gr8)) (apC k25.ge' apN))) (qZ gr16))
            have hb4:=ht720_L2.ge'
            have gr18:=jC gr16 hgl8 (apC (Ge.le hge8 (qZ gr8)) (apC (Ge.le hge7 (qZ gr8)) (apC k25.ge' apN)))
            have k34:=hM4.goL hgl8 (apC (InA.dj hi6 ht5202.lt' (apC (Dj.new k7.lt' hge8).symm (k6.new hge8))) (apC (InA.dj hi6 ht520_L2.lt' (apC (Dj.new k7.lt' hge7).symm (k6.new hge7))) (apC (InA.dj hi6 k11.lt' (apC (Dj.new k7.lt' hb2).symm (k6.new hb2))) apN)))
            refine yp (h:=(yp (h:=(yp (h:=(yp (h:=(yp (h:=(zf (za (zd (zd (zb (yp (h:=(zg rfl (qe Tryz.underlying35 rfl rfl) (yp (h:=(zL 3 (fun L' w'=>∃ q17:Bool,L'=[(80,.bool q17),(1,.slice A_l l.length c_l),(6,.pointer (some ⟨a2,0,none⟩)),(8,.pointer (some ⟨a1,0,none⟩)),(9,.int .i64 t7214),(10,.pointer (some ⟨g7,0,none⟩)),(12,.pointer (some ⟨p0,0,none⟩))]/\(!decide (t6714=Er.ok))=q17/\w23=w') ?_ (fun hQ=>?_)))))))))))))))))))))
            ·rintro _ _ ⟨q17,rfl,rfl,rfl⟩
             refine yp (h:=(zL 3 (fun L' w'=>∃ q18:Bool,L'=[(84,.bool q18),(1,.slice A_l l.length c_l),(6,.pointer (some ⟨a2,0,none⟩)),(8,.pointer (some ⟨a1,0,none⟩)),(10,.pointer (some ⟨g7,0,none⟩)),(12,.pointer (some ⟨p0,0,none⟩))]/\((!decide (t6714=Er.ok)) || (!decide (t7214=(0:Int))))=q18/\w23=w') ?_ (fun hQ=>?_)))
             ·rintro _ _ ⟨q18,rfl,rfl,rfl⟩
              refine zf (za (zp rfl (fun b8=>?_) (fun b8=>?_)))
              ·replace H:=H.1 (b8)
               exact zd (zb (yp (h:=(zf (za (zq (zh (zw rfl rfl ⟨gr18,false,rfl,H⟩))))))))
              ·replace H:=H.2 (b8)
               refine zo (za (zd (zd (zb (yp (h:=(zf (za (WC.block ?_)))))))))
               obtain ⟨I1,mu1,a1r,HR1⟩:=H
               refine zW (fun n' L' w'=>∃ (g_c:Nat),∃ (c1:List UInt8),∃ (c2:List (List UInt8 × List UInt8)),∃ (d3:Nat),∃ (g_y:Nat),∃ (y1:List UInt8),∃ (y2:List (List UInt8 × List UInt8)),∃ (e1:Option Addr),∃ (o6:Nat),∃ (a2l:Nat),∃ (i:Int),∃ (t4500:List (List UInt8 × List UInt8 × Bool × List UInt8 × Bool × List (Int × List UInt8))),∃ (a9:List (List UInt8 × PH)),∃ (t4501:Int),∃ (t4502:Int),∃ (t4503:Bool),∃ (t5201:Int),∃ (t5202:Int),∃ (t5203:Bool),∃ (b0:List UInt8),∃ (c0:Bool),∃ (c3:List UInt8),∃ (c4:Bool),∃ (c5:List UInt8),∃ (a8:List (Bool × List UInt8 × Int)),∃ (a5:Option Addr),∃ (d7:Nat),∃ (h5:Nat),n'=mu1 c1 c2 y1 y2 i t4500 t4501 t4502 t4503 t5201 t5202 t5203 b0 c0 c3 c4 c5 a8/\L'=[(1,.slice A_l l.length c_l),(6,.pointer (some ⟨a2,0,none⟩)),(8,.pointer (some ⟨a1,0,none⟩)),(10,.pointer (some ⟨g_c,0,none⟩)),(12,.pointer (some ⟨g_y,0,none⟩)),(13,.int .i64 i)]/\I1 c1 c2 y1 y2 i t4500 t4501 t4502 t4503 t5201 t5202 t5203 b0 c0 c3 c4 c5 a8/\a2l=y2.length/\h5=a8.length/\w.grownBy w' none/\Bl w' a2 81 [.map (some a0),.int .i64 t4501,.int .i64 t4502,.bool t4503]/\Bl w' a3 89 [vs b0,.bool c0,vs c3,.bool c4,vs c5,.slice a5 h5 d7]/\Bl w' a1 73 [.slice (some ⟨a3,0,none⟩) 1 1,.int .i64 t5201,.int .i64 t5202,.bool t5203]/\Bl w' g_c 95 [.pointer (some ⟨a2,0,none⟩),vs c1,.map (some d3)]/\MapB vA okA vA w' d3 c2/\Bl w' g_y 66 [.pointer (some ⟨a1,0,none⟩),vs y1,.slice e1 a2l o6]/\OwnK 64 jv w' w.heap.size 104 e1 o6 y2/\jc pe86 w' a0 a9 t4500 none/\OwnK 3 jw w' w.heap.size 127 a5 d7 a8/\Dj (some a2) (some g_c)/\Dj (some a2) (some d3)/\Dj (some a2) (some g_y)/\Dj (some a2) (blk e1)/\AllP (Dj (some a2)) (FP a0 a9 none)/\Dj (some a2) (blk a5)/\Dj (some a3) (some g_c)/\Dj (some a3) (some d3)/\Dj (some a3) (some g_y)/\Dj (some a3) (blk e1)/\AllP (Dj (some a3)) (FP a0 a9 none)/\Dj (some a3) (blk a5)/\Dj (some a1) (some g_c)/\Dj (some a1) (some d3)/\Dj (some a1) (some g_y)/\Dj (some a1) (blk e1)/\AllP (Dj (some a1)) (FP a0 a9 none)/\Dj (some a1) (blk a5)/\Dj (some g_c) (some d3)/\Dj (some g_c) (some g_y)/\Dj (some g_c) (blk e1)/\AllP (Dj (some g_c)) (FP a0 a9 none)/\Dj (some g_c) (blk a5)/\Dj (some d3) (some g_y)/\Dj (some d3) (blk e1)/\AllP (Dj (some d3)) (FP a0 a9 none)/\Dj (some d3) (blk a5)/\Dj (some g_y) (blk e1)/\AllP (Dj (some g_y)) (FP a0 a9 none)/\Dj (some g_y) (blk a5)/\AllP (Dj (blk e1)) (FP a0 a9 none)/\Dj (blk e1) (blk a5)/\AllP (Dj (blk a5)) (FP a0 a9 none)/\Ge (some g_c) w.heap.size/\Ge (some d3) w.heap.size/\Ge (some g_y) w.heap.size/\AllP (fun p=>Ge p w.heap.size) (FP a0 a9 none)) _ _ ⟨g7,y7,y6,a1j,p0,f8,o5,a1f,a1h,o5.length,(0:Int),p3,a1k,p4,p5,p6,s7,s8,s9,h8,h9,i0,i1,i2,e7,a0h,a0n,e7.length,rfl,rfl,a1r,rfl,rfl,gr18,(hB11.goL hgl8 (apC (Dj.new k7.lt' hge8) (apC (Dj.new k7.lt' hge7) (apC (Dj.new k7.lt' hb2) apN)))),hB15,hB14,(ht6702.goL hgl8 (apC (Dj.new ht5202.lt' hge11).symm (apC (Dj.new ht520_L2.lt' hge11).symm (apC (Dj.new k11.lt' hge11).symm apN)))),(ht670_l2.goL hgl8 (apC (Dj.new ht5202.lt' hge10).symm (apC (Dj.new ht520_L2.lt' hge10).symm (apC (Dj.new k11.lt' hge10).symm apN)))),ht7202,(ht720_L2.base (fun g hg=>Nat.le_trans (qZ gr16) (hb4 g hg))),k34,hO11,dj33.symm,dj31.symm,(Dj.new hB11.lt' hge12),(Dj.new hB11.lt' hb4),dj30,(InP.dj hi8 hB11.lt' (apC (Dj.new k7.lt' hge8) (apC (Dj.new k7.lt' hge7) (apC (Dj.new k7.lt' hb2) apN)))).symm,(Dj.new ht520_L2.lt' hge11),(Dj.new ht520_L2.lt' hge10),dj46.symm,dj43.symm,(InA.dj hi6 ht520_L2.lt' (apC (Dj.new k7.lt' hge7).symm (k6.new hge7))),dj41,(Dj.new ht5202.lt' hge11),(Dj.new ht5202.lt' hge10),dj45.symm,dj42.symm,(InA.dj hi6 ht5202.lt' (apC (Dj.new k7.lt' hge8).symm (k6.new hge8))),dj40,dj29.symm,(Dj.new ht6702.lt' hge12),(Dj.new ht6702.lt' hb4),dj34,(InP.dj hi8 ht6702.lt' (apC (Dj.new ht5202.lt' hge11).symm (apC (Dj.new ht520_L2.lt' hge11).symm (apC (Dj.new k11.lt' hge11).symm apN)))).symm,(Dj.new ht670_l2.lt' hge12),(Dj.new ht670_l2.lt' hb4),dj32,(InP.dj hi8 ht670_l2.lt' (apC (Dj.new ht5202.lt' hge10).symm (apC (Dj.new ht520_L2.lt' hge10).symm (apC (Dj.new k11.lt' hge10).symm apN)))).symm,dj38.symm,(hM4.new hge12),dj47,(hM4.new hb4),dj44,(hM4.inp hi8 (apC (InA.dj hi6 ht5202.lt' (apC (Dj.new k7.lt' hge8).symm (k6.new hge8))) (apC (InA.dj hi6 ht520_L2.lt' (apC (Dj.new k7.lt' hge7).symm (k6.new hge7))) (apC (InA.dj hi6 k11.lt' (apC (Dj.new k7.lt' hb2).symm (k6.new hb2))) apN)))),(Ge.le hge11 (qZ gr12)),(Ge.le hge10 (qZ gr12)),(Ge.le hge12 (qZ gr16)),(InA.toGe hi6 (apC (Ge.le hge4 (qZ gr2)) (fun p hp=>Ge.le (hge3 p hp) (qZ gr2))) (qZ gr12))⟩ sb ?_
               clear a1r
               rintro _ _ w26 ⟨g_c,c1,c2,d3,g_y,y1,y2,e1,o6,a2l,i,t4500,a9,t4501,t4502,t4503,t5201,t5202,t5203,b0,c0,c3,c4,c5,a8,a5,d7,h5,rfl,rfl,hI1,rfl,rfl,gr19,k39,k40,k41,k42,k43,k44,k45,k46,k47,dj48,dj49,dj50,dj51,dj52,dj53,dj54,dj55,dj56,dj57,dj58,dj59,dj60,dj61,dj62,dj63,dj64,dj65,dj66,dj67,dj68,dj69,dj70,dj71,dj72,dj73,dj74,dj75,dj76,dj77,dj78,dj79,dj80,hi9,hi10,hi11,hi12⟩
               have H:=HR1 c1 c2 y1 y2 i t4500 t4501 t4502 t4503 t5201 t5202 t5203 b0 c0 c3 c4 c5 a8 hI1
               refine zd (zd (zb (yp (h:=(yp (h:=(yp (h:=(yp (h:=(zf (za (zp rfl (fun b9=>?_) (fun b9=>?_))))))))))))))
               ·replace H:=H.1 (of_decide_eq_true b9)
                refine zo (za (zd (WC.block (zd (zb (yp (h:=(yp (h:=?_)))))))))
                obtain ⟨h1,H⟩:=H
                refine zg rfl (qa qY (hl.grown gr19) rfl rfl rfl rfl h1.1 h1.2) (zg rfl (qt (0,0,0,[]) qY (hl.grown gr19) rfl rfl (iltN h1 rfl)) (WL.alloc rfl zero42 (fun g4 w27 hB16 hg11 hl4=>zP (vs:=[.int .i64 ((l.getD i.toNat (0,0,0,[])).1),.int .i64 ((l.getD i.toNat (0,0,0,[])).2.1),.int .i64 ((l.getD i.toNat (0,0,0,[])).2.2.1),vs ((l.getD i.toNat (0,0,0,[])).2.2.2)]) qY rfl rfl rfl (jd rfl (jd rfl (jd rfl (jd rfl kg)))) hB16 rfl rfl (fun w28 hB17 hg12=>?_))))
                have gr21:=jk (ja gr19 hg11) hg12 (Ge.le (Ge.box hl4) (qZ gr19))
                have k57:=(k39.g0 hg11).go hg12 (Dj.new k39.lt' (Ge.box hl4))
                have k58:=(k40.g0 hg11).go hg12 (Dj.new k40.lt' (Ge.box hl4))
                have k59:=(k41.g0 hg11).go hg12 (Dj.new k41.lt' (Ge.box hl4))
                have k60:=(k42.g0 hg11).go hg12 (Dj.new k42.lt' (Ge.box hl4))
                have k61:=(k43.g0 hg11).go hg12 (Dj.new k43.lt' (Ge.box hl4))
                have k62:=(k44.g0 hg11).go hg12 (Dj.new k44.lt' (Ge.box hl4))
                have k63:=(k45.grown hg11).go hg12 (Dj.new k45.lt' (Ge.box hl4))
                have k64:=(k46.g0 hg11).go hg12 (k46.new (Ge.box hl4))
                have k65:=(k47.grown hg11).go hg12 (Dj.new k47.lt' (Ge.box hl4))
                refine zf (za (zd (zd (zb (yp (h:=(zg rfl (zk qY hB17 rfl rfl rfl) (yp (h:=(yp (h:=(zf (za (zp rfl (fun b10=>?_) (fun b10=>?_)))))))))))))))
                ·replace H:=H.1 (of_decide_eq_true b10)
                 exact zd (zb (yp (h:=(zf (za (zq (zh (zn (zh (zh (zn (zh (zw rfl rfl ⟨gr21,true,rfl,H⟩)))))))))))))
                ·replace H:=H.2 (of_decide_eq_false b10)
                 refine zo (za (zd ?_))
                 obtain ⟨J1,H,hJ1⟩:=H
                 refine qd (fun L' w'=>∃ (e2:Nat),∃ (c12:List UInt8),∃ (c22:List (List UInt8 × List UInt8)),∃ (c7:Nat),∃ (e0:Nat),∃ (y12:List UInt8),∃ (y22:List (List UInt8 × List UInt8)),∃ (d5:Option Addr),∃ (f9:Nat),∃ (a1s:Nat),∃ (t45002:List (List UInt8 × List UInt8 × Bool × List UInt8 × Bool × List (Int × List UInt8))),∃ (a6:List (List UInt8 × PH)),∃ (t45012:Int),∃ (t45022:Int),∃ (t45032:Bool),∃ (c8:List UInt8),∃ (c9:Bool),∃ (d0:List UInt8),∃ (d1:Bool),∃ (d2:List UInt8),∃ (a7:List (Bool × List UInt8 × Int)),∃ (a4:Option Addr),∃ (c6:Nat),∃ (f5:Nat),∃ (t52012:Int),∃ (t52022:Int),∃ (t52032:Bool),L'=[(1,.slice A_l l.length c_l),(6,.pointer (some ⟨a2,0,none⟩)),(8,.pointer (some ⟨a1,0,none⟩)),(10,.pointer (some ⟨e2,0,none⟩)),(12,.pointer (some ⟨e0,0,none⟩)),(13,.int .i64 i)]/\J1 c12 c22 y12 y22 t45002 t45012 t45022 t45032 c8 c9 d0 d1 d2 a7 t52012 t52022 t52032/\a1s=y22.length/\f5=a7.length/\w.grownBy w' none/\Bl w' a2 81 [.map (some a0),.int .i64 t45012,.int .i64 t45022,.bool t45032]/\Bl w' a3 89 [vs c8,.bool c9,vs d0,.bool d1,vs d2,.slice a4 f5 c6]/\Bl w' a1 73 [.slice (some ⟨a3,0,none⟩) 1 1,.int .i64 t52012,.int .i64 t52022,.bool t52032]/\Bl w' e2 95 [.pointer (some ⟨a2,0,none⟩),vs c12,.map (some c7)]/\MapB vA okA vA w' c7 c22/\Bl w' e0 66 [.pointer (some ⟨a1,0,none⟩),vs y12,.slice d5 a1s f9]/\OwnK 64 jv w' w.heap.size 104 d5 f9 y22/\jc pe86 w' a0 a6 t45002 none/\OwnK 3 jw w' w.heap.size 127 a4 c6 a7/\Dj (some a2) (some e2)/\Dj (some a2) (some c7)/\Dj (some a2) (some e0)/\Dj (some a2) (blk d5)/\AllP (Dj (some a2)) (FP a0 a6 none)/\Dj (some a2) (blk a4)/\Dj (some a3) (some e2)/\Dj (some a3) (some c7)/\Dj (some a3) (some e0)/\Dj (some a3) (blk d5)/\AllP (Dj (some a3)) (FP a0 a6 none)/\Dj (some a3) (blk a4)/\Dj (some a1) (some e2)/\Dj (some a1) (some c7)/\Dj (some a1) (some e0)/\Dj (some a1) (blk d5)/\AllP (Dj (some a1)) (FP a0 a6 none)/\Dj (some a1) (blk a4)/\Dj (some e2) (some c7)/\Dj (some e2) (some e0)/\Dj (some e2) (blk d5)/\AllP (Dj (some e2)) (FP a0 a6 none)/\Dj (some e2) (blk a4)/\Dj (some c7) (some e0)/\Dj (some c7) (blk d5)/\AllP (Dj (some c7)) (FP a0 a6 none)/\Dj (some c7) (blk a4)/\Dj (some e0) (blk d5)/\AllP (Dj (some e0)) (FP a0 a6 none)/\Dj (some e0) (blk a4)/\AllP (Dj (blk d5)) (FP a0 a6 none)/\Dj (blk d5) (blk a4)/\AllP (Dj (blk a4)) (FP a0 a6 none)/\Ge (some e2) w.heap.size/\Ge (some c7) w.heap.size/\Ge (some e0) w.heap.size/\AllP (fun p=>Ge p w.heap.size) (FP a0 a6 none)) ?_ (fun hQ=>?_)
                 ·clear H
                  rintro _ w29 ⟨e2,c12,c22,c7,e0,y12,y22,d5,f9,a1s,t45002,a6,t45012,t45022,t45032,c8,c9,d0,d1,d2,a7,a4,c6,f5,t52012,t52022,t52032,rfl,H,rfl,rfl,gr22,k66,k67,k68,k69,k70,k71,k72,k73,k74,dj81,dj82,dj83,dj84,dj85,dj86,dj87,dj88,dj89,dj90,dj91,dj92,dj93,dj94,dj95,dj96,dj97,dj98,dj99,dj100,dj101,dj102,dj103,dj104,dj105,dj106,dj107,dj108,dj109,dj110,dj111,dj112,dj113,hi13,hi14,hi15,hi16⟩
                  replace H:=hJ1 c12 c22 y12 y22 t45002 t45012 t45022 t45032 c8 c9 d0 d1 d2 a7 t52012 t52022 t52032 H
                  refine za (zd (zO (fun k => !(Nat.beq k 1 || Nat.beq k 10 || Nat.beq k 12 || Nat.beq k 13 || Nat.beq k 18 || Nat.beq k 27 || Nat.beq k 36 || Nat.beq k 38 || Nat.beq k 39)) (LD [5,22,31] (fun w'=>Bl w' e0 66 [.pointer (some ⟨a1,0,none⟩),vs y12,.slice d5 y22.length f9]/\Bl w' a1 73 [.slice (some ⟨a3,0,none⟩) 1 1,.int .i64 t52012,.int .i64 t52022,.bool t52032])) mixed (by kernel_rfl) (fun k w' h _=>⟨(ji h k71),(ji h k68)⟩) (zl rfl rfl (fun w' hw'=>zc qY rfl) (WJ.call rfl (je) rfl rfl (W_pcache_Cache_Len k73 k66 k70 k69 H) (fun v w' h w2 e=>DD.keep (⟨(ji (eqvL h.1 e) k71),(ji (eqvL h.1 e) k68)⟩)) ?_))))
                  rintro _ _ ⟨rfl,t226,rfl,H⟩
                  refine zl rfl rfl (fun w' hw'=>zc qY rfl) (zl rfl rfl (fun w' hw'=>zc qY rfl) (zl rfl rfl (fun w' hw'=>zc qY rfl) (zl rfl rfl (fun w' hw'=>zk qY (hw' rfl).1 rfl rfl rfl) (zl rfl rfl (fun w' hw'=>zc qY rfl) (zl rfl rfl (fun w' hw'=>zc qY rfl) (zl rfl rfl (fun w' hw'=>zc qY rfl) ?_))))))
                  obtain ⟨J2,H,hJ2⟩:=H
                  refine qH 7 (fun L' w'=>∃ q19:Bool,L'=[(240,.bool q19),(1,.slice A_l l.length c_l),(6,.pointer (some ⟨a2,0,none⟩)),(8,.pointer (some ⟨a1,0,none⟩)),(10,.pointer (some ⟨e2,0,none⟩)),(12,.pointer (some ⟨e0,0,none⟩)),(13,.int .i64 i)]/\J2 q19/\w.grownBy w' none/\Bl w' a2 81 [.map (some a0),.int .i64 t45012,.int .i64 t45022,.bool t45032]/\Bl w' a3 89 [vs c8,.bool c9,vs d0,.bool d1,vs d2,.slice a4 a7.length c6]/\Bl w' a1 73 [.slice (some ⟨a3,0,none⟩) 1 1,.int .i64 t52012,.int .i64 t52022,.bool t52032]/\Bl w' e2 95 [.pointer (some ⟨a2,0,none⟩),vs c12,.map (some c7)]/\MapB vA okA vA w' c7 c22/\Bl w' e0 66 [.pointer (some ⟨a1,0,none⟩),vs y12,.slice d5 y22.length f9]/\OwnK 64 jv w' w.heap.size 104 d5 f9 y22/\jc pe86 w' a0 a6 t45002 none/\OwnK 3 jw w' w.heap.size 127 a4 c6 a7) ?_ (fun hQ=>?_)
                  ·clear H
                   rintro _ w30 ⟨q19,rfl,H,gr23,k75,k76,k77,k78,k79,k80,k81,k82,k83⟩
                   replace H:=hJ2 q19 H
                   refine zl rfl rfl (fun w' hw'=>zc qY rfl) ?_
                   obtain ⟨J3,H,hJ3⟩:=H
                   refine qH 8 (fun L' w'=>∃ q20:Bool,L'=[(249,.bool q20),(1,.slice A_l l.length c_l),(6,.pointer (some ⟨a2,0,none⟩)),(8,.pointer (some ⟨a1,0,none⟩)),(10,.pointer (some ⟨e2,0,none⟩)),(12,.pointer (some ⟨e0,0,none⟩)),(13,.int .i64 i)]/\J3 q20/\w30=w') ?_ (fun hQ=>?_)
                   ·clear H
                    rintro _ _ ⟨q20,rfl,H,rfl⟩
                    replace H:=hJ3 q20 H
                    refine zl rfl rfl (fun w' hw'=>zc qY rfl) ?_
                    obtain ⟨J4,H,hJ4⟩:=H
                    refine qH 8 (fun L' w'=>∃ q21:Bool,L'=[(258,.bool q21),(1,.slice A_l l.length c_l),(6,.pointer (some ⟨a2,0,none⟩)),(8,.pointer (some ⟨a1,0,none⟩)),(10,.pointer (some ⟨e2,0,none⟩)),(12,.pointer (some ⟨e0,0,none⟩)),(13,.int .i64 i)]/\J4 q21/\w30=w') ?_ (fun hQ=>?_)
                    ·clear H
                     rintro _ _ ⟨q21,rfl,H,rfl⟩
                     replace H:=hJ4 q21 H
                     refine zl rfl rfl (fun w' hw'=>zc qY rfl) ?_
                     obtain ⟨J5,H,hJ5⟩:=H
                     refine qH 7 (fun L' w'=>∃ q22:Bool,L'=[(266,.bool q22),(1,.slice A_l l.length c_l),(6,.pointer (some ⟨a2,0,none⟩)),(8,.pointer (some ⟨a1,0,none⟩)),(10,.pointer (some ⟨e2,0,none⟩)),(12,.pointer (some ⟨e0,0,none⟩)),(13,.int .i64 i)]/\J5 q22/\w.grownBy w' none/\Bl w' a2 81 [.map (some a0),.int .i64 t45012,.int .i64 t45022,.bool t45032]/\Bl w' a3 89 [vs c8,.bool c9,vs d0,.bool d1,vs d2,.slice a4 a7.length c6]/\Bl w' a1 73 [.slice (some ⟨a3,0,none⟩) 1 1,.int .i64 t52012,.int .i64 t52022,.bool t52032]/\Bl w' e2 95 [.pointer (some ⟨a2,0,none⟩),vs c12,.map (some c7)]/\MapB vA okA vA w' c7 c22/\Bl w' e0 66 [.pointer (some ⟨a1,0,none⟩),vs y12,.slice d5 y22.length f9]/\OwnK 64 jv w' w.heap.size 104 d5 f9 y22/\jc pe86 w' a0 a6 t45002 none/\OwnK 3 jw w' w.heap.size 127 a4 c6 a7) ?_ (fun hQ=>?_)
                     ·clear H
                      rintro _ w31 ⟨q22,rfl,H,gr24,k84,k85,k86,k87,k88,k89,k90,k91,k92⟩
                      replace H:=hJ5 q22 H
                      refine z8 (za (zp rfl (fun b11=>?_) (fun b11=>?_)))
                      ·replace H:=H.1 (b11)
                       exact zd (zb (yp (h:=(zf (za (zq (zn (zh (zh (zn (zh (zw rfl rfl ⟨gr24,false,rfl,H⟩))))))))))))
                      ·replace H:=H.2 (b11)
                       refine zo (zi (za (zb (yp (h:=?_)))))
                       obtain ⟨h2,H⟩:=H
                       exact zg rfl (Yld.add rfl rfl h2) (yp (h:=(zf (zS _ ⟨e2,c12,c22,c7,e0,y12,y22,d5,f9,y22.length,i+(1:Int),t45002,a6,t45012,t45022,t45032,t52012,t52022,t52032,c8,c9,d0,d1,d2,a7,a4,c6,a7.length,rfl,rfl,H.1,rfl,rfl,gr24,k84,k85,k86,k87,k88,k89,k90,k91,k92,dj81,dj82,dj83,dj84,dj85,dj86,dj87,dj88,dj89,dj90,dj91,dj92,dj93,dj94,dj95,dj96,dj97,dj98,dj99,dj100,dj101,dj102,dj103,dj104,dj105,dj106,dj107,dj108,dj109,dj110,dj111,dj112,dj113,hi13,hi14,hi15,hi16⟩ sb H.2))))
                     ·clear hJ5
                      rcases Bool.eq_false_or_eq_true (q21) with b12 | b12
                      ·replace H:=H.1 b12
                       exact zX rfl rfl (okb b12) rfl (zX rfl rfl (okb b12) rfl (zX rfl rfl (okb b12) rfl (zX rfl rfl (okb b12) rfl (zX rfl rfl (okb b12) rfl (zX rfl rfl (okb b12) rfl (zl rfl rfl (fun w' hw'=>zt (okb b12) rfl) (WJ.weaken sb (hQ _ _ ⟨true,rfl,H,gr23,k75,k76,k77,k78,k79,k80,k81,k82,k83⟩))))))))
                      ·replace H:=H.2 b12
                       refine zY rfl (jb rfl rfl (okb b12)) rfl (fun w' hw'=>zc qY rfl) (WJ.call rfl (jb rfl rfl (okb b12)) rfl rfl (W_pdisk_Disk_Dump k82 k75 H) (fun v w' h w2 e=>DD.keep (⟨(Bl.g0 k80 (jg h.1 e)),(Bl.g0 k77 (jg h.1 e))⟩)) ?_)
                       rintro _ w32 ⟨hg13,t261,a4l,a4q,rfl,ht261,H⟩
                       have hb5:=ht261.ge'
                       have gr25:=ja gr23 hg13
                       have k95:=k76.g0 hg13
                       have k96:=k77.g0 hg13
                       have k99:=k80.g0 hg13
                       have k102:=k83.grown hg13
                       refine zY rfl (jb rfl rfl (okb b12)) rfl (fun w' hw'=>zc qY rfl) (WJ.call rfl (jb rfl rfl (okb b12)) rfl rfl (W_psmithyref3_Disk_Dump k102.rd rfl k95 k96 H) (fun v w' h w2 e=>DD.keep (⟨(Bl.g0 k99 (jg h.1 e)),(Bl.g0 k96 (jg h.1 e))⟩)) ?_)
                       rintro _ w33 ⟨hg14,t263,a4m,a4r,rfl,ht263,H⟩
                       have hb6:=ht263.ge'
                       have k103:=ht263.base (fun g hg=>Nat.le_trans (qZ gr25) (hb6 g hg))
                       have k106:=k96.g0 hg14
                       have k109:=k99.g0 hg14
                       have k113:=(ht261.base (fun g hg=>Nat.le_trans (qZ gr23) (hb5 g hg))).grown hg14
                       refine WJ.call rfl (jb rfl rfl (okb b12)) rfl rfl (W_smithyref_SameFiles k113.rd rfl k103.rd rfl H) (fun v w' h w2 e=>DD.keep (⟨(Bl.g0 k109 (jg h.1 e)),(Bl.g0 k106 (jg h.1 e))⟩)) ?_
                       rintro _ w34 ⟨hg15,t264,rfl,H⟩
                       have k123:=k113.grown hg15
                       have k124:=k103.grown hg15
                       exact zY rfl (jb rfl rfl (okb b12)) rfl (fun w' hw'=>zc qY rfl) (zl rfl rfl (fun w' hw'=>zr (okb b12) rfl) (WJ.weaken sb (hQ _ _ ⟨!t264,rfl,H,(ja (ja gr25 hg14) hg15),(((k75.g0 hg13).g0 hg14).g0 hg15),((k95.g0 hg14).g0 hg15),(k106.g0 hg15),(((k78.g0 hg13).g0 hg14).g0 hg15),(((k79.g0 hg13).g0 hg14).g0 hg15),(k109.g0 hg15),(((k81.grown hg13).grown hg14).grown hg15),(((k82.g0 hg13).g0 hg14).g0 hg15),((k102.grown hg14).grown hg15)⟩)))
                    ·clear hJ4
                     rcases Bool.eq_false_or_eq_true (q20) with b13 | b13
                     ·replace H:=H.1 b13
                      exact zX rfl rfl (okb b13) rfl (zX rfl rfl (okb b13) rfl (zX rfl rfl (okb b13) rfl (zX rfl rfl (okb b13) rfl (zX rfl rfl (okb b13) rfl (zX rfl rfl (okb b13) rfl (zX rfl rfl (okb b13) rfl (zl rfl rfl (fun w' hw'=>zt (okb b13) rfl) (WJ.weaken sb (hQ _ _ ⟨true,rfl,H,rfl⟩)))))))))
                     ·replace H:=H.2 b13
                      refine zY rfl (jb rfl rfl (okb b13)) rfl (fun w' hw'=>zc qY rfl) (WJ.call rfl (jb rfl rfl (okb b13)) rfl rfl (W_pdisk_Disk_Ops k82 k75 H) (fun v w' h w2 e=>DD.keep (⟨(ji (eqvL h.1 e) k80),(ji (eqvL h.1 e) k77)⟩)) ?_)
                      rintro _ _ ⟨rfl,t252,rfl,H⟩
                      exact zY rfl (jb rfl rfl (okb b13)) rfl (fun w' hw'=>zc qY rfl) (zY rfl (jb rfl rfl (okb b13)) rfl (fun w' hw'=>zc qY rfl) (zY rfl (jb rfl rfl (okb b13)) rfl (fun w' hw'=>zc qY rfl) (zY rfl (jb rfl rfl (okb b13)) rfl (fun w' hw'=>zk qY (hw' rfl).2 rfl rfl rfl) (zY rfl (jb rfl rfl (okb b13)) rfl (fun w' hw'=>zc qY rfl) (zl rfl rfl (fun w' hw'=>zr (okb b13) rfl) (WJ.weaken sb (hQ _ _ ⟨!decide (t252=t52012),rfl,H,rfl⟩)))))))
                   ·clear hJ3
                    rcases Bool.eq_false_or_eq_true (q19) with b14 | b14
                    ·replace H:=H.1 b14
                     exact zX rfl rfl (okb b14) rfl (zX rfl rfl (okb b14) rfl (zX rfl rfl (okb b14) rfl (zX rfl rfl (okb b14) rfl (zX rfl rfl (okb b14) rfl (zX rfl rfl (okb b14) rfl (zX rfl rfl (okb b14) rfl (zl rfl rfl (fun w' hw'=>zt (okb b14) rfl) (WJ.weaken sb (hQ _ _ ⟨true,rfl,H,rfl⟩)))))))))
                    ·replace H:=H.2 b14
                     refine zY rfl (jb rfl rfl (okb b14)) rfl (fun w' hw'=>zc qY rfl) (WJ.call rfl (jb rfl rfl (okb b14)) rfl rfl (W_pdisk_Disk_Down k82 k75 H) (fun v w' h w2 e=>DD.keep (⟨(ji (eqvL h.1 e) k80),(ji (eqvL h.1 e) k77)⟩)) ?_)
                     rintro _ _ ⟨rfl,t243,rfl,H⟩
                     exact zY rfl (jb rfl rfl (okb b14)) rfl (fun w' hw'=>zc qY rfl) (zY rfl (jb rfl rfl (okb b14)) rfl (fun w' hw'=>zc qY rfl) (zY rfl (jb rfl rfl (okb b14)) rfl (fun w' hw'=>zc qY rfl) (zY rfl (jb rfl rfl (okb b14)) rfl (fun w' hw'=>zk qY (hw' rfl).2 rfl rfl rfl) (zY rfl (jb rfl rfl (okb b14)) rfl (fun w' hw'=>qS Tryz.underlying4 rfl rfl) (zl rfl rfl (fun w' hw'=>zr (okb b14) rfl) (WJ.weaken sb (hQ _ _ ⟨!(t243 == t52032),rfl,H,rfl⟩)))))))
                  ·clear hJ2
                   rcases Bool.eq_false_or_eq_true (!decide (t226=(y22.length:Int))) with b15 | b15
                   ·replace H:=H.1 b15
                    exact zX rfl rfl (okb b15) rfl (zX rfl rfl (okb b15) rfl (zX rfl rfl (okb b15) rfl (zX rfl rfl (okb b15) rfl (zX rfl rfl (okb b15) rfl (zX rfl rfl (okb b15) rfl (zl rfl rfl (fun w' hw'=>zt (okb b15) rfl) (WJ.weaken sb (hQ _ _ ⟨true,rfl,H,gr22,k66,k67,k68,k69,k70,k71,k72,k73,k74⟩))))))))
                   ·replace H:=H.2 b15
                    refine zY rfl (jb rfl rfl (okb b15)) rfl (fun w' hw'=>zc qY rfl) (WJ.call rfl (jb rfl rfl (okb b15)) rfl rfl (W_pcache_Cache_Entries rfl k70 k69 H) (fun v w' h w2 e=>DD.keep (⟨(Bl.g0 k71 (jg h.1 e)),(Bl.g0 k68 (jg h.1 e))⟩)) ?_)
                    rintro _ w35 ⟨hg16,t235,a4j,a4o,rfl,ht235,H⟩
                    have hb7:=ht235.ge'
                    have gr28:=ja gr22 hg16
                    have k128:=k68.g0 hg16
                    have k131:=k71.g0 hg16
                    have k132:=k72.grown hg16
                    refine zY rfl (jb rfl rfl (okb b15)) rfl (fun w' hw'=>zc qY rfl) (WJ.call rfl (jb rfl rfl (okb b15)) rfl rfl (W_psmithyref17_Cache_Entries rfl k132.rd rfl k131 H) (fun v w' h w2 e=>DD.keep (⟨(Bl.g0 k131 (jg h.1 e)),(Bl.g0 k128 (jg h.1 e))⟩)) ?_)
                    rintro _ w36 ⟨hg17,t237,a4k,a4p,rfl,ht237,H⟩
                    have hb8:=ht237.ge'
                    have k135:=ht237.base (fun g hg=>Nat.le_trans (qZ gr28) (hb8 g hg))
                    have k138:=k128.g0 hg17
                    have k141:=k131.g0 hg17
                    have k145:=(ht235.base (fun g hg=>Nat.le_trans (qZ gr22) (hb7 g hg))).grown hg17
                    refine WJ.call rfl (jb rfl rfl (okb b15)) rfl rfl (W_smithylaw25_same k145.rd rfl k135.rd rfl H) (fun v w' h w2 e=>DD.keep (⟨(Bl.g0 k141 (jg h.1 e)),(Bl.g0 k138 (jg h.1 e))⟩)) ?_
                    rintro _ w37 ⟨hg18,t238,rfl,H⟩
                    have k155:=k145.grown hg18
                    have k156:=k135.grown hg18
                    exact zY rfl (jb rfl rfl (okb b15)) rfl (fun w' hw'=>zc qY rfl) (zl rfl rfl (fun w' hw'=>zr (okb b15) rfl) (WJ.weaken sb (hQ _ _ ⟨!t238,rfl,H,(ja (ja gr28 hg17) hg18),(((k66.g0 hg16).g0 hg17).g0 hg18),(((k67.g0 hg16).g0 hg17).g0 hg18),(k138.g0 hg18),(((k69.g0 hg16).g0 hg17).g0 hg18),(((k70.g0 hg16).g0 hg17).g0 hg18),(k141.g0 hg18),((k132.grown hg17).grown hg18),(((k73.g0 hg16).g0 hg17).g0 hg18),(((k74.grown hg16).grown hg17).grown hg18)⟩)))
                 ·clear hJ1
                  refine zd (zb (yp (h:=(zg rfl (zk qY hB17 rfl rfl rfl) (zf (za (WC.block (zd (zb (yp (h:=(yp (h:=(zf (za (zp rfl (fun b16=>?_) (fun b16=>?_)))))))))))))))))
                  ·replace H:=H.1 (of_decide_eq_true b16)
                   refine zd (zO (fun k => !(Nat.beq k 3 || Nat.beq k 4 || Nat.beq k 7 || Nat.beq k 8 || Nat.beq k 9)) (LD [2,6] (fun w'=>Bl w' g4 42 [.int .i64 ((l.getD i.toNat (0,0,0,[])).1),.int .i64 ((l.getD i.toNat (0,0,0,[])).2.1),.int .i64 ((l.getD i.toNat (0,0,0,[])).2.2.1),vs ((l.getD i.toNat (0,0,0,[])).2.2.2)])) mixed (by kernel_rfl) (fun k w' h _=>(ji h hB17)) (zl rfl rfl (fun w' hw'=>zc qY rfl) (zl rfl rfl (fun w' hw'=>zc qY rfl) (zl rfl rfl (fun w' hw'=>zk qY (hw' rfl) rfl rfl rfl) (WJ.call rfl (je) rfl rfl (j6 H) (fun v w' h w2 e=>DD.keep (ji (eqvL h.1 e) hB17)) ?_)))))
                   rintro _ _ ⟨rfl,t117,rfl,H⟩
                   refine WJ.call rfl (je) rfl rfl (Zf H) (fun v w' h w2 e=>DD.keep (Bl.g0 hB17 (jg h.1 e))) ?_
                   rintro _ w38 ⟨hg19,t118,rfl,H⟩
                   have k166:=hB17.g0 hg19
                   refine zl rfl rfl (fun w' hw'=>zc qY rfl) (zl rfl rfl (fun w' hw'=>zk qY (hw' rfl) rfl rfl rfl) (WJ.call rfl (je) rfl rfl (j6 H) (fun v w' h w2 e=>DD.keep (ji (eqvL h.1 e) k166)) ?_))
                   rintro _ _ ⟨rfl,t121,rfl,H⟩
                   refine WJ.call rfl (je) rfl rfl (Zf H) (fun v w' h w2 e=>DD.keep (Bl.g0 k166 (jg h.1 e))) ?_
                   rintro _ w39 ⟨hg20,t122,rfl,H⟩
                   have gr32:=ja (ja gr21 hg19) hg20
                   have k168:=(k58.g0 hg19).g0 hg20
                   have k169:=(k59.g0 hg19).g0 hg20
                   have k172:=(k62.g0 hg19).g0 hg20
                   have k173:=(k63.grown hg19).grown hg20
                   have k175:=(k65.grown hg19).grown hg20
                   refine WJ.call rfl je rfl rfl (ZD (GB.grown hG gr32) (qZ gr32) (apC hi9 (apC hi10 (apC (Ge.le hge4 (qZ gr2)) hi12))) hS9 hS11 hS15 hS100 ((k64.g0 hg19).g0 hg20) ((k57.g0 hg19).g0 hg20) ((k61.g0 hg19).g0 hg20) ((k60.g0 hg19).g0 hg20) dj66 dj48.symm dj69 dj49.symm dj73 dj52 H) (fun v w' h w2 e=>qf (by kernel_rfl)) ?_
                   rintro v_g w40 ⟨hgl9,_,g,t670_,a0u,a1l,p7,p8,p9,r0,rfl,hg,hB18,hM5,hB19,hM6,hi17,dj114,dj115,dj116,dj117,dj118,dj119,H⟩
                   have k182:=(k166.g0 hg20).goL hgl9 (apC (Dj.new k42.lt' (Ge.box hl4)).symm (apC (Dj.new k43.lt' (Ge.box hl4)).symm (apC (Dj.new k39.lt' (Ge.box hl4)).symm (k46.new (Ge.box hl4)))))
                   refine zl rfl rfl (fun w' hw'=>zc qY rfl) (z8 (za (zd (zO (fun k => !(Nat.beq k 4 || Nat.beq k 5 || Nat.beq k 8 || Nat.beq k 9 || Nat.beq k 10 || Nat.beq k 11)) (LD [3,7] (fun w'=>Bl w' g4 42 [.int .i64 ((l.getD i.toNat (0,0,0,[])).1),.int .i64 ((l.getD i.toNat (0,0,0,[])).2.1),.int .i64 ((l.getD i.toNat (0,0,0,[])).2.2.1),vs ((l.getD i.toNat (0,0,0,[])).2.2.2)])) mixed (by kernel_rfl) (fun k w' h _=>(ji h k182)) (zl rfl rfl (fun w' hw'=>zc qY rfl) (zl rfl rfl (fun w' hw'=>zc qY rfl) (zl rfl rfl (fun w' hw'=>zc qY rfl) (zl rfl rfl (fun w' hw'=>zk qY (hw' rfl) rfl rfl rfl) (WJ.call rfl (je) rfl rfl (j6 H) (fun v w' h w2 e=>DD.keep (ji (eqvL h.1 e) k182)) ?_)))))))))
                   rintro _ _ ⟨rfl,t128,rfl,H⟩
                   refine WJ.call rfl (je) rfl rfl (Zt H) (fun v w' h w2 e=>DD.keep (Bl.g0 k182 (jg h.1 e))) ?_
                   rintro _ w41 ⟨hg21,t129,rfl,H⟩
                   have k192:=k182.g0 hg21
                   refine zl rfl rfl (fun w' hw'=>zc qY rfl) (zl rfl rfl (fun w' hw'=>zk qY (hw' rfl) rfl rfl rfl) (WJ.call rfl (je) rfl rfl (j6 H) (fun v w' h w2 e=>DD.keep (ji (eqvL h.1 e) k192)) ?_))
                   rintro _ _ ⟨rfl,t132,rfl,H⟩
                   refine WJ.call rfl (je) rfl rfl (Zt H) (fun v w' h w2 e=>DD.keep (Bl.g0 k192 (jg h.1 e))) ?_
                   rintro _ w42 ⟨hg22,t133,rfl,H⟩
                   have gr35:=ja (ja (jC gr32 hgl9 (apC hi9 (apC hi10 (apC (Ge.le hge4 (qZ gr2)) hi12)))) hg21) hg22
                   have k194:=(hB19.g0 hg21).g0 hg22
                   have k195:=((k168.goL hgl9 (apC dj54 (apC dj55 (apC (Dj.new k7.lt' hge7).symm dj58)))).g0 hg21).g0 hg22
                   have k196:=((k169.goL hgl9 (apC dj60 (apC dj61 (apC (Dj.new k7.lt' hge8).symm dj64)))).g0 hg21).g0 hg22
                   have k197:=(hB18.g0 hg21).g0 hg22
                   have k198:=(hM5.g0 hg21).g0 hg22
                   have k199:=((k172.goL hgl9 (apC dj67.symm (apC dj71.symm (apC dj50.symm dj76)))).g0 hg21).g0 hg22
                   have k200:=((k173.goL hgl9 (apC dj68.symm (apC dj72.symm (apC dj51.symm dj78)))).grown hg21).grown hg22
                   have k201:=(hM6.g0 hg21).g0 hg22
                   have k202:=((k175.goL hgl9 (apC dj70.symm (apC dj74.symm (apC dj53.symm dj80)))).grown hg21).grown hg22
                   refine WJ.call rfl je rfl rfl (W_psmithyref17_Cache_Put (k202.base (fun _ _=>Nat.zero_le _)) rfl k195 k196 (k200.base (fun _ _=>Nat.zero_le _)) rfl k199 dj75 dj62.symm dj56.symm dj77 dj63.symm dj57.symm dj79 dj39.symm.symm dj65 dj59 H) (fun v w' h w2 e=>qf (by kernel_rfl)) ?_
                   rintro _ w43 ⟨hgl10,t134,t720_,y8,a1w,a1y,t0,t1,t2,i3,i4,i5,i6,i7,e8,a0i,a0o,rfl,hB20,hO12,hi18,hB21,hB22,hO13,hi19,dj120,dj121,dj122,dj123,dj124,dj125,dj126,dj127,dj128,dj129,H⟩
                   have hO14:=hO12.base (InP.toGe hi18 (apC hi11 (apC k200.ge' (apC (Ge.le hge8 (qZ gr8)) (apC (Ge.le hge7 (qZ gr8)) (apC k202.ge' apN))))) (qZ gr35))
                   have hO15:=hO13.base (InP.toGe hi19 (apC hi11 (apC k200.ge' (apC (Ge.le hge8 (qZ gr8)) (apC (Ge.le hge7 (qZ gr8)) (apC k202.ge' apN))))) (qZ gr35))
                   have gr36:=jC gr35 hgl10 (apC hi11 (apC k200.ge' (apC (Ge.le hge8 (qZ gr8)) (apC (Ge.le hge7 (qZ gr8)) (apC k202.ge' apN)))))
                   have k209:=(k192.g0 hg22).goL hgl10 (apC (Dj.new k44.lt' (Ge.box hl4)).symm (apC (Dj.new k45.lt' (Ge.box hl4)).symm (apC (Dj.new k41.lt' (Ge.box hl4)).symm (apC (Dj.new k40.lt' (Ge.box hl4)).symm (apC (Dj.new k47.lt' (Ge.box hl4)).symm apN)))))
                   refine WJ.call rfl (je) rfl rfl (kx (hG.grown gr36) hS0 hS1 hS2 hS3 hS4 hS5 hS6 hS7 hS8 hS9 hS10 hS11 hS12 hS13 hS14 hS15 hS16 (ErrR.goB ((hg.grown hg21).grown hg22) (GB.grown hG gr35) hgl10 (apC hi11 (apC k200.ge' (apC (Ge.le hge8 (qZ gr8)) (apC (Ge.le hge7 (qZ gr8)) (apC k202.ge' apN))))) (apC (NoAt.bl k199 rfl) (apC (NoAt.ownK k200 rfl) (apC (NoAt.bl k196 rfl) (apC (NoAt.bl k195 rfl) (apC (NoAt.ownK k202 rfl) apN)))))) H) (fun v w' h w2 e=>DD.keep (Bl.g0 k209 (jg h.1 e))) ?_
                   rintro _ w44 ⟨hg23,t135,rfl,H⟩
                   have gr37:=ja gr36 hg23
                   have k218:=k209.g0 hg23
                   refine zl rfl rfl (fun w' hw'=>zc qY rfl) (z8 (za (zp rfl (fun b17=>?_) (fun b17=>?_))))
                   ·replace H:=H.1 (b17)
                    exact zd (zb (yp (h:=(zf (za (zq (zn (zh (zn (zh (zh (zn (zh (zw rfl rfl ⟨gr37,false,rfl,H⟩))))))))))))))
                   ·replace H:=H.2 (b17)
                    refine zo (zi ?_)
                    exact WX.weaken sb (hQ _ _ ⟨g_c,t670_,a0u,d3,g_y,t720_,y8,a1w,a1y,y8.length,p7,a1l,p8,p9,r0,i3,i4,i5,i6,i7,e8,a0i,a0o,e8.length,t0,t1,t2,rfl,H,rfl,rfl,gr37,((k194.goL hgl10 (apC dj50 (apC dj51 (apC (Dj.new k7.lt' hge8) (apC (Dj.new k7.lt' hge7) (apC dj53 apN)))))).g0 hg23),(hB22.g0 hg23),(hB21.g0 hg23),((k197.goL hgl10 (apC dj67 (apC dj68 (apC dj60.symm (apC dj54.symm (apC dj70 apN)))))).g0 hg23),((k198.goL hgl10 (apC dj71 (apC dj72 (apC dj61.symm (apC dj55.symm (apC dj74 apN)))))).g0 hg23),(hB20.g0 hg23),(hO14.grown hg23),((k201.goL hgl10 (apC (InA.dj hi17 k172.lt' (apC dj67.symm (apC dj71.symm (apC dj50.symm dj76)))) (apC (InA.dj hi17 k173.lt' (apC dj68.symm (apC dj72.symm (apC dj51.symm dj78)))) (apC (InA.dj hi17 k169.lt' (apC dj60 (apC dj61 (apC (Dj.new k7.lt' hge8).symm dj64)))) (apC (InA.dj hi17 k168.lt' (apC dj54 (apC dj55 (apC (Dj.new k7.lt' hge7).symm dj58)))) (apC (InA.dj hi17 k175.lt' (apC dj70.symm (apC dj74.symm (apC dj53.symm dj80)))) apN)))))).g0 hg23),(hO15.grown hg23),dj115.symm,dj117.symm,dj50,(InP.dj hi18 k194.lt' (apC dj50 (apC dj51 (apC (Dj.new k7.lt' hge8) (apC (Dj.new k7.lt' hge7) (apC dj53 apN)))))).symm,dj119,(InP.dj hi19 k194.lt' (apC dj50 (apC dj51 (apC (Dj.new k7.lt' hge8) (apC (Dj.new k7.lt' hge7) (apC dj53 apN)))))).symm,dj54,dj55,dj122.symm,dj125.symm,(InA.dj hi17 k168.lt' (apC dj54 (apC dj55 (apC (Dj.new k7.lt' hge7).symm dj58)))),dj129,dj60,dj61,dj121.symm,dj124.symm,(InA.dj hi17 k169.lt' (apC dj60 (apC dj61 (apC (Dj.new k7.lt' hge8).symm dj64)))),dj128,dj114,dj67,(InP.dj hi18 k197.lt' (apC dj67 (apC dj68 (apC dj60.symm (apC dj54.symm (apC dj70 apN)))))).symm,dj116,(InP.dj hi19 k197.lt' (apC dj67 (apC dj68 (apC dj60.symm (apC dj54.symm (apC dj70 apN)))))).symm,dj71,(InP.dj hi18 k198.lt' (apC dj71 (apC dj72 (apC dj61.symm (apC dj55.symm (apC dj74 apN)))))).symm,dj118,(InP.dj hi19 k198.lt' (apC dj71 (apC dj72 (apC dj61.symm (apC dj55.symm (apC dj74 apN)))))).symm,dj120,(InA.dj hi17 k172.lt' (apC dj67.symm (apC dj71.symm (apC dj50.symm dj76)))),dj123,(k201.inp hi18 (apC (InA.dj hi17 k172.lt' (apC dj67.symm (apC dj71.symm (apC dj50.symm dj76)))) (apC (InA.dj hi17 k173.lt' (apC dj68.symm (apC dj72.symm (apC dj51.symm dj78)))) (apC (InA.dj hi17 k169.lt' (apC dj60 (apC dj61 (apC (Dj.new k7.lt' hge8).symm dj64)))) (apC (InA.dj hi17 k168.lt' (apC dj54 (apC dj55 (apC (Dj.new k7.lt' hge7).symm dj58)))) (apC (InA.dj hi17 k175.lt' (apC dj70.symm (apC dj74.symm (apC dj53.symm dj80)))) apN)))))),dj126,(k201.inp hi19 (apC (InA.dj hi17 k172.lt' (apC dj67.symm (apC dj71.symm (apC dj50.symm dj76)))) (apC (InA.dj hi17 k173.lt' (apC dj68.symm (apC dj72.symm (apC dj51.symm dj78)))) (apC (InA.dj hi17 k169.lt' (apC dj60 (apC dj61 (apC (Dj.new k7.lt' hge8).symm dj64)))) (apC (InA.dj hi17 k168.lt' (apC dj54 (apC dj55 (apC (Dj.new k7.lt' hge7).symm dj58)))) (apC (InA.dj hi17 k175.lt' (apC dj70.symm (apC dj74.symm (apC dj53.symm dj80)))) apN)))))),hi9,hi10,hi11,(InA.toGe hi17 (apC hi9 (apC hi10 (apC (Ge.le hge4 (qZ gr2)) hi12))) (qZ gr32))⟩)
                  ·replace H:=H.2 (of_decide_eq_false b16)
                   refine zd (zb (yp (h:=(yp (h:=(zf (za (zp rfl (fun b18=>?_) (fun b18=>?_)))))))))
                   ·replace H:=H.1 (of_decide_eq_true b18)
                    refine zd (zb (yp (h:=(WL.call rfl rfl (W_pcache_Cache_Sync (GB.grown hG gr21) (qZ gr21) (apC hi9 (apC hi10 (apC (Ge.le hge4 (qZ gr2)) hi12))) hS11 hS15 hS100 k64 k57 k61 k60 dj66 dj48.symm dj69 dj49.symm dj73 dj52 H) ?_))))
                    rintro v_t140 w45 ⟨hgl11,_,t140,a0v,a0w,a1m,r1,r2,r3,r4,rfl,ht140,hB23,hM7,hB24,hM8,hi20,dj130,dj131,dj132,dj133,dj134,dj135,H⟩
                    have gr38:=jC gr21 hgl11 (apC hi9 (apC hi10 (apC (Ge.le hge4 (qZ gr2)) hi12)))
                    have k221:=k58.goL hgl11 (apC dj54 (apC dj55 (apC (Dj.new k7.lt' hge7).symm dj58)))
                    have k222:=k59.goL hgl11 (apC dj60 (apC dj61 (apC (Dj.new k7.lt' hge8).symm dj64)))
                    have k223:=k62.goL hgl11 (apC dj67.symm (apC dj71.symm (apC dj50.symm dj76)))
                    have k224:=k63.goL hgl11 (apC dj68.symm (apC dj72.symm (apC dj51.symm dj78)))
                    have k225:=k65.goL hgl11 (apC dj70.symm (apC dj74.symm (apC dj53.symm dj80)))
                    refine yp (h:=(WL.call rfl rfl (ZG (k225.base (fun _ _=>Nat.zero_le _)) rfl k221 k222 dj39.symm.symm dj65 dj59 H) ?_))
                    rintro _ w46 ⟨hgl12,t142,t3,t4,t5,i8,i9,l0,l1,l2,e9,a0j,a0p,rfl,hB25,hB26,hO16,hi21,dj136,dj137,dj138,H⟩
                    have hO17:=hO16.base (InP.toGe hi21 (apC (Ge.le hge8 (qZ gr8)) (apC (Ge.le hge7 (qZ gr8)) (apC k225.ge' apN))) (qZ gr38))
                    have gr39:=jC gr38 hgl12 (apC (Ge.le hge8 (qZ gr8)) (apC (Ge.le hge7 (qZ gr8)) (apC k225.ge' apN)))
                    refine WL.call rfl rfl (kx (hG.grown gr39) hS0 hS1 hS2 hS3 hS4 hS5 hS6 hS7 hS8 hS9 hS10 hS11 hS12 hS13 hS14 hS15 hS16 (ErrR.goB ht140 (GB.grown hG gr38) hgl12 (apC (Ge.le hge8 (qZ gr8)) (apC (Ge.le hge7 (qZ gr8)) (apC k225.ge' apN))) (apC (NoAt.bl k222 rfl) (apC (NoAt.bl k221 rfl) (apC (NoAt.ownK k225 rfl) apN)))) H) ?_
                    rintro _ w47 ⟨hg24,t143,rfl,H⟩
                    have gr40:=ja gr39 hg24
                    refine yp (h:=(zf (za (zp rfl (fun b19=>?_) (fun b19=>?_)))))
                    ·replace H:=H.1 (b19)
                     exact zd (zb (yp (h:=(zf (za (zq (zn (zh (zn (zh (zh (zn (zh (zw rfl rfl ⟨gr40,false,rfl,H⟩))))))))))))))
                    ·replace H:=H.2 (b19)
                     refine zo (zi ?_)
                     exact WX.weaken sb (hQ _ _ ⟨g_c,a0v,a0w,d3,g_y,y1,y2,e1,o6,y2.length,r1,a1m,r2,r3,r4,i8,i9,l0,l1,l2,e9,a0j,a0p,e9.length,t3,t4,t5,rfl,H,rfl,rfl,gr40,((hB24.goL hgl12 (apC (Dj.new k7.lt' hge8) (apC (Dj.new k7.lt' hge7) (apC dj53 apN)))).g0 hg24),(hB26.g0 hg24),(hB25.g0 hg24),((hB23.goL hgl12 (apC dj60.symm (apC dj54.symm (apC dj70 apN)))).g0 hg24),((hM7.goL hgl12 (apC dj61.symm (apC dj55.symm (apC dj74 apN)))).g0 hg24),((k223.goL hgl12 (apC dj62.symm (apC dj56.symm (apC dj77 apN)))).g0 hg24),((k224.goL hgl12 (apC dj63.symm (apC dj57.symm (apC dj79 apN)))).grown hg24),((hM8.goL hgl12 (apC (InA.dj hi20 k59.lt' (apC dj60 (apC dj61 (apC (Dj.new k7.lt' hge8).symm dj64)))) (apC (InA.dj hi20 k58.lt' (apC dj54 (apC dj55 (apC (Dj.new k7.lt' hge7).symm dj58)))) (apC (InA.dj hi20 k65.lt' (apC dj70.symm (apC dj74.symm (apC dj53.symm dj80)))) apN)))).g0 hg24),(hO17.grown hg24),dj131.symm,dj133.symm,dj50,dj51,dj135,(InP.dj hi21 hB24.lt' (apC (Dj.new k7.lt' hge8) (apC (Dj.new k7.lt' hge7) (apC dj53 apN)))).symm,dj54,dj55,dj56,dj57,(InA.dj hi20 k58.lt' (apC dj54 (apC dj55 (apC (Dj.new k7.lt' hge7).symm dj58)))),dj138,dj60,dj61,dj62,dj63,(InA.dj hi20 k59.lt' (apC dj60 (apC dj61 (apC (Dj.new k7.lt' hge8).symm dj64)))),dj137,dj130,dj67,dj68,dj132,(InP.dj hi21 hB23.lt' (apC dj60.symm (apC dj54.symm (apC dj70 apN)))).symm,dj71,dj72,dj134,(InP.dj hi21 hM7.lt' (apC dj61.symm (apC dj55.symm (apC dj74 apN)))).symm,dj75,(InA.dj hi20 k62.lt' (apC dj67.symm (apC dj71.symm (apC dj50.symm dj76)))),(InP.dj hi21 k223.lt' (apC dj62.symm (apC dj56.symm (apC dj77 apN)))).symm,(InA.dj hi20 k63.lt' (apC dj68.symm (apC dj72.symm (apC dj51.symm dj78)))),(InP.dj hi21 k224.lt' (apC dj63.symm (apC dj57.symm (apC dj79 apN)))).symm,(hM8.inp hi21 (apC (InA.dj hi20 k59.lt' (apC dj60 (apC dj61 (apC (Dj.new k7.lt' hge8).symm dj64)))) (apC (InA.dj hi20 k58.lt' (apC dj54 (apC dj55 (apC (Dj.new k7.lt' hge7).symm dj58)))) (apC (InA.dj hi20 k65.lt' (apC dj70.symm (apC dj74.symm (apC dj53.symm dj80)))) apN)))),hi9,hi10,hi11,(InA.toGe hi20 (apC hi9 (apC hi10 (apC (Ge.le hge4 (qZ gr2)) hi12))) (qZ gr21))⟩)
                   ·replace H:=H.2 (of_decide_eq_false b18)
                    refine zd (zb (yp (h:=(yp (h:=(zf (za (zp rfl (fun b20=>?_) (fun b20=>?_)))))))))
                    ·replace H:=H.1 (of_decide_eq_true b20)
                     refine zd (zb (yp (h:=(yp (h:=(zg rfl (zk qY hB17 rfl rfl rfl) (WL.call rfl rfl (j6 H) ?_)))))))
                     rintro _ _ ⟨rfl,t151,rfl,H⟩
                     refine WL.call rfl rfl (Zf H) ?_
                     rintro _ w48 ⟨hg25,t152,rfl,H⟩
                     have k242:=k57.g0 hg25
                     have k245:=k60.g0 hg25
                     have k246:=k61.g0 hg25
                     have k249:=k64.g0 hg25
                     refine WL.call rfl rfl (W_pcache_Cache_Get k249 k242 k246 k245 H) ?_
                     rintro _ w49 ⟨hg26,t1530,t1531,rfl,H⟩
                     have gr42:=ja (ja gr21 hg25) hg26
                     have k252:=k242.g0 hg26
                     have k253:=(k58.g0 hg25).g0 hg26
                     have k254:=(k59.g0 hg25).g0 hg26
                     have k255:=k245.g0 hg26
                     have k256:=k246.g0 hg26
                     have k257:=(k62.g0 hg25).g0 hg26
                     have k258:=(k63.grown hg25).grown hg26
                     have k259:=k249.g0 hg26
                     have k260:=(k65.grown hg25).grown hg26
                     have k261:=(hB17.g0 hg25).g0 hg26
                     refine yp (h:=(yp (h:=(yp (h:=(WL.alloc rfl zero45 (fun g5 w50 hB27 hg27 hl5=>?_)))))))
                     rw [kc] at hB27
                     refine zP (vs:=(a32 t1530)) qY rfl rfl rfl (jq _) hB27 rfl rfl (fun w51 hB28 hg28=>yp (h:=(zf (za (zd (zb (yp (h:=(yp (h:=(zg rfl (zk qY ((k261.g0 hg27).go hg28 (Dj.new k261.lt' (Ge.box hl5))) rfl rfl rfl) (WL.call rfl rfl (j6 H) ?_))))))))))))
                     rintro _ _ ⟨rfl,t160,rfl,H⟩
                     refine WL.call rfl rfl (Zt H) ?_
                     rintro _ w52 ⟨hg29,t161,rfl,H⟩
                     have k287:=((k257.g0 hg27).go hg28 (Dj.new k257.lt' (Ge.box hl5))).g0 hg29
                     have k288:=((k258.grown hg27).go hg28 (Dj.new k258.lt' (Ge.box hl5))).grown hg29
                     refine WL.call rfl rfl (Zz rfl k288.rd rfl k287 H) ?_
                     rintro _ w53 ⟨hg30,t1620,t1621,rfl,H⟩
                     have gr46:=ja (ja (jk (ja gr42 hg27) hg28 (Ge.le (Ge.box hl5) (qZ gr42))) hg29) hg30
                     have k292:=(((k252.g0 hg27).go hg28 (Dj.new k252.lt' (Ge.box hl5))).g0 hg29).g0 hg30
                     have k293:=(((k253.g0 hg27).go hg28 (Dj.new k253.lt' (Ge.box hl5))).g0 hg29).g0 hg30
                     have k294:=(((k254.g0 hg27).go hg28 (Dj.new k254.lt' (Ge.box hl5))).g0 hg29).g0 hg30
                     have k295:=(((k255.g0 hg27).go hg28 (Dj.new k255.lt' (Ge.box hl5))).g0 hg29).g0 hg30
                     have k296:=(((k256.g0 hg27).go hg28 (Dj.new k256.lt' (Ge.box hl5))).g0 hg29).g0 hg30
                     have k297:=k287.g0 hg30
                     have k298:=k288.grown hg30
                     have k299:=(((k259.g0 hg27).go hg28 (k259.new (Ge.box hl5))).g0 hg29).g0 hg30
                     have k300:=(((k260.grown hg27).go hg28 (Dj.new k260.lt' (Ge.box hl5))).grown hg29).grown hg30
                     have k301:=(hB28.g0 hg29).g0 hg30
                     refine yp (h:=(yp (h:=(yp (h:=(WL.alloc rfl zero44 (fun g6 w54 hB29 hg31 hl6=>?_)))))))
                     rw [kc] at hB29
                     refine zP (vs:=(a32 t1620)) qY rfl rfl rfl (jq _) hB29 rfl rfl (fun w55 hB30 hg32=>?_)
                     have gr48:=jk (ja gr46 hg31) hg32 (Ge.le (Ge.box hl6) (qZ gr46))
                     have k312:=(k292.g0 hg31).go hg32 (Dj.new k292.lt' (Ge.box hl6))
                     have k313:=(k293.g0 hg31).go hg32 (Dj.new k293.lt' (Ge.box hl6))
                     have k314:=(k294.g0 hg31).go hg32 (Dj.new k294.lt' (Ge.box hl6))
                     have k315:=(k295.g0 hg31).go hg32 (Dj.new k295.lt' (Ge.box hl6))
                     have k316:=(k296.g0 hg31).go hg32 (Dj.new k296.lt' (Ge.box hl6))
                     have k317:=(k297.g0 hg31).go hg32 (Dj.new k297.lt' (Ge.box hl6))
                     have k318:=(k298.grown hg31).go hg32 (Dj.new k298.lt' (Ge.box hl6))
                     have k319:=(k299.g0 hg31).go hg32 (k299.new (Ge.box hl6))
                     have k320:=(k300.grown hg31).go hg32 (Dj.new k300.lt' (Ge.box hl6))
                     refine yp (h:=(zf (za (zd (zb (yp (h:=(yp (h:=(zg rfl (qS Tryz.underlying4 rfl rfl) (yp (h:=?_))))))))))))
                     obtain ⟨J6,H,hJ6⟩:=H
                     refine zL 5 (fun L' w'=>∃ q23:Bool,L'=[(173,.bool q23),(1,.slice A_l l.length c_l),(6,.pointer (some ⟨a2,0,none⟩)),(8,.pointer (some ⟨a1,0,none⟩)),(10,.pointer (some ⟨g_c,0,none⟩)),(12,.pointer (some ⟨g_y,0,none⟩)),(13,.int .i64 i)]/\J6 q23/\w.grownBy w' none/\Bl w' a2 81 [.map (some a0),.int .i64 t4501,.int .i64 t4502,.bool t4503]/\Bl w' a3 89 [vs b0,.bool c0,vs c3,.bool c4,vs c5,.slice a5 a8.length d7]/\Bl w' a1 73 [.slice (some ⟨a3,0,none⟩) 1 1,.int .i64 t5201,.int .i64 t5202,.bool t5203]/\Bl w' g_c 95 [.pointer (some ⟨a2,0,none⟩),vs c1,.map (some d3)]/\MapB vA okA vA w' d3 c2/\Bl w' g_y 66 [.pointer (some ⟨a1,0,none⟩),vs y1,.slice e1 y2.length o6]/\OwnK 64 jv w' w.heap.size 104 e1 o6 y2/\jc pe86 w' a0 a9 t4500 none/\OwnK 3 jw w' w.heap.size 127 a5 d7 a8) ?_ (fun hQ=>?_)
                     ·clear H
                      rintro _ w56 ⟨q23,rfl,H,gr49,k322,k323,k324,k325,k326,k327,k328,k329,k330⟩
                      replace H:=hJ6 q23 H
                      refine zf (za (zp rfl (fun b21=>?_) (fun b21=>?_)))
                      ·replace H:=H.1 (b21)
                       exact zd (zb (yp (h:=(zf (za (zq (zn (zh (zn (zh (zh (zn (zh (zw rfl rfl ⟨gr49,false,rfl,H⟩))))))))))))))
                      ·replace H:=H.2 (b21)
                       exact zo (zi (WX.weaken sb (hQ _ _ ⟨g_c,c1,c2,d3,g_y,y1,y2,e1,o6,y2.length,t4500,a9,t4501,t4502,t4503,b0,c0,c3,c4,c5,a8,a5,d7,a8.length,t5201,t5202,t5203,rfl,H,rfl,rfl,gr49,k322,k323,k324,k325,k326,k327,k328,k329,k330,dj48,dj49,dj50,dj51,dj52,dj53,dj54,dj55,dj56,dj57,dj58,dj59,dj60,dj61,dj62,dj63,dj64,dj65,dj66,dj67,dj68,dj69,dj70,dj71,dj72,dj73,dj74,dj75,dj76,dj77,dj78,dj79,dj80,hi9,hi10,hi11,hi12⟩)))
                     ·clear hJ6
                      rcases Bool.eq_false_or_eq_true (!(t1531 == t1621)) with b22 | b22
                      ·replace H:=H.1 b22
                       exact gn b22 (h:=(gn b22 (h:=(gn b22 (h:=(gn b22 (h:=(zg rfl (zt (okb b22) rfl) (wk (hQ _ _ ⟨true,rfl,H,gr48,k312,k313,k314,k315,k316,k317,k318,k319,k320⟩))))))))))
                      ·replace H:=H.2 b22
                       refine ze rfl rfl (okb b22) rfl (zQ (vs:=(a32 t1530)) qY ((k301.g0 hg31).go hg32 (Dj.new k301.lt' (Ge.box hl6))) rfl rfl rfl rfl) (ze rfl rfl (okb b22) rfl (zQ (vs:=(a32 t1620)) qY hB30 rfl rfl rfl rfl) (qN (jb rfl rfl (okb b22)) rfl rfl (jN H) ?_))
                       rintro _ w57 ⟨hg33,t171,rfl,H⟩
                       exact gp b22 (h:=(zg rfl (zr (okb b22) rfl) (wk (hQ _ _ ⟨!t171,rfl,H,(ja gr48 hg33),(k312.g0 hg33),(k313.g0 hg33),(k314.g0 hg33),(k315.g0 hg33),(k316.g0 hg33),(k317.g0 hg33),(k318.grown hg33),(k319.g0 hg33),(k320.grown hg33)⟩))))
                    ·replace H:=H.2 (of_decide_eq_false b20)
                     refine zd (zb (yp (h:=(yp (h:=(zf (za (zp rfl (fun b23=>?_) (fun b23=>?_)))))))))
                     ·replace H:=H.1 (of_decide_eq_true b23)
                      refine zd (zb (yp (h:=(yp (h:=(zg rfl (zk qY hB17 rfl rfl rfl) (WL.call rfl rfl (kK H) ?_)))))))
                      rintro _ _ ⟨rfl,t179,rfl,H⟩
                      refine WL.call rfl rfl (W_pdisk_Disk_Arm k64 k57 dj52 H) ?_
                      rintro _ w58 ⟨hgl13,a1n,r5,r6,r7,r8,rfl,hB31,hM9,hi22,dj139,H⟩
                      have gr51:=jC gr21 hgl13 (apC (Ge.le hge4 (qZ gr2)) hi12)
                      have k340:=k58.goL hgl13 (apC (Dj.new k7.lt' hge7).symm dj58)
                      have k341:=k59.goL hgl13 (apC (Dj.new k7.lt' hge8).symm dj64)
                      have k342:=k60.goL hgl13 (apC dj48.symm dj69)
                      have k343:=k61.goL hgl13 (apC dj49.symm dj73)
                      have k344:=k62.goL hgl13 (apC dj50.symm dj76)
                      have k345:=k63.goL hgl13 (apC dj51.symm dj78)
                      have k346:=k65.goL hgl13 (apC dj53.symm dj80)
                      refine zf (za (zb (yp (h:=(yp (h:=(zg rfl (zk qY (hB17.goL hgl13 (apC (Dj.new k39.lt' (Ge.box hl4)).symm (k46.new (Ge.box hl4)))) rfl rfl rfl) (WL.call rfl rfl (kK H) ?_))))))))
                      rintro _ _ ⟨rfl,t184,rfl,H⟩
                      refine WL.call rfl rfl (W_psmithyref3_Disk_Arm (k346.base (fun _ _=>Nat.zero_le _)) rfl k340 k341 dj39.symm.symm dj65 dj59 H) ?_
                      rintro _ w59 ⟨hgl14,t6,t7,t8,l3,l4,l5,l6,l7,f0,a0k,a0q,rfl,hB32,hB33,hO18,hi23,dj140,dj141,dj142,H⟩
                      have hO19:=hO18.base (InP.toGe hi23 (apC (Ge.le hge8 (qZ gr8)) (apC (Ge.le hge7 (qZ gr8)) (apC k346.ge' apN))) (qZ gr51))
                      refine zf (zi ?_)
                      exact WX.weaken sb (hQ _ _ ⟨g_c,c1,c2,d3,g_y,y1,y2,e1,o6,y2.length,r5,a1n,r6,r7,r8,l3,l4,l5,l6,l7,f0,a0k,a0q,f0.length,t6,t7,t8,rfl,H,rfl,rfl,(jC gr51 hgl14 (apC (Ge.le hge8 (qZ gr8)) (apC (Ge.le hge7 (qZ gr8)) (apC k346.ge' apN)))),(hB31.goL hgl14 (apC (Dj.new k7.lt' hge8) (apC (Dj.new k7.lt' hge7) (apC dj53 apN)))),hB33,hB32,(k342.goL hgl14 (apC dj60.symm (apC dj54.symm (apC dj70 apN)))),(k343.goL hgl14 (apC dj61.symm (apC dj55.symm (apC dj74 apN)))),(k344.goL hgl14 (apC dj62.symm (apC dj56.symm (apC dj77 apN)))),(k345.goL hgl14 (apC dj63.symm (apC dj57.symm (apC dj79 apN)))),(hM9.goL hgl14 (apC (InA.dj hi22 k59.lt' (apC (Dj.new k7.lt' hge8).symm dj64)) (apC (InA.dj hi22 k58.lt' (apC (Dj.new k7.lt' hge7).symm dj58)) (apC (InA.dj hi22 k65.lt' (apC dj53.symm dj80)) apN)))),hO19,dj48,dj49,dj50,dj51,dj139,(InP.dj hi23 hB31.lt' (apC (Dj.new k7.lt' hge8) (apC (Dj.new k7.lt' hge7) (apC dj53 apN)))).symm,dj54,dj55,dj56,dj57,(InA.dj hi22 k58.lt' (apC (Dj.new k7.lt' hge7).symm dj58)),dj142,dj60,dj61,dj62,dj63,(InA.dj hi22 k59.lt' (apC (Dj.new k7.lt' hge8).symm dj64)),dj141,dj66,dj67,dj68,(InA.dj hi22 k60.lt' (apC dj48.symm dj69)),(InP.dj hi23 k342.lt' (apC dj60.symm (apC dj54.symm (apC dj70 apN)))).symm,dj71,dj72,(InA.dj hi22 k61.lt' (apC dj49.symm dj73)),(InP.dj hi23 k343.lt' (apC dj61.symm (apC dj55.symm (apC dj74 apN)))).symm,dj75,(InA.dj hi22 k62.lt' (apC dj50.symm dj76)),(InP.dj hi23 k344.lt' (apC dj62.symm (apC dj56.symm (apC dj77 apN)))).symm,(InA.dj hi22 k63.lt' (apC dj51.symm dj78)),(InP.dj hi23 k345.lt' (apC dj63.symm (apC dj57.symm (apC dj79 apN)))).symm,(hM9.inp hi23 (apC (InA.dj hi22 k59.lt' (apC (Dj.new k7.lt' hge8).symm dj64)) (apC (InA.dj hi22 k58.lt' (apC (Dj.new k7.lt' hge7).symm dj58)) (apC (InA.dj hi22 k65.lt' (apC dj53.symm dj80)) apN)))),hi9,hi10,hi11,(InA.toGe hi22 (apC (Ge.le hge4 (qZ gr2)) hi12) (qZ gr21))⟩)
                     ·replace H:=H.2 (of_decide_eq_false b23)
                      refine zd (zb (yp (h:=(yp (h:=(zf (za (zp rfl (fun b24=>?_) (fun b24=>?_)))))))))
                      ·replace H:=H.1 (of_decide_eq_true b24)
                       refine zd (zb (yp (h:=(yp (h:=(zg rfl (zk qY hB17 rfl rfl rfl) (yp (h:=(zg rfl (zk qY hB17 rfl rfl rfl) (WL.call rfl rfl (W_pdisk_Disk_Rise k64 k57 dj52 H) ?_))))))))))
                       rintro _ w60 ⟨hgl15,a2u,a0z,a1a,a1b,a1c,rfl,hB34,hM10,hi24,dj143,H⟩
                       have gr53:=jC gr21 hgl15 (apC (Ge.le hge4 (qZ gr2)) hi12)
                       have k354:=k58.goL hgl15 (apC (Dj.new k7.lt' hge7).symm dj58)
                       have k355:=k59.goL hgl15 (apC (Dj.new k7.lt' hge8).symm dj64)
                       have k356:=k60.goL hgl15 (apC dj48.symm dj69)
                       have k357:=k61.goL hgl15 (apC dj49.symm dj73)
                       have k358:=k62.goL hgl15 (apC dj50.symm dj76)
                       have k359:=k63.goL hgl15 (apC dj51.symm dj78)
                       have k360:=k65.goL hgl15 (apC dj53.symm dj80)
                       have k361:=hB17.goL hgl15 (apC (Dj.new k39.lt' (Ge.box hl4)).symm (k46.new (Ge.box hl4)))
                       refine zf (za (zd (zb (yp (h:=(yp (h:=(zg rfl (zk qY k361 rfl rfl rfl) (yp (h:=(zg rfl (zk qY k361 rfl rfl rfl) (WL.call rfl rfl (W_psmithyref3_Disk_Rise (k360.base (fun _ _=>Nat.zero_le _)) rfl k354 k355 dj39.symm.symm dj65 dj59 H) ?_))))))))))))
                       rintro _ w61 ⟨hgl16,t9,u0,u1,l8,l9,m0,m1,m2,m3,a2h,a2k,rfl,hB35,hB36,hO20,hi25,dj144,dj145,dj146,H⟩
                       have hO21:=hO20.base (InP.toGe hi25 (apC (Ge.le hge8 (qZ gr8)) (apC (Ge.le hge7 (qZ gr8)) (apC k360.ge' apN))) (qZ gr53))
                       have gr54:=jC gr53 hgl16 (apC (Ge.le hge8 (qZ gr8)) (apC (Ge.le hge7 (qZ gr8)) (apC k360.ge' apN)))
                       have k363:=k356.goL hgl16 (apC dj60.symm (apC dj54.symm (apC dj70 apN)))
                       have k364:=k357.goL hgl16 (apC dj61.symm (apC dj55.symm (apC dj74 apN)))
                       have k365:=k358.goL hgl16 (apC dj62.symm (apC dj56.symm (apC dj77 apN)))
                       have k366:=k359.goL hgl16 (apC dj63.symm (apC dj57.symm (apC dj79 apN)))
                       refine zf (za (zd (zb (yp (h:=(WL.call rfl rfl (W_cache_Open (GB.grown hG gr54) (qZ gr54) (apC (Ge.le hge4 (qZ gr2)) (InA.toGe hi24 (apC (Ge.le hge4 (qZ gr2)) hi12) (qZ gr21))) hS9 hS11 hS12 hS15 hS100 (hM10.goL hgl16 (apC (InA.dj hi24 k59.lt' (apC (Dj.new k7.lt' hge8).symm dj64)) (apC (InA.dj hi24 k58.lt' (apC (Dj.new k7.lt' hge7).symm dj58)) (apC (InA.dj hi24 k65.lt' (apC dj53.symm dj80)) apN)))) (hB34.goL hgl16 (apC (Dj.new k7.lt' hge8) (apC (Dj.new k7.lt' hge7) (apC dj53 apN)))) dj143 H) ?_))))))
                       rintro v_ w62 ⟨hg_,hc_ | hc_⟩
                       ·obtain ⟨v_t2021,t2021,o8,g9,h0,h3,h4,rfl,ht2021,hB37,hM11,hi26,dj147,H⟩:=hc_
                        have hgl17:=hg_
                        have gr55:=jC gr54 hgl17 (apC (Ge.le hge4 (qZ gr2)) (InA.toGe hi24 (apC (Ge.le hge4 (qZ gr2)) hi12) (qZ gr21)))
                        have k368:=hB36.goL hgl17 (apC (Dj.new k7.lt' hge7).symm (InA.dj hi24 k58.lt' (apC (Dj.new k7.lt' hge7).symm dj58)))
                        have k369:=hB35.goL hgl17 (apC (Dj.new k7.lt' hge8).symm (InA.dj hi24 k59.lt' (apC (Dj.new k7.lt' hge8).symm dj64)))
                        have k370:=k363.goL hgl17 (apC dj48.symm (InA.dj hi24 k60.lt' (apC dj48.symm dj69)))
                        have k371:=k364.goL hgl17 (apC dj49.symm (InA.dj hi24 k61.lt' (apC dj49.symm dj73)))
                        have k372:=k365.goL hgl17 (apC dj50.symm (InA.dj hi24 k62.lt' (apC dj50.symm dj76)))
                        have k373:=k366.goL hgl17 (apC dj51.symm (InA.dj hi24 k63.lt' (apC dj51.symm dj78)))
                        have k374:=hO21.goL hgl17 (apC (InP.dj hi25 hB34.lt' (apC (Dj.new k7.lt' hge8) (apC (Dj.new k7.lt' hge7) (apC dj53 apN)))) (hM10.inp hi25 (apC (InA.dj hi24 k59.lt' (apC (Dj.new k7.lt' hge8).symm dj64)) (apC (InA.dj hi24 k58.lt' (apC (Dj.new k7.lt' hge7).symm dj58)) (apC (InA.dj hi24 k65.lt' (apC dj53.symm dj80)) apN)))))
                        refine yp (h:=(yp (h:=(yp (h:=(yp (h:=(yp (h:=(zf (za (zd (zb (yp (h:=(WL.call rfl rfl (Zh (k374.base (fun _ _=>Nat.zero_le _)) rfl k368 k369 dj144 dj145 dj146 H) ?_))))))))))))))))
                        rintro v_ w64 ⟨hg_,hc_ | hc_⟩
                        ·obtain ⟨t2071,u2,u3,u4,m4,m5,m6,m7,m8,f1,a0l,a0r,rfl,hB38,hB39,hO22,hi27,dj148,dj149,dj150,H⟩:=hc_
                         have hgl18:=hg_
                         have hO23:=hO22.base (InP.toGe hi27 (apC (Ge.le hge8 (qZ gr8)) (apC (Ge.le hge7 (qZ gr8)) (apC k374.ge' apN))) (qZ gr55))
                         have gr56:=jC gr55 hgl18 (apC (Ge.le hge8 (qZ gr8)) (apC (Ge.le hge7 (qZ gr8)) (apC k374.ge' apN)))
                         refine yp (h:=(yp (h:=(yp (h:=(yp (h:=(yp (h:=(zf (za (zd (zd (zb (yp (h:=(yp (h:=(WL.call rfl rfl (kx (hG.grown gr56) hS0 hS1 hS2 hS3 hS4 hS5 hS6 hS7 hS8 hS9 hS10 hS11 hS12 hS13 hS14 hS15 hS16 (ErrR.goB ht2021 (GB.grown hG gr55) hgl18 (apC (Ge.le hge8 (qZ gr8)) (apC (Ge.le hge7 (qZ gr8)) (apC k374.ge' apN))) (apC (NoAt.bl k369 rfl) (apC (NoAt.bl k368 rfl) (apC (NoAt.ownK k374 rfl) apN)))) H) ?_)))))))))))))))))))
                         rintro _ w66 ⟨hg34,t212,rfl,H⟩
                         have gr57:=ja gr56 hg34
                         refine yp (h:=(yp (h:=(zL 6 (fun L' w'=>∃ q24:Bool,L'=[(220,.bool q24),(1,.slice A_l l.length c_l),(6,.pointer (some ⟨a2,0,none⟩)),(8,.pointer (some ⟨a1,0,none⟩)),(10,.pointer (some ⟨g_c,0,none⟩)),(12,.pointer (some ⟨g_y,0,none⟩)),(13,.int .i64 i),(20,.pointer none),(22,.pointer none)]/\((!t212) || (!(false == (decide (t2071=(0:Int))))))=q24/\w66=w') ?_ (fun hQ=>?_)))))
                         ·rintro _ _ ⟨q24,rfl,rfl,rfl⟩
                          refine zf (za (zp rfl (fun b25=>?_) (fun b25=>?_)))
                          ·replace H:=H.1 (b25)
                           exact zd (zb (yp (h:=(zf (za (zq (zh (zn (zh (zn (zh (zh (zn (zh (zw rfl rfl ⟨gr57,false,rfl,H⟩)))))))))))))))
                          ·replace H:=H.2 (b25)
                           refine zo (za (zd (zb (yp (h:=(zg rfl (qu Tryz.underlying35 rfl rfl) (zf (za (zp rfl (fun h=>by cases h) (fun _=>zo (zi ?_)))))))))))
                           exact WX.weaken sb (hQ _ _ ⟨g_c,c1,c2,d3,g_y,y1,y2,e1,o6,y2.length,g9,o8,h0,h3,h4,m4,m5,m6,m7,m8,f1,a0l,a0r,f1.length,u2,u3,u4,rfl,H,rfl,rfl,gr57,((hB37.goL hgl18 (apC (Dj.new k7.lt' hge8) (apC (Dj.new k7.lt' hge7) (apC (InP.dj hi25 hB34.lt' (apC (Dj.new k7.lt' hge8) (apC (Dj.new k7.lt' hge7) (apC dj53 apN)))).symm apN)))).g0 hg34),(hB39.g0 hg34),(hB38.g0 hg34),((k370.goL hgl18 (apC dj60.symm (apC dj54.symm (apC (InP.dj hi25 k356.lt' (apC dj60.symm (apC dj54.symm (apC dj70 apN)))).symm apN)))).g0 hg34),((k371.goL hgl18 (apC dj61.symm (apC dj55.symm (apC (InP.dj hi25 k357.lt' (apC dj61.symm (apC dj55.symm (apC dj74 apN)))).symm apN)))).g0 hg34),((k372.goL hgl18 (apC dj62.symm (apC dj56.symm (apC (InP.dj hi25 k358.lt' (apC dj62.symm (apC dj56.symm (apC dj77 apN)))).symm apN)))).g0 hg34),((k373.goL hgl18 (apC dj63.symm (apC dj57.symm (apC (InP.dj hi25 k359.lt' (apC dj63.symm (apC dj57.symm (apC dj79 apN)))).symm apN)))).grown hg34),((hM11.goL hgl18 (apC (InA.dj hi26 hB35.lt' (apC (Dj.new k7.lt' hge8).symm (InA.dj hi24 k59.lt' (apC (Dj.new k7.lt' hge8).symm dj64)))) (apC (InA.dj hi26 hB36.lt' (apC (Dj.new k7.lt' hge7).symm (InA.dj hi24 k58.lt' (apC (Dj.new k7.lt' hge7).symm dj58)))) (apC (InA.dj hi26 hO21.lt' (apC (InP.dj hi25 hB34.lt' (apC (Dj.new k7.lt' hge8) (apC (Dj.new k7.lt' hge7) (apC dj53 apN)))) (hM10.inp hi25 (apC (InA.dj hi24 k59.lt' (apC (Dj.new k7.lt' hge8).symm dj64)) (apC (InA.dj hi24 k58.lt' (apC (Dj.new k7.lt' hge7).symm dj58)) (apC (InA.dj hi24 k65.lt' (apC dj53.symm dj80)) apN)))))) apN)))).g0 hg34),(hO23.grown hg34),dj48,dj49,dj50,dj51,dj147,(InP.dj hi27 hB37.lt' (apC (Dj.new k7.lt' hge8) (apC (Dj.new k7.lt' hge7) (apC (InP.dj hi25 hB34.lt' (apC (Dj.new k7.lt' hge8) (apC (Dj.new k7.lt' hge7) (apC dj53 apN)))).symm apN)))).symm,dj54,dj55,dj56,dj57,(InA.dj hi26 hB36.lt' (apC (Dj.new k7.lt' hge7).symm (InA.dj hi24 k58.lt' (apC (Dj.new k7.lt' hge7).symm dj58)))),dj150,dj60,dj61,dj62,dj63,(InA.dj hi26 hB35.lt' (apC (Dj.new k7.lt' hge8).symm (InA.dj hi24 k59.lt' (apC (Dj.new k7.lt' hge8).symm dj64)))),dj149,dj66,dj67,dj68,(InA.dj hi26 k363.lt' (apC dj48.symm (InA.dj hi24 k60.lt' (apC dj48.symm dj69)))),(InP.dj hi27 k370.lt' (apC dj60.symm (apC dj54.symm (apC (InP.dj hi25 k356.lt' (apC dj60.symm (apC dj54.symm (apC dj70 apN)))).symm apN)))).symm,dj71,dj72,(InA.dj hi26 k364.lt' (apC dj49.symm (InA.dj hi24 k61.lt' (apC dj49.symm dj73)))),(InP.dj hi27 k371.lt' (apC dj61.symm (apC dj55.symm (apC (InP.dj hi25 k357.lt' (apC dj61.symm (apC dj55.symm (apC dj74 apN)))).symm apN)))).symm,dj75,(InA.dj hi26 k365.lt' (apC dj50.symm (InA.dj hi24 k62.lt' (apC dj50.symm dj76)))),(InP.dj hi27 k372.lt' (apC dj62.symm (apC dj56.symm (apC (InP.dj hi25 k358.lt' (apC dj62.symm (apC dj56.symm (apC dj77 apN)))).symm apN)))).symm,(InA.dj hi26 k366.lt' (apC dj51.symm (InA.dj hi24 k63.lt' (apC dj51.symm dj78)))),(InP.dj hi27 k373.lt' (apC dj63.symm (apC dj57.symm (apC (InP.dj hi25 k359.lt' (apC dj63.symm (apC dj57.symm (apC dj79 apN)))).symm apN)))).symm,(hM11.inp hi27 (apC (InA.dj hi26 hB35.lt' (apC (Dj.new k7.lt' hge8).symm (InA.dj hi24 k59.lt' (apC (Dj.new k7.lt' hge8).symm dj64)))) (apC (InA.dj hi26 hB36.lt' (apC (Dj.new k7.lt' hge7).symm (InA.dj hi24 k58.lt' (apC (Dj.new k7.lt' hge7).symm dj58)))) (apC (InA.dj hi26 hO21.lt' (apC (InP.dj hi25 hB34.lt' (apC (Dj.new k7.lt' hge8) (apC (Dj.new k7.lt' hge7) (apC dj53 apN)))) (hM10.inp hi25 (apC (InA.dj hi24 k59.lt' (apC (Dj.new k7.lt' hge8).symm dj64)) (apC (InA.dj hi24 k58.lt' (apC (Dj.new k7.lt' hge7).symm dj58)) (apC (InA.dj hi24 k65.lt' (apC dj53.symm dj80)) apN)))))) apN)))),hi9,hi10,hi11,(InA.toGe hi26 (apC (Ge.le hge4 (qZ gr2)) (InA.toGe hi24 (apC (Ge.le hge4 (qZ gr2)) hi12) (qZ gr21))) (qZ gr54))⟩)
                         ·clear H
                          rcases Bool.eq_false_or_eq_true (!t212) with b26 | b26
                          ·exact gn b26 (h:=(gn b26 (h:=(gn b26 (h:=(gn b26 (h:=(gn b26 (h:=(zg rfl (zt (okb b26) rfl) (wk (hQ _ _ ⟨true,rfl,by first | (rw [b26] <;> rfl) | simp [b26],rfl⟩))))))))))))
                          ·exact gp b26 (h:=(ze rfl rfl (okb b26) rfl (qu Tryz.underlying35 rfl rfl) (gp b26 (h:=(gp b26 (h:=(ze rfl rfl (okb b26) rfl (qS Tryz.underlying4 rfl rfl) (zg rfl (zr (okb b26) rfl) (wk (hQ _ _ ⟨!(false == (decide (t2071=(0:Int)))),rfl,by first | (rw [b26] <;> rfl) | simp [b26],rfl⟩))))))))))
                        ·obtain ⟨a1z,a2m,a4a,a2o,a2q,t20712,u5,u6,u7,m9,n0,n1,n2,n3,f2,y9,a0c,rfl,ht2070_L,ht2070,hge13,dj151,hB40,hB41,hO24,hi28,dj152,dj153,dj154,dj155,dj156,dj157,dj158,dj159,dj160,H⟩:=hc_
                         have hgl19:=hg_
                         have hO25:=hO24.base (InP.toGe hi28 (apC (Ge.le hge8 (qZ gr8)) (apC (Ge.le hge7 (qZ gr8)) (apC k374.ge' apN))) (qZ gr55))
                         have hb9:=ht2070_L.ge'
                         have gr58:=jC gr55 hgl19 (apC (Ge.le hge8 (qZ gr8)) (apC (Ge.le hge7 (qZ gr8)) (apC k374.ge' apN)))
                         refine yp (h:=(yp (h:=(yp (h:=(yp (h:=(yp (h:=(zf (za (zd (zd (zb (yp (h:=(yp (h:=(WL.call rfl rfl (kx (hG.grown gr58) hS0 hS1 hS2 hS3 hS4 hS5 hS6 hS7 hS8 hS9 hS10 hS11 hS12 hS13 hS14 hS15 hS16 (ErrR.goB ht2021 (GB.grown hG gr55) hgl19 (apC (Ge.le hge8 (qZ gr8)) (apC (Ge.le hge7 (qZ gr8)) (apC k374.ge' apN))) (apC (NoAt.bl k369 rfl) (apC (NoAt.bl k368 rfl) (apC (NoAt.ownK k374 rfl) apN)))) H) ?_)))))))))))))))))))
                         rintro _ w68 ⟨hg35,t2122,rfl,H⟩
                         have gr59:=ja gr58 hg35
                         have k408:=(ht2070_L.base (fun g hg=>Nat.le_trans (qZ gr55) (hb9 g hg))).grown hg35
                         have k409:=ht2070.g0 hg35
                         refine yp (h:=(yp (h:=(zL 6 (fun L' w'=>∃ q25:Bool,L'=[(220,.bool q25),(1,.slice A_l l.length c_l),(6,.pointer (some ⟨a2,0,none⟩)),(8,.pointer (some ⟨a1,0,none⟩)),(10,.pointer (some ⟨g_c,0,none⟩)),(12,.pointer (some ⟨g_y,0,none⟩)),(13,.int .i64 i),(20,.pointer none),(22,.pointer (some ⟨a1z,0,none⟩))]/\((!t2122) || (!(false == (decide (t20712=(0:Int))))))=q25/\w68=w') ?_ (fun hQ=>?_)))))
                         ·rintro _ _ ⟨q25,rfl,rfl,rfl⟩
                          refine zf (za (zp rfl (fun b27=>?_) (fun b27=>?_)))
                          ·replace H:=H.1 (b27)
                           exact zd (zb (yp (h:=(zf (za (zq (zh (zn (zh (zn (zh (zh (zn (zh (zw rfl rfl ⟨gr59,false,rfl,H⟩)))))))))))))))
                          ·replace H:=H.2 (b27)
                           refine zo (za (zd (zb (yp (h:=(zg rfl (qu Tryz.underlying35 rfl rfl) (zf (za (zp rfl (fun h=>by cases h) (fun _=>zo (zi ?_)))))))))))
                           exact WX.weaken sb (hQ _ _ ⟨g_c,c1,c2,d3,g_y,y1,y2,e1,o6,y2.length,g9,o8,h0,h3,h4,m9,n0,n1,n2,n3,f2,y9,a0c,f2.length,u5,u6,u7,rfl,H,rfl,rfl,gr59,((hB37.goL hgl19 (apC (Dj.new k7.lt' hge8) (apC (Dj.new k7.lt' hge7) (apC (InP.dj hi25 hB34.lt' (apC (Dj.new k7.lt' hge8) (apC (Dj.new k7.lt' hge7) (apC dj53 apN)))).symm apN)))).g0 hg35),(hB41.g0 hg35),(hB40.g0 hg35),((k370.goL hgl19 (apC dj60.symm (apC dj54.symm (apC (InP.dj hi25 k356.lt' (apC dj60.symm (apC dj54.symm (apC dj70 apN)))).symm apN)))).g0 hg35),((k371.goL hgl19 (apC dj61.symm (apC dj55.symm (apC (InP.dj hi25 k357.lt' (apC dj61.symm (apC dj55.symm (apC dj74 apN)))).symm apN)))).g0 hg35),((k372.goL hgl19 (apC dj62.symm (apC dj56.symm (apC (InP.dj hi25 k358.lt' (apC dj62.symm (apC dj56.symm (apC dj77 apN)))).symm apN)))).g0 hg35),((k373.goL hgl19 (apC dj63.symm (apC dj57.symm (apC (InP.dj hi25 k359.lt' (apC dj63.symm (apC dj57.symm (apC dj79 apN)))).symm apN)))).grown hg35),((hM11.goL hgl19 (apC (InA.dj hi26 hB35.lt' (apC (Dj.new k7.lt' hge8).symm (InA.dj hi24 k59.lt' (apC (Dj.new k7.lt' hge8).symm dj64)))) (apC (InA.dj hi26 hB36.lt' (apC (Dj.new k7.lt' hge7).symm (InA.dj hi24 k58.lt' (apC (Dj.new k7.lt' hge7).symm dj58)))) (apC (InA.dj hi26 hO21.lt' (apC (InP.dj hi25 hB34.lt' (apC (Dj.new k7.lt' hge8) (apC (Dj.new k7.lt' hge7) (apC dj53 apN)))) (hM10.inp hi25 (apC (InA.dj hi24 k59.lt' (apC (Dj.new k7.lt' hge8).symm dj64)) (apC (InA.dj hi24 k58.lt' (apC (Dj.new k7.lt' hge7).symm dj58)) (apC (InA.dj hi24 k65.lt' (apC dj53.symm dj80)) apN)))))) apN)))).g0 hg35),(hO25.grown hg35),dj48,dj49,dj50,dj51,dj147,(InP.dj hi28 hB37.lt' (apC (Dj.new k7.lt' hge8) (apC (Dj.new k7.lt' hge7) (apC (InP.dj hi25 hB34.lt' (apC (Dj.new k7.lt' hge8) (apC (Dj.new k7.lt' hge7) (apC dj53 apN)))).symm apN)))).symm,dj54,dj55,dj56,dj57,(InA.dj hi26 hB36.lt' (apC (Dj.new k7.lt' hge7).symm (InA.dj hi24 k58.lt' (apC (Dj.new k7.lt' hge7).symm dj58)))),dj154,dj60,dj61,dj62,dj63,(InA.dj hi26 hB35.lt' (apC (Dj.new k7.lt' hge8).symm (InA.dj hi24 k59.lt' (apC (Dj.new k7.lt' hge8).symm dj64)))),dj153,dj66,dj67,dj68,(InA.dj hi26 k363.lt' (apC dj48.symm (InA.dj hi24 k60.lt' (apC dj48.symm dj69)))),(InP.dj hi28 k370.lt' (apC dj60.symm (apC dj54.symm (apC (InP.dj hi25 k356.lt' (apC dj60.symm (apC dj54.symm (apC dj70 apN)))).symm apN)))).symm,dj71,dj72,(InA.dj hi26 k364.lt' (apC dj49.symm (InA.dj hi24 k61.lt' (apC dj49.symm dj73)))),(InP.dj hi28 k371.lt' (apC dj61.symm (apC dj55.symm (apC (InP.dj hi25 k357.lt' (apC dj61.symm (apC dj55.symm (apC dj74 apN)))).symm apN)))).symm,dj75,(InA.dj hi26 k365.lt' (apC dj50.symm (InA.dj hi24 k62.lt' (apC dj50.symm dj76)))),(InP.dj hi28 k372.lt' (apC dj62.symm (apC dj56.symm (apC (InP.dj hi25 k358.lt' (apC dj62.symm (apC dj56.symm (apC dj77 apN)))).symm apN)))).symm,(InA.dj hi26 k366.lt' (apC dj51.symm (InA.dj hi24 k63.lt' (apC dj51.symm dj78)))),(InP.dj hi28 k373.lt' (apC dj63.symm (apC dj57.symm (apC (InP.dj hi25 k359.lt' (apC dj63.symm (apC dj57.symm (apC dj79 apN)))).symm apN)))).symm,(hM11.inp hi28 (apC (InA.dj hi26 hB35.lt' (apC (Dj.new k7.lt' hge8).symm (InA.dj hi24 k59.lt' (apC (Dj.new k7.lt' hge8).symm dj64)))) (apC (InA.dj hi26 hB36.lt' (apC (Dj.new k7.lt' hge7).symm (InA.dj hi24 k58.lt' (apC (Dj.new k7.lt' hge7).symm dj58)))) (apC (InA.dj hi26 hO21.lt' (apC (InP.dj hi25 hB34.lt' (apC (Dj.new k7.lt' hge8) (apC (Dj.new k7.lt' hge7) (apC dj53 apN)))) (hM10.inp hi25 (apC (InA.dj hi24 k59.lt' (apC (Dj.new k7.lt' hge8).symm dj64)) (apC (InA.dj hi24 k58.lt' (apC (Dj.new k7.lt' hge7).symm dj58)) (apC (InA.dj hi24 k65.lt' (apC dj53.symm dj80)) apN)))))) apN)))),hi9,hi10,hi11,(InA.toGe hi26 (apC (Ge.le hge4 (qZ gr2)) (InA.toGe hi24 (apC (Ge.le hge4 (qZ gr2)) hi12) (qZ gr21))) (qZ gr54))⟩)
                         ·clear H
                          rcases Bool.eq_false_or_eq_true (!t2122) with b28 | b28
                          ·exact gn b28 (h:=(gn b28 (h:=(gn b28 (h:=(gn b28 (h:=(gn b28 (h:=(zg rfl (zt (okb b28) rfl) (wk (hQ _ _ ⟨true,rfl,by first | (rw [b28] <;> rfl) | simp [b28],rfl⟩))))))))))))
                          ·exact gp b28 (h:=(ze rfl rfl (okb b28) rfl (qu Tryz.underlying35 rfl rfl) (gp b28 (h:=(gp b28 (h:=(ze rfl rfl (okb b28) rfl (qS Tryz.underlying4 rfl rfl) (zg rfl (zr (okb b28) rfl) (wk (hQ _ _ ⟨!(false == (decide (t20712=(0:Int)))),rfl,by first | (rw [b28] <;> rfl) | simp [b28],rfl⟩))))))))))
                       ·obtain ⟨o9,p2,a1i,p1,v_t20212,t20212,a0s,r9,s0,s1,s2,rfl,ht20212,ht2020_l,hge14,ht2020,hge15,dj161,hB42,hM12,hi29,dj162,dj163,dj164,dj165,dj166,H⟩:=hc_
                        have hgl20:=hg_
                        have gr60:=jC gr54 hgl20 (apC (Ge.le hge4 (qZ gr2)) (InA.toGe hi24 (apC (Ge.le hge4 (qZ gr2)) hi12) (qZ gr21)))
                        have k410:=hB36.goL hgl20 (apC (Dj.new k7.lt' hge7).symm (InA.dj hi24 k58.lt' (apC (Dj.new k7.lt' hge7).symm dj58)))
                        have k411:=hB35.goL hgl20 (apC (Dj.new k7.lt' hge8).symm (InA.dj hi24 k59.lt' (apC (Dj.new k7.lt' hge8).symm dj64)))
                        have k412:=k363.goL hgl20 (apC dj48.symm (InA.dj hi24 k60.lt' (apC dj48.symm dj69)))
                        have k413:=k364.goL hgl20 (apC dj49.symm (InA.dj hi24 k61.lt' (apC dj49.symm dj73)))
                        have k414:=k365.goL hgl20 (apC dj50.symm (InA.dj hi24 k62.lt' (apC dj50.symm dj76)))
                        have k415:=k366.goL hgl20 (apC dj51.symm (InA.dj hi24 k63.lt' (apC dj51.symm dj78)))
                        have k416:=hO21.goL hgl20 (apC (InP.dj hi25 hB34.lt' (apC (Dj.new k7.lt' hge8) (apC (Dj.new k7.lt' hge7) (apC dj53 apN)))) (hM10.inp hi25 (apC (InA.dj hi24 k59.lt' (apC (Dj.new k7.lt' hge8).symm dj64)) (apC (InA.dj hi24 k58.lt' (apC (Dj.new k7.lt' hge7).symm dj58)) (apC (InA.dj hi24 k65.lt' (apC dj53.symm dj80)) apN)))))
                        refine yp (h:=(yp (h:=(yp (h:=(yp (h:=(yp (h:=(zf (za (zd (zb (yp (h:=(WL.call rfl rfl (Zh (k416.base (fun _ _=>Nat.zero_le _)) rfl k410 k411 dj144 dj145 dj146 H) ?_))))))))))))))))
                        rintro v_ w70 ⟨hg_,hc_ | hc_⟩
                        ·obtain ⟨t20713,a4e,a4f,a4g,a3f,a3g,a3h,a3i,a3j,a3k,a2b,a2c,rfl,hB43,hB44,hO26,hi30,dj167,dj168,dj169,H⟩:=hc_
                         have hgl21:=hg_
                         have hO27:=hO26.base (InP.toGe hi30 (apC (Ge.le hge8 (qZ gr8)) (apC (Ge.le hge7 (qZ gr8)) (apC k416.ge' apN))) (qZ gr60))
                         have gr61:=jC gr60 hgl21 (apC (Ge.le hge8 (qZ gr8)) (apC (Ge.le hge7 (qZ gr8)) (apC k416.ge' apN)))
                         refine yp (h:=(yp (h:=(yp (h:=(yp (h:=(yp (h:=(zf (za (zd (zd (zb (yp (h:=(yp (h:=(WL.call rfl rfl (kx (hG.grown gr61) hS0 hS1 hS2 hS3 hS4 hS5 hS6 hS7 hS8 hS9 hS10 hS11 hS12 hS13 hS14 hS15 hS16 (ErrR.goB ht20212 (GB.grown hG gr60) hgl21 (apC (Ge.le hge8 (qZ gr8)) (apC (Ge.le hge7 (qZ gr8)) (apC k416.ge' apN))) (apC (NoAt.bl k411 rfl) (apC (NoAt.bl k410 rfl) (apC (NoAt.ownK k416 rfl) apN)))) H) ?_)))))))))))))))))))
                         rintro _ w72 ⟨hg36,t2123,rfl,H⟩
                         have k426:=(hB42.goL hgl21 (apC (Dj.new k7.lt' hge8) (apC (Dj.new k7.lt' hge7) (apC (InP.dj hi25 hB34.lt' (apC (Dj.new k7.lt' hge8) (apC (Dj.new k7.lt' hge7) (apC dj53 apN)))).symm apN)))).g0 hg36
                         have k427:=hB44.g0 hg36
                         have k428:=hB43.g0 hg36
                         have k429:=(k412.goL hgl21 (apC dj60.symm (apC dj54.symm (apC (InP.dj hi25 k356.lt' (apC dj60.symm (apC dj54.symm (apC dj70 apN)))).symm apN)))).g0 hg36
                         have k430:=(k413.goL hgl21 (apC dj61.symm (apC dj55.symm (apC (InP.dj hi25 k357.lt' (apC dj61.symm (apC dj55.symm (apC dj74 apN)))).symm apN)))).g0 hg36
                         have k431:=(k414.goL hgl21 (apC dj62.symm (apC dj56.symm (apC (InP.dj hi25 k358.lt' (apC dj62.symm (apC dj56.symm (apC dj77 apN)))).symm apN)))).g0 hg36
                         have k432:=(k415.goL hgl21 (apC dj63.symm (apC dj57.symm (apC (InP.dj hi25 k359.lt' (apC dj63.symm (apC dj57.symm (apC dj79 apN)))).symm apN)))).grown hg36
                         have k433:=(hM12.goL hgl21 (apC (InA.dj hi29 hB35.lt' (apC (Dj.new k7.lt' hge8).symm (InA.dj hi24 k59.lt' (apC (Dj.new k7.lt' hge8).symm dj64)))) (apC (InA.dj hi29 hB36.lt' (apC (Dj.new k7.lt' hge7).symm (InA.dj hi24 k58.lt' (apC (Dj.new k7.lt' hge7).symm dj58)))) (apC (InA.dj hi29 hO21.lt' (apC (InP.dj hi25 hB34.lt' (apC (Dj.new k7.lt' hge8) (apC (Dj.new k7.lt' hge7) (apC dj53 apN)))) (hM10.inp hi25 (apC (InA.dj hi24 k59.lt' (apC (Dj.new k7.lt' hge8).symm dj64)) (apC (InA.dj hi24 k58.lt' (apC (Dj.new k7.lt' hge7).symm dj58)) (apC (InA.dj hi24 k65.lt' (apC dj53.symm dj80)) apN)))))) apN)))).g0 hg36
                         have k434:=(ht2020_l.goL hgl21 (apC (Dj.new hB35.lt' hge14).symm (apC (Dj.new hB36.lt' hge14).symm (apC (Dj.new hO21.lt' hge14).symm apN)))).g0 hg36
                         have k435:=(ht2020.goL hgl21 (apC (Dj.new hB35.lt' hge15).symm (apC (Dj.new hB36.lt' hge15).symm (apC (Dj.new hO21.lt' hge15).symm apN)))).g0 hg36
                         have k436:=hO27.grown hg36
                         refine yp (h:=(yp (h:=(zL 6 (fun L' w'=>∃ q26:Bool,L'=[(220,.bool q26),(1,.slice A_l l.length c_l),(6,.pointer (some ⟨a2,0,none⟩)),(8,.pointer (some ⟨a1,0,none⟩)),(10,.pointer (some ⟨g_c,0,none⟩)),(12,.pointer (some ⟨g_y,0,none⟩)),(13,.int .i64 i),(20,.pointer (some ⟨o9,0,none⟩)),(22,.pointer none)]/\((!t2123) || (!(true == (decide (t20713=(0:Int))))))=q26/\w72=w') ?_ (fun hQ=>?_)))))
                         ·rintro _ _ ⟨q26,rfl,rfl,rfl⟩
                          refine zf (za (zp rfl (fun b29=>?_) (fun b29=>?_)))
                          ·replace H:=H.1 (b29)
                           exact zd (zb (yp (h:=(zf (za (zq (zh (zn (zh (zn (zh (zh (zn (zh (zw rfl rfl ⟨(ja gr61 hg36),false,rfl,H⟩)))))))))))))))
                          ·replace H:=H.2 (b29)
                           exact zo (za (zd (zb (yp (h:=(zg rfl (qu Tryz.underlying35 rfl rfl) (zf (za (zp rfl (fun _=>zd (False.elim H)) (fun h=>by cases h))))))))))
                         ·clear H
                          rcases Bool.eq_false_or_eq_true (!t2123) with b30 | b30
                          ·exact gn b30 (h:=(gn b30 (h:=(gn b30 (h:=(gn b30 (h:=(gn b30 (h:=(zg rfl (zt (okb b30) rfl) (wk (hQ _ _ ⟨true,rfl,by first | (rw [b30] <;> rfl) | simp [b30],rfl⟩))))))))))))
                          ·exact gp b30 (h:=(ze rfl rfl (okb b30) rfl (qu Tryz.underlying35 rfl rfl) (gp b30 (h:=(gp b30 (h:=(ze rfl rfl (okb b30) rfl (qS Tryz.underlying4 rfl rfl) (zg rfl (zr (okb b30) rfl) (wk (hQ _ _ ⟨!(true == (decide (t20713=(0:Int)))),rfl,by first | (rw [b30] <;> rfl) | simp [b30],rfl⟩))))))))))
                        ·obtain ⟨a0f,e5,g8,a0g,a0m,t20714,u8,u9,y0,n4,n5,n6,n7,n8,f3,a0a,a0d,rfl,ht2070_L2,ht20702,hge16,dj170,hB45,hB46,hO28,hi31,dj171,dj172,dj173,dj174,dj175,dj176,dj177,dj178,dj179,H⟩:=hc_
                         have hgl22:=hg_
                         have hO29:=hO28.base (InP.toGe hi31 (apC (Ge.le hge8 (qZ gr8)) (apC (Ge.le hge7 (qZ gr8)) (apC k416.ge' apN))) (qZ gr60))
                         have hb10:=ht2070_L2.ge'
                         have gr63:=jC gr60 hgl22 (apC (Ge.le hge8 (qZ gr8)) (apC (Ge.le hge7 (qZ gr8)) (apC k416.ge' apN)))
                         refine yp (h:=(yp (h:=(yp (h:=(yp (h:=(yp (h:=(zf (za (zd (zd (zb (yp (h:=(yp (h:=(WL.call rfl rfl (kx (hG.grown gr63) hS0 hS1 hS2 hS3 hS4 hS5 hS6 hS7 hS8 hS9 hS10 hS11 hS12 hS13 hS14 hS15 hS16 (ErrR.goB ht20212 (GB.grown hG gr60) hgl22 (apC (Ge.le hge8 (qZ gr8)) (apC (Ge.le hge7 (qZ gr8)) (apC k416.ge' apN))) (apC (NoAt.bl k411 rfl) (apC (NoAt.bl k410 rfl) (apC (NoAt.ownK k416 rfl) apN)))) H) ?_)))))))))))))))))))
                         rintro _ w74 ⟨hg37,t2124,rfl,H⟩
                         have gr64:=ja gr63 hg37
                         have k450:=(k412.goL hgl22 (apC dj60.symm (apC dj54.symm (apC (InP.dj hi25 k356.lt' (apC dj60.symm (apC dj54.symm (apC dj70 apN)))).symm apN)))).g0 hg37
                         have k451:=(k413.goL hgl22 (apC dj61.symm (apC dj55.symm (apC (InP.dj hi25 k357.lt' (apC dj61.symm (apC dj55.symm (apC dj74 apN)))).symm apN)))).g0 hg37
                         have k452:=(k414.goL hgl22 (apC dj62.symm (apC dj56.symm (apC (InP.dj hi25 k358.lt' (apC dj62.symm (apC dj56.symm (apC dj77 apN)))).symm apN)))).g0 hg37
                         have k453:=(k415.goL hgl22 (apC dj63.symm (apC dj57.symm (apC (InP.dj hi25 k359.lt' (apC dj63.symm (apC dj57.symm (apC dj79 apN)))).symm apN)))).grown hg37
                         refine yp (h:=(yp (h:=(zL 6 (fun L' w'=>∃ q27:Bool,L'=[(220,.bool q27),(1,.slice A_l l.length c_l),(6,.pointer (some ⟨a2,0,none⟩)),(8,.pointer (some ⟨a1,0,none⟩)),(10,.pointer (some ⟨g_c,0,none⟩)),(12,.pointer (some ⟨g_y,0,none⟩)),(13,.int .i64 i),(20,.pointer (some ⟨o9,0,none⟩)),(22,.pointer (some ⟨a0f,0,none⟩))]/\((!t2124) || (!(true == (decide (t20714=(0:Int))))))=q27/\w74=w') ?_ (fun hQ=>?_)))))
                         ·rintro _ _ ⟨q27,rfl,rfl,rfl⟩
                          refine zf (za (zp rfl (fun b31=>?_) (fun b31=>?_)))
                          ·replace H:=H.1 (b31)
                           exact zd (zb (yp (h:=(zf (za (zq (zh (zn (zh (zn (zh (zh (zn (zh (zw rfl rfl ⟨gr64,false,rfl,H⟩)))))))))))))))
                          ·replace H:=H.2 (b31)
                           refine zo (za (zd (zb (yp (h:=(zg rfl (qu Tryz.underlying35 rfl rfl) (zf (za (zp rfl (fun _=>zd (zb (yp (h:=(yp (h:=(zf (za (zb (yp (h:=(yp (h:=(zf (zi ?_))))))))))))))) (fun h=>by cases h))))))))))
                           exact WX.weaken sb (hQ _ _ ⟨o9,p2,p1,a1i,a0f,e5,g8,a0g,a0m,g8.length,r9,a0s,s0,s1,s2,n4,n5,n6,n7,n8,f3,a0a,a0d,f3.length,u8,u9,y0,rfl,H,rfl,rfl,gr64,((hB42.goL hgl22 (apC (Dj.new k7.lt' hge8) (apC (Dj.new k7.lt' hge7) (apC (InP.dj hi25 hB34.lt' (apC (Dj.new k7.lt' hge8) (apC (Dj.new k7.lt' hge7) (apC dj53 apN)))).symm apN)))).g0 hg37),(hB46.g0 hg37),(hB45.g0 hg37),((ht2020.goL hgl22 (apC (Dj.new hB35.lt' hge15).symm (apC (Dj.new hB36.lt' hge15).symm (apC (Dj.new hO21.lt' hge15).symm apN)))).g0 hg37),((ht2020_l.goL hgl22 (apC (Dj.new hB35.lt' hge14).symm (apC (Dj.new hB36.lt' hge14).symm (apC (Dj.new hO21.lt' hge14).symm apN)))).g0 hg37),(ht20702.g0 hg37),((ht2070_L2.base (fun g hg=>Nat.le_trans (qZ gr60) (hb10 g hg))).grown hg37),((hM12.goL hgl22 (apC (InA.dj hi29 hB35.lt' (apC (Dj.new k7.lt' hge8).symm (InA.dj hi24 k59.lt' (apC (Dj.new k7.lt' hge8).symm dj64)))) (apC (InA.dj hi29 hB36.lt' (apC (Dj.new k7.lt' hge7).symm (InA.dj hi24 k58.lt' (apC (Dj.new k7.lt' hge7).symm dj58)))) (apC (InA.dj hi29 hO21.lt' (apC (InP.dj hi25 hB34.lt' (apC (Dj.new k7.lt' hge8) (apC (Dj.new k7.lt' hge7) (apC dj53 apN)))) (hM10.inp hi25 (apC (InA.dj hi24 k59.lt' (apC (Dj.new k7.lt' hge8).symm dj64)) (apC (InA.dj hi24 k58.lt' (apC (Dj.new k7.lt' hge7).symm dj58)) (apC (InA.dj hi24 k65.lt' (apC dj53.symm dj80)) apN)))))) apN)))).g0 hg37),(hO29.grown hg37),dj165.symm,dj163.symm,(Dj.new hB42.lt' hge16),(Dj.new hB42.lt' hb10),dj162,(InP.dj hi31 hB42.lt' (apC (Dj.new k7.lt' hge8) (apC (Dj.new k7.lt' hge7) (apC (InP.dj hi25 hB34.lt' (apC (Dj.new k7.lt' hge8) (apC (Dj.new k7.lt' hge7) (apC dj53 apN)))).symm apN)))).symm,(Dj.new hB36.lt' hge15),(Dj.new hB36.lt' hge14),dj178.symm,dj175.symm,(InA.dj hi29 hB36.lt' (apC (Dj.new k7.lt' hge7).symm (InA.dj hi24 k58.lt' (apC (Dj.new k7.lt' hge7).symm dj58)))),dj173,(Dj.new hB35.lt' hge15),(Dj.new hB35.lt' hge14),dj177.symm,dj174.symm,(InA.dj hi29 hB35.lt' (apC (Dj.new k7.lt' hge8).symm (InA.dj hi24 k59.lt' (apC (Dj.new k7.lt' hge8).symm dj64)))),dj172,dj161.symm,(Dj.new ht2020.lt' hge16),(Dj.new ht2020.lt' hb10),dj166,(InP.dj hi31 ht2020.lt' (apC (Dj.new hB35.lt' hge15).symm (apC (Dj.new hB36.lt' hge15).symm (apC (Dj.new hO21.lt' hge15).symm apN)))).symm,(Dj.new ht2020_l.lt' hge16),(Dj.new ht2020_l.lt' hb10),dj164,(InP.dj hi31 ht2020_l.lt' (apC (Dj.new hB35.lt' hge14).symm (apC (Dj.new hB36.lt' hge14).symm (apC (Dj.new hO21.lt' hge14).symm apN)))).symm,dj170.symm,(hM12.new hge16),dj179,(hM12.new hb10),dj176,(hM12.inp hi31 (apC (InA.dj hi29 hB35.lt' (apC (Dj.new k7.lt' hge8).symm (InA.dj hi24 k59.lt' (apC (Dj.new k7.lt' hge8).symm dj64)))) (apC (InA.dj hi29 hB36.lt' (apC (Dj.new k7.lt' hge7).symm (InA.dj hi24 k58.lt' (apC (Dj.new k7.lt' hge7).symm dj58)))) (apC (InA.dj hi29 hO21.lt' (apC (InP.dj hi25 hB34.lt' (apC (Dj.new k7.lt' hge8) (apC (Dj.new k7.lt' hge7) (apC dj53 apN)))) (hM10.inp hi25 (apC (InA.dj hi24 k59.lt' (apC (Dj.new k7.lt' hge8).symm dj64)) (apC (InA.dj hi24 k58.lt' (apC (Dj.new k7.lt' hge7).symm dj58)) (apC (InA.dj hi24 k65.lt' (apC dj53.symm dj80)) apN)))))) apN)))),(Ge.le hge15 (qZ gr54)),(Ge.le hge14 (qZ gr54)),(Ge.le hge16 (qZ gr60)),(InA.toGe hi29 (apC (Ge.le hge4 (qZ gr2)) (InA.toGe hi24 (apC (Ge.le hge4 (qZ gr2)) hi12) (qZ gr21))) (qZ gr54))⟩)
                         ·clear H
                          rcases Bool.eq_false_or_eq_true (!t2124) with b32 | b32
                          ·exact gn b32 (h:=(gn b32 (h:=(gn b32 (h:=(gn b32 (h:=(gn b32 (h:=(zg rfl (zt (okb b32) rfl) (wk (hQ _ _ ⟨true,rfl,by first | (rw [b32] <;> rfl) | simp [b32],rfl⟩))))))))))))
                          ·exact gp b32 (h:=(ze rfl rfl (okb b32) rfl (qu Tryz.underlying35 rfl rfl) (gp b32 (h:=(gp b32 (h:=(ze rfl rfl (okb b32) rfl (qS Tryz.underlying4 rfl rfl) (zg rfl (zr (okb b32) rfl) (wk (hQ _ _ ⟨!(true == (decide (t20714=(0:Int)))),rfl,by first | (rw [b32] <;> rfl) | simp [b32],rfl⟩))))))))))
                      ·replace H:=H.2 (of_decide_eq_false b24)
                       refine zd (zb (yp (h:=(yp (h:=(zg rfl (zk qY hB17 rfl rfl rfl) (WL.call rfl rfl (W_pdisk_Disk_Append (GB.grown hG gr21) (qZ gr21) (apC (Ge.le hge4 (qZ gr2)) hi12) hS9 hS11 hS15 hS100 k64 k57 dj52 H) ?_)))))))
                       rintro v_g2 w75 ⟨hgl23,_,g_2,a0t,s3,s4,s5,s6,rfl,a4t,hB47,hM13,hi32,dj180,H⟩
                       have gr65:=jC gr21 hgl23 (apC (Ge.le hge4 (qZ gr2)) hi12)
                       have k460:=k58.goL hgl23 (apC (Dj.new k7.lt' hge7).symm dj58)
                       have k461:=k59.goL hgl23 (apC (Dj.new k7.lt' hge8).symm dj64)
                       have k462:=k60.goL hgl23 (apC dj48.symm dj69)
                       have k463:=k61.goL hgl23 (apC dj49.symm dj73)
                       have k464:=k62.goL hgl23 (apC dj50.symm dj76)
                       have k465:=k63.goL hgl23 (apC dj51.symm dj78)
                       have k466:=k65.goL hgl23 (apC dj53.symm dj80)
                       refine yp (h:=(zf (za (zd (zb (yp (h:=(yp (h:=(yp (h:=(zg rfl (zk qY (hB17.goL hgl23 (apC (Dj.new k39.lt' (Ge.box hl4)).symm (k46.new (Ge.box hl4)))) rfl rfl rfl) (WL.call rfl rfl (Zg (k466.base (fun _ _=>Nat.zero_le _)) rfl k460 k461 dj39.symm.symm dj65 dj59 H) ?_)))))))))))))
                       rintro _ w76 ⟨hgl24,t109,y3,y4,y5,n9,o0,o1,o2,o3,f4,a0b,a0e,rfl,hB48,hB49,hO30,hi33,dj181,dj182,dj183,H⟩
                       have hO31:=hO30.base (InP.toGe hi33 (apC (Ge.le hge8 (qZ gr8)) (apC (Ge.le hge7 (qZ gr8)) (apC k466.ge' apN))) (qZ gr65))
                       have gr66:=jC gr65 hgl24 (apC (Ge.le hge8 (qZ gr8)) (apC (Ge.le hge7 (qZ gr8)) (apC k466.ge' apN)))
                       refine WL.call rfl rfl (kx (hG.grown gr66) hS0 hS1 hS2 hS3 hS4 hS5 hS6 hS7 hS8 hS9 hS10 hS11 hS12 hS13 hS14 hS15 hS16 (ErrR.goB a4t (GB.grown hG gr65) hgl24 (apC (Ge.le hge8 (qZ gr8)) (apC (Ge.le hge7 (qZ gr8)) (apC k466.ge' apN))) (apC (NoAt.bl k461 rfl) (apC (NoAt.bl k460 rfl) (apC (NoAt.ownK k466 rfl) apN)))) H) ?_
                       rintro _ w77 ⟨hg38,t110,rfl,H⟩
                       have gr67:=ja gr66 hg38
                       refine yp (h:=(zf (za (zp rfl (fun b33=>?_) (fun b33=>?_)))))
                       ·replace H:=H.1 (b33)
                        exact zd (zb (yp (h:=(zf (za (zq (zn (zh (zn (zh (zh (zn (zh (zw rfl rfl ⟨gr67,false,rfl,H⟩))))))))))))))
                       ·replace H:=H.2 (b33)
                        refine zo (zi ?_)
                        exact WX.weaken sb (hQ _ _ ⟨g_c,c1,c2,d3,g_y,y1,y2,e1,o6,y2.length,s3,a0t,s4,s5,s6,n9,o0,o1,o2,o3,f4,a0b,a0e,f4.length,y3,y4,y5,rfl,H,rfl,rfl,gr67,((hB47.goL hgl24 (apC (Dj.new k7.lt' hge8) (apC (Dj.new k7.lt' hge7) (apC dj53 apN)))).g0 hg38),(hB49.g0 hg38),(hB48.g0 hg38),((k462.goL hgl24 (apC dj60.symm (apC dj54.symm (apC dj70 apN)))).g0 hg38),((k463.goL hgl24 (apC dj61.symm (apC dj55.symm (apC dj74 apN)))).g0 hg38),((k464.goL hgl24 (apC dj62.symm (apC dj56.symm (apC dj77 apN)))).g0 hg38),((k465.goL hgl24 (apC dj63.symm (apC dj57.symm (apC dj79 apN)))).grown hg38),((hM13.goL hgl24 (apC (InA.dj hi32 k59.lt' (apC (Dj.new k7.lt' hge8).symm dj64)) (apC (InA.dj hi32 k58.lt' (apC (Dj.new k7.lt' hge7).symm dj58)) (apC (InA.dj hi32 k65.lt' (apC dj53.symm dj80)) apN)))).g0 hg38),(hO31.grown hg38),dj48,dj49,dj50,dj51,dj180,(InP.dj hi33 hB47.lt' (apC (Dj.new k7.lt' hge8) (apC (Dj.new k7.lt' hge7) (apC dj53 apN)))).symm,dj54,dj55,dj56,dj57,(InA.dj hi32 k58.lt' (apC (Dj.new k7.lt' hge7).symm dj58)),dj183,dj60,dj61,dj62,dj63,(InA.dj hi32 k59.lt' (apC (Dj.new k7.lt' hge8).symm dj64)),dj182,dj66,dj67,dj68,(InA.dj hi32 k60.lt' (apC dj48.symm dj69)),(InP.dj hi33 k462.lt' (apC dj60.symm (apC dj54.symm (apC dj70 apN)))).symm,dj71,dj72,(InA.dj hi32 k61.lt' (apC dj49.symm dj73)),(InP.dj hi33 k463.lt' (apC dj61.symm (apC dj55.symm (apC dj74 apN)))).symm,dj75,(InA.dj hi32 k62.lt' (apC dj50.symm dj76)),(InP.dj hi33 k464.lt' (apC dj62.symm (apC dj56.symm (apC dj77 apN)))).symm,(InA.dj hi32 k63.lt' (apC dj51.symm dj78)),(InP.dj hi33 k465.lt' (apC dj63.symm (apC dj57.symm (apC dj79 apN)))).symm,(hM13.inp hi33 (apC (InA.dj hi32 k59.lt' (apC (Dj.new k7.lt' hge8).symm dj64)) (apC (InA.dj hi32 k58.lt' (apC (Dj.new k7.lt' hge7).symm dj58)) (apC (InA.dj hi32 k65.lt' (apC dj53.symm dj80)) apN)))),hi9,hi10,hi11,(InA.toGe hi32 (apC (Ge.le hge4 (qZ gr2)) hi12) (qZ gr21))⟩)
               ·replace H:=H.2 (of_decide_eq_false b9)
                exact zD (zj (zj (zm (za (zd (zb (yp (h:=(zf (za (zq (zw rfl rfl ⟨gr19,true,rfl,H⟩))))))))))))
             ·clear H
              rcases Bool.eq_false_or_eq_true (!decide (t6714=Er.ok)) with b34 | b34
              ·exact gn b34 (h:=(gn b34 (h:=(zg rfl (zt (okb b34) rfl) (wk (hQ _ _ ⟨true,rfl,by rw [b34] <;> rfl,rfl⟩))))))
              ·exact gp b34 (h:=(gp b34 (h:=(zg rfl (zr (okb b34) rfl) (wk (hQ _ _ ⟨!decide (t7214=(0:Int)),rfl,by rw [b34] <;> rfl,rfl⟩))))))
            ·clear H
             exact ze rfl rfl (rfl) rfl (zc qY rfl) (ze rfl rfl (rfl) rfl (qj Tryz.underlying26 (ErrR.goB ht6714 (GB.grown hG gr16) hgl8 (apC (Ge.le hge8 (qZ gr8)) (apC (Ge.le hge7 (qZ gr8)) (apC k25.ge' apN))) (apC (NoAt.bl k27 rfl) (apC (NoAt.bl k26 rfl) (apC (NoAt.ownK k25 rfl) apN)))) rfl) (zg rfl (zr (rfl) rfl) (wk (hQ _ _ ⟨!decide (t6714=Er.ok),rfl,rfl,rfl⟩))))
        ·clear H
         rcases Bool.eq_false_or_eq_true (!decide (t4512=Er.ok)) with b35 | b35
         ·exact gn b35 (h:=(gn b35 (h:=(zg rfl (zt (okb b35) rfl) (wk (hQ _ _ ⟨true,rfl,by rw [b35] <;> rfl,rfl⟩))))))
         ·exact gp b35 (h:=(gp b35 (h:=(zg rfl (zr (okb b35) rfl) (wk (hQ _ _ ⟨!decide (t5214=(0:Int)),rfl,by rw [b35] <;> rfl,rfl⟩))))))
       ·clear H
        exact ze rfl rfl (rfl) rfl (zc qY rfl) (ze rfl rfl (rfl) rfl (qj Tryz.underlying26 (k5.grown hg10) rfl) (zg rfl (zr (rfl) rfl) (wk (hQ _ _ ⟨!decide (t4512=Er.ok),rfl,rfl,rfl⟩))))
   ·clear H
    rcases Bool.eq_false_or_eq_true ((decide ((2000:Int)<(text.length:Int))) || (decide ((60:Int)<(l.length:Int)))) with b36 | b36
    ·exact gn b36 (h:=(gn b36 (h:=(zg rfl (zt (okb b36) rfl) (wk (hQ _ _ ⟨true,rfl,by rw [b36] <;> rfl,rfl⟩))))))
    ·exact gp b36 (h:=(gp b36 (h:=(zg rfl (zr (okb b36) rfl) (wk (hQ _ _ ⟨!ok,rfl,by rw [b36] <;> rfl,rfl⟩))))))
  ·clear H
   rcases Bool.eq_false_or_eq_true (decide ((2000:Int)<(text.length:Int))) with b37 | b37
   ·exact gn b37 (h:=(gn b37 (h:=(gn b37 (h:=(zg rfl (zt (okb b37) rfl) (wk (hQ _ _ ⟨true,rfl,by rw [b37] <;> rfl,rfl⟩))))))))
   ·exact gp b37 (h:=(gp b37 (h:=(gp b37 (h:=(zg rfl (zr (okb b37) rfl) (wk (hQ _ _ ⟨decide ((60:Int)<(l.length:Int)),rfl,by rw [b37] <;> rfl,rfl⟩))))))))
end
 
section
open Go Go.RowKit
set_option maxRecDepth 10000
attribute [local irreducible] shaS manyS hexS recP
theorem entP_M {cl:List Ent} {N:Nat} {p:List UInt8} {K:List Ent->Prop} (hc:CL cl N) (hN:N<=100000) (h:∀ ys:List Ent,ys.Perm cl->Ris ys->K ys):kn p cl K:=by
 have hl:=hc.len
 refine ⟨fun l left=>(l++left).Perm cl,fun _ left=>left.length,List.Perm.refl _,fun l left hp=>⟨fun he=>?_,fun ix key hk=>?_⟩⟩
 ·subst he
  rw [List.append_nil] at hp
  have hlen:=hp.length_eq
  refine ⟨by omega,fun ys hy hs=>h ys (hy.trans hp) ?_⟩
  have hyp:=hy.trans hp
  have hu:Uq ys:=by
   unfold Uq
   exact (hyp.map _).nodup_iff.2 hc.uq
  have hk:∀ j,j<ys.length->k32 (ys.getD j ([],[])).1=(ys.getD j ([],[])).1:=fun j hj=>k32_id (hc.ok _ (hyp.subset (getD_memH hj))).1
  exact ris_of hu fun i j hij hj=>by
   have:=hs i j hij hj
   rwa [hk j hj,hk i (by omega)] at this
 ·obtain ⟨hi,rfl⟩:=List.getElem?_eq_some_iff.1 hk
  have hlen:=hp.length_eq
  rw [List.length_append] at hlen
  have hpe:=eraseIdx_perm left ix hi
  refine ⟨by simp only [List.length_cons,List.length_nil]; omega,?_,?_⟩
  ·refine List.Perm.trans ?_ hp
   rw [List.append_assoc]
   exact List.Perm.append_left l hpe.symm
  ·have:(left.eraseIdx ix).length+1=left.length:=by rw [List.length_eraseIdx_of_lt hi]; omega
   dsimp only; omega
theorem rent_M {cl:List Ent} {N:Nat} {p:List UInt8} {K:List Ent->Prop} (hc:CL cl N) (hN:N<=100000) (h:∀ ys:List Ent,ys.Perm cl->Ris ys->K ys):jP p cl K:=by
 have hl:=hc.len
 intro _
 refine ⟨fun out i=>0<=i/\i<=cl.length/\out.Perm (cl.take i.toNat)/\Ris out,fun _ i=>cl.length - i.toNat,⟨by omega,by omega,List.Perm.refl _,List.Pairwise.nil⟩,fun out i ⟨a0,a1,a2,a3⟩=>⟨fun hlt=>?_,fun hge=>?_⟩⟩
 ·have hi:i.toNat<cl.length:=by omega
  have e:cl.getD i.toNat ([],[])=cl[i.toNat]:=by simp [List.getD,hi]
  have hol:=a2.length_eq
  rw [List.length_take] at hol
  have hmem:∀ j,j<out.length->out.getD j ([],[])∈cl.take i.toNat:=fun j hj=>a2.subset (getD_memH hj)
  have hko:=hc.ok _ (List.getElem_mem hi)
  have hne:∀ j,j<out.length->(out.getD j ([],[])).1≠cl[i.toNat].1:=fun j hj he=>by
   obtain ⟨j2,hj2,e2⟩:=List.getElem_of_mem (hmem j hj)
   rw [List.length_take] at hj2
   rw [<-e2,List.getElem_take] at he
   have:=List.pairwise_iff_getElem.1 hc.uq j2 i.toNat (by simp; omega) (by simpa using hi) (by omega)
   simp at this
   exact this he
  rw [e]
  refine ⟨fun k=>0<=k/\k<=out.length/\∀ j,j<k.toNat->(out.getD j ([],[])).1<cl[i.toNat].1,fun k=>out.length - k.toNat,⟨by omega,by omega,fun j hj=>by simp at hj⟩,fun k ⟨b0,b1,b2⟩=>?_⟩
  refine ⟨fun b=>b=(decide (k<(out.length:Int)) && decide ((out.getD k.toNat ([],[])).1<cl[i.toNat].1)),⟨fun hk=>?_,fun hk=>by rw [hk]; rfl⟩,fun b eb=>⟨fun hb=>?_,fun hb=>?_⟩⟩
  ·have hk2:=of_decide_eq_true hk
   have ho:=hc.ok _ (List.mem_of_mem_take (hmem k.toNat (by omega)))
   refine ⟨⟨b0,hk2⟩,hex_M ho.1 ⟨⟨a0,hlt⟩,hex_M hko.1 ?_⟩⟩
   rw [hk,Bool.true_and,bytesLess_lt]
   exact decide_eq_decide.2 (hexS_lt_iff (by rw [ho.1,hko.1]))
  ·rw [eb,Bool.and_eq_true,decide_eq_true_eq,decide_eq_true_eq] at hb
   refine ⟨by simp only [In]; omega,⟨by omega,by omega,fun j hj=>?_⟩,by (try dsimp only); omega⟩
   by_cases ej:j=k.toNat
   ·rw [ej]; exact hb.2
   ·exact b2 j (by omega)
  ·rw [eb,Bool.and_eq_false_iff,decide_eq_false_iff_not,decide_eq_false_iff_not] at hb
   have hlen2:(out.take k.toNat).length<=out.length:=by rw [List.length_take]; omega
   refine ⟨by simp only [In]; omega,⟨by omega,by omega,by omega⟩,⟨b0,by omega⟩,by simp only [List.length_nil]; omega,⟨a0,hlt⟩,by simp only [List.nil_append,List.length_cons,List.length_nil]; omega,⟨b0,b1,Int.le_refl _⟩,by simp only [List.nil_append,List.length_append,List.length_cons,List.length_nil,List.length_take,List.length_drop]; omega,by simp only [In]; omega,⟨by omega,by omega,?_,?_⟩,by (try dsimp only); omega⟩
   ·rw [List.nil_append,show (i+1).toNat=i.toNat+1 by omega,List.take_succ_eq_append_getElem hi]
    exact (perm_ins out _ k.toNat).trans (a2.append_right _)
   ·rw [List.nil_append]
    refine ris_ins a3 (by omega) b2 fun hk=>?_
    rcases bs_tri (out.getD k.toNat ([],[])).1 cl[i.toNat].1 with g | g | g
    ·rcases hb with hb | hb
     ·omega
     ·exact absurd g hb
    ·exact absurd g (hne _ hk)
    ·exact g
 ·obtain rfl:i=cl.length:=by omega
  rw [show ((cl.length:Nat):Int).toNat=cl.length by omega,List.take_length] at a2
  exact h out a2 a3
theorem sameF_M {a:List (List UInt8 × List UInt8)} {K:Bool->Prop} (hl:a.length<=100000) (h:K true):kC a a K:=by
 intro _ _
 refine ⟨fun hne=>absurd rfl hne,fun _=>⟨fun i=>0<=i/\i<=a.length,fun i=>a.length - i.toNat,⟨by omega,by omega⟩,fun i ⟨a0,a1⟩=>⟨fun hlt=>⟨⟨a0,hlt⟩,⟨a0,hlt⟩,?_⟩,fun _=>h⟩⟩⟩
 unfold kJ
 refine ⟨fun hb=>(by simp at hb),fun _=>⟨by simp only [In]; omega,⟨by omega,by omega⟩,by (try dsimp only); omega⟩⟩
theorem newJ_M {text:List UInt8} {K0:Er->Prop} {K:DF->Int->Int->Bool->Er->Prop} (ht:text.length<=65536) (h:K (f1 text text []) 0 0 false .ok):M_disk_New [(JJ,text)] K0 K:=by
 intro _
 refine ⟨fun i fs=>i=0/\fs=[]∨i=1/\fs=f1 text text [],fun i _=>(1 - i).toNat,.inl ⟨rfl,rfl⟩,fun i fs hi=>?_⟩
 rcases hi with ⟨rfl,rfl⟩ | ⟨rfl,rfl⟩
 ·refine ⟨fun _=>⟨⟨by omega,by simp⟩,valid_M (by simp) ?_⟩,fun hge=>absurd (by simp:(0:Int)<(([(JJ,text)]:List (List UInt8 × List UInt8)).length:Int)) hge⟩
  show _/\_
  have hv:jY (([(JJ,text)]:List (List UInt8 × List UInt8)).getD (0:Int).toNat ([],[])).1=true:=vJ
  rw [hv]
  refine ⟨fun _=>by simp [maxLen],fun hb=>?_,fun _=>⟨⟨by simp [maxLen],by simp [maxLen]⟩,by simp only [In]; omega,.inr ⟨rfl,rfl⟩,by (try dsimp only); omega⟩⟩
  simp [mget] at hb
  omega
 ·exact ⟨fun hlt=>absurd hlt (by simp),fun _=>⟨fun hb=>absurd hb (by simp),fun _=>h⟩⟩
theorem rnew1_M {text:List UInt8} {K0:Int->Prop} {K:List UInt8->Bool->List UInt8->Bool->List UInt8->LCh->Int->Int->Bool->Int->Prop} (ht:text.length<=65536) (h:K JJ true text true text [] 0 (-1) false 0):kR [(JJ,text)] K0 K:=by
 intro _
 refine ⟨rfl,⟨by omega,by simp⟩,rvalidC_M (by simp) ?_⟩
 have hv:jY (([(JJ,text)]:List (List UInt8 × List UInt8)).getD 0 ([],[])).1=true:=vJ
 rw [hv]
 refine ⟨fun b=>b=false,⟨fun hb=>(by simp at hb),fun _=>rfl⟩,fun b e=>?_⟩
 rw [e]
 refine ⟨fun hb=>?_,fun _=>h⟩
 simp at hb
 omega
structure CPI (t:Nat) (c1:List UInt8) (c2:List Ent) (y1:List UInt8) (y2:List Ent) (fs:DF) (ops left:Int) (down:Bool) (ro ra:Int) (rd:Bool) (pa:List UInt8) (th:Bool) (tx:List UInt8) (sy:Bool) (sx:List UInt8) (q:LCh):Prop where
 c1:c1=JJ
 y1:y1=JJ
 y2:y2=c2
 cl:CL c2 (501+t)
 dr:DR (t+1) (4*t+10) fs ops left down pa th tx sy sx q ro ra rd
theorem CL.mono {cl:List Ent} {n n':Nat} (h:CL cl n) (hn:n<=n'):CL cl n':=⟨h.ok,h.uq,Nat.le_trans h.len hn⟩
theorem dumpJ_M {n m:Nat} {fs:DF} {ops left:Int} {down:Bool} {pa:List UInt8} {th:Bool} {tx:List UInt8} {sy:Bool} {sx:List UInt8} {q:LCh} {ro ra:Int} {rd:Bool} (h:DR n m fs ops left down pa th tx sy sx q ro ra rd) {K:List (List UInt8 × List UInt8)->Prop} (hK:K [(JJ,tx)]):kG fs ops left down K:=by
 obtain ⟨s,rfl,_⟩:=h.ex
 have hp:kV (f1 tx sx s)=[JJ]:=by
  unfold kV
  have:((f1 tx sx s).map (·.1)).filter (fun k=>ju (f1 tx sx s) k)=[JJ]:=by
   show List.filter _ [JJ]=_
   rw [List.filter_cons,if_pos f1_there]; rfl
  rw [this]
  exact sort1 JJ
 refine dump_M (by rw [f1_len]; omega) (fun k hk=>?_) ?_
 ·have:=pathsP_mem.2 hk
  rw [hp] at this
  rw [List.mem_singleton.1 this]; simp [maxLen]
 ·rw [hp]
  show K [(JJ,(fil (f1 tx sx s) JJ).1)]
  rw [f1_fil]
  exact hK
theorem plays_cp {text:List UInt8} {l:List (Int × Int × Int × List UInt8)} {K:Bool->Prop} (_:text.length<=maxLen) (hin:∀ x∈l,In .i64 x.1/\In .i64 x.2.1/\In .i64 x.2.2.1/\x.2.2.2.length<=maxLen) (H:K true):j9 text l K:=by
 intro _
 refine cfirst_M ⟨fun h=>(by simp at h),fun _=>⟨fun _=>H,fun hb=>?_⟩⟩
 have hbd:text.length<=2000/\l.length<=60:=by
  rw [Bool.or_eq_false_iff,Bool.or_eq_false_iff,decide_eq_false_iff_not,decide_eq_false_iff_not] at hb; omega
 clear hb
 refine newJ_M (by omega) (rnew1_M (by omega) ⟨fun h=>(by simp at h),fun _=>?_⟩)
 have h0:DR 0 0 (f1 text text []) 0 0 false JJ true text true text [] 0 (-1) false:=⟨⟨[],rfl,rfl,by simp,fun c hc=>(by cases hc)⟩,rfl,rfl,rfl,rfl,rfl,fun _=>rfl,by omega,by omega,by omega,by omega,by omega,by omega,by omega,by omega,fun r hr=>(by cases hr)⟩
 refine open2 h0 (by omega) (by omega) (fun fs' o l d tx' sx' q' ro' ra' rd' hf _ _=>absurd ⟨rfl,rfl⟩ hf) fun cl fs' o l1 d tx' sx' q' ro' ra' rd' hD hC hR=>?_
 refine hR _ _ ⟨fun h=>(by simp at h),fun _=>?_⟩
 refine ⟨fun c1 c2 y1 y2 i fs ops left down ro ra rd pa th tx sy sx q=>0<=i/\i<=l.length/\CPI i.toNat c1 c2 y1 y2 fs ops left down ro ra rd pa th tx sy sx q,fun _ _ _ _ i _ _ _ _ _ _ _ _ _ _ _ _ _=>l.length - i.toNat,⟨by omega,by omega,⟨rfl,rfl,rfl,hC.mono (by omega),hD.mono (by simp) (by simp)⟩⟩,fun c1 c2 y1 y2 i fs ops left down ro ra rd pa th tx sy sx q hI=>?_⟩
 obtain ⟨i0,i1,⟨rfl,rfl,rfl,hcl,hdr⟩⟩:=hI
 refine ⟨fun hlt=>⟨⟨i0,hlt⟩,?_⟩,fun _=>H⟩
 have hi:i.toNat<l.length:=by omega
 have e:l.getD i.toNat (0,0,0,[])=l[i.toNat]:=by simp [List.getD,hi]
 obtain ⟨_,x1,x2,_⟩:=hin _ (List.getElem_mem hi)
 rw [e]
 generalize l[i.toNat]=x at x1 x2 |-
 refine ⟨fun _=>H,fun h300=>?_⟩
 have ht60:i.toNat<60:=by omega
 have hpa:=hdr.hp
 have hth:=hdr.ht
 have hsy:=hdr.hs
 refine ⟨fun c1 c2 y1 y2 fs ops left down pa th tx sy sx q ro ra rd=>CPI (i.toNat+1) c1 c2 y1 y2 fs ops left down ro ra rd pa th tx sy sx q,⟨fun _=>?_,fun _=>⟨fun _=>?_,fun _=>⟨fun _=>?_,fun _=>⟨fun _=>?_,fun _=>⟨fun _=>?_,fun _=>?_⟩⟩⟩⟩⟩,?_⟩
 ·
  refine name_M x1 (srcN_M (name_M x2 (srcN_M ?_)))
  refine put2 hdr hcl (Dg_len _) (Dg_len _) (by omega) (by omega) (by omega) fun e code cl' fs' o' l' d' tx' q' ro' ra' rd' hD hB hC hR=>?_
  refine name_M x1 (sum_M (by simp [nm12]) (name_M x2 (sum_M (by simp [nm12]) ?_)))
  rw [<-Dg_eq,<-Dg_eq]
  refine hR _ (is_M ?_)
  rw [hB]
  exact ⟨fun h=>(by simp at h),fun _=>⟨rfl,rfl,rfl,hC.mono (by omega),hD.mono (by omega) (by omega)⟩⟩
 ·
  refine sync2 hdr (by omega) fun e code fs' o' l' d' sx' q' ro' ra' rd' hD hB _ _ hR=>?_
  refine hR _ (is_M ?_)
  rw [hB]
  exact ⟨fun h=>(by simp at h),fun _=>⟨rfl,rfl,rfl,hcl.mono (by omega),hD.mono (by omega) (by omega)⟩⟩
 ·
  refine name_M x1 (srcN_M ⟨Dg_len _,name_M x1 (sum_M (by simp [nm12]) ?_)⟩)
  rw [<-Dg_eq]
  have hll:=hcl.len
  refine rget_M hcl.ok hcl.uq (Dg_len _) (by omega) ?_
  have hgl:((mget y2 (Dg (nix x.2.1))).getD (List.replicate 32 0)).length=32:=by
   cases hm:mget y2 (Dg (nix x.2.1)) with
   | none=>simp
   | some v=>exact (hcl.ok _ (mget_in hm)).2
  refine ⟨fun b=>b=false,⟨fun h=>(by simp at h),fun _=>sameD_M hgl rfl rfl⟩,fun b eb=>⟨fun h=>(by rw [eb] at h; cases h),fun _=>⟨rfl,rfl,rfl,hcl.mono (by omega),hdr.mono (by omega) (by omega)⟩⟩⟩
 ·
  have hk:0<=((x.2.1.tmod 9+9) % 9)/\((x.2.1.tmod 9+9) % 9)<9:=by generalize x.2.1.tmod 9=z; omega
  refine numV_M x1 (by omega) (by omega) (arm2 hdr hk.1 (by omega) fun l' ra' hD hR=>numV_M x1 (by omega) (by omega) (hR _ ⟨rfl,rfl,rfl,hcl.mono (by omega),hD.mono (by omega) (by omega)⟩))
 ·
  refine rise2 hdr x1 x2 (by omega) (by omega) fun fs1 l1 d1 tx1 sx1 q1 ra1 rd1 hD1 hR1=>hR1 _ ?_
  refine open2 hD1 (by omega) (by omega) (fun fs' o' l' d' tx' sx' q' ro' ra' rd' _ hD hR=>?_) (fun cl' fs' o' l' d' tx' sx' q' ro' ra' rd' hD hC hR=>?_)
  ·refine hR _ _ (is_M ⟨fun h=>(by simp [isB] at h),fun _=>⟨rfl,rfl,rfl,hcl.mono (by omega),hD.mono (by omega) (by omega)⟩⟩)
  ·refine hR _ _ (is_M ⟨fun h=>(by simp [isB] at h),fun _=>⟨rfl,rfl,rfl,hC.mono (by omega),hD.mono (by omega) (by omega)⟩⟩)
 ·
  refine lay2 (b:=true) (text:=x.2.2.2) hdr (by omega) (by omega) ?_ (by omega) fun e code fs' o' l' d' tx' q' ro' ra' rd' hD hB _ _ _ hR=>?_
  ·have:=hdr.tl
   show tx.length+_<=_
   omega
  refine hR _ (is_M ?_)
  rw [hB]
  exact ⟨fun h=>(by simp at h),fun _=>⟨rfl,rfl,rfl,hcl.mono (by omega),hD.mono (by omega) (by omega)⟩⟩
 ·intro c1 c2 y1 y2 fs ops left down pa th tx sy sx q ro ra rd hI
  obtain ⟨rfl,rfl,rfl,hcl,hdr⟩:=hI
  have hll:=hcl.len
  have hth:=hdr.ht
  have hpa:=hdr.hp
  refine ⟨fun b=>b=false,⟨fun h=>(by simp at h),fun _=>?_⟩,fun b eb=>?_⟩
  ·refine entP_M hcl (by omega) fun ys g1 g2=>rent_M hcl (by omega) fun zs g3 g4=>?_
   have he:ys=zs:=ris_eq (g1.trans g3.symm) g2 g4
   rw [<-he]
   exact same_M (fun z hz=>hcl.ok z (g1.subset hz)) (by rw [g1.length_eq]; omega) rfl
  refine ⟨fun b=>b=false,⟨fun h=>(by rw [eb] at h; cases h),fun _=>?_⟩,fun b eb=>?_⟩
  ·show (!(down == rd))=false
   rw [hdr.dr]; simp
  refine ⟨fun b=>b=false,⟨fun h=>(by rw [eb] at h; cases h),fun _=>?_⟩,fun b eb=>?_⟩
  ·show (!decide (ops=ro))=false
   rw [hdr.or]; simp
  refine ⟨fun b=>b=false,⟨fun h=>(by rw [eb] at h; cases h),fun _=>?_⟩,fun b eb=>⟨fun h=>(by rw [eb] at h; cases h),fun _=>⟨by simp only [In]; omega,⟨by omega,by omega,?_⟩,by (try dsimp only); omega⟩⟩⟩
  ·refine dumpJ_M hdr ?_
   rw [hth,hpa]
   exact rdump_M (sameF_M (by simp) rfl)
  ·rw [show (i+1).toNat=i.toNat+1 by omega]
   exact ⟨rfl,rfl,rfl,hcl,hdr⟩
end
 end Go.Proofs.YtafpeckmdjplnaaGreatDoor
