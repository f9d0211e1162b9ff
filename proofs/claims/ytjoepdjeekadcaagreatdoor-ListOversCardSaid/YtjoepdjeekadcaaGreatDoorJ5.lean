/- Texts of this claim, joined by a program: GLo. -/
import Derived.Test.YtjoepdjeekadcaaGreatDoorJ4
namespace Go.Proofs.YtjoepdjeekadcaaGreatDoor

section
open Go Go.RowKit
attribute [local irreducible] WL WC WX WQ WK WJ Yld Eff Ef0 Fn
def jL (l:List Int) (n:Int) (K:Bool->Prop):Prop :=
 (l.length<=maxLen ->
 j3 (fun (ok:Bool) =>
 (((!ok)=true->K false) /\
 ((!ok)=false->((((decide ((20:Int)<(l.length:Int))) || (!ok))=true->K ok) /\
 (((decide ((20:Int)<(l.length:Int))) || (!ok))=false->j4 l (fun (t370:List PV) (_:List RV) =>
 kw t370 (
 K false) (fun (a_l:List PV) (a_frozen:Bool) (a_over:Int) =>
 jy n (4:Int) (fun (t45:Int) =>
 (In .i64 (t45+(1:Int))) /\
 (1<=t45+(1:Int)/\t45+(1:Int)<=4) /\
 ((t45+(1:Int)=1->qX a_l a_frozen a_over (fun (_:Er) (_:List PV) (_:Bool) (_:Int) =>
 K false) (fun (n3:List PV) (r2:Int) (l4:Bool) (m3:Bool) (t5512:Er) (a_4:List PV) (a_5:Bool) (a_6:Int) =>
 ((¬ (t5512=Er.ok)->K false) /\
 (t5512=Er.ok->Lp2 (fun (i:Int) (t5502:Int) kont1=>((i<(l.length:Int)->qH a_4 a_5 a_6 n3 t5502 l4 m3 (fun (t840:PV) (t841:Bool) (t550_:Int) =>
 ∃ J1:Bool->Prop,((((!t841)=true->J1 true) /\
 ((!t841)=false->jb t840 (fun (t91:List UInt8) =>
 (0<=i/\i<(t370.length:Nat)) /\
 jb (t370.getD i.toNat PV.nil) (fun (t96:List UInt8) =>
 J1 (!decide (t91=t96))))))) /\
 (∀ q4:Bool,J1 q4->((q4=true->K false) /\
 (q4=false->(In .i64 (i+(1:Int))) /\
 kont1 (i+(1:Int)) t550_))))) /\
 (¬ (i<(l.length:Int))->qH a_4 a_5 a_6 n3 t5502 l4 m3 (fun (_:PV) (t1091:Bool) (u9:Int) =>
 ((t1091=true->K false) /\
 (t1091=false->qL (1:Int) (fun (t115:PV) =>
 jc a_4 a_5 a_6 t115 (fun (t116:Er) (a_7:List PV) (a_8:Bool) (a_9:Int) =>
 qZ t116 (104:Int) (fun (t117:Bool) =>
 (((!t117)=true->K false) /\
 ((!t117)=false->qP a_7 a_8 a_9 n3 u9 l4 m3 (fun (_:Int) (_:Bool) (_:Bool) (a_10:List PV) (a_11:Bool) (a_12:Int) =>
 jC a_10 a_11 a_12 (fun (t1280:List PV) (t1281:Er) (a_13:List PV) (a_14:Bool) (a_15:Int) =>
 kr ([97,98]:List UInt8) (fun (t132:PV) =>
 ko t132 (fun (t1331:Er) =>
 (((decide (t1281=Er.ok))=true->(((decide ((t1280.length:Int)=(l.length:Int)))=true->qL (1:Int) (fun (t147:PV) =>
 jc a_13 a_14 a_15 t147 (fun (t148:Er) (_:List PV) (_:Bool) (_:Int) =>
 (((decide (t148=Er.ok))=true->qZ t1331 (104:Int) (fun (t153:Bool) =>
 K t153)) /\
 ((decide (t148=Er.ok))=false->K false))))) /\
 ((decide ((t1280.length:Int)=(l.length:Int)))=false->K false))) /\
 ((decide (t1281=Er.ok))=false->K false))) (fun (_:PV) (_:List PV) (_:Int) (_:Bool) (_:Bool) (_:Er) =>
 False))))))))))))))) (0:Int) r2)))) /\
 (t45+(1:Int)=2->qX a_l a_frozen a_over (fun (_:Er) (_:List PV) (_:Bool) (_:Int) =>
 K false) (fun (l6:List PV) (p0:Int) (f5:Bool) (i1:Bool) (t5514:Er) (a_22:List PV) (a_23:Bool) (a_24:Int) =>
 ((¬ (t5514=Er.ok)->K false) /\
 (t5514=Er.ok->qX a_22 a_23 a_24 (fun (_:Er) (_:List PV) (_:Bool) (_:Int) =>
 K false) (fun (l7:List PV) (p1:Int) (f6:Bool) (i5:Bool) (t5516:Er) (a_28:List PV) (a_29:Bool) (a_30:Int) =>
 ((¬ (t5516=Er.ok)->K false) /\
 (t5516=Er.ok->Lp3 (fun (i2:Int) (t55022:Int) (t55023:Int) kont2=>((i2<(l.length:Int)->qH a_28 a_29 a_30 l6 t55022 f5 i1 (fun (t8402:PV) (t8412:Bool) (o9:Int) =>
 ∃ J4:Bool->Prop,((((!t8412)=true->J4 true) /\
 ((!t8412)=false->jb t8402 (fun (t913:List UInt8) =>
 (0<=i2/\i2<(t370.length:Nat)) /\
 jb (t370.getD i2.toNat PV.nil) (fun (t963:List UInt8) =>
 J4 (!decide (t913=t963))))))) /\
 (∀ q11:Bool,J4 q11->((q11=true->K false) /\
 (q11=false->qH a_28 a_29 a_30 l7 t55023 f6 i5 (fun (t8403:PV) (t8413:Bool) (r1:Int) =>
 ∃ J5:Bool->Prop,((((!t8413)=true->J5 true) /\
 ((!t8413)=false->jb t8403 (fun (t912:List UInt8) =>
 (0<=i2/\i2<(t370.length:Nat)) /\
 jb (t370.getD i2.toNat PV.nil) (fun (t962:List UInt8) =>
 J5 (!decide (t912=t962))))))) /\
 (∀ q12:Bool,J5 q12->((q12=true->K false) /\
 (q12=false->(In .i64 (i2+(1:Int))) /\
 kont2 (i2+(1:Int)) o9 r1))))))))) /\
 (¬ (i2<(l.length:Int))->qH a_28 a_29 a_30 l6 t55022 f5 i1 (fun (_:PV) (t10912:Bool) (y0:Int) =>
 ((t10912=true->K false) /\
 (t10912=false->qL (1:Int) (fun (t1152:PV) =>
 jc a_28 a_29 a_30 t1152 (fun (t1162:Er) (a_31:List PV) (a_32:Bool) (a_33:Int) =>
 qZ t1162 (104:Int) (fun (t1172:Bool) =>
 (((!t1172)=true->K false) /\
 ((!t1172)=false->qP a_31 a_32 a_33 l6 y0 f5 i1 (fun (_:Int) (_:Bool) (_:Bool) (a_34:List PV) (a_35:Bool) (a_36:Int) =>
 qH a_34 a_35 a_36 l7 t55023 f6 i5 (fun (_:PV) (t10913:Bool) (t6:Int) =>
 ((t10913=true->K false) /\
 (t10913=false->qL (1:Int) (fun (t1153:PV) =>
 jc a_34 a_35 a_36 t1153 (fun (t1163:Er) (a_37:List PV) (a_38:Bool) (a_39:Int) =>
 qZ t1163 (104:Int) (fun (t1173:Bool) =>
 (((!t1173)=true->K false) /\
 ((!t1173)=false->qP a_37 a_38 a_39 l7 t6 f6 i5 (fun (_:Int) (_:Bool) (_:Bool) (a_40:List PV) (a_41:Bool) (a_42:Int) =>
 jC a_40 a_41 a_42 (fun (t12802:List PV) (t12812:Er) (a_43:List PV) (a_44:Bool) (a_45:Int) =>
 kr ([97,98]:List UInt8) (fun (t1322:PV) =>
 ko t1322 (fun (t13313:Er) =>
 (((decide (t12812=Er.ok))=true->(((decide ((t12802.length:Int)=(l.length:Int)))=true->qL (1:Int) (fun (t1472:PV) =>
 jc a_43 a_44 a_45 t1472 (fun (t1482:Er) (_:List PV) (_:Bool) (_:Int) =>
 (((decide (t1482=Er.ok))=true->qZ t13313 (104:Int) (fun (t1532:Bool) =>
 K t1532)) /\
 ((decide (t1482=Er.ok))=false->K false))))) /\
 ((decide ((t12802.length:Int)=(l.length:Int)))=false->K false))) /\
 ((decide (t12812=Er.ok))=false->K false))) (fun (_:PV) (_:List PV) (_:Int) (_:Bool) (_:Bool) (_:Er) =>
 False)))))))))))))))))))))))) (0:Int) p0 p1))))))) /\
 (t45+(1:Int)=3->qX a_l a_frozen a_over (fun (_:Er) (_:List PV) (_:Bool) (_:Int) =>
 K false) (fun (f9:List PV) (p2:Int) (d3:Bool) (f2:Bool) (t5518:Er) (a_52:List PV) (a_53:Bool) (a_54:Int) =>
 ((¬ (t5518=Er.ok)->K false) /\
 (t5518=Er.ok->qX a_52 a_53 a_54 (fun (_:Er) (_:List PV) (_:Bool) (_:Int) =>
 K false) (fun (h0:List PV) (p3:Int) (d4:Bool) (f3:Bool) (t55110:Er) (a_58:List PV) (a_59:Bool) (a_60:Int) =>
 ((¬ (t55110=Er.ok)->K false) /\
 (t55110=Er.ok->qX a_58 a_59 a_60 (fun (_:Er) (_:List PV) (_:Bool) (_:Int) =>
 K false) (fun (i0:List PV) (p4:Int) (d5:Bool) (f4:Bool) (t55112:Er) (a_64:List PV) (a_65:Bool) (a_66:Int) =>
 ((¬ (t55112=Er.ok)->K false) /\
 (t55112=Er.ok->Lp4 (fun (i3:Int) (t55024:Int) (t55025:Int) (t55026:Int) kont3=>((i3<(l.length:Int)->qH a_64 a_65 a_66 f9 t55024 d3 f2 (fun (t8404:PV) (t8414:Bool) (n8:Int) =>
 ∃ J9:Bool->Prop,((((!t8414)=true->J9 true) /\
 ((!t8414)=false->jb t8404 (fun (t916:List UInt8) =>
 (0<=i3/\i3<(t370.length:Nat)) /\
 jb (t370.getD i3.toNat PV.nil) (fun (t966:List UInt8) =>
 J9 (!decide (t916=t966))))))) /\
 (∀ q22:Bool,J9 q22->((q22=true->K false) /\
 (q22=false->qH a_64 a_65 a_66 h0 t55025 d4 f3 (fun (t8405:PV) (t8415:Bool) (o2:Int) =>
 ∃ J10:Bool->Prop,((((!t8415)=true->J10 true) /\
 ((!t8415)=false->jb t8405 (fun (t915:List UInt8) =>
 (0<=i3/\i3<(t370.length:Nat)) /\
 jb (t370.getD i3.toNat PV.nil) (fun (t965:List UInt8) =>
 J10 (!decide (t915=t965))))))) /\
 (∀ q23:Bool,J10 q23->((q23=true->K false) /\
 (q23=false->qH a_64 a_65 a_66 i0 t55026 d5 f4 (fun (t8406:PV) (t8416:Bool) (o7:Int) =>
 ∃ J11:Bool->Prop,((((!t8416)=true->J11 true) /\
 ((!t8416)=false->jb t8406 (fun (t914:List UInt8) =>
 (0<=i3/\i3<(t370.length:Nat)) /\
 jb (t370.getD i3.toNat PV.nil) (fun (t964:List UInt8) =>
 J11 (!decide (t914=t964))))))) /\
 (∀ q24:Bool,J11 q24->((q24=true->K false) /\
 (q24=false->(In .i64 (i3+(1:Int))) /\
 kont3 (i3+(1:Int)) n8 o2 o7))))))))))))) /\
 (¬ (i3<(l.length:Int))->qH a_64 a_65 a_66 f9 t55024 d3 f2 (fun (_:PV) (t10914:Bool) (t7:Int) =>
 ((t10914=true->K false) /\
 (t10914=false->qL (1:Int) (fun (t1154:PV) =>
 jc a_64 a_65 a_66 t1154 (fun (t1164:Er) (a_67:List PV) (a_68:Bool) (a_69:Int) =>
 qZ t1164 (104:Int) (fun (t1174:Bool) =>
 (((!t1174)=true->K false) /\
 ((!t1174)=false->qP a_67 a_68 a_69 f9 t7 d3 f2 (fun (_:Int) (_:Bool) (_:Bool) (a_70:List PV) (a_71:Bool) (a_72:Int) =>
 qH a_70 a_71 a_72 h0 t55025 d4 f3 (fun (_:PV) (t10915:Bool) (t8:Int) =>
 ((t10915=true->K false) /\
 (t10915=false->qL (1:Int) (fun (t1155:PV) =>
 jc a_70 a_71 a_72 t1155 (fun (t1165:Er) (a_73:List PV) (a_74:Bool) (a_75:Int) =>
 qZ t1165 (104:Int) (fun (t1175:Bool) =>
 (((!t1175)=true->K false) /\
 ((!t1175)=false->qP a_73 a_74 a_75 h0 t8 d4 f3 (fun (_:Int) (_:Bool) (_:Bool) (a_76:List PV) (a_77:Bool) (a_78:Int) =>
 qH a_76 a_77 a_78 i0 t55026 d5 f4 (fun (_:PV) (t10916:Bool) (t9:Int) =>
 ((t10916=true->K false) /\
 (t10916=false->qL (1:Int) (fun (t1156:PV) =>
 jc a_76 a_77 a_78 t1156 (fun (t1166:Er) (a_79:List PV) (a_80:Bool) (a_81:Int) =>
 qZ t1166 (104:Int) (fun (t1176:Bool) =>
 (((!t1176)=true->K false) /\
 ((!t1176)=false->qP a_79 a_80 a_81 i0 t9 d5 f4 (fun (_:Int) (_:Bool) (_:Bool) (a_82:List PV) (a_83:Bool) (a_84:Int) =>
 jC a_82 a_83 a_84 (fun (t12803:List PV) (t12813:Er) (a_85:List PV) (a_86:Bool) (a_87:Int) =>
 kr ([97,98]:List UInt8) (fun (t1323:PV) =>
 ko t1323 (fun (t13315:Er) =>
 (((decide (t12813=Er.ok))=true->(((decide ((t12803.length:Int)=(l.length:Int)))=true->qL (1:Int) (fun (t1473:PV) =>
 jc a_85 a_86 a_87 t1473 (fun (t1483:Er) (_:List PV) (_:Bool) (_:Int) =>
 (((decide (t1483=Er.ok))=true->qZ t13315 (104:Int) (fun (t1533:Bool) =>
 K t1533)) /\
 ((decide (t1483=Er.ok))=false->K false))))) /\
 ((decide ((t12803.length:Int)=(l.length:Int)))=false->K false))) /\
 ((decide (t12813=Er.ok))=false->K false))) (fun (_:PV) (_:List PV) (_:Int) (_:Bool) (_:Bool) (_:Er) =>
 False))))))))))))))))))))))))))))))))) (0:Int) p2 p3 p4)))))))))) /\
 (t45+(1:Int)=4->qX a_l a_frozen a_over (fun (_:Er) (_:List PV) (_:Bool) (_:Int) =>
 K false) (fun (e6:List PV) (p5:Int) (c3:Bool) (d6:Bool) (t55114:Er) (a_94:List PV) (a_95:Bool) (a_96:Int) =>
 ((¬ (t55114=Er.ok)->K false) /\
 (t55114=Er.ok->qX a_94 a_95 a_96 (fun (_:Er) (_:List PV) (_:Bool) (_:Int) =>
 K false) (fun (e7:List PV) (p6:Int) (c4:Bool) (d7:Bool) (t55116:Er) (a_100:List PV) (a_101:Bool) (a_102:Int) =>
 ((¬ (t55116=Er.ok)->K false) /\
 (t55116=Er.ok->qX a_100 a_101 a_102 (fun (_:Er) (_:List PV) (_:Bool) (_:Int) =>
 K false) (fun (e8:List PV) (p7:Int) (c5:Bool) (d8:Bool) (t55118:Er) (a_106:List PV) (a_107:Bool) (a_108:Int) =>
 ((¬ (t55118=Er.ok)->K false) /\
 (t55118=Er.ok->qX a_106 a_107 a_108 (fun (_:Er) (_:List PV) (_:Bool) (_:Int) =>
 K false) (fun (c6:List PV) (o6:Int) (b0:Bool) (c2:Bool) (t55120:Er) (a_112:List PV) (a_113:Bool) (a_114:Int) =>
 ((¬ (t55120=Er.ok)->K false) /\
 (t55120=Er.ok->Lp5 (fun (i4:Int) (t55027:Int) (t55028:Int) (t55029:Int) (t550210:Int) kont4=>((i4<(l.length:Int)->qH a_112 a_113 a_114 e6 t55027 c3 d6 (fun (t8407:PV) (t8417:Bool) (n0:Int) =>
 ∃ J16:Bool->Prop,((((!t8417)=true->J16 true) /\
 ((!t8417)=false->jb t8407 (fun (t9110:List UInt8) =>
 (0<=i4/\i4<(t370.length:Nat)) /\
 jb (t370.getD i4.toNat PV.nil) (fun (t9610:List UInt8) =>
 J16 (!decide (t9110=t9610))))))) /\
 (∀ q37:Bool,J16 q37->((q37=true->K false) /\
 (q37=false->qH a_112 a_113 a_114 e7 t55028 c4 d7 (fun (t8408:PV) (t8418:Bool) (n9:Int) =>
 ∃ J17:Bool->Prop,((((!t8418)=true->J17 true) /\
 ((!t8418)=false->jb t8408 (fun (t919:List UInt8) =>
 (0<=i4/\i4<(t370.length:Nat)) /\
 jb (t370.getD i4.toNat PV.nil) (fun (t969:List UInt8) =>
 J17 (!decide (t919=t969))))))) /\
 (∀ q38:Bool,J17 q38->((q38=true->K false) /\
 (q38=false->qH a_112 a_113 a_114 e8 t55029 c5 d8 (fun (t8409:PV) (t8419:Bool) (o3:Int) =>
 ∃ J18:Bool->Prop,((((!t8419)=true->J18 true) /\
 ((!t8419)=false->jb t8409 (fun (t918:List UInt8) =>
 (0<=i4/\i4<(t370.length:Nat)) /\
 jb (t370.getD i4.toNat PV.nil) (fun (t968:List UInt8) =>
 J18 (!decide (t918=t968))))))) /\
 (∀ q39:Bool,J18 q39->((q39=true->K false) /\
 (q39=false->qH a_112 a_113 a_114 c6 t550210 b0 c2 (fun (t84010:PV) (t84110:Bool) (o8:Int) =>
 ∃ J19:Bool->Prop,((((!t84110)=true->J19 true) /\
 ((!t84110)=false->jb t84010 (fun (t917:List UInt8) =>
 (0<=i4/\i4<(t370.length:Nat)) /\
 jb (t370.getD i4.toNat PV.nil) (fun (t967:List UInt8) =>
 J19 (!decide (t917=t967))))))) /\
 (∀ q40:Bool,J19 q40->((q40=true->K false) /\
 (q40=false->(In .i64 (i4+(1:Int))) /\
 kont4 (i4+(1:Int)) n0 n9 o3 o8))))))))))))))))) /\
 (¬ (i4<(l.length:Int))->qH a_112 a_113 a_114 e6 t55027 c3 d6 (fun (_:PV) (t10917:Bool) (u0:Int) =>
 ((t10917=true->K false) /\
 (t10917=false->qL (1:Int) (fun (t1157:PV) =>
 jc a_112 a_113 a_114 t1157 (fun (t1167:Er) (a_115:List PV) (a_116:Bool) (a_117:Int) =>
 qZ t1167 (104:Int) (fun (t1177:Bool) =>
 (((!t1177)=true->K false) /\
 ((!t1177)=false->qP a_115 a_116 a_117 e6 u0 c3 d6 (fun (_:Int) (_:Bool) (_:Bool) (a_118:List PV) (a_119:Bool) (a_120:Int) =>
 qH a_118 a_119 a_120 e7 t55028 c4 d7 (fun (_:PV) (t10918:Bool) (u1:Int) =>
 ((t10918=true->K false) /\
 (t10918=false->qL (1:Int) (fun (t1158:PV) =>
 jc a_118 a_119 a_120 t1158 (fun (t1168:Er) (a_121:List PV) (a_122:Bool) (a_123:Int) =>
 qZ t1168 (104:Int) (fun (t1178:Bool) =>
 (((!t1178)=true->K false) /\
 ((!t1178)=false->qP a_121 a_122 a_123 e7 u1 c4 d7 (fun (_:Int) (_:Bool) (_:Bool) (a_124:List PV) (a_125:Bool) (a_126:Int) =>
 qH a_124 a_125 a_126 e8 t55029 c5 d8 (fun (_:PV) (t10919:Bool) (u2:Int) =>
 ((t10919=true->K false) /\
 (t10919=false->qL (1:Int) (fun (t1159:PV) =>
 jc a_124 a_125 a_126 t1159 (fun (t1169:Er) (a_127:List PV) (a_128:Bool) (a_129:Int) =>
 qZ t1169 (104:Int) (fun (t1179:Bool) =>
 (((!t1179)=true->K false) /\
 ((!t1179)=false->qP a_127 a_128 a_129 e8 u2 c5 d8 (fun (_:Int) (_:Bool) (_:Bool) (a_130:List PV) (a_131:Bool) (a_132:Int) =>
 qH a_130 a_131 a_132 c6 t550210 b0 c2 (fun (_:PV) (t109110:Bool) (u3:Int) =>
 ((t109110=true->K false) /\
 (t109110=false->qL (1:Int) (fun (t11510:PV) =>
 jc a_130 a_131 a_132 t11510 (fun (t11610:Er) (a_133:List PV) (a_134:Bool) (a_135:Int) =>
 qZ t11610 (104:Int) (fun (t11710:Bool) =>
 (((!t11710)=true->K false) /\
 ((!t11710)=false->qP a_133 a_134 a_135 c6 u3 b0 c2 (fun (_:Int) (_:Bool) (_:Bool) (a_136:List PV) (a_137:Bool) (a_138:Int) =>
 jC a_136 a_137 a_138 (fun (t12804:List PV) (t12814:Er) (a_139:List PV) (a_140:Bool) (a_141:Int) =>
 kr ([97,98]:List UInt8) (fun (t1324:PV) =>
 ko t1324 (fun (t13317:Er) =>
 (((decide (t12814=Er.ok))=true->(((decide ((t12804.length:Int)=(l.length:Int)))=true->qL (1:Int) (fun (t1474:PV) =>
 jc a_139 a_140 a_141 t1474 (fun (t1484:Er) (_:List PV) (_:Bool) (_:Int) =>
 (((decide (t1484=Er.ok))=true->qZ t13317 (104:Int) (fun (t1534:Bool) =>
 K t1534)) /\
 ((decide (t1484=Er.ok))=false->K false))))) /\
 ((decide ((t12804.length:Int)=(l.length:Int)))=false->K false))) /\
 ((decide (t12814=Er.ok))=false->K false))) (fun (_:PV) (_:List PV) (_:Int) (_:Bool) (_:Bool) (_:Er) =>
 False)))))))))))))))))))))))))))))))))))))))))) (0:Int) p5 p6 p7 o6)))))))))))))))))))))))
set_option maxRecDepth 100000 in
set_option maxHeartbeats 8000000 in
theorem W_smithylaw12_ListOvers {S:List Nat} {w:World} {l:List Int} {A_l:Option Addr} {c_l:Nat} {n:Int} {n_l:Nat} {K:Bool->Prop} (hG:GOK S w) (hS0:0∈S) (hS1:1∈S) (hS2:2∈S) (hS3:3∈S) (hS4:4∈S) (hS5:5∈S) (hS6:6∈S) (hS7:7∈S) (hS8:8∈S) (hS9:9∈S) (hS10:10∈S) (hS11:11∈S) (hS12:12∈S) (hS13:13∈S) (hS14:14∈S) (hS15:15∈S) (hS16:16∈S) (hl:Rd vi w A_l c_l l) (a7d:n_l=l.length) (H:jL l n K):Fn Tryz.prog 4 ⟨[.slice A_l n_l c_l,.int .i64 n]⟩ w (fun v w'=>w.grownBy w' none/\∃ (r:Bool),v=.bool r/\K r):=by
 subst a7d
 unfold jL at H
 refine Fn.enter (by kernel_rfl) Tryz.func4 rfl Tryz.ntmps4 rfl ?_
 replace H:=H (Nat.le_trans hl.cap hl.max)
 refine zd (zb (yp (h:=(ze (za (zd (zb (zx rfl rfl (W_smithylaw12_first hG hS0 hS1 hS2 hS3 hS4 hS5 hS6 hS7 hS8 hS9 hS10 hS11 hS12 hS13 hS14 hS15 hS16 H) ?_))))))))
 rintro _ w1 ⟨hg1,ok,rfl,H⟩
 have gr1:=hg1
 refine yp (h:=(ze (za (zd (zd (zb (yp (h:=(yp (h:=(ze (za (zm rfl (fun b1=>?_) (fun b1=>?_))))))))))))))
 ·replace H:=H.1 (b1)
  exact zd (zb (yp (h:=(ze (za (zt (zf (zD rfl rfl ⟨gr1,false,rfl,H⟩))))))))
 replace H:=H.2 (b1)
 refine zo (za (zd (zd (zb (yp (h:=(yp (h:=(yp (h:=(yp (h:=(zV 3 (fun L' w'=>∃ q1:Bool,L'=[(33,.bool q1),(0,.slice A_l l.length c_l),(1,.int .i64 n),(5,.bool ok)]/\((decide ((20:Int)<(l.length:Int))) || (!ok))=q1/\w1=w') ?_ (fun hQ=>?_))))))))))))))
 ·rintro _ _ ⟨q1,rfl,rfl,rfl⟩
  refine ze (za (zm rfl (fun b2=>?_) (fun b2=>?_)))
  ·replace H:=H.1 (b2)
   exact zd (zb (yp (h:=(yp (h:=(ze (za (zt (zf (zD rfl rfl ⟨gr1,ok,rfl,H⟩))))))))))
  replace H:=H.2 (b2)
  refine zo (za (zd (zb (yp (h:=(zx rfl rfl (W_smithylaw12_items (hl.grown gr1) rfl H) ?_))))))
  rintro _ w2 ⟨hg2,t370,a1,a2,a3,t371,a5r,a7c,a3e,rfl,ht370,a0,ho1,dj1,ht371,a1t,ho2,dj2,H⟩
  have hb1:=ht370.ge'
  have k1:=ht370.base (fun g hg=>Nat.le_trans (qE gr1) (hb1 g hg))
  have hb2:=ht371.ge'
  have k2:=ht371.base (fun g hg=>Nat.le_trans (qE gr1) (hb2 g hg))
  have gr2:=qG gr1 hg2
  refine yp (h:=(yp (h:=(yp (h:=(yp (h:=(yp (h:=(ze (za (zd (zb (yp (h:=(zx rfl rfl (W_val_NewList k1.rd rfl a0 H) ?_))))))))))))))))
  rintro v_ w3 ⟨hg_,hc_ | hc_⟩
  ·obtain ⟨rfl,H⟩:=hc_
   have hg3:=hg_
   have k3:=k1.grown hg3
   have k4:=a0.grown hg3
   exact yp (h:=(ze (za (zd (zd (zb (yp (h:=(zg rfl (zY Tryz.underlying61 rfl rfl) (ze (za (zm rfl (fun _=>zd (zb (yp (h:=(ze (za (zt (zf (zD rfl rfl ⟨(qG gr2 hg3),false,rfl,H⟩))))))))) (fun h=>by cases h)))))))))))))
  obtain ⟨g_a,a_l,a7x,a8f,a7l,a_frozen,a_over,rfl,ha_l,l8,ho3,dj3,ha,hge1,dj4,dj5,dj6,H⟩:=hc_
  have hg4:=hg_
  have hb3:=ha_l.ge'
  have k5:=ha_l.base (fun g hg=>Nat.le_trans (qE gr2) (hb3 g hg))
  have gr4:=qG gr2 hg4
  have k6:=k1.grown hg4
  have k7:=a0.grown hg4
  refine yp (h:=(ze (za (zd (zd (zb (yp (h:=(zg rfl (zY Tryz.underlying61 rfl rfl) (ze (za (zm rfl (fun h=>by cases h) (fun _=>zo (za (zd (zb (yp (h:=(zx rfl rfl (kp H) ?_)))))))))))))))))))
  rintro _ _ ⟨rfl,t45,rfl,H⟩
  obtain ⟨h1,H⟩:=H
  refine zg rfl (Yld.add rfl rfl h1) (yp (h:=(ze (za ?_))))
  obtain ⟨h2,H⟩:=H
  have b3:t45+(1:Int)=1∨t45+(1:Int)=2∨t45+(1:Int)=3∨t45+(1:Int)=4:=by have:=h2; omega
  rcases b3 with b3 | b3 | b3 | b3
  ·replace H:=H.1 b3
   rw [b3]
   refine zd (zb (yp (h:=(ze (za (zd (zd (zb (yp (h:=(ze (za (WC.block (qv (WCL.one (zd (zd (zb (yp (h:=(yp (h:=(yp (h:=(ze (za (zm rfl (fun _=>zo (za (zd (WC.block (zd (zb (yp (h:=(zg rfl (qj Tryz.underlying61 rfl rfl) (zx rfl rfl (jg (S:=S) (k5.base (fun _ _=>Nat.zero_le _)) rfl l8 ha dj6.symm (apC dj5 (apC dj4 apN)) H) ?_)))))))))) (fun h=>by cases h))))))))))))))))))))))))))))
   rintro v_ w6 ⟨hg_,hc_ | hc_⟩
   ·obtain ⟨v_t551,t551,a_,a8h,a8i,a8g,a_2,a_3,rfl,ht551,hB1,hO1,hi1,hr1,ho4,dj7,dj8,dj9,H⟩:=hc_
    have hgl1:=hg_
    have hO2:=hO1.base (InP.toGe hi1 (apC (Ge.le hge1 (qE gr2)) (apC k5.ge' apN)) (qE gr4))
    have k8:=k6.goL hgl1 (apC (Dj.new k1.lt' hge1) (apC (Dj.new k1.lt' hb3) apN))
    have k9:=k7.goL hgl1 (apC (a0.new hge1) (apC (a0.new hb3) apN))
    have k10:=l8.goL hgl1 (apC dj5 (apC dj4 apN))
    refine yp (h:=(yp (h:=(yp (h:=(yp (h:=(yp (h:=(ze (za (zd (zd (zb (yp (h:=(zg rfl (zY Tryz.underlying64 rfl rfl) (yp (h:=(zV 3 (fun L' w'=>∃ q2:Bool,L'=[(63,.bool q2),(0,.slice A_l l.length c_l),(1,.int .i64 (1:Int)),(6,.slice a1 t370.length a2),(8,.pointer (some ⟨g_a,0,none⟩)),(9,.slice none 0 0),(10,.int .i64 (0:Int)),(11,.pointer none)]/\true=q2/\w6=w') ?_ (fun hQ=>?_)))))))))))))))))))))
    ·rintro _ _ ⟨q2,rfl,rfl,rfl⟩
     exact ze (za (zm rfl (fun _=>zd (zb (yp (h:=(ze (za (zt (zf (zj (zf (zf (zj (zf (zD rfl rfl ⟨(qN gr4 hgl1 (apC (Ge.le hge1 (qE gr2)) (apC k5.ge' apN))),false,rfl,H⟩)))))))))))))) (fun h=>by cases h)))
    clear H
    exact zG rfl rfl (rfl) rfl (zG rfl rfl (rfl) rfl (zg rfl (zQ (rfl) rfl) (wk (hQ _ _ ⟨true,rfl,rfl,rfl⟩))))
   obtain ⟨m4,n3,o0,o1,n7,r2,l4,m3,v_t5512,t5512,a_4,s2,s9,r0,a_5,a_6,rfl,ht550_l,u7,ho6,dj10,ht5512,ht550,hge2,dj11,dj12,dj13,hB2,hO3,hi2,hr2,ho5,dj14,dj15,dj16,dj17,dj18,dj19,dj20,dj21,dj22,dj23,dj24,H⟩:=hc_
   have hgl2:=hg_
   have hO4:=hO3.base (InP.toGe hi2 (apC (Ge.le hge1 (qE gr2)) (apC k5.ge' apN)) (qE gr4))
   have hb4:=ht550_l.ge'
   have gr6:=qN gr4 hgl2 (apC (Ge.le hge1 (qE gr2)) (apC k5.ge' apN))
   have k14:=l8.goL hgl2 (apC dj5 (apC dj4 apN))
   refine yp (h:=(yp (h:=(yp (h:=(yp (h:=(yp (h:=(ze (za (zd (zd (zb (yp (h:=(zg rfl (zY Tryz.underlying64 rfl rfl) (yp (h:=(zV 3 (fun L' w'=>∃ q3:Bool,L'=[(63,.bool q3),(0,.slice A_l l.length c_l),(1,.int .i64 (1:Int)),(6,.slice a1 t370.length a2),(8,.pointer (some ⟨g_a,0,none⟩)),(9,.slice none 0 0),(10,.int .i64 (0:Int)),(11,.pointer (some ⟨m4,0,none⟩))]/\(!decide (t5512=Er.ok))=q3/\w6=w') ?_ (fun hQ=>?_)))))))))))))))))))))
   ·rintro _ _ ⟨q3,rfl,rfl,rfl⟩
    refine ze (za (zm rfl (fun b4=>?_) (fun b4=>?_)))
    ·replace H:=H.1 (jw b4)
     exact zd (zb (yp (h:=(ze (za (zt (zf (zj (zf (zf (zj (zf (zD rfl rfl ⟨gr6,false,rfl,H⟩)))))))))))))
    replace H:=H.2 (jq b4)
    refine zo (za (zb (yp (h:=(yp (h:=(z5 qD rfl rfl rfl (qJ rfl jl) rfl (by omega) (fun g1 w9 hB3 hg5 hl1=>?_))))))))
    have hO5:Own vQ w9 w.heap.size 64 (some ⟨g1,0,none⟩) 1 ([m4]:List Nat):=Own.ofBl hB3 (Nat.le_trans (qE gr6) hl1) (by simp [maxLen]) rfl
    have gr7:=qG gr6 hg5
    have k17:=hB2.g0 hg5
    have k18:=hO4.grown hg5
    have k21:=ht550.g0 hg5
    refine z4 qD rfl rfl One.vQ (Own.nil vQ w9 w.heap.size 64) rfl rfl hO5.rd rfl rfl (by simp) (jT (c:=7) (by simp)) (qE gr7) (fun p8 p9 w10 hO6 hg6 hk1=>yp (h:=(ze (zi (za (zb (yp (h:=(zg rfl (zR (v:=.int .i64 (1:Int)) (Yld.add rfl rfl (by simp only [In]; omega)) rfl) (yp (h:=(ze (qf (WCL.one (zd (zd (zb (yp (h:=(yp (h:=(yp (h:=(ze (za (zm rfl (fun h=>by cases h) (fun _=>zy (zk (zk (zl (za (zd (zd (zb (yp (h:=(ze (za (WC.block ?_)))))))))))))))))))))))))))))))))))))))
    obtain ⟨I1,mu1,a1e,HR1⟩:=H
    refine z3 (fun n' L' w'=>∃ (i:Int),∃ (t5502:Int),n'=mu1 i t5502/\L'=[(0,.slice A_l l.length c_l),(1,.int .i64 (1:Int)),(6,.slice a1 t370.length a2),(8,.pointer (some ⟨g_a,0,none⟩)),(9,.slice p8 (([]++([m4]:List Nat)).length) p9),(13,.int .i64 i)]/\I1 i t5502/\w.grownBy w' none/\Own vv w' w.heap.size 32 a1 a2 a3/\RelD deV w' a3 t370/\Bl w' g_a 166 [.slice s2 a_4.length s9,.bool a_5,.int .i64 a_6]/\Own vv w' w.heap.size 32 s2 s9 r0/\RelD deV w' r0 a_4/\Own vv w' w.heap.size 32 o0 o1 n7/\Bl w' m4 168 [.iface 61 (.pointer (some ⟨g_a,0,none⟩)),.slice o0 n3.length o1,.int .i64 t5502,.bool l4,.bool m3]/\RelD deV w' n7 n3/\Own vQ w' w.heap.size 64 p8 p9 ([]++([m4]:List Nat))) _ _ ⟨(0:Int),r2,rfl,rfl,a1e,(qG gr7 hg6),(((k6.goL hgl2 (apC (Dj.new k1.lt' hge1) (apC (Dj.new k1.lt' hb3) apN))).grown hg5).grown hg6),(((k7.goL hgl2 (apC (a0.new hge1) (apC (a0.new hb3) apN))).grown hg5).grown hg6),(k17.g0 hg6),(k18.grown hg6),((hr2.grown hg5).grown hg6),(((ht550_l.base (fun g hg=>Nat.le_trans (qE gr4) (hb4 g hg))).grown hg5).grown hg6),(k21.g0 hg6),((u7.grown hg5).grown hg6),hO6⟩ sb ?_
    clear a1e
    rintro _ _ w11 ⟨i,t5502,rfl,rfl,hI1,gr9,k31,k32,k33,k34,k35,k36,k37,k38,k39⟩
    have H:=HR1 i t5502 hI1
    refine zd (zd (zb (yp (h:=(yp (h:=(yp (h:=(yp (h:=(ze (za (zm rfl (fun b5=>?_) (fun b5=>?_))))))))))))))
    ·replace H:=H.1 (of_decide_eq_true b5)
     refine zo (za (zd (WC.block (zd (zb (yp (h:=(ze (za (WC.block (qv (WCL.one (zd (zd (zb (yp (h:=(yp (h:=(yp (h:=(ze (za (zm rfl (fun _=>zo (za (zd (WC.block (zd (zb (yp (h:=(yp (h:=(zg rfl (zB qD k39.rd rfl rfl rfl rfl (by omega) (by simp)) (zg rfl (zR (v:=.pointer (some ⟨m4,0,none⟩)) (zM 0 qD k39.rd rfl rfl (by simp)) rfl) (zx rfl rfl (qK k34.rd rfl k35 k33 k36.rd rfl k38 k37 (apC (Dn.of dj20.symm) apN) (apC dj24 apN) (apC dj19.symm apN) (apC (Dn.of dj13) apN) (apC dj12 apN) H) ?_))))))))))))) (fun h=>by cases h)))))))))))))))))))))))))
     rintro _ w12 ⟨hgl3,v_t840,F_t840,t840,t841,t550_,rfl,ht840,ho7,hB4,dj25,H⟩
     have gr10:=qN gr9 hgl3 (apC (Ge.le hge2 (qE gr4)) apN)
     have k40:=k31.goL hgl3 (apC (Dj.new k6.lt' hge2) apN)
     have k41:=k32.goL hgl3 (apC (k7.new hge2) apN)
     have k42:=k33.goL hgl3 (apC dj19.symm apN)
     have k43:=k34.goL hgl3 (apC dj20.symm apN)
     have k44:=k35.goL hgl3 (apC dj24 apN)
     have k45:=k36.goL hgl3 (apC dj13 apN)
     have k46:=k38.goL hgl3 (apC dj12 apN)
     have k47:=k39.goL hgl3 (apC (Dj.app (p:=none) Dj.nl k21.lt' hk1).symm.symm apN)
     refine yp (h:=(yp (h:=(yp (h:=(yp (h:=(yp (h:=(ze (za (zd (zW (fun k => !(Nat.beq k 4 || Nat.beq k 9)) (LD [8] (fun w'=>Rd vv w' a1 a2 a3)) jx (by kernel_rfl) (fun k w' h _=>(jQ h k40.rd)) (zA rfl rfl (fun w' hw'=>zh qD rfl) (zA rfl rfl (fun w' hw'=>zh qD rfl) (zA rfl rfl (fun w' hw'=>zh qD rfl) ?_))))))))))))))))
     obtain ⟨J1,H,hJ1⟩:=H
     refine qr 9 (fun L' w'=>∃ q4:Bool,L'=[(98,.bool q4),(0,.slice A_l l.length c_l),(1,.int .i64 (1:Int)),(6,.slice a1 t370.length a2),(8,.pointer (some ⟨g_a,0,none⟩)),(9,.slice p8 (([]++([m4]:List Nat)).length) p9),(13,.int .i64 i),(14,.int .i64 (0:Int))]/\J1 q4/\w.grownBy w' none/\Own vv w' w.heap.size 32 a1 a2 a3/\RelD deV w' a3 t370/\Bl w' g_a 166 [.slice s2 a_4.length s9,.bool a_5,.int .i64 a_6]/\Own vv w' w.heap.size 32 s2 s9 r0/\RelD deV w' r0 a_4/\Own vv w' w.heap.size 32 o0 o1 n7/\Bl w' m4 168 [.iface 61 (.pointer (some ⟨g_a,0,none⟩)),.slice o0 n3.length o1,.int .i64 t550_,.bool l4,.bool m3]/\RelD deV w' n7 n3/\Own vQ w' w.heap.size 64 p8 p9 ([]++([m4]:List Nat))) ?_ (fun hQ=>?_)
     ·clear H
      rintro _ w13 ⟨q4,rfl,H,gr11,k48,k49,k50,k51,k52,k53,k54,k55,k56⟩
      replace H:=hJ1 q4 H
      refine qh (za (zm rfl (fun b6=>?_) (fun b6=>?_)))
      ·replace H:=H.1 (b6)
       exact zd (zb (yp (h:=(ze (za (zt (zj (zf (zf (zj (zj (zf (zf (zj (zf (zD rfl rfl ⟨gr11,false,rfl,H⟩))))))))))))))))
      replace H:=H.2 (b6)
      refine zo (zi (za (zb (yp (h:=(zg rfl (zR (v:=.int .i64 (1:Int)) (Yld.add rfl rfl (by simp only [In]; omega)) rfl) (yp (h:=(ze (qf (WCL.one (zd (zd (zb (yp (h:=(yp (h:=(yp (h:=(ze (za (zm rfl (fun h=>by cases h) (fun _=>zy (zk (zk (zl (zi (za (zb (yp (h:=?_))))))))))))))))))))))))))))))))
      obtain ⟨h3,H⟩:=H
      exact zg rfl (Yld.add rfl rfl h3) (yp (h:=(ze (zX _ ⟨i+(1:Int),t550_,rfl,rfl,H.1,gr11,k48,k49,k50,k51,k52,k53,k54,k55,k56⟩ sb H.2))))
     clear hJ1
     rcases Bool.eq_false_or_eq_true (!t841) with b7 | b7
     ·replace H:=H.1 b7
      exact zS rfl rfl (okb b7) rfl (zS rfl rfl (okb b7) rfl (zS rfl rfl (okb b7) rfl (zS rfl rfl (okb b7) rfl (zS rfl rfl (okb b7) rfl (zS rfl rfl (okb b7) rfl (zS rfl rfl (okb b7) rfl (zS rfl rfl (okb b7) rfl (zA rfl rfl (fun w' hw'=>zQ (okb b7) rfl) (WJ.weaken sb (hQ _ _ ⟨true,rfl,H,gr10,k40,k41,k42,k43,k44,k45,hB4,k46,k47⟩))))))))))
     replace H:=H.2 b7
     refine zU rfl (qF rfl rfl (okb b7)) rfl (fun w' hw'=>zh qD rfl) (z7 rfl (qF rfl rfl (okb b7)) rfl rfl (jn ht840 H) (fun v w' h w2 e=>DD.keep (Rd.grown k40.rd (jo h.1 e))) ?_)
     rintro _ w14 ⟨hg7,t91,rfl,H⟩
     have k57:=k40.grown hg7
     have k58:=k41.grown hg7
     have k66:=ht840.grown hg7
     refine zU rfl (qF rfl rfl (okb b7)) rfl (fun w' hw'=>zh qD rfl) (zU rfl (qF rfl rfl (okb b7)) rfl (fun w' hw'=>zh qD rfl) ?_)
     obtain ⟨h4,H⟩:=H
     refine zU rfl (qF rfl rfl (okb b7)) rfl (fun w' hw'=>zB qD k57.rd rfl rfl a0.1.symm rfl h4.1 h4.2) ?_
     obtain ⟨⟨v_el,F_el⟩,eh1,hR1⟩:=RelD.at k58 vh0 PV.nil (j:=i.toNat) (Nat.lt_of_lt_of_eq (iltN h4 a0.1.symm) k58.1)
     have hv1:RelD deV w14 [(v_el,F_el)] [t370.getD i.toNat PV.nil]:=RelD.cons hR1 RelD.nil
     refine zU rfl (qF rfl rfl (okb b7)) rfl (fun w' hw'=>zR (v:=v_el.1) (zM vh0 qD (hw' rfl) rfl rfl (iltN h4 a0.1.symm)) (congrArg vv eh1)) (z7 rfl (qF rfl rfl (okb b7)) rfl rfl (jn hv1 H) (fun v w' h w2 e=>DD.keep (Rd.grown k57.rd (jo h.1 e))) ?_)
     rintro _ w15 ⟨hg8,t96,rfl,H⟩
     have k76:=hv1.grown hg8
     exact zU rfl (qF rfl rfl (okb b7)) rfl (fun w' hw'=>zh qD rfl) (zA rfl rfl (fun w' hw'=>zK (okb b7) rfl) (WJ.weaken sb (hQ _ _ ⟨!decide (t91=t96),rfl,H,(qG (qG gr10 hg7) hg8),(k57.grown hg8),(k58.grown hg8),((k42.g0 hg7).g0 hg8),((k43.grown hg7).grown hg8),((k44.grown hg7).grown hg8),((k45.grown hg7).grown hg8),((hB4.g0 hg7).g0 hg8),((k46.grown hg7).grown hg8),((k47.grown hg7).grown hg8)⟩)))
    replace H:=H.2 (of_decide_eq_false b5)
    refine zy (zk (zk (zl (za (zd (zd (zb (yp (h:=(ze (za (WC.block (qv (WCL.one (zd (zd (zb (yp (h:=(yp (h:=(yp (h:=(ze (za (zm rfl (fun _=>zo (za (zd (WC.block (zd (zb (yp (h:=(yp (h:=(zg rfl (zB qD k39.rd rfl rfl rfl rfl (by omega) (by simp)) (zg rfl (zR (v:=.pointer (some ⟨m4,0,none⟩)) (zM 0 qD k39.rd rfl rfl (by simp)) rfl) (zx rfl rfl (qK k34.rd rfl k35 k33 k36.rd rfl k38 k37 (apC (Dn.of dj20.symm) apN) (apC dj24 apN) (apC dj19.symm apN) (apC (Dn.of dj13) apN) (apC dj12 apN) H) ?_))))))))))))) (fun h=>by cases h)))))))))))))))))))))))))))
    rintro _ w16 ⟨hgl4,v_t1090,F_t1090,t1090,t1091,u9,rfl,ht1090,ho8,hB5,dj26,H⟩
    have gr14:=qN gr9 hgl4 (apC (Ge.le hge2 (qE gr4)) apN)
    have k77:=k33.goL hgl4 (apC dj19.symm apN)
    have k78:=k34.goL hgl4 (apC dj20.symm apN)
    refine yp (h:=(yp (h:=(yp (h:=(yp (h:=(yp (h:=(ze (za (zd (zd (zb (yp (h:=(yp (h:=?_))))))))))))))))))
    rcases Bool.eq_false_or_eq_true (t1091) with b8 | b8
    ·replace H:=H.1 b8
     exact gn b8 (h:=(gn b8 (h:=(gn b8 (h:=(gn b8 (h:=(gn b8 (h:=(zg rfl (zQ (okb b8) rfl) (ze (za (zm rfl (fun _=>zd (zb (yp (h:=(ze (za (zt (zf (zj (zf (zf (zj (zf (zD rfl rfl ⟨gr14,false,rfl,H⟩)))))))))))))) (fun h=>by cases h))))))))))))))
    replace H:=H.2 b8
    refine gp b8 (h:=(zT (qF rfl rfl (okb b8)) rfl rfl (qM H) ?_))
    rintro _ w17 ⟨hg9,v_t115,F_t115,t115,rfl,ht115,ho9,H⟩
    have gr15:=qG gr14 hg9
    have k83:=k77.g0 hg9
    have k84:=k78.grown hg9
    have k85:=(k35.goL hgl4 (apC dj24 apN)).grown hg9
    have k86:=(k36.goL hgl4 (apC dj13 apN)).grown hg9
    have k87:=hB5.g0 hg9
    have k88:=(k38.goL hgl4 (apC dj12 apN)).grown hg9
    have k89:=(k39.goL hgl4 (apC (Dj.app (p:=none) Dj.nl k21.lt' hk1).symm.symm apN)).grown hg9
    refine zT (qF rfl rfl (okb b8)) rfl rfl (jk (GB.grown hG gr15) (qE gr15) (apC (Ge.le hge1 (qE gr2)) (apC k84.ge' apN)) hS3 hS7 (k84.base (fun _ _=>Nat.zero_le _)) rfl k85 k83 ht115 dj14 (apC dj15 (apC dj16 apN)) (apC (ho9 _ k77.lt') (apC (ho9 _ k78.lt') apN)) H) ?_
    rintro v_t116 w18 ⟨hgl5,_,t116,a_7,a7q,a7y,a7e,a_8,a_9,rfl,ht116,hB6,hO7,hi3,hr3,ho10,dj27,dj28,dj29,H⟩
    have hO8:=hO7.base (InP.toGe hi3 (apC (Ge.le hge1 (qE gr2)) (apC k84.ge' apN)) (qE gr15))
    have gr16:=qN gr15 hgl5 (apC (Ge.le hge1 (qE gr2)) (apC k84.ge' apN))
    have k90:=k85.goL hgl5 (apC dj15 (apC dj16 apN))
    have k95:=ht115.goL hgl5 (apC (ho9 _ k77.lt') (apC (ho9 _ k78.lt') apN))
    refine zT (qF rfl rfl (okb b8)) rfl rfl (ji (hG.grown gr16) hS0 hS1 hS2 hS3 hS4 hS5 hS6 hS7 hS8 hS9 hS10 hS11 hS12 hS13 hS14 hS15 hS16 ht116 H) ?_
    rintro _ w19 ⟨hg10,t117,rfl,H⟩
    have gr17:=qG gr16 hg10
    have k96:=hB6.g0 hg10
    have k97:=(k86.goL hgl5 (apC dj17.symm.symm (apC dj18 apN))).grown hg10
    have k98:=(k87.goL hgl5 (apC dj19.symm.symm (apC dj20 apN))).g0 hg10
    have k99:=(k88.goL hgl5 (apC dj21 (apC dj22 apN))).grown hg10
    have k100:=(k89.goL hgl5 (apC (Dj.app (p:=none) Dj.nl k17.lt' hk1).symm.symm (apC (Dj.app (p:=none) Dj.nl k18.lt' hk1).symm.symm apN))).grown hg10
    have k101:=hO8.grown hg10
    have k102:=hr3.grown hg10
    have k103:=ht116.grown hg10
    refine gp b8 (h:=(zg rfl (zK (okb b8) rfl) (ze (za (zm rfl (fun b9=>?_) (fun b9=>?_))))))
    ·replace H:=H.1 (b9)
     exact zd (zb (yp (h:=(ze (za (zt (zf (zj (zf (zf (zj (zf (zD rfl rfl ⟨gr17,false,rfl,H⟩)))))))))))))
    replace H:=H.2 (b9)
    refine zo (za (zb (yp (h:=(yp (h:=(zg rfl (zB qD k100.rd rfl rfl rfl rfl (by omega) (by simp)) (zg rfl (zR (v:=.pointer (some ⟨m4,0,none⟩)) (zM 0 qD k100.rd rfl rfl (by simp)) rfl) (zx rfl rfl (ja (k101.base (fun _ _=>Nat.zero_le _)) rfl k102 k96 k97.rd rfl k99 k98 dj19.symm.symm (InP.dj hi3 k87.lt' (apC dj19.symm.symm (apC dj20 apN))).symm dj27 (apC (ho10 _ k87.lt' dj24 (ho9 _ hB5.lt')) (apC dj28 (apC dj29 apN))) (apC (Dn.of dj13) (apC (Dn.of dj17.symm.symm) (apC (Dn.of (InP.dj hi3 k86.lt' (apC dj17.symm.symm (apC dj18 apN))).symm) apN))) (apC dj12 (apC dj21 (apC (RelD.inp k88 (apC dj21 (apC dj22 apN)) hi3) apN))) H) ?_)))))))))
    rintro _ w20 ⟨hgl6,a7m,a7n,a7o,a_10,a7r,a7z,a7f,a_11,a_12,rfl,hB7,hB8,hO9,hi4,hr4,ho11,dj30,dj31,dj32,dj33,dj34,dj35,H⟩
    have hO10:=hO9.base (InP.toGe hi4 (apC (Ge.le hge2 (qE gr4)) (apC (Ge.le hge1 (qE gr2)) (apC k101.ge' apN))) (qE gr17))
    have gr18:=qN gr17 hgl6 (apC (Ge.le hge2 (qE gr4)) (apC (Ge.le hge1 (qE gr2)) (apC k101.ge' apN)))
    have k104:=k97.goL hgl6 (apC dj13 (apC dj17.symm.symm (apC (InP.dj hi3 k86.lt' (apC dj17.symm.symm (apC dj18 apN))).symm apN)))
    have k105:=k99.goL hgl6 (apC dj12 (apC dj21 (apC (RelD.inp k88 (apC dj21 (apC dj22 apN)) hi3) apN)))
    have k106:=k100.goL hgl6 (apC (Dj.app (p:=none) Dj.nl k21.lt' hk1).symm.symm (apC (Dj.app (p:=none) Dj.nl k17.lt' hk1).symm.symm (apC (InP.dj hi3 k89.lt' (apC (Dj.app (p:=none) Dj.nl k17.lt' hk1).symm.symm (apC (Dj.app (p:=none) Dj.nl k18.lt' hk1).symm.symm apN))).symm apN)))
    have k107:=k102.goL hgl6 (apC (ho10 _ k87.lt' dj24 (ho9 _ hB5.lt')) (apC dj28 (apC dj29 apN)))
    refine ze (zi (za (zb (yp (h:=(zg rfl (zR (v:=.int .i64 (1:Int)) (Yld.add rfl rfl (by simp only [In]; omega)) rfl) (yp (h:=(ze (qf (WCL.one (zd (zd (zb (yp (h:=(yp (h:=(yp (h:=(ze (za (zm rfl (fun h=>by cases h) (fun _=>zy (zk (zk (zl (za (zd (zb (yp (h:=(zg rfl (qj Tryz.underlying61 rfl rfl) (zx rfl rfl (ks (S:=S) (hO10.base (fun _ _=>Nat.zero_le _)) rfl hr4 hB8 dj32 (apC dj34 (apC dj35 apN)) H) ?_))))))))))))))))))))))))))))))))))
    rintro _ w21 ⟨hgl7,t1280,a1q,a1r,a1i,v_t1281,t1281,a_13,a7s,a8a,a7g,a_14,a_15,rfl,ht1280,u8,ho13,dj36,ht1281,hB9,hO11,hi5,hr5,ho12,dj37,dj38,dj39,dj40,dj41,dj42,dj43,dj44,H⟩
    have hO12:=hO11.base (InP.toGe hi5 (apC (Ge.le hge1 (qE gr2)) (apC hO10.ge' apN)) (qE gr18))
    have hb5:=ht1280.ge'
    have k109:=hr4.goL hgl7 (apC dj34 (apC dj35 apN))
    refine yp (h:=(yp (h:=(yp (h:=(yp (h:=(yp (h:=(ze (za (zd (zb (zx rfl rfl (W_val_Str H) ?_))))))))))))))
    rintro _ w22 ⟨hg11,v_t132,F_t132,t132,rfl,ht132,ho14,H⟩
    have gr20:=qG (qN gr18 hgl7 (apC (Ge.le hge1 (qE gr2)) (apC hO10.ge' apN))) hg11
    have k110:=hB9.g0 hg11
    have k111:=hO12.grown hg11
    have k112:=hr5.grown hg11
    have k113:=(ht1280.base (fun g hg=>Nat.le_trans (qE gr18) (hb5 g hg))).grown hg11
    have k114:=ht1281.grown hg11
    have k115:=u8.grown hg11
    refine zx rfl rfl (W_list_Each (hG.grown gr20) hS3 ht132 H) ?_
    rintro v_ w23 ⟨hg_,hc_ | hc_⟩
    ·obtain ⟨v_t1331,t1331,rfl,ht1331,H⟩:=hc_
     have hg12:=hg_
     have gr21:=qG gr20 hg12
     have k116:=k110.g0 hg12
     have k117:=k111.grown hg12
     have k119:=k113.grown hg12
     have k121:=k115.grown hg12
     refine yp (h:=(yp (h:=(yp (h:=(yp (h:=(yp (h:=(ze (za (zd (zb (yp (h:=(zg rfl (qe Tryz.underlying43 (k114.grown hg12) rfl) (yp (h:=?_))))))))))))))))))
     rcases Bool.eq_false_or_eq_true (decide (t1281=Er.ok)) with b10 | b10
     ·replace H:=H.1 b10
      refine gp b10 (h:=(gp b10 (h:=(gp b10 (h:=(gp b10 (h:=(gp b10 (h:=(zg rfl (zQ (okb b10) rfl) (yp (h:=?_))))))))))))
      rcases Bool.eq_false_or_eq_true (decide ((t1280.length:Int)=(l.length:Int))) with b11 | b11
      ·replace H:=H.1 b11
       refine gp b11 (h:=(zT (qF rfl rfl (okb b11)) rfl rfl (qM H) ?_))
       rintro _ w25 ⟨hg13,v_t147,F_t147,t147,rfl,ht147,ho15,H⟩
       have gr22:=qG gr21 hg13
       have k122:=k116.g0 hg13
       have k123:=k117.grown hg13
       have k124:=(k112.grown hg12).grown hg13
       refine zT (qF rfl rfl (okb b11)) rfl rfl (jk (GB.grown hG gr22) (qE gr22) (apC (Ge.le hge1 (qE gr2)) (apC k123.ge' apN)) hS3 hS7 (k123.base (fun _ _=>Nat.zero_le _)) rfl k124 k122 ht147 dj37 (apC dj38 (apC dj39 apN)) (apC (ho15 _ k116.lt') (apC (ho15 _ k117.lt') apN)) H) ?_
       rintro v_t148 w26 ⟨hgl8,_,t148,a_16,a7t,a8b,a7h,a_17,a_18,rfl,ht148,hB10,hO13,hi6,hr6,ho16,dj45,dj46,dj47,H⟩
       have hO14:=hO13.base (InP.toGe hi6 (apC (Ge.le hge1 (qE gr2)) (apC k123.ge' apN)) (qE gr22))
       have gr23:=qN gr22 hgl8 (apC (Ge.le hge1 (qE gr2)) (apC k123.ge' apN))
       have k126:=k124.goL hgl8 (apC dj38 (apC dj39 apN))
       have k127:=ErrR.goB (ht1331.grown hg13) (GB.grown hG gr22) hgl8 (apC (Ge.le hge1 (qE gr2)) (apC k123.ge' apN)) (apC (NoAt.bl k122 rfl) (apC (NoAt.own k123 rfl) apN))
       have k128:=ht147.goL hgl8 (apC (ho15 _ k116.lt') (apC (ho15 _ k117.lt') apN))
       refine zc rfl rfl (okb b11) rfl (qe Tryz.underlying43 ht148 rfl) (zg rfl (zQ (okb b11) rfl) (yp (h:=?_)))
       rcases Bool.eq_false_or_eq_true (decide (t148=Er.ok)) with b12 | b12
       ·replace H:=H.1 b12
        refine gp b12 (h:=(zT (qF rfl rfl (okb b12)) rfl rfl (ji (hG.grown gr23) hS0 hS1 hS2 hS3 hS4 hS5 hS6 hS7 hS8 hS9 hS10 hS11 hS12 hS13 hS14 hS15 hS16 k127 H) ?_))
        rintro _ w27 ⟨hg14,t153,rfl,H⟩
        have k129:=k127.grown hg14
        exact zg rfl (zQ (okb b12) rfl) (yp (h:=(ze (za (zt (zD rfl rfl ⟨(qG gr23 hg14),t153,rfl,H⟩))))))
       replace H:=H.2 b12
       exact gn b12 (h:=(gn b12 (h:=(zg rfl (zK (okb b12) rfl) (yp (h:=(ze (za (zt (zD rfl rfl ⟨gr23,false,rfl,H⟩))))))))))
      replace H:=H.2 b11
      exact gn b11 (h:=(gn b11 (h:=(gn b11 (h:=(gn b11 (h:=(zg rfl (zK (okb b11) rfl) (yp (h:=(zG rfl rfl (rfl) rfl (zG rfl rfl (rfl) rfl (zg rfl (zK (rfl) rfl) (yp (h:=(ze (za (zt (zD rfl rfl ⟨gr21,false,rfl,H⟩)))))))))))))))))))
     replace H:=H.2 b10
     exact gn b10 (h:=(gn b10 (h:=(gn b10 (h:=(gn b10 (h:=(gn b10 (h:=(zg rfl (zK (okb b10) rfl) (yp (h:=(zG rfl rfl (rfl) rfl (zG rfl rfl (rfl) rfl (zG rfl rfl (rfl) rfl (zG rfl rfl (rfl) rfl (zg rfl (zK (rfl) rfl) (yp (h:=(zG rfl rfl (rfl) rfl (zG rfl rfl (rfl) rfl (zg rfl (zK (rfl) rfl) (yp (h:=(ze (za (zt (zD rfl rfl ⟨gr21,false,rfl,H⟩))))))))))))))))))))))))))))
    obtain ⟨a1s,v_t1330_v,F_t1330_v,a3g,a3f,a0n,a0o,a0l,a1j,a0d,a0m,v_t13312,t13312,rfl,ht1330_v,ho17,ht1330_l,a0k,ho18,dj48,ht13312,ht1330,hge3,dj49,dj50,dj51,H⟩:=hc_
    have hg15:=hg_
    have hb6:=ht1330_l.ge'
    have k130:=ht1330_l.base (fun g hg=>Nat.le_trans (qE gr20) (hb6 g hg))
    have gr25:=qG gr20 hg15
    have k131:=k110.g0 hg15
    have k132:=k111.grown hg15
    have k133:=k112.grown hg15
    have k134:=k113.grown hg15
    have k135:=k114.grown hg15
    have k136:=k115.grown hg15
    exact False.elim H
   clear H
   exact zc rfl rfl (rfl) rfl (zh qD rfl) (zc rfl rfl (rfl) rfl (z1 Tryz.underlying43 ht5512 rfl) (zg rfl (zK (rfl) rfl) (wk (hQ _ _ ⟨!decide (t5512=Er.ok),rfl,rfl,rfl⟩))))
  ·replace H:=H.2.1 b3
   rw [b3]
   refine zd (zb (yp (h:=(ze (za (zd (zd (zb (yp (h:=(ze (za (WC.block (qv (WCL.one (zd (zd (zb (yp (h:=(yp (h:=(yp (h:=(ze (za (zm rfl (fun _=>zo (za (zd (WC.block (zd (zb (yp (h:=(zg rfl (qj Tryz.underlying61 rfl rfl) (zx rfl rfl (jg (S:=S) (k5.base (fun _ _=>Nat.zero_le _)) rfl l8 ha dj6.symm (apC dj5 (apC dj4 apN)) H) ?_)))))))))) (fun h=>by cases h))))))))))))))))))))))))))))
   rintro v_ w29 ⟨hg_,hc_ | hc_⟩
   ·obtain ⟨v_t5513,t5513,a_19,a7u,a8c,a7i,a_20,a_21,rfl,ht5513,hB11,hO15,hi7,hr7,ho19,dj52,dj53,dj54,H⟩:=hc_
    have hgl9:=hg_
    have hO16:=hO15.base (InP.toGe hi7 (apC (Ge.le hge1 (qE gr2)) (apC k5.ge' apN)) (qE gr4))
    have k137:=k6.goL hgl9 (apC (Dj.new k1.lt' hge1) (apC (Dj.new k1.lt' hb3) apN))
    have k138:=k7.goL hgl9 (apC (a0.new hge1) (apC (a0.new hb3) apN))
    have k139:=l8.goL hgl9 (apC dj5 (apC dj4 apN))
    refine yp (h:=(yp (h:=(yp (h:=(yp (h:=(yp (h:=(ze (za (zd (zd (zb (yp (h:=(zg rfl (zY Tryz.underlying64 rfl rfl) (yp (h:=(zV 3 (fun L' w'=>∃ q7:Bool,L'=[(63,.bool q7),(0,.slice A_l l.length c_l),(1,.int .i64 (2:Int)),(6,.slice a1 t370.length a2),(8,.pointer (some ⟨g_a,0,none⟩)),(9,.slice none 0 0),(10,.int .i64 (0:Int)),(11,.pointer none)]/\true=q7/\w29=w') ?_ (fun hQ=>?_)))))))))))))))))))))
    ·rintro _ _ ⟨q7,rfl,rfl,rfl⟩
     exact ze (za (zm rfl (fun _=>zd (zb (yp (h:=(ze (za (zt (zf (zj (zf (zf (zj (zf (zD rfl rfl ⟨(qN gr4 hgl9 (apC (Ge.le hge1 (qE gr2)) (apC k5.ge' apN))),false,rfl,H⟩)))))))))))))) (fun h=>by cases h)))
    clear H
    exact zG rfl rfl (rfl) rfl (zG rfl rfl (rfl) rfl (zg rfl (zQ (rfl) rfl) (wk (hQ _ _ ⟨true,rfl,rfl,rfl⟩))))
   obtain ⟨d2,l6,l9,m1,l2,p0,f5,i1,v_t5514,t5514,a_22,a7v,a8d,a7j,a_23,a_24,rfl,ht550_l2,r4,ho21,dj55,ht5514,ht5502,hge4,dj56,dj57,dj58,hB12,hO17,hi8,hr8,ho20,dj59,dj60,dj61,dj62,dj63,dj64,dj65,dj66,dj67,dj68,dj69,H⟩:=hc_
   have hgl10:=hg_
   have hO18:=hO17.base (InP.toGe hi8 (apC (Ge.le hge1 (qE gr2)) (apC k5.ge' apN)) (qE gr4))
   have hb7:=ht550_l2.ge'
   have gr27:=qN gr4 hgl10 (apC (Ge.le hge1 (qE gr2)) (apC k5.ge' apN))
   have k143:=l8.goL hgl10 (apC dj5 (apC dj4 apN))
   refine yp (h:=(yp (h:=(yp (h:=(yp (h:=(yp (h:=(ze (za (zd (zd (zb (yp (h:=(zg rfl (zY Tryz.underlying64 rfl rfl) (yp (h:=(zV 3 (fun L' w'=>∃ q8:Bool,L'=[(63,.bool q8),(0,.slice A_l l.length c_l),(1,.int .i64 (2:Int)),(6,.slice a1 t370.length a2),(8,.pointer (some ⟨g_a,0,none⟩)),(9,.slice none 0 0),(10,.int .i64 (0:Int)),(11,.pointer (some ⟨d2,0,none⟩))]/\(!decide (t5514=Er.ok))=q8/\w29=w') ?_ (fun hQ=>?_)))))))))))))))))))))
   ·rintro _ _ ⟨q8,rfl,rfl,rfl⟩
    refine ze (za (zm rfl (fun b13=>?_) (fun b13=>?_)))
    ·replace H:=H.1 (jw b13)
     exact zd (zb (yp (h:=(ze (za (zt (zf (zj (zf (zf (zj (zf (zD rfl rfl ⟨gr27,false,rfl,H⟩)))))))))))))
    replace H:=H.2 (jq b13)
    refine zo (za (zb (yp (h:=(yp (h:=(z5 qD rfl rfl rfl (qJ rfl jl) rfl (by omega) (fun g2 w32 hB13 hg16 hl2=>?_))))))))
    have hO19:Own vQ w32 w.heap.size 64 (some ⟨g2,0,none⟩) 1 ([d2]:List Nat):=Own.ofBl hB13 (Nat.le_trans (qE gr27) hl2) (by simp [maxLen]) rfl
    have gr28:=qG gr27 hg16
    have k144:=(k6.goL hgl10 (apC (Dj.new k1.lt' hge1) (apC (Dj.new k1.lt' hb3) apN))).grown hg16
    have k145:=(k7.goL hgl10 (apC (a0.new hge1) (apC (a0.new hb3) apN))).grown hg16
    have k146:=hB12.g0 hg16
    have k147:=hO18.grown hg16
    have k148:=hr8.grown hg16
    have k149:=(ht550_l2.base (fun g hg=>Nat.le_trans (qE gr4) (hb7 g hg))).grown hg16
    have k150:=ht5502.g0 hg16
    have k151:=r4.grown hg16
    refine z4 qD rfl rfl One.vQ (Own.nil vQ w32 w.heap.size 64) rfl rfl hO19.rd rfl rfl (by simp) (jT (c:=7) (by simp)) (qE gr28) (fun s3 t0 w33 hO20 hg17 hk2=>?_)
    have gr29:=qG gr28 hg17
    have k152:=k144.grown hg17
    have k153:=k145.grown hg17
    have k154:=k146.g0 hg17
    have k155:=k147.grown hg17
    have k156:=k148.grown hg17
    have k157:=k149.grown hg17
    have k158:=k150.g0 hg17
    have k159:=k151.grown hg17
    refine yp (h:=(ze (zi (za (zb (yp (h:=(zg rfl (zR (v:=.int .i64 (1:Int)) (Yld.add rfl rfl (by simp only [In]; omega)) rfl) (yp (h:=(ze (qf (WCL.one (zd (zd (zb (yp (h:=(yp (h:=(yp (h:=(ze (za (zm rfl (fun _=>zo (za (zd (WC.block (zd (zb (yp (h:=(zg rfl (qj Tryz.underlying61 rfl rfl) (zx rfl rfl (jg (S:=S) (k155.base (fun _ _=>Nat.zero_le _)) rfl k156 k154 dj59 (apC dj60 (apC dj61 apN)) H) ?_)))))))))) (fun h=>by cases h))))))))))))))))))))))))))
    rintro v_ w34 ⟨hg_,hc_ | hc_⟩
    ·obtain ⟨v_t5515,t5515,a_25,a7w,a8e,a7k,a_26,a_27,rfl,ht5515,hB14,hO21,hi9,hr9,ho22,dj70,dj71,dj72,H⟩:=hc_
     have hgl11:=hg_
     have hO22:=hO21.base (InP.toGe hi9 (apC (Ge.le hge1 (qE gr2)) (apC k155.ge' apN)) (qE gr29))
     have k160:=k152.goL hgl11 (apC (Dj.new k1.lt' hge1) (apC (InP.dj hi8 k6.lt' (apC (Dj.new k1.lt' hge1) (apC (Dj.new k1.lt' hb3) apN))).symm apN))
     have k161:=k153.goL hgl11 (apC (a0.new hge1) (apC (RelD.inp k7 (apC (a0.new hge1) (apC (a0.new hb3) apN)) hi8) apN))
     have k162:=k156.goL hgl11 (apC dj60 (apC dj61 apN))
     have k163:=k157.goL hgl11 (apC dj62 (apC dj63 apN))
     have k164:=k158.goL hgl11 (apC dj64 (apC dj65 apN))
     have k165:=k159.goL hgl11 (apC dj66 (apC dj67 apN))
     have k166:=hO20.goL hgl11 (apC (Dj.app (p:=none) Dj.nl k146.lt' hk2) (apC (Dj.app (p:=none) Dj.nl k147.lt' hk2) apN))
     refine yp (h:=(yp (h:=(yp (h:=(yp (h:=(yp (h:=(ze (za (zd (zd (zb (yp (h:=(zg rfl (zY Tryz.underlying64 rfl rfl) (yp (h:=(zV 3 (fun L' w'=>∃ q9:Bool,L'=[(63,.bool q9),(0,.slice A_l l.length c_l),(1,.int .i64 (2:Int)),(6,.slice a1 t370.length a2),(8,.pointer (some ⟨g_a,0,none⟩)),(9,.slice s3 (([]++([d2]:List Nat)).length) t0),(10,.int .i64 (1:Int)),(11,.pointer none)]/\true=q9/\w34=w') ?_ (fun hQ=>?_)))))))))))))))))))))
     ·rintro _ _ ⟨q9,rfl,rfl,rfl⟩
      exact ze (za (zm rfl (fun _=>zd (zb (yp (h:=(ze (za (zt (zf (zj (zf (zf (zj (zf (zD rfl rfl ⟨(qN gr29 hgl11 (apC (Ge.le hge1 (qE gr2)) (apC k155.ge' apN))),false,rfl,H⟩)))))))))))))) (fun h=>by cases h)))
     clear H
     exact zG rfl rfl (rfl) rfl (zG rfl rfl (rfl) rfl (zg rfl (zQ (rfl) rfl) (wk (hQ _ _ ⟨true,rfl,rfl,rfl⟩))))
    obtain ⟨e5,l7,m0,m2,l3,p1,f6,i5,v_t5516,t5516,a_28,o4,o5,n6,a_29,a_30,rfl,ht550_l3,r5,ho24,dj73,ht5516,ht5503,hge5,dj74,dj75,dj76,hB15,hO23,hi10,hr10,ho23,dj77,dj78,dj79,dj80,dj81,dj82,dj83,dj84,dj85,dj86,dj87,H⟩:=hc_
    have hgl12:=hg_
    have hO24:=hO23.base (InP.toGe hi10 (apC (Ge.le hge1 (qE gr2)) (apC k155.ge' apN)) (qE gr29))
    have hb8:=ht550_l3.ge'
    have gr31:=qN gr29 hgl12 (apC (Ge.le hge1 (qE gr2)) (apC k155.ge' apN))
    have k170:=k156.goL hgl12 (apC dj60 (apC dj61 apN))
    refine yp (h:=(yp (h:=(yp (h:=(yp (h:=(yp (h:=(ze (za (zd (zd (zb (yp (h:=(zg rfl (zY Tryz.underlying64 rfl rfl) (yp (h:=(zV 3 (fun L' w'=>∃ q10:Bool,L'=[(63,.bool q10),(0,.slice A_l l.length c_l),(1,.int .i64 (2:Int)),(6,.slice a1 t370.length a2),(8,.pointer (some ⟨g_a,0,none⟩)),(9,.slice s3 (([]++([d2]:List Nat)).length) t0),(10,.int .i64 (1:Int)),(11,.pointer (some ⟨e5,0,none⟩))]/\(!decide (t5516=Er.ok))=q10/\w34=w') ?_ (fun hQ=>?_)))))))))))))))))))))
    ·rintro _ _ ⟨q10,rfl,rfl,rfl⟩
     refine ze (za (zm rfl (fun b14=>?_) (fun b14=>?_)))
     ·replace H:=H.1 (jw b14)
      exact zd (zb (yp (h:=(ze (za (zt (zf (zj (zf (zf (zj (zf (zD rfl rfl ⟨gr31,false,rfl,H⟩)))))))))))))
     replace H:=H.2 (jq b14)
     refine zo (za (zb (yp (h:=(yp (h:=(z5 qD rfl rfl rfl (qJ rfl jl) rfl (by omega) (fun g3 w37 hB16 hg18 hl3=>?_))))))))
     have hO25:Own vQ w37 w.heap.size 64 (some ⟨g3,0,none⟩) 1 ([e5]:List Nat):=Own.ofBl hB16 (Nat.le_trans (qE gr31) hl3) (by simp [maxLen]) rfl
     have gr32:=qG gr31 hg18
     have k177:=hB15.g0 hg18
     have k179:=(k158.goL hgl12 (apC dj64 (apC dj65 apN))).g0 hg18
     have k181:=(hO20.goL hgl12 (apC (Dj.app (p:=none) Dj.nl k146.lt' hk2) (apC (Dj.app (p:=none) Dj.nl k147.lt' hk2) apN))).grown hg18
     have k182:=hO24.grown hg18
     have k185:=ht5503.g0 hg18
     refine z4 qD rfl rfl One.vQ k181 rfl rfl hO25.rd rfl rfl (by simp) (jT (c:=7) (by simp)) (qE gr32) (fun n4 n5 w38 hO26 hg19 hk3=>yp (h:=(ze (zi (za (zb (yp (h:=(zg rfl (zR (v:=.int .i64 (2:Int)) (Yld.add rfl rfl (by simp only [In]; omega)) rfl) (yp (h:=(ze (qf (WCL.one (zd (zd (zb (yp (h:=(yp (h:=(yp (h:=(ze (za (zm rfl (fun h=>by cases h) (fun _=>zy (zk (zk (zl (za (zd (zd (zb (yp (h:=(ze (za (WC.block ?_)))))))))))))))))))))))))))))))))))))))
     obtain ⟨I2,mu2,a1f,HR2⟩:=H
     refine z3 (fun n' L' w'=>∃ (i2:Int),∃ (t55022:Int),∃ (t55023:Int),n'=mu2 i2 t55022 t55023/\L'=[(0,.slice A_l l.length c_l),(1,.int .i64 (2:Int)),(6,.slice a1 t370.length a2),(8,.pointer (some ⟨g_a,0,none⟩)),(9,.slice n4 ((([]++([d2]:List Nat))++([e5]:List Nat)).length) n5),(13,.int .i64 i2)]/\I2 i2 t55022 t55023/\w.grownBy w' none/\Own vv w' w.heap.size 32 a1 a2 a3/\RelD deV w' a3 t370/\Bl w' g_a 166 [.slice o4 a_28.length o5,.bool a_29,.int .i64 a_30]/\Own vv w' w.heap.size 32 l9 m1 l2/\Bl w' d2 168 [.iface 61 (.pointer (some ⟨g_a,0,none⟩)),.slice l9 l6.length m1,.int .i64 t55022,.bool f5,.bool i1]/\RelD deV w' l2 l6/\Own vv w' w.heap.size 32 o4 o5 n6/\RelD deV w' n6 a_28/\Own vv w' w.heap.size 32 m0 m2 l3/\Bl w' e5 168 [.iface 61 (.pointer (some ⟨g_a,0,none⟩)),.slice m0 l7.length m2,.int .i64 t55023,.bool f6,.bool i5]/\RelD deV w' l3 l7/\Own vQ w' w.heap.size 64 n4 n5 (([]++([d2]:List Nat))++([e5]:List Nat))) _ _ ⟨(0:Int),p0,p1,rfl,rfl,a1f,(js gr32 hg19 k181.ge'),(((k152.goL hgl12 (apC (Dj.new k1.lt' hge1) (apC (InP.dj hi8 k6.lt' (apC (Dj.new k1.lt' hge1) (apC (Dj.new k1.lt' hb3) apN))).symm apN))).grown hg18).go hg19 ((Dj.app (p:=none) Dj.nl k144.lt' hk2).symm)),(((k153.goL hgl12 (apC (a0.new hge1) (apC (RelD.inp k7 (apC (a0.new hge1) (apC (a0.new hb3) apN)) hi8) apN))).grown hg18).go hg19 (RelD.app k145 (DnD.none k145) hk2)),(k177.go hg19 ((Dj.app (p:=none) Dj.nl k146.lt' hk2).symm)),(((k157.goL hgl12 (apC dj62 (apC dj63 apN))).grown hg18).go hg19 ((Dj.app (p:=none) Dj.nl k149.lt' hk2).symm)),(k179.go hg19 ((Dj.app (p:=none) Dj.nl k150.lt' hk2).symm)),(((k159.goL hgl12 (apC dj66 (apC dj67 apN))).grown hg18).go hg19 (RelD.app k151 (DnD.none k151) hk2)),(k182.go hg19 (InP.dj hi10 hO20.lt' (apC (Dj.app (p:=none) Dj.nl k146.lt' hk2) (apC (Dj.app (p:=none) Dj.nl k147.lt' hk2) apN)))),((hr10.grown hg18).go hg19 (ho23 _ hO20.lt' (RelD.app k148 (DnD.none k148) hk2))),(((ht550_l3.base (fun g hg=>Nat.le_trans (qE gr29) (hb8 g hg))).grown hg18).go hg19 ((Dj.new hO20.lt' hb8).symm)),(k185.go hg19 ((Dj.new hO20.lt' hge5).symm)),((r5.grown hg18).go hg19 (ho24 _ hO20.lt' (RelD.app k148 (DnD.none k148) hk2))),hO26⟩ sb ?_
     clear a1f
     rintro _ _ w39 ⟨i2,t55022,t55023,rfl,rfl,hI2,gr34,k198,k199,k200,k201,k202,k203,k204,k205,k206,k207,k208,k209⟩
     have H:=HR2 i2 t55022 t55023 hI2
     refine zd (zd (zb (yp (h:=(yp (h:=(yp (h:=(yp (h:=(ze (za (zm rfl (fun b15=>?_) (fun b15=>?_))))))))))))))
     ·replace H:=H.1 (of_decide_eq_true b15)
      refine zo (za (zd (WC.block (zd (zb (yp (h:=(ze (za (WC.block (qv (WCL.one (zd (zd (zb (yp (h:=(yp (h:=(yp (h:=(ze (za (zm rfl (fun _=>zo (za (zd (WC.block (zd (zb (yp (h:=(yp (h:=(zg rfl (zB qD k209.rd rfl rfl rfl rfl (by omega) (by simp)) (zg rfl (zR (v:=.pointer (some ⟨d2,0,none⟩)) (zM 0 qD k209.rd rfl rfl (by simp)) rfl) (zx rfl rfl (qK k204.rd rfl k205 k200 k201.rd rfl k203 k202 (apC (Dn.of (InP.dj hi10 k158.lt' (apC dj64 (apC dj65 apN))).symm.symm) apN) (apC (ho23 _ k158.lt' dj69) apN) (apC dj64.symm apN) (apC (Dn.of dj58) apN) (apC dj57 apN) H) ?_))))))))))))) (fun h=>by cases h)))))))))))))))))))))))))
      rintro _ w40 ⟨hgl13,v_t8402,F_t8402,t8402,t8412,o9,rfl,ht8402,ho25,hB17,dj88,H⟩
      have gr35:=qN gr34 hgl13 (apC (Ge.le hge4 (qE gr4)) apN)
      have k210:=k198.goL hgl13 (apC (Dj.new k6.lt' hge4) apN)
      have k211:=k199.goL hgl13 (apC (k7.new hge4) apN)
      have k212:=k200.goL hgl13 (apC dj64.symm apN)
      have k213:=k201.goL hgl13 (apC dj58 apN)
      have k214:=k203.goL hgl13 (apC dj57 apN)
      have k215:=k204.goL hgl13 (apC (InP.dj hi10 k158.lt' (apC dj64 (apC dj65 apN))).symm.symm apN)
      have k216:=k205.goL hgl13 (apC (ho23 _ k158.lt' dj69) apN)
      have k217:=k206.goL hgl13 (apC (Dj.new k158.lt' hb8).symm apN)
      have k218:=k207.goL hgl13 (apC (Dj.new k158.lt' hge5).symm apN)
      have k219:=k208.goL hgl13 (apC (ho24 _ k158.lt' dj69) apN)
      have k220:=k209.goL hgl13 (apC (Dj.app (Dj.app (p:=none) Dj.nl k150.lt' hk2) k179.lt' hk3).symm.symm apN)
      refine yp (h:=(yp (h:=(yp (h:=(yp (h:=(yp (h:=(ze (za (zd (zW (fun k => !(Nat.beq k 4 || Nat.beq k 9)) (LD [8] (fun w'=>Rd vv w' a1 a2 a3)) jx (by kernel_rfl) (fun k w' h _=>(jQ h k210.rd)) (zA rfl rfl (fun w' hw'=>zh qD rfl) (zA rfl rfl (fun w' hw'=>zh qD rfl) (zA rfl rfl (fun w' hw'=>zh qD rfl) ?_))))))))))))))))
      obtain ⟨J4,H,hJ4⟩:=H
      refine qr 9 (fun L' w'=>∃ q11:Bool,L'=[(98,.bool q11),(0,.slice A_l l.length c_l),(1,.int .i64 (2:Int)),(6,.slice a1 t370.length a2),(8,.pointer (some ⟨g_a,0,none⟩)),(9,.slice n4 ((([]++([d2]:List Nat))++([e5]:List Nat)).length) n5),(13,.int .i64 i2),(14,.int .i64 (0:Int))]/\J4 q11/\w.grownBy w' none/\Own vv w' w.heap.size 32 a1 a2 a3/\RelD deV w' a3 t370/\Bl w' g_a 166 [.slice o4 a_28.length o5,.bool a_29,.int .i64 a_30]/\Own vv w' w.heap.size 32 l9 m1 l2/\Bl w' d2 168 [.iface 61 (.pointer (some ⟨g_a,0,none⟩)),.slice l9 l6.length m1,.int .i64 o9,.bool f5,.bool i1]/\RelD deV w' l2 l6/\Own vv w' w.heap.size 32 o4 o5 n6/\RelD deV w' n6 a_28/\Own vv w' w.heap.size 32 m0 m2 l3/\Bl w' e5 168 [.iface 61 (.pointer (some ⟨g_a,0,none⟩)),.slice m0 l7.length m2,.int .i64 t55023,.bool f6,.bool i5]/\RelD deV w' l3 l7/\Own vQ w' w.heap.size 64 n4 n5 (([]++([d2]:List Nat))++([e5]:List Nat))) ?_ (fun hQ=>?_)
      ·clear H
       rintro _ w41 ⟨q11,rfl,H,gr36,k221,k222,k223,k224,k225,k226,k227,k228,k229,k230,k231,k232⟩
       replace H:=hJ4 q11 H
       refine qh (za (zm rfl (fun b16=>?_) (fun b16=>?_)))
       ·replace H:=H.1 (b16)
        exact zd (zb (yp (h:=(ze (za (zt (zj (zf (zf (zj (zj (zf (zf (zj (zf (zD rfl rfl ⟨gr36,false,rfl,H⟩))))))))))))))))
       replace H:=H.2 (b16)
       refine zo (zi (za (zb (yp (h:=(zg rfl (zR (v:=.int .i64 (1:Int)) (Yld.add rfl rfl (by simp only [In]; omega)) rfl) (yp (h:=(ze (qf (WCL.one (zd (zd (zb (yp (h:=(yp (h:=(yp (h:=(ze (za (zm rfl (fun _=>zo (za (zd (WC.block (zd (zb (yp (h:=(yp (h:=(zg rfl (zB qD k232.rd rfl rfl rfl rfl (by omega) (by simp)) (zg rfl (zR (v:=.pointer (some ⟨e5,0,none⟩)) (zM 0 qD k232.rd rfl rfl (by simp)) rfl) (zx rfl rfl (qK k227.rd rfl k228 k223 k229.rd rfl k231 k230 (apC (Dn.of dj83.symm) apN) (apC dj87 apN) (apC dj82.symm apN) (apC (Dn.of dj76) apN) (apC dj75 apN) H) ?_))))))))))))) (fun h=>by cases h))))))))))))))))))))))))
       rintro _ w42 ⟨hgl14,v_t8403,F_t8403,t8403,t8413,r1,rfl,ht8403,ho26,hB18,dj89,H⟩
       have gr37:=qN gr36 hgl14 (apC (Ge.le hge5 (qE gr29)) apN)
       have k233:=k221.goL hgl14 (apC (Dj.new k152.lt' hge5) apN)
       have k234:=k222.goL hgl14 (apC (k153.new hge5) apN)
       have k235:=k223.goL hgl14 (apC dj82.symm apN)
       have k236:=k224.goL hgl14 (apC (Dj.new k157.lt' hge5) apN)
       have k237:=k225.goL hgl14 (apC (Dj.new k158.lt' hge5) apN)
       have k238:=k226.goL hgl14 (apC (k159.new hge5) apN)
       have k239:=k227.goL hgl14 (apC dj83.symm apN)
       have k240:=k228.goL hgl14 (apC dj87 apN)
       have k241:=k229.goL hgl14 (apC dj76 apN)
       have k242:=k231.goL hgl14 (apC dj75 apN)
       have k243:=k232.goL hgl14 (apC (Dj.app (Dj.new hO20.lt' hge5) k185.lt' hk3).symm.symm apN)
       refine yp (h:=(yp (h:=(yp (h:=(yp (h:=(yp (h:=(ze (za (zd (zW (fun k => !(Nat.beq k 4 || Nat.beq k 9)) (LD [8] (fun w'=>Rd vv w' a1 a2 a3)) jx (by kernel_rfl) (fun k w' h _=>(jQ h k233.rd)) (zA rfl rfl (fun w' hw'=>zh qD rfl) (zA rfl rfl (fun w' hw'=>zh qD rfl) (zA rfl rfl (fun w' hw'=>zh qD rfl) ?_))))))))))))))))
       obtain ⟨J5,H,hJ5⟩:=H
       refine qr 9 (fun L' w'=>∃ q12:Bool,L'=[(98,.bool q12),(0,.slice A_l l.length c_l),(1,.int .i64 (2:Int)),(6,.slice a1 t370.length a2),(8,.pointer (some ⟨g_a,0,none⟩)),(9,.slice n4 ((([]++([d2]:List Nat))++([e5]:List Nat)).length) n5),(13,.int .i64 i2),(14,.int .i64 (1:Int))]/\J5 q12/\w.grownBy w' none/\Own vv w' w.heap.size 32 a1 a2 a3/\RelD deV w' a3 t370/\Bl w' g_a 166 [.slice o4 a_28.length o5,.bool a_29,.int .i64 a_30]/\Own vv w' w.heap.size 32 l9 m1 l2/\Bl w' d2 168 [.iface 61 (.pointer (some ⟨g_a,0,none⟩)),.slice l9 l6.length m1,.int .i64 o9,.bool f5,.bool i1]/\RelD deV w' l2 l6/\Own vv w' w.heap.size 32 o4 o5 n6/\RelD deV w' n6 a_28/\Own vv w' w.heap.size 32 m0 m2 l3/\Bl w' e5 168 [.iface 61 (.pointer (some ⟨g_a,0,none⟩)),.slice m0 l7.length m2,.int .i64 r1,.bool f6,.bool i5]/\RelD deV w' l3 l7/\Own vQ w' w.heap.size 64 n4 n5 (([]++([d2]:List Nat))++([e5]:List Nat))) ?_ (fun hQ=>?_)
       ·clear H
        rintro _ w43 ⟨q12,rfl,H,gr38,k244,k245,k246,k247,k248,k249,k250,k251,k252,k253,k254,k255⟩
        replace H:=hJ5 q12 H
        refine qh (za (zm rfl (fun b17=>?_) (fun b17=>?_)))
        ·replace H:=H.1 (b17)
         exact zd (zb (yp (h:=(ze (za (zt (zj (zf (zf (zj (zj (zf (zf (zj (zf (zD rfl rfl ⟨gr38,false,rfl,H⟩))))))))))))))))
        replace H:=H.2 (b17)
        refine zo (zi (za (zb (yp (h:=(zg rfl (zR (v:=.int .i64 (2:Int)) (Yld.add rfl rfl (by simp only [In]; omega)) rfl) (yp (h:=(ze (qf (WCL.one (zd (zd (zb (yp (h:=(yp (h:=(yp (h:=(ze (za (zm rfl (fun h=>by cases h) (fun _=>zy (zk (zk (zl (zi (za (zb (yp (h:=?_))))))))))))))))))))))))))))))))
        obtain ⟨h5,H⟩:=H
        exact zg rfl (Yld.add rfl rfl h5) (yp (h:=(ze (zX _ ⟨i2+(1:Int),o9,r1,rfl,rfl,H.1,gr38,k244,k245,k246,k247,k248,k249,k250,k251,k252,k253,k254,k255⟩ sb H.2))))
       clear hJ5
       rcases Bool.eq_false_or_eq_true (!t8413) with b18 | b18
       ·replace H:=H.1 b18
        exact zS rfl rfl (okb b18) rfl (zS rfl rfl (okb b18) rfl (zS rfl rfl (okb b18) rfl (zS rfl rfl (okb b18) rfl (zS rfl rfl (okb b18) rfl (zS rfl rfl (okb b18) rfl (zS rfl rfl (okb b18) rfl (zS rfl rfl (okb b18) rfl (zA rfl rfl (fun w' hw'=>zQ (okb b18) rfl) (WJ.weaken sb (hQ _ _ ⟨true,rfl,H,gr37,k233,k234,k235,k236,k237,k238,k239,k240,k241,hB18,k242,k243⟩))))))))))
       replace H:=H.2 b18
       refine zU rfl (qF rfl rfl (okb b18)) rfl (fun w' hw'=>zh qD rfl) (z7 rfl (qF rfl rfl (okb b18)) rfl rfl (jn ht8403 H) (fun v w' h w2 e=>DD.keep (Rd.grown k233.rd (jo h.1 e))) ?_)
       rintro _ w44 ⟨hg20,t912,rfl,H⟩
       have k256:=k233.grown hg20
       have k257:=k234.grown hg20
       have k268:=ht8403.grown hg20
       refine zU rfl (qF rfl rfl (okb b18)) rfl (fun w' hw'=>zh qD rfl) (zU rfl (qF rfl rfl (okb b18)) rfl (fun w' hw'=>zh qD rfl) ?_)
       obtain ⟨h6,H⟩:=H
       refine zU rfl (qF rfl rfl (okb b18)) rfl (fun w' hw'=>zB qD k256.rd rfl rfl a0.1.symm rfl h6.1 h6.2) ?_
       obtain ⟨⟨v_el2,F_el2⟩,eh2,hR2⟩:=RelD.at k257 vh0 PV.nil (j:=i2.toNat) (Nat.lt_of_lt_of_eq (iltN h6 a0.1.symm) k257.1)
       have hv2:RelD deV w44 [(v_el2,F_el2)] [t370.getD i2.toNat PV.nil]:=RelD.cons hR2 RelD.nil
       refine zU rfl (qF rfl rfl (okb b18)) rfl (fun w' hw'=>zR (v:=v_el2.1) (zM vh0 qD (hw' rfl) rfl rfl (iltN h6 a0.1.symm)) (congrArg vv eh2)) (z7 rfl (qF rfl rfl (okb b18)) rfl rfl (jn hv2 H) (fun v w' h w2 e=>DD.keep (Rd.grown k256.rd (jo h.1 e))) ?_)
       rintro _ w45 ⟨hg21,t962,rfl,H⟩
       have k281:=hv2.grown hg21
       exact zU rfl (qF rfl rfl (okb b18)) rfl (fun w' hw'=>zh qD rfl) (zA rfl rfl (fun w' hw'=>zK (okb b18) rfl) (WJ.weaken sb (hQ _ _ ⟨!decide (t912=t962),rfl,H,(qG (qG gr37 hg20) hg21),(k256.grown hg21),(k257.grown hg21),((k235.g0 hg20).g0 hg21),((k236.grown hg20).grown hg21),((k237.g0 hg20).g0 hg21),((k238.grown hg20).grown hg21),((k239.grown hg20).grown hg21),((k240.grown hg20).grown hg21),((k241.grown hg20).grown hg21),((hB18.g0 hg20).g0 hg21),((k242.grown hg20).grown hg21),((k243.grown hg20).grown hg21)⟩)))
      clear hJ4
      rcases Bool.eq_false_or_eq_true (!t8412) with b19 | b19
      ·replace H:=H.1 b19
       exact zS rfl rfl (okb b19) rfl (zS rfl rfl (okb b19) rfl (zS rfl rfl (okb b19) rfl (zS rfl rfl (okb b19) rfl (zS rfl rfl (okb b19) rfl (zS rfl rfl (okb b19) rfl (zS rfl rfl (okb b19) rfl (zS rfl rfl (okb b19) rfl (zA rfl rfl (fun w' hw'=>zQ (okb b19) rfl) (WJ.weaken sb (hQ _ _ ⟨true,rfl,H,gr35,k210,k211,k212,k213,hB17,k214,k215,k216,k217,k218,k219,k220⟩))))))))))
      replace H:=H.2 b19
      refine zU rfl (qF rfl rfl (okb b19)) rfl (fun w' hw'=>zh qD rfl) (z7 rfl (qF rfl rfl (okb b19)) rfl rfl (jn ht8402 H) (fun v w' h w2 e=>DD.keep (Rd.grown k210.rd (jo h.1 e))) ?_)
      rintro _ w46 ⟨hg22,t913,rfl,H⟩
      have k282:=k210.grown hg22
      have k283:=k211.grown hg22
      have k294:=ht8402.grown hg22
      refine zU rfl (qF rfl rfl (okb b19)) rfl (fun w' hw'=>zh qD rfl) (zU rfl (qF rfl rfl (okb b19)) rfl (fun w' hw'=>zh qD rfl) ?_)
      obtain ⟨h7,H⟩:=H
      refine zU rfl (qF rfl rfl (okb b19)) rfl (fun w' hw'=>zB qD k282.rd rfl rfl a0.1.symm rfl h7.1 h7.2) ?_
      obtain ⟨⟨v_el3,F_el3⟩,eh3,hR3⟩:=RelD.at k283 vh0 PV.nil (j:=i2.toNat) (Nat.lt_of_lt_of_eq (iltN h7 a0.1.symm) k283.1)
      have hv3:RelD deV w46 [(v_el3,F_el3)] [t370.getD i2.toNat PV.nil]:=RelD.cons hR3 RelD.nil
      refine zU rfl (qF rfl rfl (okb b19)) rfl (fun w' hw'=>zR (v:=v_el3.1) (zM vh0 qD (hw' rfl) rfl rfl (iltN h7 a0.1.symm)) (congrArg vv eh3)) (z7 rfl (qF rfl rfl (okb b19)) rfl rfl (jn hv3 H) (fun v w' h w2 e=>DD.keep (Rd.grown k282.rd (jo h.1 e))) ?_)
      rintro _ w47 ⟨hg23,t963,rfl,H⟩
      have k307:=hv3.grown hg23
      exact zU rfl (qF rfl rfl (okb b19)) rfl (fun w' hw'=>zh qD rfl) (zA rfl rfl (fun w' hw'=>zK (okb b19) rfl) (WJ.weaken sb (hQ _ _ ⟨!decide (t913=t963),rfl,H,(qG (qG gr35 hg22) hg23),(k282.grown hg23),(k283.grown hg23),((k212.g0 hg22).g0 hg23),((k213.grown hg22).grown hg23),((hB17.g0 hg22).g0 hg23),((k214.grown hg22).grown hg23),((k215.grown hg22).grown hg23),((k216.grown hg22).grown hg23),((k217.grown hg22).grown hg23),((k218.g0 hg22).g0 hg23),((k219.grown hg22).grown hg23),((k220.grown hg22).grown hg23)⟩)))
     replace H:=H.2 (of_decide_eq_false b15)
     refine zy (zk (zk (zl (za (zd (zd (zb (yp (h:=(ze (za (WC.block (qv (WCL.one (zd (zd (zb (yp (h:=(yp (h:=(yp (h:=(ze (za (zm rfl (fun _=>zo (za (zd (WC.block (zd (zb (yp (h:=(yp (h:=(zg rfl (zB qD k209.rd rfl rfl rfl rfl (by omega) (by simp)) (zg rfl (zR (v:=.pointer (some ⟨d2,0,none⟩)) (zM 0 qD k209.rd rfl rfl (by simp)) rfl) (zx rfl rfl (qK k204.rd rfl k205 k200 k201.rd rfl k203 k202 (apC (Dn.of (InP.dj hi10 k158.lt' (apC dj64 (apC dj65 apN))).symm.symm) apN) (apC (ho23 _ k158.lt' dj69) apN) (apC dj64.symm apN) (apC (Dn.of dj58) apN) (apC dj57 apN) H) ?_))))))))))))) (fun h=>by cases h)))))))))))))))))))))))))))
     rintro _ w48 ⟨hgl15,v_t10902,F_t10902,t10902,t10912,y0,rfl,ht10902,ho27,hB19,dj90,H⟩
     have gr43:=qN gr34 hgl15 (apC (Ge.le hge4 (qE gr4)) apN)
     have k308:=k200.goL hgl15 (apC dj64.symm apN)
     have k311:=k204.goL hgl15 (apC (InP.dj hi10 k158.lt' (apC dj64 (apC dj65 apN))).symm.symm apN)
     have k314:=k207.goL hgl15 (apC (Dj.new k158.lt' hge5).symm apN)
     refine yp (h:=(yp (h:=(yp (h:=(yp (h:=(yp (h:=(ze (za (zd (zd (zb (yp (h:=(yp (h:=?_))))))))))))))))))
     rcases Bool.eq_false_or_eq_true (t10912) with b20 | b20
     ·replace H:=H.1 b20
      exact gn b20 (h:=(gn b20 (h:=(gn b20 (h:=(gn b20 (h:=(gn b20 (h:=(zg rfl (zQ (okb b20) rfl) (ze (za (zm rfl (fun _=>zd (zb (yp (h:=(ze (za (zt (zf (zj (zf (zf (zj (zf (zD rfl rfl ⟨gr43,false,rfl,H⟩)))))))))))))) (fun h=>by cases h))))))))))))))
     replace H:=H.2 b20
     refine gp b20 (h:=(zT (qF rfl rfl (okb b20)) rfl rfl (qM H) ?_))
     rintro _ w49 ⟨hg24,v_t1152,F_t1152,t1152,rfl,ht1152,ho28,H⟩
     have gr44:=qG gr43 hg24
     have k317:=k308.g0 hg24
     have k318:=(k201.goL hgl15 (apC dj58 apN)).grown hg24
     have k319:=hB19.g0 hg24
     have k320:=(k203.goL hgl15 (apC dj57 apN)).grown hg24
     have k321:=k311.grown hg24
     have k322:=(k205.goL hgl15 (apC (ho23 _ k158.lt' dj69) apN)).grown hg24
     have k323:=(k206.goL hgl15 (apC (Dj.new k158.lt' hb8).symm apN)).grown hg24
     have k324:=k314.g0 hg24
     have k325:=(k208.goL hgl15 (apC (ho24 _ k158.lt' dj69) apN)).grown hg24
     have k326:=(k209.goL hgl15 (apC (Dj.app (Dj.app (p:=none) Dj.nl k150.lt' hk2) k179.lt' hk3).symm.symm apN)).grown hg24
     refine zT (qF rfl rfl (okb b20)) rfl rfl (jk (GB.grown hG gr44) (qE gr44) (apC (Ge.le hge1 (qE gr2)) (apC k321.ge' apN)) hS3 hS7 (k321.base (fun _ _=>Nat.zero_le _)) rfl k322 k317 ht1152 dj77 (apC dj78 (apC dj79 apN)) (apC (ho28 _ k308.lt') (apC (ho28 _ k311.lt') apN)) H) ?_
     rintro v_t1162 w50 ⟨hgl16,_,t1162,a_31,a4h,a5s,a1u,a_32,a_33,rfl,ht1162,hB20,hO27,hi11,hr11,ho29,dj91,dj92,dj93,H⟩
     have hO28:=hO27.base (InP.toGe hi11 (apC (Ge.le hge1 (qE gr2)) (apC k321.ge' apN)) (qE gr44))
     have gr45:=qN gr44 hgl16 (apC (Ge.le hge1 (qE gr2)) (apC k321.ge' apN))
     have k330:=k322.goL hgl16 (apC dj78 (apC dj79 apN))
     have k335:=ht1152.goL hgl16 (apC (ho28 _ k308.lt') (apC (ho28 _ k311.lt') apN))
     refine zT (qF rfl rfl (okb b20)) rfl rfl (ji (hG.grown gr45) hS0 hS1 hS2 hS3 hS4 hS5 hS6 hS7 hS8 hS9 hS10 hS11 hS12 hS13 hS14 hS15 hS16 ht1162 H) ?_
     rintro _ w51 ⟨hg25,t1172,rfl,H⟩
     have gr46:=qG gr45 hg25
     have k336:=hB20.g0 hg25
     have k337:=(k318.goL hgl16 (apC dj62.symm.symm (apC (InP.dj hi10 k157.lt' (apC dj62 (apC dj63 apN))).symm apN))).grown hg25
     have k338:=(k319.goL hgl16 (apC dj64.symm.symm (apC (InP.dj hi10 k158.lt' (apC dj64 (apC dj65 apN))).symm apN))).g0 hg25
     have k339:=(k320.goL hgl16 (apC dj66 (apC (RelD.inp k159 (apC dj66 (apC dj67 apN)) hi10) apN))).grown hg25
     have k340:=(k323.goL hgl16 (apC dj80.symm.symm (apC dj81 apN))).grown hg25
     have k341:=(k324.goL hgl16 (apC dj82.symm.symm (apC dj83 apN))).g0 hg25
     have k342:=(k325.goL hgl16 (apC dj84 (apC dj85 apN))).grown hg25
     have k343:=(k326.goL hgl16 (apC (Dj.app (Dj.app (p:=none) Dj.nl k146.lt' hk2) k177.lt' hk3).symm.symm (apC (Dj.app (InP.dj hi10 hO20.lt' (apC (Dj.app (p:=none) Dj.nl k146.lt' hk2) (apC (Dj.app (p:=none) Dj.nl k147.lt' hk2) apN))).symm k182.lt' hk3).symm.symm apN))).grown hg25
     have k344:=hO28.grown hg25
     have k345:=hr11.grown hg25
     have k346:=ht1162.grown hg25
     refine gp b20 (h:=(zg rfl (zK (okb b20) rfl) (ze (za (zm rfl (fun b21=>?_) (fun b21=>?_))))))
     ·replace H:=H.1 (b21)
      exact zd (zb (yp (h:=(ze (za (zt (zf (zj (zf (zf (zj (zf (zD rfl rfl ⟨gr46,false,rfl,H⟩)))))))))))))
     replace H:=H.2 (b21)
     refine zo (za (zb (yp (h:=(yp (h:=(zg rfl (zB qD k343.rd rfl rfl rfl rfl (by omega) (by simp)) (zg rfl (zR (v:=.pointer (some ⟨d2,0,none⟩)) (zM 0 qD k343.rd rfl rfl (by simp)) rfl) (zx rfl rfl (ja (k344.base (fun _ _=>Nat.zero_le _)) rfl k345 k336 k337.rd rfl k339 k338 dj64.symm.symm (InP.dj hi11 k319.lt' (apC dj64.symm.symm (apC (InP.dj hi10 k158.lt' (apC dj64 (apC dj65 apN))).symm apN))).symm dj91 (apC (ho29 _ k319.lt' (ho23 _ k158.lt' dj69) (ho28 _ hB19.lt')) (apC dj92 (apC dj93 apN))) (apC (Dn.of dj58) (apC (Dn.of dj62.symm.symm) (apC (Dn.of (InP.dj hi11 k318.lt' (apC dj62.symm.symm (apC (InP.dj hi10 k157.lt' (apC dj62 (apC dj63 apN))).symm apN))).symm) apN))) (apC dj57 (apC dj66 (apC (RelD.inp k320 (apC dj66 (apC (RelD.inp k159 (apC dj66 (apC dj67 apN)) hi10) apN)) hi11) apN))) H) ?_)))))))))
     rintro _ w52 ⟨hgl17,a7p,a3h,a3i,a_34,a4i,a5t,a1v,a_35,a_36,rfl,hB21,hB22,hO29,hi12,hr12,ho30,dj94,dj95,dj96,dj97,dj98,dj99,H⟩
     have hO30:=hO29.base (InP.toGe hi12 (apC (Ge.le hge4 (qE gr4)) (apC (Ge.le hge1 (qE gr2)) (apC k344.ge' apN))) (qE gr46))
     have k349:=k340.goL hgl17 (apC (Dj.new k158.lt' hb8).symm (apC dj80.symm.symm (apC (InP.dj hi11 k323.lt' (apC dj80.symm.symm (apC dj81 apN))).symm apN)))
     have k351:=k342.goL hgl17 (apC (ho24 _ k158.lt' dj69) (apC dj84 (apC (RelD.inp k325 (apC dj84 (apC dj85 apN)) hi11) apN)))
     have k352:=k343.goL hgl17 (apC (Dj.app (Dj.app (p:=none) Dj.nl k150.lt' hk2) k179.lt' hk3).symm.symm (apC (Dj.app (Dj.app (p:=none) Dj.nl k146.lt' hk2) k177.lt' hk3).symm.symm (apC (InP.dj hi11 k326.lt' (apC (Dj.app (Dj.app (p:=none) Dj.nl k146.lt' hk2) k177.lt' hk3).symm.symm (apC (Dj.app (InP.dj hi10 hO20.lt' (apC (Dj.app (p:=none) Dj.nl k146.lt' hk2) (apC (Dj.app (p:=none) Dj.nl k147.lt' hk2) apN))).symm k182.lt' hk3).symm.symm apN))).symm apN)))
     have k353:=k345.goL hgl17 (apC (ho29 _ k319.lt' (ho23 _ k158.lt' dj69) (ho28 _ hB19.lt')) (apC dj92 (apC dj93 apN)))
     refine ze (zi (za (zb (yp (h:=(zg rfl (zR (v:=.int .i64 (1:Int)) (Yld.add rfl rfl (by simp only [In]; omega)) rfl) (yp (h:=(ze (qf (WCL.one (zd (zd (zb (yp (h:=(yp (h:=(yp (h:=(ze (za (zm rfl (fun _=>zo (za (zd (WC.block (zd (zb (yp (h:=(yp (h:=(zg rfl (zB qD k352.rd rfl rfl rfl rfl (by omega) (by simp)) (zg rfl (zR (v:=.pointer (some ⟨e5,0,none⟩)) (zM 0 qD k352.rd rfl rfl (by simp)) rfl) (zx rfl rfl (qK hO30.rd rfl hr12 hB22 k349.rd rfl k351 (k341.goL hgl17 (apC (Dj.new k158.lt' hge5).symm (apC dj82.symm.symm (apC (InP.dj hi11 k324.lt' (apC dj82.symm.symm (apC dj83 apN))).symm apN)))) (apC (Dn.of (InP.dj hi12 k341.lt' (apC (Dj.new k158.lt' hge5).symm (apC dj82.symm.symm (apC (InP.dj hi11 k324.lt' (apC dj82.symm.symm (apC dj83 apN))).symm apN))))) apN) (apC (ho30 _ k341.lt' (ho29 _ k324.lt' dj87 (ho28 _ k314.lt')) (k159.new hge5)) apN) (apC dj82.symm apN) (apC (Dn.of dj76) apN) (apC dj75 apN) H) ?_))))))))))))) (fun h=>by cases h))))))))))))))))))))))))
     rintro _ w53 ⟨hgl18,v_t10903,F_t10903,t10903,t10913,t6,rfl,ht10903,ho31,hB23,dj100,H⟩
     have gr48:=qN (qN gr46 hgl17 (apC (Ge.le hge4 (qE gr4)) (apC (Ge.le hge1 (qE gr2)) (apC k344.ge' apN)))) hgl18 (apC (Ge.le hge5 (qE gr29)) apN)
     have k354:=hB22.goL hgl18 (apC dj82.symm apN)
     have k361:=hO30.goL hgl18 (apC (InP.dj hi12 k341.lt' (apC (Dj.new k158.lt' hge5).symm (apC dj82.symm.symm (apC (InP.dj hi11 k324.lt' (apC dj82.symm.symm (apC dj83 apN))).symm apN)))) apN)
     refine yp (h:=(yp (h:=(yp (h:=(yp (h:=(yp (h:=(ze (za (zd (zd (zb (yp (h:=(yp (h:=?_))))))))))))))))))
     rcases Bool.eq_false_or_eq_true (t10913) with b22 | b22
     ·replace H:=H.1 b22
      exact gn b22 (h:=(gn b22 (h:=(gn b22 (h:=(gn b22 (h:=(gn b22 (h:=(zg rfl (zQ (okb b22) rfl) (ze (za (zm rfl (fun _=>zd (zb (yp (h:=(ze (za (zt (zf (zj (zf (zf (zj (zf (zD rfl rfl ⟨gr48,false,rfl,H⟩)))))))))))))) (fun h=>by cases h))))))))))))))
     replace H:=H.2 b22
     refine gp b22 (h:=(zT (qF rfl rfl (okb b22)) rfl rfl (qM H) ?_))
     rintro _ w54 ⟨hg26,v_t1153,F_t1153,t1153,rfl,ht1153,ho32,H⟩
     have gr49:=qG gr48 hg26
     have k363:=k354.g0 hg26
     have k364:=((k337.goL hgl17 (apC dj58 (apC dj62.symm.symm (apC (InP.dj hi11 k318.lt' (apC dj62.symm.symm (apC (InP.dj hi10 k157.lt' (apC dj62 (apC dj63 apN))).symm apN))).symm apN)))).goL hgl18 (apC (Dj.new k157.lt' hge5) apN)).grown hg26
     have k365:=(hB21.goL hgl18 (apC (Dj.new k158.lt' hge5) apN)).g0 hg26
     have k366:=((k339.goL hgl17 (apC dj57 (apC dj66 (apC (RelD.inp k320 (apC dj66 (apC (RelD.inp k159 (apC dj66 (apC dj67 apN)) hi10) apN)) hi11) apN)))).goL hgl18 (apC (k159.new hge5) apN)).grown hg26
     have k367:=(k349.goL hgl18 (apC dj76 apN)).grown hg26
     have k368:=hB23.g0 hg26
     have k369:=(k351.goL hgl18 (apC dj75 apN)).grown hg26
     have k370:=(k352.goL hgl18 (apC (Dj.app (Dj.new hO20.lt' hge5) k185.lt' hk3).symm.symm apN)).grown hg26
     have k371:=k361.grown hg26
     have k372:=(hr12.goL hgl18 (apC (ho30 _ k341.lt' (ho29 _ k324.lt' dj87 (ho28 _ k314.lt')) (k159.new hge5)) apN)).grown hg26
     refine zT (qF rfl rfl (okb b22)) rfl rfl (jk (GB.grown hG gr49) (qE gr49) (apC (Ge.le hge1 (qE gr2)) (apC k371.ge' apN)) hS3 hS7 (k371.base (fun _ _=>Nat.zero_le _)) rfl k372 k363 ht1153 dj96 (apC dj98 (apC dj99 apN)) (apC (ho32 _ k354.lt') (apC (ho32 _ k361.lt') apN)) H) ?_
     rintro v_t1163 w55 ⟨hgl19,_,t1163,a_37,a4j,a5u,a1w,a_38,a_39,rfl,ht1163,hB24,hO31,hi13,hr13,ho33,dj101,dj102,dj103,H⟩
     have hO32:=hO31.base (InP.toGe hi13 (apC (Ge.le hge1 (qE gr2)) (apC k371.ge' apN)) (qE gr49))
     have gr50:=qN gr49 hgl19 (apC (Ge.le hge1 (qE gr2)) (apC k371.ge' apN))
     have k380:=k372.goL hgl19 (apC dj98 (apC dj99 apN))
     have k381:=ht1153.goL hgl19 (apC (ho32 _ k354.lt') (apC (ho32 _ k361.lt') apN))
     refine zT (qF rfl rfl (okb b22)) rfl rfl (ji (hG.grown gr50) hS0 hS1 hS2 hS3 hS4 hS5 hS6 hS7 hS8 hS9 hS10 hS11 hS12 hS13 hS14 hS15 hS16 ht1163 H) ?_
     rintro _ w56 ⟨hg27,t1173,rfl,H⟩
     have gr51:=qG gr50 hg27
     have k382:=hB24.g0 hg27
     have k386:=(k367.goL hgl19 (apC dj80.symm.symm (apC (InP.dj hi12 k340.lt' (apC (Dj.new k158.lt' hb8).symm (apC dj80.symm.symm (apC (InP.dj hi11 k323.lt' (apC dj80.symm.symm (apC dj81 apN))).symm apN)))).symm apN))).grown hg27
     have k387:=(k368.goL hgl19 (apC dj82.symm.symm (apC (InP.dj hi12 k341.lt' (apC (Dj.new k158.lt' hge5).symm (apC dj82.symm.symm (apC (InP.dj hi11 k324.lt' (apC dj82.symm.symm (apC dj83 apN))).symm apN)))).symm apN))).g0 hg27
     have k388:=(k369.goL hgl19 (apC dj84 (apC (RelD.inp k342 (apC (ho24 _ k158.lt' dj69) (apC dj84 (apC (RelD.inp k325 (apC dj84 (apC dj85 apN)) hi11) apN))) hi12) apN))).grown hg27
     have k389:=(k370.goL hgl19 (apC (Dj.app (Dj.app (p:=none) Dj.nl k146.lt' hk2) k177.lt' hk3).symm.symm (apC (InP.dj hi12 k343.lt' (apC (Dj.app (Dj.app (p:=none) Dj.nl k150.lt' hk2) k179.lt' hk3).symm.symm (apC (Dj.app (Dj.app (p:=none) Dj.nl k146.lt' hk2) k177.lt' hk3).symm.symm (apC (InP.dj hi11 k326.lt' (apC (Dj.app (Dj.app (p:=none) Dj.nl k146.lt' hk2) k177.lt' hk3).symm.symm (apC (Dj.app (InP.dj hi10 hO20.lt' (apC (Dj.app (p:=none) Dj.nl k146.lt' hk2) (apC (Dj.app (p:=none) Dj.nl k147.lt' hk2) apN))).symm k182.lt' hk3).symm.symm apN))).symm apN)))).symm apN))).grown hg27
     have k390:=hO32.grown hg27
     have k391:=hr13.grown hg27
     have k392:=ht1163.grown hg27
     refine gp b22 (h:=(zg rfl (zK (okb b22) rfl) (ze (za (zm rfl (fun b23=>?_) (fun b23=>?_))))))
     ·replace H:=H.1 (b23)
      exact zd (zb (yp (h:=(ze (za (zt (zf (zj (zf (zf (zj (zf (zD rfl rfl ⟨gr51,false,rfl,H⟩)))))))))))))
     replace H:=H.2 (b23)
     refine zo (za (zb (yp (h:=(yp (h:=(zg rfl (zB qD k389.rd rfl rfl rfl rfl (by omega) (by simp)) (zg rfl (zR (v:=.pointer (some ⟨e5,0,none⟩)) (zM 0 qD k389.rd rfl rfl (by simp)) rfl) (zx rfl rfl (ja (k390.base (fun _ _=>Nat.zero_le _)) rfl k391 k382 k386.rd rfl k388 k387 dj82.symm.symm (InP.dj hi13 k368.lt' (apC dj82.symm.symm (apC (InP.dj hi12 k341.lt' (apC (Dj.new k158.lt' hge5).symm (apC dj82.symm.symm (apC (InP.dj hi11 k324.lt' (apC dj82.symm.symm (apC dj83 apN))).symm apN)))).symm apN))).symm dj101 (apC (ho33 _ k368.lt' (ho30 _ k341.lt' (ho29 _ k324.lt' dj87 (ho28 _ k314.lt')) (k159.new hge5)) (ho32 _ hB23.lt')) (apC dj102 (apC dj103 apN))) (apC (Dn.of dj76) (apC (Dn.of dj80.symm.symm) (apC (Dn.of (InP.dj hi13 k367.lt' (apC dj80.symm.symm (apC (InP.dj hi12 k340.lt' (apC (Dj.new k158.lt' hb8).symm (apC dj80.symm.symm (apC (InP.dj hi11 k323.lt' (apC dj80.symm.symm (apC dj81 apN))).symm apN)))).symm apN))).symm) apN))) (apC dj75 (apC dj84 (apC (RelD.inp k369 (apC dj84 (apC (RelD.inp k342 (apC (ho24 _ k158.lt' dj69) (apC dj84 (apC (RelD.inp k325 (apC dj84 (apC dj85 apN)) hi11) apN))) hi12) apN)) hi13) apN))) H) ?_)))))))))
     rintro _ w57 ⟨hgl20,a3j,a3k,a3l,a_40,a4k,a5v,a1x,a_41,a_42,rfl,hB25,hB26,hO33,hi14,hr14,ho34,dj104,dj105,dj106,dj107,dj108,dj109,H⟩
     have hO34:=hO33.base (InP.toGe hi14 (apC (Ge.le hge5 (qE gr29)) (apC (Ge.le hge1 (qE gr2)) (apC k390.ge' apN))) (qE gr51))
     have gr52:=qN gr51 hgl20 (apC (Ge.le hge5 (qE gr29)) (apC (Ge.le hge1 (qE gr2)) (apC k390.ge' apN)))
     have k393:=((k364.goL hgl19 (apC dj62.symm.symm (apC (InP.dj hi12 k337.lt' (apC dj58 (apC dj62.symm.symm (apC (InP.dj hi11 k318.lt' (apC dj62.symm.symm (apC (InP.dj hi10 k157.lt' (apC dj62 (apC dj63 apN))).symm apN))).symm apN)))).symm apN))).grown hg27).goL hgl20 (apC (Dj.new k157.lt' hge5) (apC dj62.symm.symm (apC (InP.dj hi13 k364.lt' (apC dj62.symm.symm (apC (InP.dj hi12 k337.lt' (apC dj58 (apC dj62.symm.symm (apC (InP.dj hi11 k318.lt' (apC dj62.symm.symm (apC (InP.dj hi10 k157.lt' (apC dj62 (apC dj63 apN))).symm apN))).symm apN)))).symm apN))).symm apN)))
     have k394:=((k365.goL hgl19 (apC dj94 (apC dj95 apN))).g0 hg27).goL hgl20 (apC (Dj.new k158.lt' hge5) (apC dj94 (apC (InP.dj hi13 k365.lt' (apC dj94 (apC dj95 apN))).symm apN)))
     have k395:=((k366.goL hgl19 (apC dj66 (apC (RelD.inp k339 (apC dj57 (apC dj66 (apC (RelD.inp k320 (apC dj66 (apC (RelD.inp k159 (apC dj66 (apC dj67 apN)) hi10) apN)) hi11) apN))) hi12) apN))).grown hg27).goL hgl20 (apC (k159.new hge5) (apC dj66 (apC (RelD.inp k366 (apC dj66 (apC (RelD.inp k339 (apC dj57 (apC dj66 (apC (RelD.inp k320 (apC dj66 (apC (RelD.inp k159 (apC dj66 (apC dj67 apN)) hi10) apN)) hi11) apN))) hi12) apN)) hi13) apN)))
     have k396:=k386.goL hgl20 (apC dj76 (apC dj80.symm.symm (apC (InP.dj hi13 k367.lt' (apC dj80.symm.symm (apC (InP.dj hi12 k340.lt' (apC (Dj.new k158.lt' hb8).symm (apC dj80.symm.symm (apC (InP.dj hi11 k323.lt' (apC dj80.symm.symm (apC dj81 apN))).symm apN)))).symm apN))).symm apN)))
     have k397:=k388.goL hgl20 (apC dj75 (apC dj84 (apC (RelD.inp k369 (apC dj84 (apC (RelD.inp k342 (apC (ho24 _ k158.lt' dj69) (apC dj84 (apC (RelD.inp k325 (apC dj84 (apC dj85 apN)) hi11) apN))) hi12) apN)) hi13) apN)))
     have k398:=k389.goL hgl20 (apC (Dj.app (Dj.new hO20.lt' hge5) k185.lt' hk3).symm.symm (apC (Dj.app (Dj.app (p:=none) Dj.nl k146.lt' hk2) k177.lt' hk3).symm.symm (apC (InP.dj hi13 k370.lt' (apC (Dj.app (Dj.app (p:=none) Dj.nl k146.lt' hk2) k177.lt' hk3).symm.symm (apC (InP.dj hi12 k343.lt' (apC (Dj.app (Dj.app (p:=none) Dj.nl k150.lt' hk2) k179.lt' hk3).symm.symm (apC (Dj.app (Dj.app (p:=none) Dj.nl k146.lt' hk2) k177.lt' hk3).symm.symm (apC (InP.dj hi11 k326.lt' (apC (Dj.app (Dj.app (p:=none) Dj.nl k146.lt' hk2) k177.lt' hk3).symm.symm (apC (Dj.app (InP.dj hi10 hO20.lt' (apC (Dj.app (p:=none) Dj.nl k146.lt' hk2) (apC (Dj.app (p:=none) Dj.nl k147.lt' hk2) apN))).symm k182.lt' hk3).symm.symm apN))).symm apN)))).symm apN))).symm apN)))
     have k399:=k391.goL hgl20 (apC (ho33 _ k368.lt' (ho30 _ k341.lt' (ho29 _ k324.lt' dj87 (ho28 _ k314.lt')) (k159.new hge5)) (ho32 _ hB23.lt')) (apC dj102 (apC dj103 apN)))
     refine ze (zi (za (zb (yp (h:=(zg rfl (zR (v:=.int .i64 (2:Int)) (Yld.add rfl rfl (by simp only [In]; omega)) rfl) (yp (h:=(ze (qf (WCL.one (zd (zd (zb (yp (h:=(yp (h:=(yp (h:=(ze (za (zm rfl (fun h=>by cases h) (fun _=>zy (zk (zk (zl (za (zd (zb (yp (h:=(zg rfl (qj Tryz.underlying61 rfl rfl) (zx rfl rfl (ks (S:=S) (hO34.base (fun _ _=>Nat.zero_le _)) rfl hr14 hB26 dj106 (apC dj108 (apC dj109 apN)) H) ?_))))))))))))))))))))))))))))))))))
     rintro _ w58 ⟨hgl21,t12802,a0v,a0y,a0p,v_t12812,t12812,a_43,a4l,a5w,a1y,a_44,a_45,rfl,ht12802,u4,ho36,dj110,ht12812,hB27,hO35,hi15,hr15,ho35,dj111,dj112,dj113,dj114,dj115,dj116,dj117,dj118,H⟩
     have hO36:=hO35.base (InP.toGe hi15 (apC (Ge.le hge1 (qE gr2)) (apC hO34.ge' apN)) (qE gr52))
     have hb9:=ht12802.ge'
     have k401:=hr14.goL hgl21 (apC dj108 (apC dj109 apN))
     refine yp (h:=(yp (h:=(yp (h:=(yp (h:=(yp (h:=(ze (za (zd (zb (zx rfl rfl (W_val_Str H) ?_))))))))))))))
     rintro _ w59 ⟨hg28,v_t1322,F_t1322,t1322,rfl,ht1322,ho37,H⟩
     have gr54:=qG (qN gr52 hgl21 (apC (Ge.le hge1 (qE gr2)) (apC hO34.ge' apN))) hg28
     have k402:=hB27.g0 hg28
     have k403:=hO36.grown hg28
     have k404:=hr15.grown hg28
     have k405:=(ht12802.base (fun g hg=>Nat.le_trans (qE gr52) (hb9 g hg))).grown hg28
     have k406:=ht12812.grown hg28
     have k407:=u4.grown hg28
     refine zx rfl rfl (W_list_Each (hG.grown gr54) hS3 ht1322 H) ?_
     rintro v_ w60 ⟨hg_,hc_ | hc_⟩
     ·obtain ⟨v_t13313,t13313,rfl,ht13313,H⟩:=hc_
      have hg29:=hg_
      have gr55:=qG gr54 hg29
      have k408:=k402.g0 hg29
      have k409:=k403.grown hg29
      have k411:=k405.grown hg29
      have k413:=k407.grown hg29
      refine yp (h:=(yp (h:=(yp (h:=(yp (h:=(yp (h:=(ze (za (zd (zb (yp (h:=(zg rfl (qe Tryz.underlying43 (k406.grown hg29) rfl) (yp (h:=?_))))))))))))))))))
      rcases Bool.eq_false_or_eq_true (decide (t12812=Er.ok)) with b24 | b24
      ·replace H:=H.1 b24
       refine gp b24 (h:=(gp b24 (h:=(gp b24 (h:=(gp b24 (h:=(gp b24 (h:=(zg rfl (zQ (okb b24) rfl) (yp (h:=?_))))))))))))
       rcases Bool.eq_false_or_eq_true (decide ((t12802.length:Int)=(l.length:Int))) with b25 | b25
       ·replace H:=H.1 b25
        refine gp b25 (h:=(zT (qF rfl rfl (okb b25)) rfl rfl (qM H) ?_))
        rintro _ w62 ⟨hg30,v_t1472,F_t1472,t1472,rfl,ht1472,ho38,H⟩
        have gr56:=qG gr55 hg30
        have k414:=k408.g0 hg30
        have k415:=k409.grown hg30
        have k416:=(k404.grown hg29).grown hg30
        refine zT (qF rfl rfl (okb b25)) rfl rfl (jk (GB.grown hG gr56) (qE gr56) (apC (Ge.le hge1 (qE gr2)) (apC k415.ge' apN)) hS3 hS7 (k415.base (fun _ _=>Nat.zero_le _)) rfl k416 k414 ht1472 dj111 (apC dj112 (apC dj113 apN)) (apC (ho38 _ k408.lt') (apC (ho38 _ k409.lt') apN)) H) ?_
        rintro v_t1482 w63 ⟨hgl22,_,t1482,a_46,a4m,a5x,a1z,a_47,a_48,rfl,ht1482,hB28,hO37,hi16,hr16,ho39,dj119,dj120,dj121,H⟩
        have hO38:=hO37.base (InP.toGe hi16 (apC (Ge.le hge1 (qE gr2)) (apC k415.ge' apN)) (qE gr56))
        have gr57:=qN gr56 hgl22 (apC (Ge.le hge1 (qE gr2)) (apC k415.ge' apN))
        have k418:=k416.goL hgl22 (apC dj112 (apC dj113 apN))
        have k419:=ErrR.goB (ht13313.grown hg30) (GB.grown hG gr56) hgl22 (apC (Ge.le hge1 (qE gr2)) (apC k415.ge' apN)) (apC (NoAt.bl k414 rfl) (apC (NoAt.own k415 rfl) apN))
        have k420:=ht1472.goL hgl22 (apC (ho38 _ k408.lt') (apC (ho38 _ k409.lt') apN))
        refine zc rfl rfl (okb b25) rfl (qe Tryz.underlying43 ht1482 rfl) (zg rfl (zQ (okb b25) rfl) (yp (h:=?_)))
        rcases Bool.eq_false_or_eq_true (decide (t1482=Er.ok)) with b26 | b26
        ·replace H:=H.1 b26
         refine gp b26 (h:=(zT (qF rfl rfl (okb b26)) rfl rfl (ji (hG.grown gr57) hS0 hS1 hS2 hS3 hS4 hS5 hS6 hS7 hS8 hS9 hS10 hS11 hS12 hS13 hS14 hS15 hS16 k419 H) ?_))
         rintro _ w64 ⟨hg31,t1532,rfl,H⟩
         have k421:=k419.grown hg31
         exact zg rfl (zQ (okb b26) rfl) (yp (h:=(ze (za (zt (zD rfl rfl ⟨(qG gr57 hg31),t1532,rfl,H⟩))))))
        replace H:=H.2 b26
        exact gn b26 (h:=(gn b26 (h:=(zg rfl (zK (okb b26) rfl) (yp (h:=(ze (za (zt (zD rfl rfl ⟨gr57,false,rfl,H⟩))))))))))
       replace H:=H.2 b25
       exact gn b25 (h:=(gn b25 (h:=(gn b25 (h:=(gn b25 (h:=(zg rfl (zK (okb b25) rfl) (yp (h:=(zG rfl rfl (rfl) rfl (zG rfl rfl (rfl) rfl (zg rfl (zK (rfl) rfl) (yp (h:=(ze (za (zt (zD rfl rfl ⟨gr55,false,rfl,H⟩)))))))))))))))))))
      replace H:=H.2 b24
      exact gn b24 (h:=(gn b24 (h:=(gn b24 (h:=(gn b24 (h:=(gn b24 (h:=(zg rfl (zK (okb b24) rfl) (yp (h:=(zG rfl rfl (rfl) rfl (zG rfl rfl (rfl) rfl (zG rfl rfl (rfl) rfl (zG rfl rfl (rfl) rfl (zg rfl (zK (rfl) rfl) (yp (h:=(zG rfl rfl (rfl) rfl (zG rfl rfl (rfl) rfl (zg rfl (zK (rfl) rfl) (yp (h:=(ze (za (zt (zD rfl rfl ⟨gr55,false,rfl,H⟩))))))))))))))))))))))))))))
     obtain ⟨a1b,v_t1330_v2,F_t1330_v2,a1n,a1k,a0e,a0h,y7,a0s,y1,a0a,v_t13314,t13314,rfl,ht1330_v2,ho40,ht1330_l2,y4,ho41,dj122,ht13314,ht13302,hge6,dj123,dj124,dj125,H⟩:=hc_
     have hg32:=hg_
     have hb10:=ht1330_l2.ge'
     have k422:=ht1330_l2.base (fun g hg=>Nat.le_trans (qE gr54) (hb10 g hg))
     have gr59:=qG gr54 hg32
     have k423:=k402.g0 hg32
     have k424:=k403.grown hg32
     have k425:=k404.grown hg32
     have k426:=k405.grown hg32
     have k427:=k406.grown hg32
     have k428:=k407.grown hg32
     exact False.elim H
    clear H
    exact zc rfl rfl (rfl) rfl (zh qD rfl) (zc rfl rfl (rfl) rfl (z1 Tryz.underlying43 ht5516 rfl) (zg rfl (zK (rfl) rfl) (wk (hQ _ _ ⟨!decide (t5516=Er.ok),rfl,rfl,rfl⟩))))
   clear H
   exact zc rfl rfl (rfl) rfl (zh qD rfl) (zc rfl rfl (rfl) rfl (z1 Tryz.underlying43 ht5514 rfl) (zg rfl (zK (rfl) rfl) (wk (hQ _ _ ⟨!decide (t5514=Er.ok),rfl,rfl,rfl⟩))))
  ·replace H:=H.2.2.1 b3
   rw [b3]
   refine zd (zb (yp (h:=(ze (za (zd (zd (zb (yp (h:=(ze (za (WC.block (qv (WCL.one (zd (zd (zb (yp (h:=(yp (h:=(yp (h:=(ze (za (zm rfl (fun _=>zo (za (zd (WC.block (zd (zb (yp (h:=(zg rfl (qj Tryz.underlying61 rfl rfl) (zx rfl rfl (jg (S:=S) (k5.base (fun _ _=>Nat.zero_le _)) rfl l8 ha dj6.symm (apC dj5 (apC dj4 apN)) H) ?_)))))))))) (fun h=>by cases h))))))))))))))))))))))))))))
   rintro v_ w66 ⟨hg_,hc_ | hc_⟩
   ·obtain ⟨v_t5517,t5517,a_49,a4n,a5y,a2a,a_50,a_51,rfl,ht5517,hB29,hO39,hi17,hr17,ho42,dj126,dj127,dj128,H⟩:=hc_
    have hgl23:=hg_
    have hO40:=hO39.base (InP.toGe hi17 (apC (Ge.le hge1 (qE gr2)) (apC k5.ge' apN)) (qE gr4))
    have k429:=k6.goL hgl23 (apC (Dj.new k1.lt' hge1) (apC (Dj.new k1.lt' hb3) apN))
    have k430:=k7.goL hgl23 (apC (a0.new hge1) (apC (a0.new hb3) apN))
    have k431:=l8.goL hgl23 (apC dj5 (apC dj4 apN))
    refine yp (h:=(yp (h:=(yp (h:=(yp (h:=(yp (h:=(ze (za (zd (zd (zb (yp (h:=(zg rfl (zY Tryz.underlying64 rfl rfl) (yp (h:=(zV 3 (fun L' w'=>∃ q16:Bool,L'=[(63,.bool q16),(0,.slice A_l l.length c_l),(1,.int .i64 (3:Int)),(6,.slice a1 t370.length a2),(8,.pointer (some ⟨g_a,0,none⟩)),(9,.slice none 0 0),(10,.int .i64 (0:Int)),(11,.pointer none)]/\true=q16/\w66=w') ?_ (fun hQ=>?_)))))))))))))))))))))
    ·rintro _ _ ⟨q16,rfl,rfl,rfl⟩
     exact ze (za (zm rfl (fun _=>zd (zb (yp (h:=(ze (za (zt (zf (zj (zf (zf (zj (zf (zD rfl rfl ⟨(qN gr4 hgl23 (apC (Ge.le hge1 (qE gr2)) (apC k5.ge' apN))),false,rfl,H⟩)))))))))))))) (fun h=>by cases h)))
    clear H
    exact zG rfl rfl (rfl) rfl (zG rfl rfl (rfl) rfl (zg rfl (zQ (rfl) rfl) (wk (hQ _ _ ⟨true,rfl,rfl,rfl⟩))))
   obtain ⟨a8,f9,i6,i9,e9,p2,d3,f2,v_t5518,t5518,a_52,a4o,a5z,a2b,a_53,a_54,rfl,ht550_l4,r6,ho44,dj129,ht5518,ht5504,hge7,dj130,dj131,dj132,hB30,hO41,hi18,hr18,ho43,dj133,dj134,dj135,dj136,dj137,dj138,dj139,dj140,dj141,dj142,dj143,H⟩:=hc_
   have hgl24:=hg_
   have hO42:=hO41.base (InP.toGe hi18 (apC (Ge.le hge1 (qE gr2)) (apC k5.ge' apN)) (qE gr4))
   have hb11:=ht550_l4.ge'
   have gr61:=qN gr4 hgl24 (apC (Ge.le hge1 (qE gr2)) (apC k5.ge' apN))
   have k435:=l8.goL hgl24 (apC dj5 (apC dj4 apN))
   refine yp (h:=(yp (h:=(yp (h:=(yp (h:=(yp (h:=(ze (za (zd (zd (zb (yp (h:=(zg rfl (zY Tryz.underlying64 rfl rfl) (yp (h:=(zV 3 (fun L' w'=>∃ q17:Bool,L'=[(63,.bool q17),(0,.slice A_l l.length c_l),(1,.int .i64 (3:Int)),(6,.slice a1 t370.length a2),(8,.pointer (some ⟨g_a,0,none⟩)),(9,.slice none 0 0),(10,.int .i64 (0:Int)),(11,.pointer (some ⟨a8,0,none⟩))]/\(!decide (t5518=Er.ok))=q17/\w66=w') ?_ (fun hQ=>?_)))))))))))))))))))))
   ·rintro _ _ ⟨q17,rfl,rfl,rfl⟩
    refine ze (za (zm rfl (fun b27=>?_) (fun b27=>?_)))
    ·replace H:=H.1 (jw b27)
     exact zd (zb (yp (h:=(ze (za (zt (zf (zj (zf (zf (zj (zf (zD rfl rfl ⟨gr61,false,rfl,H⟩)))))))))))))
    replace H:=H.2 (jq b27)
    refine zo (za (zb (yp (h:=(yp (h:=(z5 qD rfl rfl rfl (qJ rfl jl) rfl (by omega) (fun g4 w69 hB31 hg33 hl4=>?_))))))))
    have hO43:Own vQ w69 w.heap.size 64 (some ⟨g4,0,none⟩) 1 ([a8]:List Nat):=Own.ofBl hB31 (Nat.le_trans (qE gr61) hl4) (by simp [maxLen]) rfl
    have gr62:=qG gr61 hg33
    have k436:=(k6.goL hgl24 (apC (Dj.new k1.lt' hge1) (apC (Dj.new k1.lt' hb3) apN))).grown hg33
    have k437:=(k7.goL hgl24 (apC (a0.new hge1) (apC (a0.new hb3) apN))).grown hg33
    have k438:=hB30.g0 hg33
    have k439:=hO42.grown hg33
    have k440:=hr18.grown hg33
    have k441:=(ht550_l4.base (fun g hg=>Nat.le_trans (qE gr4) (hb11 g hg))).grown hg33
    have k442:=ht5504.g0 hg33
    have k443:=r6.grown hg33
    refine z4 qD rfl rfl One.vQ (Own.nil vQ w69 w.heap.size 64) rfl rfl hO43.rd rfl rfl (by simp) (jT (c:=7) (by simp)) (qE gr62) (fun s4 t1 w70 hO44 hg34 hk4=>?_)
    have gr63:=qG gr62 hg34
    have k444:=k436.grown hg34
    have k445:=k437.grown hg34
    have k446:=k438.g0 hg34
    have k447:=k439.grown hg34
    have k448:=k440.grown hg34
    have k449:=k441.grown hg34
    have k450:=k442.g0 hg34
    have k451:=k443.grown hg34
    refine yp (h:=(ze (zi (za (zb (yp (h:=(zg rfl (zR (v:=.int .i64 (1:Int)) (Yld.add rfl rfl (by simp only [In]; omega)) rfl) (yp (h:=(ze (qf (WCL.one (zd (zd (zb (yp (h:=(yp (h:=(yp (h:=(ze (za (zm rfl (fun _=>zo (za (zd (WC.block (zd (zb (yp (h:=(zg rfl (qj Tryz.underlying61 rfl rfl) (zx rfl rfl (jg (S:=S) (k447.base (fun _ _=>Nat.zero_le _)) rfl k448 k446 dj133 (apC dj134 (apC dj135 apN)) H) ?_)))))))))) (fun h=>by cases h))))))))))))))))))))))))))
    rintro v_ w71 ⟨hg_,hc_ | hc_⟩
    ·obtain ⟨v_t5519,t5519,a_55,a4p,a6a,a2c,a_56,a_57,rfl,ht5519,hB32,hO45,hi19,hr19,ho45,dj144,dj145,dj146,H⟩:=hc_
     have hgl25:=hg_
     have hO46:=hO45.base (InP.toGe hi19 (apC (Ge.le hge1 (qE gr2)) (apC k447.ge' apN)) (qE gr63))
     have k452:=k444.goL hgl25 (apC (Dj.new k1.lt' hge1) (apC (InP.dj hi18 k6.lt' (apC (Dj.new k1.lt' hge1) (apC (Dj.new k1.lt' hb3) apN))).symm apN))
     have k453:=k445.goL hgl25 (apC (a0.new hge1) (apC (RelD.inp k7 (apC (a0.new hge1) (apC (a0.new hb3) apN)) hi18) apN))
     have k454:=k448.goL hgl25 (apC dj134 (apC dj135 apN))
     have k455:=k449.goL hgl25 (apC dj136 (apC dj137 apN))
     have k456:=k450.goL hgl25 (apC dj138 (apC dj139 apN))
     have k457:=k451.goL hgl25 (apC dj140 (apC dj141 apN))
     have k458:=hO44.goL hgl25 (apC (Dj.app (p:=none) Dj.nl k438.lt' hk4) (apC (Dj.app (p:=none) Dj.nl k439.lt' hk4) apN))
     refine yp (h:=(yp (h:=(yp (h:=(yp (h:=(yp (h:=(ze (za (zd (zd (zb (yp (h:=(zg rfl (zY Tryz.underlying64 rfl rfl) (yp (h:=(zV 3 (fun L' w'=>∃ q18:Bool,L'=[(63,.bool q18),(0,.slice A_l l.length c_l),(1,.int .i64 (3:Int)),(6,.slice a1 t370.length a2),(8,.pointer (some ⟨g_a,0,none⟩)),(9,.slice s4 (([]++([a8]:List Nat)).length) t1),(10,.int .i64 (1:Int)),(11,.pointer none)]/\true=q18/\w71=w') ?_ (fun hQ=>?_)))))))))))))))))))))
     ·rintro _ _ ⟨q18,rfl,rfl,rfl⟩
      exact ze (za (zm rfl (fun _=>zd (zb (yp (h:=(ze (za (zt (zf (zj (zf (zf (zj (zf (zD rfl rfl ⟨(qN gr63 hgl25 (apC (Ge.le hge1 (qE gr2)) (apC k447.ge' apN))),false,rfl,H⟩)))))))))))))) (fun h=>by cases h)))
     clear H
     exact zG rfl rfl (rfl) rfl (zG rfl rfl (rfl) rfl (zg rfl (zQ (rfl) rfl) (wk (hQ _ _ ⟨true,rfl,rfl,rfl⟩))))
    obtain ⟨a9,h0,i7,l0,f0,p3,d4,f3,v_t55110,t55110,a_58,a4q,a6b,a2d,a_59,a_60,rfl,ht550_l5,r7,ho47,dj147,ht55110,ht5505,hge8,dj148,dj149,dj150,hB33,hO47,hi20,hr20,ho46,dj151,dj152,dj153,dj154,dj155,dj156,dj157,dj158,dj159,dj160,dj161,H⟩:=hc_
    have hgl26:=hg_
    have hO48:=hO47.base (InP.toGe hi20 (apC (Ge.le hge1 (qE gr2)) (apC k447.ge' apN)) (qE gr63))
    have hb12:=ht550_l5.ge'
    have gr65:=qN gr63 hgl26 (apC (Ge.le hge1 (qE gr2)) (apC k447.ge' apN))
    have k462:=k448.goL hgl26 (apC dj134 (apC dj135 apN))
    refine yp (h:=(yp (h:=(yp (h:=(yp (h:=(yp (h:=(ze (za (zd (zd (zb (yp (h:=(zg rfl (zY Tryz.underlying64 rfl rfl) (yp (h:=(zV 3 (fun L' w'=>∃ q19:Bool,L'=[(63,.bool q19),(0,.slice A_l l.length c_l),(1,.int .i64 (3:Int)),(6,.slice a1 t370.length a2),(8,.pointer (some ⟨g_a,0,none⟩)),(9,.slice s4 (([]++([a8]:List Nat)).length) t1),(10,.int .i64 (1:Int)),(11,.pointer (some ⟨a9,0,none⟩))]/\(!decide (t55110=Er.ok))=q19/\w71=w') ?_ (fun hQ=>?_)))))))))))))))))))))
    ·rintro _ _ ⟨q19,rfl,rfl,rfl⟩
     refine ze (za (zm rfl (fun b28=>?_) (fun b28=>?_)))
     ·replace H:=H.1 (jw b28)
      exact zd (zb (yp (h:=(ze (za (zt (zf (zj (zf (zf (zj (zf (zD rfl rfl ⟨gr65,false,rfl,H⟩)))))))))))))
     replace H:=H.2 (jq b28)
     refine zo (za (zb (yp (h:=(yp (h:=(z5 qD rfl rfl rfl (qJ rfl jl) rfl (by omega) (fun g5 w74 hB34 hg35 hl5=>?_))))))))
     have hO49:Own vQ w74 w.heap.size 64 (some ⟨g5,0,none⟩) 1 ([a9]:List Nat):=Own.ofBl hB34 (Nat.le_trans (qE gr65) hl5) (by simp [maxLen]) rfl
     have gr66:=qG gr65 hg35
     have k467:=(k444.goL hgl26 (apC (Dj.new k1.lt' hge1) (apC (InP.dj hi18 k6.lt' (apC (Dj.new k1.lt' hge1) (apC (Dj.new k1.lt' hb3) apN))).symm apN))).grown hg35
     have k468:=(k445.goL hgl26 (apC (a0.new hge1) (apC (RelD.inp k7 (apC (a0.new hge1) (apC (a0.new hb3) apN)) hi18) apN))).grown hg35
     have k469:=hB33.g0 hg35
     have k470:=(k449.goL hgl26 (apC dj136 (apC dj137 apN))).grown hg35
     have k471:=(k450.goL hgl26 (apC dj138 (apC dj139 apN))).g0 hg35
     have k472:=(k451.goL hgl26 (apC dj140 (apC dj141 apN))).grown hg35
     have k473:=(hO44.goL hgl26 (apC (Dj.app (p:=none) Dj.nl k438.lt' hk4) (apC (Dj.app (p:=none) Dj.nl k439.lt' hk4) apN))).grown hg35
     have k474:=hO48.grown hg35
     have k475:=hr20.grown hg35
     have k476:=(ht550_l5.base (fun g hg=>Nat.le_trans (qE gr63) (hb12 g hg))).grown hg35
     have k477:=ht5505.g0 hg35
     have k478:=r7.grown hg35
     refine z4 qD rfl rfl One.vQ k473 rfl rfl hO49.rd rfl rfl (by simp) (jT (c:=7) (by simp)) (qE gr66) (fun s5 t2 w75 hO50 hg36 hk5=>?_)
     have gr67:=js gr66 hg36 k473.ge'
     have k479:=k467.go hg36 ((Dj.app (p:=none) Dj.nl k436.lt' hk4).symm)
     have k480:=k468.go hg36 (RelD.app k437 (DnD.none k437) hk4)
     have k481:=k469.go hg36 ((Dj.app (p:=none) Dj.nl k438.lt' hk4).symm)
     have k482:=k470.go hg36 ((Dj.app (p:=none) Dj.nl k441.lt' hk4).symm)
     have k483:=k471.go hg36 ((Dj.app (p:=none) Dj.nl k442.lt' hk4).symm)
     have k484:=k472.go hg36 (RelD.app k443 (DnD.none k443) hk4)
     have k485:=k474.go hg36 (InP.dj hi20 hO44.lt' (apC (Dj.app (p:=none) Dj.nl k438.lt' hk4) (apC (Dj.app (p:=none) Dj.nl k439.lt' hk4) apN)))
     have k486:=k475.go hg36 (ho46 _ hO44.lt' (RelD.app k440 (DnD.none k440) hk4))
     have k487:=k476.go hg36 ((Dj.new hO44.lt' hb12).symm)
     have k488:=k477.go hg36 ((Dj.new hO44.lt' hge8).symm)
     have k489:=k478.go hg36 (ho47 _ hO44.lt' (RelD.app k440 (DnD.none k440) hk4))
     refine yp (h:=(ze (zi (za (zb (yp (h:=(zg rfl (zR (v:=.int .i64 (2:Int)) (Yld.add rfl rfl (by simp only [In]; omega)) rfl) (yp (h:=(ze (qf (WCL.one (zd (zd (zb (yp (h:=(yp (h:=(yp (h:=(ze (za (zm rfl (fun _=>zo (za (zd (WC.block (zd (zb (yp (h:=(zg rfl (qj Tryz.underlying61 rfl rfl) (zx rfl rfl (jg (S:=S) (k485.base (fun _ _=>Nat.zero_le _)) rfl k486 k481 dj151 (apC dj152 (apC dj153 apN)) H) ?_)))))))))) (fun h=>by cases h))))))))))))))))))))))))))
     rintro v_ w76 ⟨hg_,hc_ | hc_⟩
     ·obtain ⟨v_t55111,t55111,a_61,a4r,a6c,a2e,a_62,a_63,rfl,ht55111,hB35,hO51,hi21,hr21,ho48,dj162,dj163,dj164,H⟩:=hc_
      have hgl27:=hg_
      have hO52:=hO51.base (InP.toGe hi21 (apC (Ge.le hge1 (qE gr2)) (apC k485.ge' apN)) (qE gr67))
      have k490:=k479.goL hgl27 (apC (Dj.new k1.lt' hge1) (apC (InP.dj hi20 k444.lt' (apC (Dj.new k1.lt' hge1) (apC (InP.dj hi18 k6.lt' (apC (Dj.new k1.lt' hge1) (apC (Dj.new k1.lt' hb3) apN))).symm apN))).symm apN))
      have k491:=k480.goL hgl27 (apC (a0.new hge1) (apC (RelD.inp k445 (apC (a0.new hge1) (apC (RelD.inp k7 (apC (a0.new hge1) (apC (a0.new hb3) apN)) hi18) apN)) hi20) apN))
      have k492:=k482.goL hgl27 (apC dj136 (apC (InP.dj hi20 k449.lt' (apC dj136 (apC dj137 apN))).symm apN))
      have k493:=k483.goL hgl27 (apC dj138 (apC (InP.dj hi20 k450.lt' (apC dj138 (apC dj139 apN))).symm apN))
      have k494:=k484.goL hgl27 (apC dj140 (apC (RelD.inp k451 (apC dj140 (apC dj141 apN)) hi20) apN))
      have k495:=k486.goL hgl27 (apC dj152 (apC dj153 apN))
      have k496:=k487.goL hgl27 (apC dj154 (apC dj155 apN))
      have k497:=k488.goL hgl27 (apC dj156 (apC dj157 apN))
      have k498:=k489.goL hgl27 (apC dj158 (apC dj159 apN))
      have k499:=hO50.goL hgl27 (apC (Dj.app (Dj.app (p:=none) Dj.nl k438.lt' hk4) k469.lt' hk5) (apC (Dj.app (InP.dj hi20 hO44.lt' (apC (Dj.app (p:=none) Dj.nl k438.lt' hk4) (apC (Dj.app (p:=none) Dj.nl k439.lt' hk4) apN))).symm k474.lt' hk5) apN))
      refine yp (h:=(yp (h:=(yp (h:=(yp (h:=(yp (h:=(ze (za (zd (zd (zb (yp (h:=(zg rfl (zY Tryz.underlying64 rfl rfl) (yp (h:=(zV 3 (fun L' w'=>∃ q20:Bool,L'=[(63,.bool q20),(0,.slice A_l l.length c_l),(1,.int .i64 (3:Int)),(6,.slice a1 t370.length a2),(8,.pointer (some ⟨g_a,0,none⟩)),(9,.slice s5 ((([]++([a8]:List Nat))++([a9]:List Nat)).length) t2),(10,.int .i64 (2:Int)),(11,.pointer none)]/\true=q20/\w76=w') ?_ (fun hQ=>?_)))))))))))))))))))))
      ·rintro _ _ ⟨q20,rfl,rfl,rfl⟩
       exact ze (za (zm rfl (fun _=>zd (zb (yp (h:=(ze (za (zt (zf (zj (zf (zf (zj (zf (zD rfl rfl ⟨(qN gr67 hgl27 (apC (Ge.le hge1 (qE gr2)) (apC k485.ge' apN))),false,rfl,H⟩)))))))))))))) (fun h=>by cases h)))
      clear H
      exact zG rfl rfl (rfl) rfl (zG rfl rfl (rfl) rfl (zg rfl (zQ (rfl) rfl) (wk (hQ _ _ ⟨true,rfl,rfl,rfl⟩))))
     obtain ⟨c1,i0,i8,l1,f1,p4,d5,f4,v_t55112,t55112,a_64,n1,n2,m7,a_65,a_66,rfl,ht550_l6,r8,ho50,dj165,ht55112,ht5506,hge9,dj166,dj167,dj168,hB36,hO53,hi22,hr22,ho49,dj169,dj170,dj171,dj172,dj173,dj174,dj175,dj176,dj177,dj178,dj179,H⟩:=hc_
     have hgl28:=hg_
     have hO54:=hO53.base (InP.toGe hi22 (apC (Ge.le hge1 (qE gr2)) (apC k485.ge' apN)) (qE gr67))
     have hb13:=ht550_l6.ge'
     have gr69:=qN gr67 hgl28 (apC (Ge.le hge1 (qE gr2)) (apC k485.ge' apN))
     have k506:=k486.goL hgl28 (apC dj152 (apC dj153 apN))
     refine yp (h:=(yp (h:=(yp (h:=(yp (h:=(yp (h:=(ze (za (zd (zd (zb (yp (h:=(zg rfl (zY Tryz.underlying64 rfl rfl) (yp (h:=(zV 3 (fun L' w'=>∃ q21:Bool,L'=[(63,.bool q21),(0,.slice A_l l.length c_l),(1,.int .i64 (3:Int)),(6,.slice a1 t370.length a2),(8,.pointer (some ⟨g_a,0,none⟩)),(9,.slice s5 ((([]++([a8]:List Nat))++([a9]:List Nat)).length) t2),(10,.int .i64 (2:Int)),(11,.pointer (some ⟨c1,0,none⟩))]/\(!decide (t55112=Er.ok))=q21/\w76=w') ?_ (fun hQ=>?_)))))))))))))))))))))
     ·rintro _ _ ⟨q21,rfl,rfl,rfl⟩
      refine ze (za (zm rfl (fun b29=>?_) (fun b29=>?_)))
      ·replace H:=H.1 (jw b29)
       exact zd (zb (yp (h:=(ze (za (zt (zf (zj (zf (zf (zj (zf (zD rfl rfl ⟨gr69,false,rfl,H⟩)))))))))))))
      replace H:=H.2 (jq b29)
      refine zo (za (zb (yp (h:=(yp (h:=(z5 qD rfl rfl rfl (qJ rfl jl) rfl (by omega) (fun g6 w79 hB37 hg37 hl6=>?_))))))))
      have hO55:Own vQ w79 w.heap.size 64 (some ⟨g6,0,none⟩) 1 ([c1]:List Nat):=Own.ofBl hB37 (Nat.le_trans (qE gr69) hl6) (by simp [maxLen]) rfl
      have gr70:=qG gr69 hg37
      have k513:=hB36.g0 hg37
      have k515:=(k483.goL hgl28 (apC dj138 (apC (InP.dj hi20 k450.lt' (apC dj138 (apC dj139 apN))).symm apN))).g0 hg37
      have k518:=(k488.goL hgl28 (apC dj156 (apC dj157 apN))).g0 hg37
      have k520:=(hO50.goL hgl28 (apC (Dj.app (Dj.app (p:=none) Dj.nl k438.lt' hk4) k469.lt' hk5) (apC (Dj.app (InP.dj hi20 hO44.lt' (apC (Dj.app (p:=none) Dj.nl k438.lt' hk4) (apC (Dj.app (p:=none) Dj.nl k439.lt' hk4) apN))).symm k474.lt' hk5) apN))).grown hg37
      have k521:=hO54.grown hg37
      have k524:=ht5506.g0 hg37
      refine z4 qD rfl rfl One.vQ k520 rfl rfl hO55.rd rfl rfl (by simp) (jT (c:=7) (by simp)) (qE gr70) (fun m5 m6 w80 hO56 hg38 hk6=>yp (h:=(ze (zi (za (zb (yp (h:=(zg rfl (zR (v:=.int .i64 (3:Int)) (Yld.add rfl rfl (by simp only [In]; omega)) rfl) (yp (h:=(ze (qf (WCL.one (zd (zd (zb (yp (h:=(yp (h:=(yp (h:=(ze (za (zm rfl (fun h=>by cases h) (fun _=>zy (zk (zk (zl (za (zd (zd (zb (yp (h:=(ze (za (WC.block ?_)))))))))))))))))))))))))))))))))))))))
      obtain ⟨I3,mu3,a1g,HR3⟩:=H
      refine z3 (fun n' L' w'=>∃ (i3:Int),∃ (t55024:Int),∃ (t55025:Int),∃ (t55026:Int),n'=mu3 i3 t55024 t55025 t55026/\L'=[(0,.slice A_l l.length c_l),(1,.int .i64 (3:Int)),(6,.slice a1 t370.length a2),(8,.pointer (some ⟨g_a,0,none⟩)),(9,.slice m5 (((([]++([a8]:List Nat))++([a9]:List Nat))++([c1]:List Nat)).length) m6),(13,.int .i64 i3)]/\I3 i3 t55024 t55025 t55026/\w.grownBy w' none/\Own vv w' w.heap.size 32 a1 a2 a3/\RelD deV w' a3 t370/\Bl w' g_a 166 [.slice n1 a_64.length n2,.bool a_65,.int .i64 a_66]/\Own vv w' w.heap.size 32 i6 i9 e9/\Bl w' a8 168 [.iface 61 (.pointer (some ⟨g_a,0,none⟩)),.slice i6 f9.length i9,.int .i64 t55024,.bool d3,.bool f2]/\RelD deV w' e9 f9/\Own vv w' w.heap.size 32 i7 l0 f0/\Bl w' a9 168 [.iface 61 (.pointer (some ⟨g_a,0,none⟩)),.slice i7 h0.length l0,.int .i64 t55025,.bool d4,.bool f3]/\RelD deV w' f0 h0/\Own vv w' w.heap.size 32 n1 n2 m7/\RelD deV w' m7 a_64/\Own vv w' w.heap.size 32 i8 l1 f1/\Bl w' c1 168 [.iface 61 (.pointer (some ⟨g_a,0,none⟩)),.slice i8 i0.length l1,.int .i64 t55026,.bool d5,.bool f4]/\RelD deV w' f1 i0/\Own vQ w' w.heap.size 64 m5 m6 ((([]++([a8]:List Nat))++([a9]:List Nat))++([c1]:List Nat))) _ _ ⟨(0:Int),p2,p3,p4,rfl,rfl,a1g,(js gr70 hg38 k520.ge'),(((k479.goL hgl28 (apC (Dj.new k1.lt' hge1) (apC (InP.dj hi20 k444.lt' (apC (Dj.new k1.lt' hge1) (apC (InP.dj hi18 k6.lt' (apC (Dj.new k1.lt' hge1) (apC (Dj.new k1.lt' hb3) apN))).symm apN))).symm apN))).grown hg37).go hg38 ((Dj.app (Dj.app (p:=none) Dj.nl k436.lt' hk4) k467.lt' hk5).symm)),(((k480.goL hgl28 (apC (a0.new hge1) (apC (RelD.inp k445 (apC (a0.new hge1) (apC (RelD.inp k7 (apC (a0.new hge1) (apC (a0.new hb3) apN)) hi18) apN)) hi20) apN))).grown hg37).go hg38 (RelD.app k468 (RelD.app k437 (DnD.none k437) hk4) hk5)),(k513.go hg38 ((Dj.app (Dj.app (p:=none) Dj.nl k438.lt' hk4) k469.lt' hk5).symm)),(((k482.goL hgl28 (apC dj136 (apC (InP.dj hi20 k449.lt' (apC dj136 (apC dj137 apN))).symm apN))).grown hg37).go hg38 ((Dj.app (Dj.app (p:=none) Dj.nl k441.lt' hk4) k470.lt' hk5).symm)),(k515.go hg38 ((Dj.app (Dj.app (p:=none) Dj.nl k442.lt' hk4) k471.lt' hk5).symm)),(((k484.goL hgl28 (apC dj140 (apC (RelD.inp k451 (apC dj140 (apC dj141 apN)) hi20) apN))).grown hg37).go hg38 (RelD.app k472 (RelD.app k443 (DnD.none k443) hk4) hk5)),(((k487.goL hgl28 (apC dj154 (apC dj155 apN))).grown hg37).go hg38 ((Dj.app (Dj.new hO44.lt' hb12) k476.lt' hk5).symm)),(k518.go hg38 ((Dj.app (Dj.new hO44.lt' hge8) k477.lt' hk5).symm)),(((k489.goL hgl28 (apC dj158 (apC dj159 apN))).grown hg37).go hg38 (RelD.app k478 (ho47 _ hO44.lt' (RelD.app k440 (DnD.none k440) hk4)) hk5)),(k521.go hg38 (InP.dj hi22 hO50.lt' (apC (Dj.app (Dj.app (p:=none) Dj.nl k438.lt' hk4) k469.lt' hk5) (apC (Dj.app (InP.dj hi20 hO44.lt' (apC (Dj.app (p:=none) Dj.nl k438.lt' hk4) (apC (Dj.app (p:=none) Dj.nl k439.lt' hk4) apN))).symm k474.lt' hk5) apN)))),((hr22.grown hg37).go hg38 (ho49 _ hO50.lt' (RelD.app k475 (ho46 _ hO44.lt' (RelD.app k440 (DnD.none k440) hk4)) hk5))),(((ht550_l6.base (fun g hg=>Nat.le_trans (qE gr67) (hb13 g hg))).grown hg37).go hg38 ((Dj.new hO50.lt' hb13).symm)),(k524.go hg38 ((Dj.new hO50.lt' hge9).symm)),((r8.grown hg37).go hg38 (ho50 _ hO50.lt' (RelD.app k475 (ho46 _ hO44.lt' (RelD.app k440 (DnD.none k440) hk4)) hk5))),hO56⟩ sb ?_
      clear a1g
      rintro _ _ w81 ⟨i3,t55024,t55025,t55026,rfl,rfl,hI3,gr72,k540,k541,k542,k543,k544,k545,k546,k547,k548,k549,k550,k551,k552,k553,k554⟩
      have H:=HR3 i3 t55024 t55025 t55026 hI3
      refine zd (zd (zb (yp (h:=(yp (h:=(yp (h:=(yp (h:=(ze (za (zm rfl (fun b30=>?_) (fun b30=>?_))))))))))))))
      ·replace H:=H.1 (of_decide_eq_true b30)
       refine zo (za (zd (WC.block (zd (zb (yp (h:=(ze (za (WC.block (qv (WCL.one (zd (zd (zb (yp (h:=(yp (h:=(yp (h:=(ze (za (zm rfl (fun _=>zo (za (zd (WC.block (zd (zb (yp (h:=(yp (h:=(zg rfl (zB qD k554.rd rfl rfl rfl rfl (by omega) (by simp)) (zg rfl (zR (v:=.pointer (some ⟨a8,0,none⟩)) (zM 0 qD k554.rd rfl rfl (by simp)) rfl) (zx rfl rfl (qK k549.rd rfl k550 k542 k543.rd rfl k545 k544 (apC (Dn.of (InP.dj hi22 k483.lt' (apC dj138 (apC (InP.dj hi20 k450.lt' (apC dj138 (apC dj139 apN))).symm apN))).symm.symm) apN) (apC (ho49 _ k483.lt' (ho46 _ k450.lt' dj143)) apN) (apC dj138.symm apN) (apC (Dn.of dj132) apN) (apC dj131 apN) H) ?_))))))))))))) (fun h=>by cases h)))))))))))))))))))))))))
       rintro _ w82 ⟨hgl29,v_t8404,F_t8404,t8404,t8414,n8,rfl,ht8404,ho51,hB38,dj180,H⟩
       have gr73:=qN gr72 hgl29 (apC (Ge.le hge7 (qE gr4)) apN)
       have k555:=k540.goL hgl29 (apC (Dj.new k6.lt' hge7) apN)
       have k556:=k541.goL hgl29 (apC (k7.new hge7) apN)
       have k557:=k542.goL hgl29 (apC dj138.symm apN)
       have k558:=k543.goL hgl29 (apC dj132 apN)
       have k559:=k545.goL hgl29 (apC dj131 apN)
       have k560:=k546.goL hgl29 (apC (Dj.new k450.lt' hb12).symm apN)
       have k561:=k547.goL hgl29 (apC (Dj.new k450.lt' hge8).symm apN)
       have k562:=k548.goL hgl29 (apC (ho47 _ k450.lt' dj143) apN)
       have k563:=k549.goL hgl29 (apC (InP.dj hi22 k483.lt' (apC dj138 (apC (InP.dj hi20 k450.lt' (apC dj138 (apC dj139 apN))).symm apN))).symm.symm apN)
       have k564:=k550.goL hgl29 (apC (ho49 _ k483.lt' (ho46 _ k450.lt' dj143)) apN)
       have k565:=k551.goL hgl29 (apC (Dj.new k483.lt' hb13).symm apN)
       have k566:=k552.goL hgl29 (apC (Dj.new k483.lt' hge9).symm apN)
       have k567:=k553.goL hgl29 (apC (ho50 _ k483.lt' (ho46 _ k450.lt' dj143)) apN)
       have k568:=k554.goL hgl29 (apC (Dj.app (Dj.app (Dj.app (p:=none) Dj.nl k442.lt' hk4) k471.lt' hk5) k515.lt' hk6).symm.symm apN)
       refine yp (h:=(yp (h:=(yp (h:=(yp (h:=(yp (h:=(ze (za (zd (zW (fun k => !(Nat.beq k 4 || Nat.beq k 9)) (LD [8] (fun w'=>Rd vv w' a1 a2 a3)) jx (by kernel_rfl) (fun k w' h _=>(jQ h k555.rd)) (zA rfl rfl (fun w' hw'=>zh qD rfl) (zA rfl rfl (fun w' hw'=>zh qD rfl) (zA rfl rfl (fun w' hw'=>zh qD rfl) ?_))))))))))))))))
       obtain ⟨J9,H,hJ9⟩:=H
       refine qr 9 (fun L' w'=>∃ q22:Bool,L'=[(98,.bool q22),(0,.slice A_l l.length c_l),(1,.int .i64 (3:Int)),(6,.slice a1 t370.length a2),(8,.pointer (some ⟨g_a,0,none⟩)),(9,.slice m5 (((([]++([a8]:List Nat))++([a9]:List Nat))++([c1]:List Nat)).length) m6),(13,.int .i64 i3),(14,.int .i64 (0:Int))]/\J9 q22/\w.grownBy w' none/\Own vv w' w.heap.size 32 a1 a2 a3/\RelD deV w' a3 t370/\Bl w' g_a 166 [.slice n1 a_64.length n2,.bool a_65,.int .i64 a_66]/\Own vv w' w.heap.size 32 i6 i9 e9/\Bl w' a8 168 [.iface 61 (.pointer (some ⟨g_a,0,none⟩)),.slice i6 f9.length i9,.int .i64 n8,.bool d3,.bool f2]/\RelD deV w' e9 f9/\Own vv w' w.heap.size 32 i7 l0 f0/\Bl w' a9 168 [.iface 61 (.pointer (some ⟨g_a,0,none⟩)),.slice i7 h0.length l0,.int .i64 t55025,.bool d4,.bool f3]/\RelD deV w' f0 h0/\Own vv w' w.heap.size 32 n1 n2 m7/\RelD deV w' m7 a_64/\Own vv w' w.heap.size 32 i8 l1 f1/\Bl w' c1 168 [.iface 61 (.pointer (some ⟨g_a,0,none⟩)),.slice i8 i0.length l1,.int .i64 t55026,.bool d5,.bool f4]/\RelD deV w' f1 i0/\Own vQ w' w.heap.size 64 m5 m6 ((([]++([a8]:List Nat))++([a9]:List Nat))++([c1]:List Nat))) ?_ (fun hQ=>?_)
       ·clear H
        rintro _ w83 ⟨q22,rfl,H,gr74,k569,k570,k571,k572,k573,k574,k575,k576,k577,k578,k579,k580,k581,k582,k583⟩
        replace H:=hJ9 q22 H
        refine qh (za (zm rfl (fun b31=>?_) (fun b31=>?_)))
        ·replace H:=H.1 (b31)
         exact zd (zb (yp (h:=(ze (za (zt (zj (zf (zf (zj (zj (zf (zf (zj (zf (zD rfl rfl ⟨gr74,false,rfl,H⟩))))))))))))))))
        replace H:=H.2 (b31)
        refine zo (zi (za (zb (yp (h:=(zg rfl (zR (v:=.int .i64 (1:Int)) (Yld.add rfl rfl (by simp only [In]; omega)) rfl) (yp (h:=(ze (qf (WCL.one (zd (zd (zb (yp (h:=(yp (h:=(yp (h:=(ze (za (zm rfl (fun _=>zo (za (zd (WC.block (zd (zb (yp (h:=(yp (h:=(zg rfl (zB qD k583.rd rfl rfl rfl rfl (by omega) (by simp)) (zg rfl (zR (v:=.pointer (some ⟨a9,0,none⟩)) (zM 0 qD k583.rd rfl rfl (by simp)) rfl) (zx rfl rfl (qK k578.rd rfl k579 k571 k575.rd rfl k577 k576 (apC (Dn.of (InP.dj hi22 k488.lt' (apC dj156 (apC dj157 apN))).symm.symm) apN) (apC (ho49 _ k488.lt' dj161) apN) (apC dj156.symm apN) (apC (Dn.of dj150) apN) (apC dj149 apN) H) ?_))))))))))))) (fun h=>by cases h))))))))))))))))))))))))
        rintro _ w84 ⟨hgl30,v_t8405,F_t8405,t8405,t8415,o2,rfl,ht8405,ho52,hB39,dj181,H⟩
        have gr75:=qN gr74 hgl30 (apC (Ge.le hge8 (qE gr63)) apN)
        have k584:=k569.goL hgl30 (apC (Dj.new k444.lt' hge8) apN)
        have k585:=k570.goL hgl30 (apC (k445.new hge8) apN)
        have k586:=k571.goL hgl30 (apC dj156.symm apN)
        have k587:=k572.goL hgl30 (apC (Dj.new k449.lt' hge8) apN)
        have k588:=k573.goL hgl30 (apC (Dj.new k450.lt' hge8) apN)
        have k589:=k574.goL hgl30 (apC (k451.new hge8) apN)
        have k590:=k575.goL hgl30 (apC dj150 apN)
        have k591:=k577.goL hgl30 (apC dj149 apN)
        have k592:=k578.goL hgl30 (apC (InP.dj hi22 k488.lt' (apC dj156 (apC dj157 apN))).symm.symm apN)
        have k593:=k579.goL hgl30 (apC (ho49 _ k488.lt' dj161) apN)
        have k594:=k580.goL hgl30 (apC (Dj.new k488.lt' hb13).symm apN)
        have k595:=k581.goL hgl30 (apC (Dj.new k488.lt' hge9).symm apN)
        have k596:=k582.goL hgl30 (apC (ho50 _ k488.lt' dj161) apN)
        have k597:=k583.goL hgl30 (apC (Dj.app (Dj.app (Dj.new hO44.lt' hge8) k477.lt' hk5) k518.lt' hk6).symm.symm apN)
        refine yp (h:=(yp (h:=(yp (h:=(yp (h:=(yp (h:=(ze (za (zd (zW (fun k => !(Nat.beq k 4 || Nat.beq k 9)) (LD [8] (fun w'=>Rd vv w' a1 a2 a3)) jx (by kernel_rfl) (fun k w' h _=>(jQ h k584.rd)) (zA rfl rfl (fun w' hw'=>zh qD rfl) (zA rfl rfl (fun w' hw'=>zh qD rfl) (zA rfl rfl (fun w' hw'=>zh qD rfl) ?_))))))))))))))))
        obtain ⟨J10,H,hJ10⟩:=H
        refine qr 9 (fun L' w'=>∃ q23:Bool,L'=[(98,.bool q23),(0,.slice A_l l.length c_l),(1,.int .i64 (3:Int)),(6,.slice a1 t370.length a2),(8,.pointer (some ⟨g_a,0,none⟩)),(9,.slice m5 (((([]++([a8]:List Nat))++([a9]:List Nat))++([c1]:List Nat)).length) m6),(13,.int .i64 i3),(14,.int .i64 (1:Int))]/\J10 q23/\w.grownBy w' none/\Own vv w' w.heap.size 32 a1 a2 a3/\RelD deV w' a3 t370/\Bl w' g_a 166 [.slice n1 a_64.length n2,.bool a_65,.int .i64 a_66]/\Own vv w' w.heap.size 32 i6 i9 e9/\Bl w' a8 168 [.iface 61 (.pointer (some ⟨g_a,0,none⟩)),.slice i6 f9.length i9,.int .i64 n8,.bool d3,.bool f2]/\RelD deV w' e9 f9/\Own vv w' w.heap.size 32 i7 l0 f0/\Bl w' a9 168 [.iface 61 (.pointer (some ⟨g_a,0,none⟩)),.slice i7 h0.length l0,.int .i64 o2,.bool d4,.bool f3]/\RelD deV w' f0 h0/\Own vv w' w.heap.size 32 n1 n2 m7/\RelD deV w' m7 a_64/\Own vv w' w.heap.size 32 i8 l1 f1/\Bl w' c1 168 [.iface 61 (.pointer (some ⟨g_a,0,none⟩)),.slice i8 i0.length l1,.int .i64 t55026,.bool d5,.bool f4]/\RelD deV w' f1 i0/\Own vQ w' w.heap.size 64 m5 m6 ((([]++([a8]:List Nat))++([a9]:List Nat))++([c1]:List Nat))) ?_ (fun hQ=>?_)
        ·clear H
         rintro _ w85 ⟨q23,rfl,H,gr76,k598,k599,k600,k601,k602,k603,k604,k605,k606,k607,k608,k609,k610,k611,k612⟩
         replace H:=hJ10 q23 H
         refine qh (za (zm rfl (fun b32=>?_) (fun b32=>?_)))
         ·replace H:=H.1 (b32)
          exact zd (zb (yp (h:=(ze (za (zt (zj (zf (zf (zj (zj (zf (zf (zj (zf (zD rfl rfl ⟨gr76,false,rfl,H⟩))))))))))))))))
         replace H:=H.2 (b32)
         refine zo (zi (za (zb (yp (h:=(zg rfl (zR (v:=.int .i64 (2:Int)) (Yld.add rfl rfl (by simp only [In]; omega)) rfl) (yp (h:=(ze (qf (WCL.one (zd (zd (zb (yp (h:=(yp (h:=(yp (h:=(ze (za (zm rfl (fun _=>zo (za (zd (WC.block (zd (zb (yp (h:=(yp (h:=(zg rfl (zB qD k612.rd rfl rfl rfl rfl (by omega) (by simp)) (zg rfl (zR (v:=.pointer (some ⟨c1,0,none⟩)) (zM 0 qD k612.rd rfl rfl (by simp)) rfl) (zx rfl rfl (qK k607.rd rfl k608 k600 k609.rd rfl k611 k610 (apC (Dn.of dj175.symm) apN) (apC dj179 apN) (apC dj174.symm apN) (apC (Dn.of dj168) apN) (apC dj167 apN) H) ?_))))))))))))) (fun h=>by cases h))))))))))))))))))))))))
         rintro _ w86 ⟨hgl31,v_t8406,F_t8406,t8406,t8416,o7,rfl,ht8406,ho53,hB40,dj182,H⟩
         have gr77:=qN gr76 hgl31 (apC (Ge.le hge9 (qE gr67)) apN)
         have k613:=k598.goL hgl31 (apC (Dj.new k479.lt' hge9) apN)
         have k614:=k599.goL hgl31 (apC (k480.new hge9) apN)
         have k615:=k600.goL hgl31 (apC dj174.symm apN)
         have k616:=k601.goL hgl31 (apC (Dj.new k482.lt' hge9) apN)
         have k617:=k602.goL hgl31 (apC (Dj.new k483.lt' hge9) apN)
         have k618:=k603.goL hgl31 (apC (k484.new hge9) apN)
         have k619:=k604.goL hgl31 (apC (Dj.new k487.lt' hge9) apN)
         have k620:=k605.goL hgl31 (apC (Dj.new k488.lt' hge9) apN)
         have k621:=k606.goL hgl31 (apC (k489.new hge9) apN)
         have k622:=k607.goL hgl31 (apC dj175.symm apN)
         have k623:=k608.goL hgl31 (apC dj179 apN)
         have k624:=k609.goL hgl31 (apC dj168 apN)
         have k625:=k611.goL hgl31 (apC dj167 apN)
         have k626:=k612.goL hgl31 (apC (Dj.app (Dj.new hO50.lt' hge9) k524.lt' hk6).symm.symm apN)
         refine yp (h:=(yp (h:=(yp (h:=(yp (h:=(yp (h:=(ze (za (zd (zW (fun k => !(Nat.beq k 4 || Nat.beq k 9)) (LD [8] (fun w'=>Rd vv w' a1 a2 a3)) jx (by kernel_rfl) (fun k w' h _=>(jQ h k613.rd)) (zA rfl rfl (fun w' hw'=>zh qD rfl) (zA rfl rfl (fun w' hw'=>zh qD rfl) (zA rfl rfl (fun w' hw'=>zh qD rfl) ?_))))))))))))))))
         obtain ⟨J11,H,hJ11⟩:=H
         refine qr 9 (fun L' w'=>∃ q24:Bool,L'=[(98,.bool q24),(0,.slice A_l l.length c_l),(1,.int .i64 (3:Int)),(6,.slice a1 t370.length a2),(8,.pointer (some ⟨g_a,0,none⟩)),(9,.slice m5 (((([]++([a8]:List Nat))++([a9]:List Nat))++([c1]:List Nat)).length) m6),(13,.int .i64 i3),(14,.int .i64 (2:Int))]/\J11 q24/\w.grownBy w' none/\Own vv w' w.heap.size 32 a1 a2 a3/\RelD deV w' a3 t370/\Bl w' g_a 166 [.slice n1 a_64.length n2,.bool a_65,.int .i64 a_66]/\Own vv w' w.heap.size 32 i6 i9 e9/\Bl w' a8 168 [.iface 61 (.pointer (some ⟨g_a,0,none⟩)),.slice i6 f9.length i9,.int .i64 n8,.bool d3,.bool f2]/\RelD deV w' e9 f9/\Own vv w' w.heap.size 32 i7 l0 f0/\Bl w' a9 168 [.iface 61 (.pointer (some ⟨g_a,0,none⟩)),.slice i7 h0.length l0,.int .i64 o2,.bool d4,.bool f3]/\RelD deV w' f0 h0/\Own vv w' w.heap.size 32 n1 n2 m7/\RelD deV w' m7 a_64/\Own vv w' w.heap.size 32 i8 l1 f1/\Bl w' c1 168 [.iface 61 (.pointer (some ⟨g_a,0,none⟩)),.slice i8 i0.length l1,.int .i64 o7,.bool d5,.bool f4]/\RelD deV w' f1 i0/\Own vQ w' w.heap.size 64 m5 m6 ((([]++([a8]:List Nat))++([a9]:List Nat))++([c1]:List Nat))) ?_ (fun hQ=>?_)
         ·clear H
          rintro _ w87 ⟨q24,rfl,H,gr78,k627,k628,k629,k630,k631,k632,k633,k634,k635,k636,k637,k638,k639,k640,k641⟩
          replace H:=hJ11 q24 H
          refine qh (za (zm rfl (fun b33=>?_) (fun b33=>?_)))
          ·replace H:=H.1 (b33)
           exact zd (zb (yp (h:=(ze (za (zt (zj (zf (zf (zj (zj (zf (zf (zj (zf (zD rfl rfl ⟨gr78,false,rfl,H⟩))))))))))))))))
          replace H:=H.2 (b33)
          refine zo (zi (za (zb (yp (h:=(zg rfl (zR (v:=.int .i64 (3:Int)) (Yld.add rfl rfl (by simp only [In]; omega)) rfl) (yp (h:=(ze (qf (WCL.one (zd (zd (zb (yp (h:=(yp (h:=(yp (h:=(ze (za (zm rfl (fun h=>by cases h) (fun _=>zy (zk (zk (zl (zi (za (zb (yp (h:=?_))))))))))))))))))))))))))))))))
          obtain ⟨h8,H⟩:=H
          exact zg rfl (Yld.add rfl rfl h8) (yp (h:=(ze (zX _ ⟨i3+(1:Int),n8,o2,o7,rfl,rfl,H.1,gr78,k627,k628,k629,k630,k631,k632,k633,k634,k635,k636,k637,k638,k639,k640,k641⟩ sb H.2))))
         clear hJ11
         rcases Bool.eq_false_or_eq_true (!t8416) with b34 | b34
         ·replace H:=H.1 b34
          exact zS rfl rfl (okb b34) rfl (zS rfl rfl (okb b34) rfl (zS rfl rfl (okb b34) rfl (zS rfl rfl (okb b34) rfl (zS rfl rfl (okb b34) rfl (zS rfl rfl (okb b34) rfl (zS rfl rfl (okb b34) rfl (zS rfl rfl (okb b34) rfl (zA rfl rfl (fun w' hw'=>zQ (okb b34) rfl) (WJ.weaken sb (hQ _ _ ⟨true,rfl,H,gr77,k613,k614,k615,k616,k617,k618,k619,k620,k621,k622,k623,k624,hB40,k625,k626⟩))))))))))
         replace H:=H.2 b34
         refine zU rfl (qF rfl rfl (okb b34)) rfl (fun w' hw'=>zh qD rfl) (z7 rfl (qF rfl rfl (okb b34)) rfl rfl (jn ht8406 H) (fun v w' h w2 e=>DD.keep (Rd.grown k613.rd (jo h.1 e))) ?_)
         rintro _ w88 ⟨hg39,t914,rfl,H⟩
         have k642:=k613.grown hg39
         have k643:=k614.grown hg39
         have k657:=ht8406.grown hg39
         refine zU rfl (qF rfl rfl (okb b34)) rfl (fun w' hw'=>zh qD rfl) (zU rfl (qF rfl rfl (okb b34)) rfl (fun w' hw'=>zh qD rfl) ?_)
         obtain ⟨h9,H⟩:=H
         refine zU rfl (qF rfl rfl (okb b34)) rfl (fun w' hw'=>zB qD k642.rd rfl rfl a0.1.symm rfl h9.1 h9.2) ?_
         obtain ⟨⟨v_el4,F_el4⟩,eh4,hR4⟩:=RelD.at k643 vh0 PV.nil (j:=i3.toNat) (Nat.lt_of_lt_of_eq (iltN h9 a0.1.symm) k643.1)
         have hv4:RelD deV w88 [(v_el4,F_el4)] [t370.getD i3.toNat PV.nil]:=RelD.cons hR4 RelD.nil
         refine zU rfl (qF rfl rfl (okb b34)) rfl (fun w' hw'=>zR (v:=v_el4.1) (zM vh0 qD (hw' rfl) rfl rfl (iltN h9 a0.1.symm)) (congrArg vv eh4)) (z7 rfl (qF rfl rfl (okb b34)) rfl rfl (jn hv4 H) (fun v w' h w2 e=>DD.keep (Rd.grown k642.rd (jo h.1 e))) ?_)
         rintro _ w89 ⟨hg40,t964,rfl,H⟩
         have k673:=hv4.grown hg40
         exact zU rfl (qF rfl rfl (okb b34)) rfl (fun w' hw'=>zh qD rfl) (zA rfl rfl (fun w' hw'=>zK (okb b34) rfl) (WJ.weaken sb (hQ _ _ ⟨!decide (t914=t964),rfl,H,(qG (qG gr77 hg39) hg40),(k642.grown hg40),(k643.grown hg40),((k615.g0 hg39).g0 hg40),((k616.grown hg39).grown hg40),((k617.g0 hg39).g0 hg40),((k618.grown hg39).grown hg40),((k619.grown hg39).grown hg40),((k620.g0 hg39).g0 hg40),((k621.grown hg39).grown hg40),((k622.grown hg39).grown hg40),((k623.grown hg39).grown hg40),((k624.grown hg39).grown hg40),((hB40.g0 hg39).g0 hg40),((k625.grown hg39).grown hg40),((k626.grown hg39).grown hg40)⟩)))
        clear hJ10
        rcases Bool.eq_false_or_eq_true (!t8415) with b35 | b35
        ·replace H:=H.1 b35
         exact zS rfl rfl (okb b35) rfl (zS rfl rfl (okb b35) rfl (zS rfl rfl (okb b35) rfl (zS rfl rfl (okb b35) rfl (zS rfl rfl (okb b35) rfl (zS rfl rfl (okb b35) rfl (zS rfl rfl (okb b35) rfl (zS rfl rfl (okb b35) rfl (zA rfl rfl (fun w' hw'=>zQ (okb b35) rfl) (WJ.weaken sb (hQ _ _ ⟨true,rfl,H,gr75,k584,k585,k586,k587,k588,k589,k590,hB39,k591,k592,k593,k594,k595,k596,k597⟩))))))))))
        replace H:=H.2 b35
        refine zU rfl (qF rfl rfl (okb b35)) rfl (fun w' hw'=>zh qD rfl) (z7 rfl (qF rfl rfl (okb b35)) rfl rfl (jn ht8405 H) (fun v w' h w2 e=>DD.keep (Rd.grown k584.rd (jo h.1 e))) ?_)
        rintro _ w90 ⟨hg41,t915,rfl,H⟩
        have k674:=k584.grown hg41
        have k675:=k585.grown hg41
        have k689:=ht8405.grown hg41
        refine zU rfl (qF rfl rfl (okb b35)) rfl (fun w' hw'=>zh qD rfl) (zU rfl (qF rfl rfl (okb b35)) rfl (fun w' hw'=>zh qD rfl) ?_)
        obtain ⟨h10,H⟩:=H
        refine zU rfl (qF rfl rfl (okb b35)) rfl (fun w' hw'=>zB qD k674.rd rfl rfl a0.1.symm rfl h10.1 h10.2) ?_
        obtain ⟨⟨v_el5,F_el5⟩,eh5,hR5⟩:=RelD.at k675 vh0 PV.nil (j:=i3.toNat) (Nat.lt_of_lt_of_eq (iltN h10 a0.1.symm) k675.1)
        have hv5:RelD deV w90 [(v_el5,F_el5)] [t370.getD i3.toNat PV.nil]:=RelD.cons hR5 RelD.nil
        refine zU rfl (qF rfl rfl (okb b35)) rfl (fun w' hw'=>zR (v:=v_el5.1) (zM vh0 qD (hw' rfl) rfl rfl (iltN h10 a0.1.symm)) (congrArg vv eh5)) (z7 rfl (qF rfl rfl (okb b35)) rfl rfl (jn hv5 H) (fun v w' h w2 e=>DD.keep (Rd.grown k674.rd (jo h.1 e))) ?_)
        rintro _ w91 ⟨hg42,t965,rfl,H⟩
        have k705:=hv5.grown hg42
        exact zU rfl (qF rfl rfl (okb b35)) rfl (fun w' hw'=>zh qD rfl) (zA rfl rfl (fun w' hw'=>zK (okb b35) rfl) (WJ.weaken sb (hQ _ _ ⟨!decide (t915=t965),rfl,H,(qG (qG gr75 hg41) hg42),(k674.grown hg42),(k675.grown hg42),((k586.g0 hg41).g0 hg42),((k587.grown hg41).grown hg42),((k588.g0 hg41).g0 hg42),((k589.grown hg41).grown hg42),((k590.grown hg41).grown hg42),((hB39.g0 hg41).g0 hg42),((k591.grown hg41).grown hg42),((k592.grown hg41).grown hg42),((k593.grown hg41).grown hg42),((k594.grown hg41).grown hg42),((k595.g0 hg41).g0 hg42),((k596.grown hg41).grown hg42),((k597.grown hg41).grown hg42)⟩)))
       clear hJ9
       rcases Bool.eq_false_or_eq_true (!t8414) with b36 | b36
       ·replace H:=H.1 b36
        exact zS rfl rfl (okb b36) rfl (zS rfl rfl (okb b36) rfl (zS rfl rfl (okb b36) rfl (zS rfl rfl (okb b36) rfl (zS rfl rfl (okb b36) rfl (zS rfl rfl (okb b36) rfl (zS rfl rfl (okb b36) rfl (zS rfl rfl (okb b36) rfl (zA rfl rfl (fun w' hw'=>zQ (okb b36) rfl) (WJ.weaken sb (hQ _ _ ⟨true,rfl,H,gr73,k555,k556,k557,k558,hB38,k559,k560,k561,k562,k563,k564,k565,k566,k567,k568⟩))))))))))
       replace H:=H.2 b36
       refine zU rfl (qF rfl rfl (okb b36)) rfl (fun w' hw'=>zh qD rfl) (z7 rfl (qF rfl rfl (okb b36)) rfl rfl (jn ht8404 H) (fun v w' h w2 e=>DD.keep (Rd.grown k555.rd (jo h.1 e))) ?_)
       rintro _ w92 ⟨hg43,t916,rfl,H⟩
       have k706:=k555.grown hg43
       have k707:=k556.grown hg43
       have k721:=ht8404.grown hg43
       refine zU rfl (qF rfl rfl (okb b36)) rfl (fun w' hw'=>zh qD rfl) (zU rfl (qF rfl rfl (okb b36)) rfl (fun w' hw'=>zh qD rfl) ?_)
       obtain ⟨h11,H⟩:=H
       refine zU rfl (qF rfl rfl (okb b36)) rfl (fun w' hw'=>zB qD k706.rd rfl rfl a0.1.symm rfl h11.1 h11.2) ?_
       obtain ⟨⟨v_el6,F_el6⟩,eh6,hR6⟩:=RelD.at k707 vh0 PV.nil (j:=i3.toNat) (Nat.lt_of_lt_of_eq (iltN h11 a0.1.symm) k707.1)
       have hv6:RelD deV w92 [(v_el6,F_el6)] [t370.getD i3.toNat PV.nil]:=RelD.cons hR6 RelD.nil
       refine zU rfl (qF rfl rfl (okb b36)) rfl (fun w' hw'=>zR (v:=v_el6.1) (zM vh0 qD (hw' rfl) rfl rfl (iltN h11 a0.1.symm)) (congrArg vv eh6)) (z7 rfl (qF rfl rfl (okb b36)) rfl rfl (jn hv6 H) (fun v w' h w2 e=>DD.keep (Rd.grown k706.rd (jo h.1 e))) ?_)
       rintro _ w93 ⟨hg44,t966,rfl,H⟩
       have k737:=hv6.grown hg44
       exact zU rfl (qF rfl rfl (okb b36)) rfl (fun w' hw'=>zh qD rfl) (zA rfl rfl (fun w' hw'=>zK (okb b36) rfl) (WJ.weaken sb (hQ _ _ ⟨!decide (t916=t966),rfl,H,(qG (qG gr73 hg43) hg44),(k706.grown hg44),(k707.grown hg44),((k557.g0 hg43).g0 hg44),((k558.grown hg43).grown hg44),((hB38.g0 hg43).g0 hg44),((k559.grown hg43).grown hg44),((k560.grown hg43).grown hg44),((k561.g0 hg43).g0 hg44),((k562.grown hg43).grown hg44),((k563.grown hg43).grown hg44),((k564.grown hg43).grown hg44),((k565.grown hg43).grown hg44),((k566.g0 hg43).g0 hg44),((k567.grown hg43).grown hg44),((k568.grown hg43).grown hg44)⟩)))
      replace H:=H.2 (of_decide_eq_false b30)
      refine zy (zk (zk (zl (za (zd (zd (zb (yp (h:=(ze (za (WC.block (qv (WCL.one (zd (zd (zb (yp (h:=(yp (h:=(yp (h:=(ze (za (zm rfl (fun _=>zo (za (zd (WC.block (zd (zb (yp (h:=(yp (h:=(zg rfl (zB qD k554.rd rfl rfl rfl rfl (by omega) (by simp)) (zg rfl (zR (v:=.pointer (some ⟨a8,0,none⟩)) (zM 0 qD k554.rd rfl rfl (by simp)) rfl) (zx rfl rfl (qK k549.rd rfl k550 k542 k543.rd rfl k545 k544 (apC (Dn.of (InP.dj hi22 k483.lt' (apC dj138 (apC (InP.dj hi20 k450.lt' (apC dj138 (apC dj139 apN))).symm apN))).symm.symm) apN) (apC (ho49 _ k483.lt' (ho46 _ k450.lt' dj143)) apN) (apC dj138.symm apN) (apC (Dn.of dj132) apN) (apC dj131 apN) H) ?_))))))))))))) (fun h=>by cases h)))))))))))))))))))))))))))
      rintro _ w94 ⟨hgl32,v_t10904,F_t10904,t10904,t10914,t7,rfl,ht10904,ho54,hB41,dj183,H⟩
      have gr85:=qN gr72 hgl32 (apC (Ge.le hge7 (qE gr4)) apN)
      have k738:=k542.goL hgl32 (apC dj138.symm apN)
      have k742:=k547.goL hgl32 (apC (Dj.new k450.lt' hge8).symm apN)
      have k744:=k549.goL hgl32 (apC (InP.dj hi22 k483.lt' (apC dj138 (apC (InP.dj hi20 k450.lt' (apC dj138 (apC dj139 apN))).symm apN))).symm.symm apN)
      have k747:=k552.goL hgl32 (apC (Dj.new k483.lt' hge9).symm apN)
      refine yp (h:=(yp (h:=(yp (h:=(yp (h:=(yp (h:=(ze (za (zd (zd (zb (yp (h:=(yp (h:=?_))))))))))))))))))
      rcases Bool.eq_false_or_eq_true (t10914) with b37 | b37
      ·replace H:=H.1 b37
       exact gn b37 (h:=(gn b37 (h:=(gn b37 (h:=(gn b37 (h:=(gn b37 (h:=(zg rfl (zQ (okb b37) rfl) (ze (za (zm rfl (fun _=>zd (zb (yp (h:=(ze (za (zt (zf (zj (zf (zf (zj (zf (zD rfl rfl ⟨gr85,false,rfl,H⟩)))))))))))))) (fun h=>by cases h))))))))))))))
      replace H:=H.2 b37
      refine gp b37 (h:=(zT (qF rfl rfl (okb b37)) rfl rfl (qM H) ?_))
      rintro _ w95 ⟨hg45,v_t1154,F_t1154,t1154,rfl,ht1154,ho55,H⟩
      have gr86:=qG gr85 hg45
      have k750:=k738.g0 hg45
      have k751:=(k543.goL hgl32 (apC dj132 apN)).grown hg45
      have k752:=hB41.g0 hg45
      have k753:=(k545.goL hgl32 (apC dj131 apN)).grown hg45
      have k754:=(k546.goL hgl32 (apC (Dj.new k450.lt' hb12).symm apN)).grown hg45
      have k755:=k742.g0 hg45
      have k756:=(k548.goL hgl32 (apC (ho47 _ k450.lt' dj143) apN)).grown hg45
      have k757:=k744.grown hg45
      have k758:=(k550.goL hgl32 (apC (ho49 _ k483.lt' (ho46 _ k450.lt' dj143)) apN)).grown hg45
      have k759:=(k551.goL hgl32 (apC (Dj.new k483.lt' hb13).symm apN)).grown hg45
      have k760:=k747.g0 hg45
      have k761:=(k553.goL hgl32 (apC (ho50 _ k483.lt' (ho46 _ k450.lt' dj143)) apN)).grown hg45
      have k762:=(k554.goL hgl32 (apC (Dj.app (Dj.app (Dj.app (p:=none) Dj.nl k442.lt' hk4) k471.lt' hk5) k515.lt' hk6).symm.symm apN)).grown hg45
      refine zT (qF rfl rfl (okb b37)) rfl rfl (jk (GB.grown hG gr86) (qE gr86) (apC (Ge.le hge1 (qE gr2)) (apC k757.ge' apN)) hS3 hS7 (k757.base (fun _ _=>Nat.zero_le _)) rfl k758 k750 ht1154 dj169 (apC dj170 (apC dj171 apN)) (apC (ho55 _ k738.lt') (apC (ho55 _ k744.lt') apN)) H) ?_
      rintro v_t1164 w96 ⟨hgl33,_,t1164,a_67,a4s,a6d,a2f,a_68,a_69,rfl,ht1164,hB42,hO57,hi23,hr23,ho56,dj184,dj185,dj186,H⟩
      have hO58:=hO57.base (InP.toGe hi23 (apC (Ge.le hge1 (qE gr2)) (apC k757.ge' apN)) (qE gr86))
      have gr87:=qN gr86 hgl33 (apC (Ge.le hge1 (qE gr2)) (apC k757.ge' apN))
      have k769:=k758.goL hgl33 (apC dj170 (apC dj171 apN))
      have k774:=ht1154.goL hgl33 (apC (ho55 _ k738.lt') (apC (ho55 _ k744.lt') apN))
      refine zT (qF rfl rfl (okb b37)) rfl rfl (ji (hG.grown gr87) hS0 hS1 hS2 hS3 hS4 hS5 hS6 hS7 hS8 hS9 hS10 hS11 hS12 hS13 hS14 hS15 hS16 ht1164 H) ?_
      rintro _ w97 ⟨hg46,t1174,rfl,H⟩
      have gr88:=qG gr87 hg46
      have k775:=hB42.g0 hg46
      have k776:=(k751.goL hgl33 (apC dj136.symm.symm (apC (InP.dj hi22 k482.lt' (apC dj136 (apC (InP.dj hi20 k449.lt' (apC dj136 (apC dj137 apN))).symm apN))).symm apN))).grown hg46
      have k777:=(k752.goL hgl33 (apC dj138.symm.symm (apC (InP.dj hi22 k483.lt' (apC dj138 (apC (InP.dj hi20 k450.lt' (apC dj138 (apC dj139 apN))).symm apN))).symm apN))).g0 hg46
      have k778:=(k753.goL hgl33 (apC dj140 (apC (RelD.inp k484 (apC dj140 (apC (RelD.inp k451 (apC dj140 (apC dj141 apN)) hi20) apN)) hi22) apN))).grown hg46
      have k779:=(k754.goL hgl33 (apC dj154.symm.symm (apC (InP.dj hi22 k487.lt' (apC dj154 (apC dj155 apN))).symm apN))).grown hg46
      have k780:=(k755.goL hgl33 (apC dj156.symm.symm (apC (InP.dj hi22 k488.lt' (apC dj156 (apC dj157 apN))).symm apN))).g0 hg46
      have k781:=(k756.goL hgl33 (apC dj158 (apC (RelD.inp k489 (apC dj158 (apC dj159 apN)) hi22) apN))).grown hg46
      have k782:=(k759.goL hgl33 (apC dj172.symm.symm (apC dj173 apN))).grown hg46
      have k783:=(k760.goL hgl33 (apC dj174.symm.symm (apC dj175 apN))).g0 hg46
      have k784:=(k761.goL hgl33 (apC dj176 (apC dj177 apN))).grown hg46
      have k785:=(k762.goL hgl33 (apC (Dj.app (Dj.app (Dj.app (p:=none) Dj.nl k438.lt' hk4) k469.lt' hk5) k513.lt' hk6).symm.symm (apC (Dj.app (InP.dj hi22 hO50.lt' (apC (Dj.app (Dj.app (p:=none) Dj.nl k438.lt' hk4) k469.lt' hk5) (apC (Dj.app (InP.dj hi20 hO44.lt' (apC (Dj.app (p:=none) Dj.nl k438.lt' hk4) (apC (Dj.app (p:=none) Dj.nl k439.lt' hk4) apN))).symm k474.lt' hk5) apN))).symm k521.lt' hk6).symm.symm apN))).grown hg46
      have k786:=hO58.grown hg46
      have k787:=hr23.grown hg46
      have k788:=ht1164.grown hg46
      refine gp b37 (h:=(zg rfl (zK (okb b37) rfl) (ze (za (zm rfl (fun b38=>?_) (fun b38=>?_))))))
      ·replace H:=H.1 (b38)
       exact zd (zb (yp (h:=(ze (za (zt (zf (zj (zf (zf (zj (zf (zD rfl rfl ⟨gr88,false,rfl,H⟩)))))))))))))
      replace H:=H.2 (b38)
      refine zo (za (zb (yp (h:=(yp (h:=(zg rfl (zB qD k785.rd rfl rfl rfl rfl (by omega) (by simp)) (zg rfl (zR (v:=.pointer (some ⟨a8,0,none⟩)) (zM 0 qD k785.rd rfl rfl (by simp)) rfl) (zx rfl rfl (ja (k786.base (fun _ _=>Nat.zero_le _)) rfl k787 k775 k776.rd rfl k778 k777 dj138.symm.symm (InP.dj hi23 k752.lt' (apC dj138.symm.symm (apC (InP.dj hi22 k483.lt' (apC dj138 (apC (InP.dj hi20 k450.lt' (apC dj138 (apC dj139 apN))).symm apN))).symm apN))).symm dj184 (apC (ho56 _ k752.lt' (ho49 _ k483.lt' (ho46 _ k450.lt' dj143)) (ho55 _ hB41.lt')) (apC dj185 (apC dj186 apN))) (apC (Dn.of dj132) (apC (Dn.of dj136.symm.symm) (apC (Dn.of (InP.dj hi23 k751.lt' (apC dj136.symm.symm (apC (InP.dj hi22 k482.lt' (apC dj136 (apC (InP.dj hi20 k449.lt' (apC dj136 (apC dj137 apN))).symm apN))).symm apN))).symm) apN))) (apC dj131 (apC dj140 (apC (RelD.inp k753 (apC dj140 (apC (RelD.inp k484 (apC dj140 (apC (RelD.inp k451 (apC dj140 (apC dj141 apN)) hi20) apN)) hi22) apN)) hi23) apN))) H) ?_)))))))))
      rintro _ w98 ⟨hgl34,a3m,a3n,a3o,a_70,a4t,a6e,a2g,a_71,a_72,rfl,hB43,hB44,hO59,hi24,hr24,ho57,dj187,dj188,dj189,dj190,dj191,dj192,H⟩
      have hO60:=hO59.base (InP.toGe hi24 (apC (Ge.le hge7 (qE gr4)) (apC (Ge.le hge1 (qE gr2)) (apC k786.ge' apN))) (qE gr88))
      have k791:=k779.goL hgl34 (apC (Dj.new k450.lt' hb12).symm (apC dj154.symm.symm (apC (InP.dj hi23 k754.lt' (apC dj154.symm.symm (apC (InP.dj hi22 k487.lt' (apC dj154 (apC dj155 apN))).symm apN))).symm apN)))
      have k793:=k781.goL hgl34 (apC (ho47 _ k450.lt' dj143) (apC dj158 (apC (RelD.inp k756 (apC dj158 (apC (RelD.inp k489 (apC dj158 (apC dj159 apN)) hi22) apN)) hi23) apN)))
      have k797:=k785.goL hgl34 (apC (Dj.app (Dj.app (Dj.app (p:=none) Dj.nl k442.lt' hk4) k471.lt' hk5) k515.lt' hk6).symm.symm (apC (Dj.app (Dj.app (Dj.app (p:=none) Dj.nl k438.lt' hk4) k469.lt' hk5) k513.lt' hk6).symm.symm (apC (InP.dj hi23 k762.lt' (apC (Dj.app (Dj.app (Dj.app (p:=none) Dj.nl k438.lt' hk4) k469.lt' hk5) k513.lt' hk6).symm.symm (apC (Dj.app (InP.dj hi22 hO50.lt' (apC (Dj.app (Dj.app (p:=none) Dj.nl k438.lt' hk4) k469.lt' hk5) (apC (Dj.app (InP.dj hi20 hO44.lt' (apC (Dj.app (p:=none) Dj.nl k438.lt' hk4) (apC (Dj.app (p:=none) Dj.nl k439.lt' hk4) apN))).symm k474.lt' hk5) apN))).symm k521.lt' hk6).symm.symm apN))).symm apN)))
      have k798:=k787.goL hgl34 (apC (ho56 _ k752.lt' (ho49 _ k483.lt' (ho46 _ k450.lt' dj143)) (ho55 _ hB41.lt')) (apC dj185 (apC dj186 apN)))
      refine ze (zi (za (zb (yp (h:=(zg rfl (zR (v:=.int .i64 (1:Int)) (Yld.add rfl rfl (by simp only [In]; omega)) rfl) (yp (h:=(ze (qf (WCL.one (zd (zd (zb (yp (h:=(yp (h:=(yp (h:=(ze (za (zm rfl (fun _=>zo (za (zd (WC.block (zd (zb (yp (h:=(yp (h:=(zg rfl (zB qD k797.rd rfl rfl rfl rfl (by omega) (by simp)) (zg rfl (zR (v:=.pointer (some ⟨a9,0,none⟩)) (zM 0 qD k797.rd rfl rfl (by simp)) rfl) (zx rfl rfl (qK hO60.rd rfl hr24 hB44 k791.rd rfl k793 (k780.goL hgl34 (apC (Dj.new k450.lt' hge8).symm (apC dj156.symm.symm (apC (InP.dj hi23 k755.lt' (apC dj156.symm.symm (apC (InP.dj hi22 k488.lt' (apC dj156 (apC dj157 apN))).symm apN))).symm apN)))) (apC (Dn.of (InP.dj hi24 k780.lt' (apC (Dj.new k450.lt' hge8).symm (apC dj156.symm.symm (apC (InP.dj hi23 k755.lt' (apC dj156.symm.symm (apC (InP.dj hi22 k488.lt' (apC dj156 (apC dj157 apN))).symm apN))).symm apN))))) apN) (apC (ho57 _ k780.lt' (ho56 _ k755.lt' (ho49 _ k488.lt' dj161) (ho55 _ k742.lt')) (k451.new hge8)) apN) (apC dj156.symm apN) (apC (Dn.of dj150) apN) (apC dj149 apN) H) ?_))))))))))))) (fun h=>by cases h))))))))))))))))))))))))
      rintro _ w99 ⟨hgl35,v_t10905,F_t10905,t10905,t10915,t8,rfl,ht10905,ho58,hB45,dj193,H⟩
      have gr90:=qN (qN gr88 hgl34 (apC (Ge.le hge7 (qE gr4)) (apC (Ge.le hge1 (qE gr2)) (apC k786.ge' apN)))) hgl35 (apC (Ge.le hge8 (qE gr63)) apN)
      have k799:=hB44.goL hgl35 (apC dj156.symm apN)
      have k806:=(k783.goL hgl34 (apC (Dj.new k483.lt' hge9).symm (apC dj174.symm.symm (apC (InP.dj hi23 k760.lt' (apC dj174.symm.symm (apC dj175 apN))).symm apN)))).goL hgl35 (apC (Dj.new k488.lt' hge9).symm apN)
      have k809:=hO60.goL hgl35 (apC (InP.dj hi24 k780.lt' (apC (Dj.new k450.lt' hge8).symm (apC dj156.symm.symm (apC (InP.dj hi23 k755.lt' (apC dj156.symm.symm (apC (InP.dj hi22 k488.lt' (apC dj156 (apC dj157 apN))).symm apN))).symm apN)))) apN)
      refine yp (h:=(yp (h:=(yp (h:=(yp (h:=(yp (h:=(ze (za (zd (zd (zb (yp (h:=(yp (h:=?_))))))))))))))))))
      rcases Bool.eq_false_or_eq_true (t10915) with b39 | b39
      ·replace H:=H.1 b39
       exact gn b39 (h:=(gn b39 (h:=(gn b39 (h:=(gn b39 (h:=(gn b39 (h:=(zg rfl (zQ (okb b39) rfl) (ze (za (zm rfl (fun _=>zd (zb (yp (h:=(ze (za (zt (zf (zj (zf (zf (zj (zf (zD rfl rfl ⟨gr90,false,rfl,H⟩)))))))))))))) (fun h=>by cases h))))))))))))))
      replace H:=H.2 b39
      refine gp b39 (h:=(zT (qF rfl rfl (okb b39)) rfl rfl (qM H) ?_))
      rintro _ w100 ⟨hg47,v_t1155,F_t1155,t1155,rfl,ht1155,ho59,H⟩
      have gr91:=qG gr90 hg47
      have k811:=k799.g0 hg47
      have k812:=((k776.goL hgl34 (apC dj132 (apC dj136.symm.symm (apC (InP.dj hi23 k751.lt' (apC dj136.symm.symm (apC (InP.dj hi22 k482.lt' (apC dj136 (apC (InP.dj hi20 k449.lt' (apC dj136 (apC dj137 apN))).symm apN))).symm apN))).symm apN)))).goL hgl35 (apC (Dj.new k449.lt' hge8) apN)).grown hg47
      have k813:=(hB43.goL hgl35 (apC (Dj.new k450.lt' hge8) apN)).g0 hg47
      have k814:=((k778.goL hgl34 (apC dj131 (apC dj140 (apC (RelD.inp k753 (apC dj140 (apC (RelD.inp k484 (apC dj140 (apC (RelD.inp k451 (apC dj140 (apC dj141 apN)) hi20) apN)) hi22) apN)) hi23) apN)))).goL hgl35 (apC (k451.new hge8) apN)).grown hg47
      have k815:=(k791.goL hgl35 (apC dj150 apN)).grown hg47
      have k816:=hB45.g0 hg47
      have k817:=(k793.goL hgl35 (apC dj149 apN)).grown hg47
      have k818:=((k782.goL hgl34 (apC (Dj.new k483.lt' hb13).symm (apC dj172.symm.symm (apC (InP.dj hi23 k759.lt' (apC dj172.symm.symm (apC dj173 apN))).symm apN)))).goL hgl35 (apC (Dj.new k488.lt' hb13).symm apN)).grown hg47
      have k819:=k806.g0 hg47
      have k820:=((k784.goL hgl34 (apC (ho50 _ k483.lt' (ho46 _ k450.lt' dj143)) (apC dj176 (apC (RelD.inp k761 (apC dj176 (apC dj177 apN)) hi23) apN)))).goL hgl35 (apC (ho50 _ k488.lt' dj161) apN)).grown hg47
      have k821:=(k797.goL hgl35 (apC (Dj.app (Dj.app (Dj.new hO44.lt' hge8) k477.lt' hk5) k518.lt' hk6).symm.symm apN)).grown hg47
      have k822:=k809.grown hg47
      have k823:=(hr24.goL hgl35 (apC (ho57 _ k780.lt' (ho56 _ k755.lt' (ho49 _ k488.lt' dj161) (ho55 _ k742.lt')) (k451.new hge8)) apN)).grown hg47
      refine zT (qF rfl rfl (okb b39)) rfl rfl (jk (GB.grown hG gr91) (qE gr91) (apC (Ge.le hge1 (qE gr2)) (apC k822.ge' apN)) hS3 hS7 (k822.base (fun _ _=>Nat.zero_le _)) rfl k823 k811 ht1155 dj189 (apC dj191 (apC dj192 apN)) (apC (ho59 _ k799.lt') (apC (ho59 _ k809.lt') apN)) H) ?_
      rintro v_t1165 w101 ⟨hgl36,_,t1165,a_73,a4u,a6f,a2h,a_74,a_75,rfl,ht1165,hB46,hO61,hi25,hr25,ho60,dj194,dj195,dj196,H⟩
      have hO62:=hO61.base (InP.toGe hi25 (apC (Ge.le hge1 (qE gr2)) (apC k822.ge' apN)) (qE gr91))
      have gr92:=qN gr91 hgl36 (apC (Ge.le hge1 (qE gr2)) (apC k822.ge' apN))
      have k834:=k823.goL hgl36 (apC dj191 (apC dj192 apN))
      have k835:=ht1155.goL hgl36 (apC (ho59 _ k799.lt') (apC (ho59 _ k809.lt') apN))
      refine zT (qF rfl rfl (okb b39)) rfl rfl (ji (hG.grown gr92) hS0 hS1 hS2 hS3 hS4 hS5 hS6 hS7 hS8 hS9 hS10 hS11 hS12 hS13 hS14 hS15 hS16 ht1165 H) ?_
      rintro _ w102 ⟨hg48,t1175,rfl,H⟩
      have gr93:=qG gr92 hg48
      have k836:=hB46.g0 hg48
      have k837:=(k812.goL hgl36 (apC dj136.symm.symm (apC (InP.dj hi24 k776.lt' (apC dj132 (apC dj136.symm.symm (apC (InP.dj hi23 k751.lt' (apC dj136.symm.symm (apC (InP.dj hi22 k482.lt' (apC dj136 (apC (InP.dj hi20 k449.lt' (apC dj136 (apC dj137 apN))).symm apN))).symm apN))).symm apN)))).symm apN))).grown hg48
      have k838:=(k813.goL hgl36 (apC dj187 (apC dj188 apN))).g0 hg48
      have k839:=(k814.goL hgl36 (apC dj140 (apC (RelD.inp k778 (apC dj131 (apC dj140 (apC (RelD.inp k753 (apC dj140 (apC (RelD.inp k484 (apC dj140 (apC (RelD.inp k451 (apC dj140 (apC dj141 apN)) hi20) apN)) hi22) apN)) hi23) apN))) hi24) apN))).grown hg48
      have k840:=(k815.goL hgl36 (apC dj154.symm.symm (apC (InP.dj hi24 k779.lt' (apC (Dj.new k450.lt' hb12).symm (apC dj154.symm.symm (apC (InP.dj hi23 k754.lt' (apC dj154.symm.symm (apC (InP.dj hi22 k487.lt' (apC dj154 (apC dj155 apN))).symm apN))).symm apN)))).symm apN))).grown hg48
      have k841:=(k816.goL hgl36 (apC dj156.symm.symm (apC (InP.dj hi24 k780.lt' (apC (Dj.new k450.lt' hge8).symm (apC dj156.symm.symm (apC (InP.dj hi23 k755.lt' (apC dj156.symm.symm (apC (InP.dj hi22 k488.lt' (apC dj156 (apC dj157 apN))).symm apN))).symm apN)))).symm apN))).g0 hg48
      have k842:=(k817.goL hgl36 (apC dj158 (apC (RelD.inp k781 (apC (ho47 _ k450.lt' dj143) (apC dj158 (apC (RelD.inp k756 (apC dj158 (apC (RelD.inp k489 (apC dj158 (apC dj159 apN)) hi22) apN)) hi23) apN))) hi24) apN))).grown hg48
      have k843:=(k818.goL hgl36 (apC dj172.symm.symm (apC (InP.dj hi24 k782.lt' (apC (Dj.new k483.lt' hb13).symm (apC dj172.symm.symm (apC (InP.dj hi23 k759.lt' (apC dj172.symm.symm (apC dj173 apN))).symm apN)))).symm apN))).grown hg48
      have k844:=(k819.goL hgl36 (apC dj174.symm.symm (apC (InP.dj hi24 k783.lt' (apC (Dj.new k483.lt' hge9).symm (apC dj174.symm.symm (apC (InP.dj hi23 k760.lt' (apC dj174.symm.symm (apC dj175 apN))).symm apN)))).symm apN))).g0 hg48
      have k845:=(k820.goL hgl36 (apC dj176 (apC (RelD.inp k784 (apC (ho50 _ k483.lt' (ho46 _ k450.lt' dj143)) (apC dj176 (apC (RelD.inp k761 (apC dj176 (apC dj177 apN)) hi23) apN))) hi24) apN))).grown hg48
      have k846:=(k821.goL hgl36 (apC (Dj.app (Dj.app (Dj.app (p:=none) Dj.nl k438.lt' hk4) k469.lt' hk5) k513.lt' hk6).symm.symm (apC (InP.dj hi24 k785.lt' (apC (Dj.app (Dj.app (Dj.app (p:=none) Dj.nl k442.lt' hk4) k471.lt' hk5) k515.lt' hk6).symm.symm (apC (Dj.app (Dj.app (Dj.app (p:=none) Dj.nl k438.lt' hk4) k469.lt' hk5) k513.lt' hk6).symm.symm (apC (InP.dj hi23 k762.lt' (apC (Dj.app (Dj.app (Dj.app (p:=none) Dj.nl k438.lt' hk4) k469.lt' hk5) k513.lt' hk6).symm.symm (apC (Dj.app (InP.dj hi22 hO50.lt' (apC (Dj.app (Dj.app (p:=none) Dj.nl k438.lt' hk4) k469.lt' hk5) (apC (Dj.app (InP.dj hi20 hO44.lt' (apC (Dj.app (p:=none) Dj.nl k438.lt' hk4) (apC (Dj.app (p:=none) Dj.nl k439.lt' hk4) apN))).symm k474.lt' hk5) apN))).symm k521.lt' hk6).symm.symm apN))).symm apN)))).symm apN))).grown hg48
      have k847:=hO62.grown hg48
      have k848:=hr25.grown hg48
      have k849:=ht1165.grown hg48
      refine gp b39 (h:=(zg rfl (zK (okb b39) rfl) (ze (za (zm rfl (fun b40=>?_) (fun b40=>?_))))))
      ·replace H:=H.1 (b40)
       exact zd (zb (yp (h:=(ze (za (zt (zf (zj (zf (zf (zj (zf (zD rfl rfl ⟨gr93,false,rfl,H⟩)))))))))))))
      replace H:=H.2 (b40)
      refine zo (za (zb (yp (h:=(yp (h:=(zg rfl (zB qD k846.rd rfl rfl rfl rfl (by omega) (by simp)) (zg rfl (zR (v:=.pointer (some ⟨a9,0,none⟩)) (zM 0 qD k846.rd rfl rfl (by simp)) rfl) ?_))))))))
      refine zx rfl rfl (ja (k847.base (fun _ _=>Nat.zero_le _)) rfl k848 k836 k840.rd rfl k842 k841 dj156.symm.symm (InP.dj hi25 k816.lt' (apC dj156.symm.symm (apC (InP.dj hi24 k780.lt' (apC (Dj.new k450.lt' hge8).symm (apC dj156.symm.symm (apC (InP.dj hi23 k755.lt' (apC dj156.symm.symm (apC (InP.dj hi22 k488.lt' (apC dj156 (apC dj157 apN))).symm apN))).symm apN)))).symm apN))).symm dj194 (apC (ho60 _ k816.lt' (ho57 _ k780.lt' (ho56 _ k755.lt' (ho49 _ k488.lt' dj161) (ho55 _ k742.lt')) (k451.new hge8)) (ho59 _ hB45.lt')) (apC dj195 (apC dj196 apN))) (apC (Dn.of dj150) (apC (Dn.of dj154.symm.symm) (apC (Dn.of (InP.dj hi25 k815.lt' (apC dj154.symm.symm (apC (InP.dj hi24 k779.lt' (apC (Dj.new k450.lt' hb12).symm (apC dj154.symm.symm (apC (InP.dj hi23 k754.lt' (apC dj154.symm.symm (apC (InP.dj hi22 k487.lt' (apC dj154 (apC dj155 apN))).symm apN))).symm apN)))).symm apN))).symm) apN))) (apC dj149 (apC dj158 (apC (RelD.inp k817 (apC dj158 (apC (RelD.inp k781 (apC (ho47 _ k450.lt' dj143) (apC dj158 (apC (RelD.inp k756 (apC dj158 (apC (RelD.inp k489 (apC dj158 (apC dj159 apN)) hi22) apN)) hi23) apN))) hi24) apN)) hi25) apN))) H) ?_
      rintro _ w103 ⟨hgl37,a3p,a3q,a3r,a_76,a4v,a6g,a2i,a_77,a_78,rfl,hB47,hB48,hO63,hi26,hr26,ho61,dj197,dj198,dj199,dj200,dj201,dj202,H⟩
      have hO64:=hO63.base (InP.toGe hi26 (apC (Ge.le hge8 (qE gr63)) (apC (Ge.le hge1 (qE gr2)) (apC k847.ge' apN))) (qE gr93))
      have k855:=k843.goL hgl37 (apC (Dj.new k488.lt' hb13).symm (apC dj172.symm.symm (apC (InP.dj hi25 k818.lt' (apC dj172.symm.symm (apC (InP.dj hi24 k782.lt' (apC (Dj.new k483.lt' hb13).symm (apC dj172.symm.symm (apC (InP.dj hi23 k759.lt' (apC dj172.symm.symm (apC dj173 apN))).symm apN)))).symm apN))).symm apN)))
      have k857:=k845.goL hgl37 (apC (ho50 _ k488.lt' dj161) (apC dj176 (apC (RelD.inp k820 (apC dj176 (apC (RelD.inp k784 (apC (ho50 _ k483.lt' (ho46 _ k450.lt' dj143)) (apC dj176 (apC (RelD.inp k761 (apC dj176 (apC dj177 apN)) hi23) apN))) hi24) apN)) hi25) apN)))
      have k858:=k846.goL hgl37 (apC (Dj.app (Dj.app (Dj.new hO44.lt' hge8) k477.lt' hk5) k518.lt' hk6).symm.symm (apC (Dj.app (Dj.app (Dj.app (p:=none) Dj.nl k438.lt' hk4) k469.lt' hk5) k513.lt' hk6).symm.symm (apC (InP.dj hi25 k821.lt' (apC (Dj.app (Dj.app (Dj.app (p:=none) Dj.nl k438.lt' hk4) k469.lt' hk5) k513.lt' hk6).symm.symm (apC (InP.dj hi24 k785.lt' (apC (Dj.app (Dj.app (Dj.app (p:=none) Dj.nl k442.lt' hk4) k471.lt' hk5) k515.lt' hk6).symm.symm (apC (Dj.app (Dj.app (Dj.app (p:=none) Dj.nl k438.lt' hk4) k469.lt' hk5) k513.lt' hk6).symm.symm (apC (InP.dj hi23 k762.lt' (apC (Dj.app (Dj.app (Dj.app (p:=none) Dj.nl k438.lt' hk4) k469.lt' hk5) k513.lt' hk6).symm.symm (apC (Dj.app (InP.dj hi22 hO50.lt' (apC (Dj.app (Dj.app (p:=none) Dj.nl k438.lt' hk4) k469.lt' hk5) (apC (Dj.app (InP.dj hi20 hO44.lt' (apC (Dj.app (p:=none) Dj.nl k438.lt' hk4) (apC (Dj.app (p:=none) Dj.nl k439.lt' hk4) apN))).symm k474.lt' hk5) apN))).symm k521.lt' hk6).symm.symm apN))).symm apN)))).symm apN))).symm apN)))
      have k859:=k848.goL hgl37 (apC (ho60 _ k816.lt' (ho57 _ k780.lt' (ho56 _ k755.lt' (ho49 _ k488.lt' dj161) (ho55 _ k742.lt')) (k451.new hge8)) (ho59 _ hB45.lt')) (apC dj195 (apC dj196 apN)))
      refine ze (zi (za (zb (yp (h:=(zg rfl (zR (v:=.int .i64 (2:Int)) (Yld.add rfl rfl (by simp only [In]; omega)) rfl) (yp (h:=(ze (qf (WCL.one (zd (zd (zb (yp (h:=(yp (h:=(yp (h:=(ze (za (zm rfl (fun _=>zo (za (zd (WC.block (zd (zb (yp (h:=(yp (h:=(zg rfl (zB qD k858.rd rfl rfl rfl rfl (by omega) (by simp)) (zg rfl (zR (v:=.pointer (some ⟨c1,0,none⟩)) (zM 0 qD k858.rd rfl rfl (by simp)) rfl) ?_)))))))))))) (fun h=>by cases h))))))))))))))))))))))))
      refine zx rfl rfl (qK hO64.rd rfl hr26 hB48 k855.rd rfl k857 (k844.goL hgl37 (apC (Dj.new k488.lt' hge9).symm (apC dj174.symm.symm (apC (InP.dj hi25 k819.lt' (apC dj174.symm.symm (apC (InP.dj hi24 k783.lt' (apC (Dj.new k483.lt' hge9).symm (apC dj174.symm.symm (apC (InP.dj hi23 k760.lt' (apC dj174.symm.symm (apC dj175 apN))).symm apN)))).symm apN))).symm apN)))) (apC (Dn.of (InP.dj hi26 k844.lt' (apC (Dj.new k488.lt' hge9).symm (apC dj174.symm.symm (apC (InP.dj hi25 k819.lt' (apC dj174.symm.symm (apC (InP.dj hi24 k783.lt' (apC (Dj.new k483.lt' hge9).symm (apC dj174.symm.symm (apC (InP.dj hi23 k760.lt' (apC dj174.symm.symm (apC dj175 apN))).symm apN)))).symm apN))).symm apN))))) apN) (apC (ho61 _ k844.lt' (ho60 _ k819.lt' (ho57 _ k783.lt' (ho56 _ k760.lt' dj179 (ho55 _ k747.lt')) (k484.new hge9)) (ho59 _ k806.lt')) (k489.new hge9)) apN) (apC dj174.symm apN) (apC (Dn.of dj168) apN) (apC dj167 apN) H) ?_
      rintro _ w104 ⟨hgl38,v_t10906,F_t10906,t10906,t10916,t9,rfl,ht10906,ho62,hB49,dj203,H⟩
      have gr95:=qN (qN gr93 hgl37 (apC (Ge.le hge8 (qE gr63)) (apC (Ge.le hge1 (qE gr2)) (apC k847.ge' apN)))) hgl38 (apC (Ge.le hge9 (qE gr67)) apN)
      have k860:=hB48.goL hgl38 (apC dj174.symm apN)
      have k870:=hO64.goL hgl38 (apC (InP.dj hi26 k844.lt' (apC (Dj.new k488.lt' hge9).symm (apC dj174.symm.symm (apC (InP.dj hi25 k819.lt' (apC dj174.symm.symm (apC (InP.dj hi24 k783.lt' (apC (Dj.new k483.lt' hge9).symm (apC dj174.symm.symm (apC (InP.dj hi23 k760.lt' (apC dj174.symm.symm (apC dj175 apN))).symm apN)))).symm apN))).symm apN)))) apN)
      refine yp (h:=(yp (h:=(yp (h:=(yp (h:=(yp (h:=(ze (za (zd (zd (zb (yp (h:=(yp (h:=?_))))))))))))))))))
      rcases Bool.eq_false_or_eq_true (t10916) with b41 | b41
      ·replace H:=H.1 b41
       exact gn b41 (h:=(gn b41 (h:=(gn b41 (h:=(gn b41 (h:=(gn b41 (h:=(zg rfl (zQ (okb b41) rfl) (ze (za (zm rfl (fun _=>zd (zb (yp (h:=(ze (za (zt (zf (zj (zf (zf (zj (zf (zD rfl rfl ⟨gr95,false,rfl,H⟩)))))))))))))) (fun h=>by cases h))))))))))))))
      replace H:=H.2 b41
      refine gp b41 (h:=(zT (qF rfl rfl (okb b41)) rfl rfl (qM H) ?_))
      rintro _ w105 ⟨hg49,v_t1156,F_t1156,t1156,rfl,ht1156,ho63,H⟩
      have gr96:=qG gr95 hg49
      have k872:=k860.g0 hg49
      have k873:=((k837.goL hgl37 (apC (Dj.new k449.lt' hge8) (apC dj136.symm.symm (apC (InP.dj hi25 k812.lt' (apC dj136.symm.symm (apC (InP.dj hi24 k776.lt' (apC dj132 (apC dj136.symm.symm (apC (InP.dj hi23 k751.lt' (apC dj136.symm.symm (apC (InP.dj hi22 k482.lt' (apC dj136 (apC (InP.dj hi20 k449.lt' (apC dj136 (apC dj137 apN))).symm apN))).symm apN))).symm apN)))).symm apN))).symm apN)))).goL hgl38 (apC (Dj.new k482.lt' hge9) apN)).grown hg49
      have k874:=((k838.goL hgl37 (apC (Dj.new k450.lt' hge8) (apC dj187 (apC (InP.dj hi25 k813.lt' (apC dj187 (apC dj188 apN))).symm apN)))).goL hgl38 (apC (Dj.new k483.lt' hge9) apN)).g0 hg49
      have k875:=((k839.goL hgl37 (apC (k451.new hge8) (apC dj140 (apC (RelD.inp k814 (apC dj140 (apC (RelD.inp k778 (apC dj131 (apC dj140 (apC (RelD.inp k753 (apC dj140 (apC (RelD.inp k484 (apC dj140 (apC (RelD.inp k451 (apC dj140 (apC dj141 apN)) hi20) apN)) hi22) apN)) hi23) apN))) hi24) apN)) hi25) apN)))).goL hgl38 (apC (k484.new hge9) apN)).grown hg49
      have k876:=((k840.goL hgl37 (apC dj150 (apC dj154.symm.symm (apC (InP.dj hi25 k815.lt' (apC dj154.symm.symm (apC (InP.dj hi24 k779.lt' (apC (Dj.new k450.lt' hb12).symm (apC dj154.symm.symm (apC (InP.dj hi23 k754.lt' (apC dj154.symm.symm (apC (InP.dj hi22 k487.lt' (apC dj154 (apC dj155 apN))).symm apN))).symm apN)))).symm apN))).symm apN)))).goL hgl38 (apC (Dj.new k487.lt' hge9) apN)).grown hg49
      have k877:=(hB47.goL hgl38 (apC (Dj.new k488.lt' hge9) apN)).g0 hg49
      have k878:=((k842.goL hgl37 (apC dj149 (apC dj158 (apC (RelD.inp k817 (apC dj158 (apC (RelD.inp k781 (apC (ho47 _ k450.lt' dj143) (apC dj158 (apC (RelD.inp k756 (apC dj158 (apC (RelD.inp k489 (apC dj158 (apC dj159 apN)) hi22) apN)) hi23) apN))) hi24) apN)) hi25) apN)))).goL hgl38 (apC (k489.new hge9) apN)).grown hg49
      have k879:=(k855.goL hgl38 (apC dj168 apN)).grown hg49
      have k880:=hB49.g0 hg49
      have k881:=(k857.goL hgl38 (apC dj167 apN)).grown hg49
      have k882:=(k858.goL hgl38 (apC (Dj.app (Dj.new hO50.lt' hge9) k524.lt' hk6).symm.symm apN)).grown hg49
      have k883:=k870.grown hg49
      have k884:=(hr26.goL hgl38 (apC (ho61 _ k844.lt' (ho60 _ k819.lt' (ho57 _ k783.lt' (ho56 _ k760.lt' dj179 (ho55 _ k747.lt')) (k484.new hge9)) (ho59 _ k806.lt')) (k489.new hge9)) apN)).grown hg49
      refine zT (qF rfl rfl (okb b41)) rfl rfl (jk (GB.grown hG gr96) (qE gr96) (apC (Ge.le hge1 (qE gr2)) (apC k883.ge' apN)) hS3 hS7 (k883.base (fun _ _=>Nat.zero_le _)) rfl k884 k872 ht1156 dj199 (apC dj201 (apC dj202 apN)) (apC (ho63 _ k860.lt') (apC (ho63 _ k870.lt') apN)) H) ?_
      rintro v_t1166 w106 ⟨hgl39,_,t1166,a_79,a4w,a6h,a2j,a_80,a_81,rfl,ht1166,hB50,hO65,hi27,hr27,ho64,dj204,dj205,dj206,H⟩
      have hO66:=hO65.base (InP.toGe hi27 (apC (Ge.le hge1 (qE gr2)) (apC k883.ge' apN)) (qE gr96))
      have gr97:=qN gr96 hgl39 (apC (Ge.le hge1 (qE gr2)) (apC k883.ge' apN))
      have k895:=k884.goL hgl39 (apC dj201 (apC dj202 apN))
      have k896:=ht1156.goL hgl39 (apC (ho63 _ k860.lt') (apC (ho63 _ k870.lt') apN))
      refine zT (qF rfl rfl (okb b41)) rfl rfl (ji (hG.grown gr97) hS0 hS1 hS2 hS3 hS4 hS5 hS6 hS7 hS8 hS9 hS10 hS11 hS12 hS13 hS14 hS15 hS16 ht1166 H) ?_
      rintro _ w107 ⟨hg50,t1176,rfl,H⟩
      have gr98:=qG gr97 hg50
      have k897:=hB50.g0 hg50
      have k904:=(k879.goL hgl39 (apC dj172.symm.symm (apC (InP.dj hi26 k843.lt' (apC (Dj.new k488.lt' hb13).symm (apC dj172.symm.symm (apC (InP.dj hi25 k818.lt' (apC dj172.symm.symm (apC (InP.dj hi24 k782.lt' (apC (Dj.new k483.lt' hb13).symm (apC dj172.symm.symm (apC (InP.dj hi23 k759.lt' (apC dj172.symm.symm (apC dj173 apN))).symm apN)))).symm apN))).symm apN)))).symm apN))).grown hg50
      have k905:=(k880.goL hgl39 (apC dj174.symm.symm (apC (InP.dj hi26 k844.lt' (apC (Dj.new k488.lt' hge9).symm (apC dj174.symm.symm (apC (InP.dj hi25 k819.lt' (apC dj174.symm.symm (apC (InP.dj hi24 k783.lt' (apC (Dj.new k483.lt' hge9).symm (apC dj174.symm.symm (apC (InP.dj hi23 k760.lt' (apC dj174.symm.symm (apC dj175 apN))).symm apN)))).symm apN))).symm apN)))).symm apN))).g0 hg50
      have k906:=(k881.goL hgl39 (apC dj176 (apC (RelD.inp k845 (apC (ho50 _ k488.lt' dj161) (apC dj176 (apC (RelD.inp k820 (apC dj176 (apC (RelD.inp k784 (apC (ho50 _ k483.lt' (ho46 _ k450.lt' dj143)) (apC dj176 (apC (RelD.inp k761 (apC dj176 (apC dj177 apN)) hi23) apN))) hi24) apN)) hi25) apN))) hi26) apN))).grown hg50
      have k907:=(k882.goL hgl39 (apC (Dj.app (Dj.app (Dj.app (p:=none) Dj.nl k438.lt' hk4) k469.lt' hk5) k513.lt' hk6).symm.symm (apC (InP.dj hi26 k846.lt' (apC (Dj.app (Dj.app (Dj.new hO44.lt' hge8) k477.lt' hk5) k518.lt' hk6).symm.symm (apC (Dj.app (Dj.app (Dj.app (p:=none) Dj.nl k438.lt' hk4) k469.lt' hk5) k513.lt' hk6).symm.symm (apC (InP.dj hi25 k821.lt' (apC (Dj.app (Dj.app (Dj.app (p:=none) Dj.nl k438.lt' hk4) k469.lt' hk5) k513.lt' hk6).symm.symm (apC (InP.dj hi24 k785.lt' (apC (Dj.app (Dj.app (Dj.app (p:=none) Dj.nl k442.lt' hk4) k471.lt' hk5) k515.lt' hk6).symm.symm (apC (Dj.app (Dj.app (Dj.app (p:=none) Dj.nl k438.lt' hk4) k469.lt' hk5) k513.lt' hk6).symm.symm (apC (InP.dj hi23 k762.lt' (apC (Dj.app (Dj.app (Dj.app (p:=none) Dj.nl k438.lt' hk4) k469.lt' hk5) k513.lt' hk6).symm.symm (apC (Dj.app (InP.dj hi22 hO50.lt' (apC (Dj.app (Dj.app (p:=none) Dj.nl k438.lt' hk4) k469.lt' hk5) (apC (Dj.app (InP.dj hi20 hO44.lt' (apC (Dj.app (p:=none) Dj.nl k438.lt' hk4) (apC (Dj.app (p:=none) Dj.nl k439.lt' hk4) apN))).symm k474.lt' hk5) apN))).symm k521.lt' hk6).symm.symm apN))).symm apN)))).symm apN))).symm apN)))).symm apN))).grown hg50
      have k908:=hO66.grown hg50
      have k909:=hr27.grown hg50
      have k910:=ht1166.grown hg50
      refine gp b41 (h:=(zg rfl (zK (okb b41) rfl) (ze (za (zm rfl (fun b42=>?_) (fun b42=>?_))))))
      ·replace H:=H.1 (b42)
       exact zd (zb (yp (h:=(ze (za (zt (zf (zj (zf (zf (zj (zf (zD rfl rfl ⟨gr98,false,rfl,H⟩)))))))))))))
      replace H:=H.2 (b42)
      refine zo (za (zb (yp (h:=(yp (h:=(zg rfl (zB qD k907.rd rfl rfl rfl rfl (by omega) (by simp)) (zg rfl (zR (v:=.pointer (some ⟨c1,0,none⟩)) (zM 0 qD k907.rd rfl rfl (by simp)) rfl) ?_))))))))
      refine zx rfl rfl (ja (k908.base (fun _ _=>Nat.zero_le _)) rfl k909 k897 k904.rd rfl k906 k905 dj174.symm.symm (InP.dj hi27 k880.lt' (apC dj174.symm.symm (apC (InP.dj hi26 k844.lt' (apC (Dj.new k488.lt' hge9).symm (apC dj174.symm.symm (apC (InP.dj hi25 k819.lt' (apC dj174.symm.symm (apC (InP.dj hi24 k783.lt' (apC (Dj.new k483.lt' hge9).symm (apC dj174.symm.symm (apC (InP.dj hi23 k760.lt' (apC dj174.symm.symm (apC dj175 apN))).symm apN)))).symm apN))).symm apN)))).symm apN))).symm dj204 (apC (ho64 _ k880.lt' (ho61 _ k844.lt' (ho60 _ k819.lt' (ho57 _ k783.lt' (ho56 _ k760.lt' dj179 (ho55 _ k747.lt')) (k484.new hge9)) (ho59 _ k806.lt')) (k489.new hge9)) (ho63 _ hB49.lt')) (apC dj205 (apC dj206 apN))) (apC (Dn.of dj168) (apC (Dn.of dj172.symm.symm) (apC (Dn.of (InP.dj hi27 k879.lt' (apC dj172.symm.symm (apC (InP.dj hi26 k843.lt' (apC (Dj.new k488.lt' hb13).symm (apC dj172.symm.symm (apC (InP.dj hi25 k818.lt' (apC dj172.symm.symm (apC (InP.dj hi24 k782.lt' (apC (Dj.new k483.lt' hb13).symm (apC dj172.symm.symm (apC (InP.dj hi23 k759.lt' (apC dj172.symm.symm (apC dj173 apN))).symm apN)))).symm apN))).symm apN)))).symm apN))).symm) apN))) (apC dj167 (apC dj176 (apC (RelD.inp k881 (apC dj176 (apC (RelD.inp k845 (apC (ho50 _ k488.lt' dj161) (apC dj176 (apC (RelD.inp k820 (apC dj176 (apC (RelD.inp k784 (apC (ho50 _ k483.lt' (ho46 _ k450.lt' dj143)) (apC dj176 (apC (RelD.inp k761 (apC dj176 (apC dj177 apN)) hi23) apN))) hi24) apN)) hi25) apN))) hi26) apN)) hi27) apN))) H) ?_
      rintro _ w108 ⟨hgl40,a3s,a3t,a3u,a_82,a4x,a6i,a2k,a_83,a_84,rfl,hB51,hB52,hO67,hi28,hr28,ho65,dj207,dj208,dj209,dj210,dj211,dj212,H⟩
      have hO68:=hO67.base (InP.toGe hi28 (apC (Ge.le hge9 (qE gr67)) (apC (Ge.le hge1 (qE gr2)) (apC k908.ge' apN))) (qE gr98))
      have gr99:=qN gr98 hgl40 (apC (Ge.le hge9 (qE gr67)) (apC (Ge.le hge1 (qE gr2)) (apC k908.ge' apN)))
      have k911:=((k873.goL hgl39 (apC dj136.symm.symm (apC (InP.dj hi26 k837.lt' (apC (Dj.new k449.lt' hge8) (apC dj136.symm.symm (apC (InP.dj hi25 k812.lt' (apC dj136.symm.symm (apC (InP.dj hi24 k776.lt' (apC dj132 (apC dj136.symm.symm (apC (InP.dj hi23 k751.lt' (apC dj136.symm.symm (apC (InP.dj hi22 k482.lt' (apC dj136 (apC (InP.dj hi20 k449.lt' (apC dj136 (apC dj137 apN))).symm apN))).symm apN))).symm apN)))).symm apN))).symm apN)))).symm apN))).grown hg50).goL hgl40 (apC (Dj.new k482.lt' hge9) (apC dj136.symm.symm (apC (InP.dj hi27 k873.lt' (apC dj136.symm.symm (apC (InP.dj hi26 k837.lt' (apC (Dj.new k449.lt' hge8) (apC dj136.symm.symm (apC (InP.dj hi25 k812.lt' (apC dj136.symm.symm (apC (InP.dj hi24 k776.lt' (apC dj132 (apC dj136.symm.symm (apC (InP.dj hi23 k751.lt' (apC dj136.symm.symm (apC (InP.dj hi22 k482.lt' (apC dj136 (apC (InP.dj hi20 k449.lt' (apC dj136 (apC dj137 apN))).symm apN))).symm apN))).symm apN)))).symm apN))).symm apN)))).symm apN))).symm apN)))
      have k912:=((k874.goL hgl39 (apC dj187 (apC (InP.dj hi26 k838.lt' (apC (Dj.new k450.lt' hge8) (apC dj187 (apC (InP.dj hi25 k813.lt' (apC dj187 (apC dj188 apN))).symm apN)))).symm apN))).g0 hg50).goL hgl40 (apC (Dj.new k483.lt' hge9) (apC dj187 (apC (InP.dj hi27 k874.lt' (apC dj187 (apC (InP.dj hi26 k838.lt' (apC (Dj.new k450.lt' hge8) (apC dj187 (apC (InP.dj hi25 k813.lt' (apC dj187 (apC dj188 apN))).symm apN)))).symm apN))).symm apN)))
      have k913:=((k875.goL hgl39 (apC dj140 (apC (RelD.inp k839 (apC (k451.new hge8) (apC dj140 (apC (RelD.inp k814 (apC dj140 (apC (RelD.inp k778 (apC dj131 (apC dj140 (apC (RelD.inp k753 (apC dj140 (apC (RelD.inp k484 (apC dj140 (apC (RelD.inp k451 (apC dj140 (apC dj141 apN)) hi20) apN)) hi22) apN)) hi23) apN))) hi24) apN)) hi25) apN))) hi26) apN))).grown hg50).goL hgl40 (apC (k484.new hge9) (apC dj140 (apC (RelD.inp k875 (apC dj140 (apC (RelD.inp k839 (apC (k451.new hge8) (apC dj140 (apC (RelD.inp k814 (apC dj140 (apC (RelD.inp k778 (apC dj131 (apC dj140 (apC (RelD.inp k753 (apC dj140 (apC (RelD.inp k484 (apC dj140 (apC (RelD.inp k451 (apC dj140 (apC dj141 apN)) hi20) apN)) hi22) apN)) hi23) apN))) hi24) apN)) hi25) apN))) hi26) apN)) hi27) apN)))
      have k914:=((k876.goL hgl39 (apC dj154.symm.symm (apC (InP.dj hi26 k840.lt' (apC dj150 (apC dj154.symm.symm (apC (InP.dj hi25 k815.lt' (apC dj154.symm.symm (apC (InP.dj hi24 k779.lt' (apC (Dj.new k450.lt' hb12).symm (apC dj154.symm.symm (apC (InP.dj hi23 k754.lt' (apC dj154.symm.symm (apC (InP.dj hi22 k487.lt' (apC dj154 (apC dj155 apN))).symm apN))).symm apN)))).symm apN))).symm apN)))).symm apN))).grown hg50).goL hgl40 (apC (Dj.new k487.lt' hge9) (apC dj154.symm.symm (apC (InP.dj hi27 k876.lt' (apC dj154.symm.symm (apC (InP.dj hi26 k840.lt' (apC dj150 (apC dj154.symm.symm (apC (InP.dj hi25 k815.lt' (apC dj154.symm.symm (apC (InP.dj hi24 k779.lt' (apC (Dj.new k450.lt' hb12).symm (apC dj154.symm.symm (apC (InP.dj hi23 k754.lt' (apC dj154.symm.symm (apC (InP.dj hi22 k487.lt' (apC dj154 (apC dj155 apN))).symm apN))).symm apN)))).symm apN))).symm apN)))).symm apN))).symm apN)))
      have k915:=((k877.goL hgl39 (apC dj197 (apC dj198 apN))).g0 hg50).goL hgl40 (apC (Dj.new k488.lt' hge9) (apC dj197 (apC (InP.dj hi27 k877.lt' (apC dj197 (apC dj198 apN))).symm apN)))
      have k916:=((k878.goL hgl39 (apC dj158 (apC (RelD.inp k842 (apC dj149 (apC dj158 (apC (RelD.inp k817 (apC dj158 (apC (RelD.inp k781 (apC (ho47 _ k450.lt' dj143) (apC dj158 (apC (RelD.inp k756 (apC dj158 (apC (RelD.inp k489 (apC dj158 (apC dj159 apN)) hi22) apN)) hi23) apN))) hi24) apN)) hi25) apN))) hi26) apN))).grown hg50).goL hgl40 (apC (k489.new hge9) (apC dj158 (apC (RelD.inp k878 (apC dj158 (apC (RelD.inp k842 (apC dj149 (apC dj158 (apC (RelD.inp k817 (apC dj158 (apC (RelD.inp k781 (apC (ho47 _ k450.lt' dj143) (apC dj158 (apC (RelD.inp k756 (apC dj158 (apC (RelD.inp k489 (apC dj158 (apC dj159 apN)) hi22) apN)) hi23) apN))) hi24) apN)) hi25) apN))) hi26) apN)) hi27) apN)))
      have k917:=k904.goL hgl40 (apC dj168 (apC dj172.symm.symm (apC (InP.dj hi27 k879.lt' (apC dj172.symm.symm (apC (InP.dj hi26 k843.lt' (apC (Dj.new k488.lt' hb13).symm (apC dj172.symm.symm (apC (InP.dj hi25 k818.lt' (apC dj172.symm.symm (apC (InP.dj hi24 k782.lt' (apC (Dj.new k483.lt' hb13).symm (apC dj172.symm.symm (apC (InP.dj hi23 k759.lt' (apC dj172.symm.symm (apC dj173 apN))).symm apN)))).symm apN))).symm apN)))).symm apN))).symm apN)))
      have k918:=k906.goL hgl40 (apC dj167 (apC dj176 (apC (RelD.inp k881 (apC dj176 (apC (RelD.inp k845 (apC (ho50 _ k488.lt' dj161) (apC dj176 (apC (RelD.inp k820 (apC dj176 (apC (RelD.inp k784 (apC (ho50 _ k483.lt' (ho46 _ k450.lt' dj143)) (apC dj176 (apC (RelD.inp k761 (apC dj176 (apC dj177 apN)) hi23) apN))) hi24) apN)) hi25) apN))) hi26) apN)) hi27) apN)))
      have k919:=k907.goL hgl40 (apC (Dj.app (Dj.new hO50.lt' hge9) k524.lt' hk6).symm.symm (apC (Dj.app (Dj.app (Dj.app (p:=none) Dj.nl k438.lt' hk4) k469.lt' hk5) k513.lt' hk6).symm.symm (apC (InP.dj hi27 k882.lt' (apC (Dj.app (Dj.app (Dj.app (p:=none) Dj.nl k438.lt' hk4) k469.lt' hk5) k513.lt' hk6).symm.symm (apC (InP.dj hi26 k846.lt' (apC (Dj.app (Dj.app (Dj.new hO44.lt' hge8) k477.lt' hk5) k518.lt' hk6).symm.symm (apC (Dj.app (Dj.app (Dj.app (p:=none) Dj.nl k438.lt' hk4) k469.lt' hk5) k513.lt' hk6).symm.symm (apC (InP.dj hi25 k821.lt' (apC (Dj.app (Dj.app (Dj.app (p:=none) Dj.nl k438.lt' hk4) k469.lt' hk5) k513.lt' hk6).symm.symm (apC (InP.dj hi24 k785.lt' (apC (Dj.app (Dj.app (Dj.app (p:=none) Dj.nl k442.lt' hk4) k471.lt' hk5) k515.lt' hk6).symm.symm (apC (Dj.app (Dj.app (Dj.app (p:=none) Dj.nl k438.lt' hk4) k469.lt' hk5) k513.lt' hk6).symm.symm (apC (InP.dj hi23 k762.lt' (apC (Dj.app (Dj.app (Dj.app (p:=none) Dj.nl k438.lt' hk4) k469.lt' hk5) k513.lt' hk6).symm.symm (apC (Dj.app (InP.dj hi22 hO50.lt' (apC (Dj.app (Dj.app (p:=none) Dj.nl k438.lt' hk4) k469.lt' hk5) (apC (Dj.app (InP.dj hi20 hO44.lt' (apC (Dj.app (p:=none) Dj.nl k438.lt' hk4) (apC (Dj.app (p:=none) Dj.nl k439.lt' hk4) apN))).symm k474.lt' hk5) apN))).symm k521.lt' hk6).symm.symm apN))).symm apN)))).symm apN))).symm apN)))).symm apN))).symm apN)))
      have k920:=k909.goL hgl40 (apC (ho64 _ k880.lt' (ho61 _ k844.lt' (ho60 _ k819.lt' (ho57 _ k783.lt' (ho56 _ k760.lt' dj179 (ho55 _ k747.lt')) (k484.new hge9)) (ho59 _ k806.lt')) (k489.new hge9)) (ho63 _ hB49.lt')) (apC dj205 (apC dj206 apN)))
      refine ze (zi (za (zb (yp (h:=(zg rfl (zR (v:=.int .i64 (3:Int)) (Yld.add rfl rfl (by simp only [In]; omega)) rfl) (yp (h:=(ze (qf (WCL.one (zd (zd (zb (yp (h:=(yp (h:=(yp (h:=(ze (za (zm rfl (fun h=>by cases h) (fun _=>zy (zk (zk (zl (za (zd (zb (yp (h:=(zg rfl (qj Tryz.underlying61 rfl rfl) (zx rfl rfl (ks (S:=S) (hO68.base (fun _ _=>Nat.zero_le _)) rfl hr28 hB52 dj209 (apC dj211 (apC dj212 apN)) H) ?_))))))))))))))))))))))))))))))))))
      rintro _ w109 ⟨hgl41,t12803,a0w,a0z,a0q,v_t12813,t12813,a_85,a4y,a6j,a2l,a_86,a_87,rfl,ht12803,u5,ho67,dj213,ht12813,hB53,hO69,hi29,hr29,ho66,dj214,dj215,dj216,dj217,dj218,dj219,dj220,dj221,H⟩
      have hO70:=hO69.base (InP.toGe hi29 (apC (Ge.le hge1 (qE gr2)) (apC hO68.ge' apN)) (qE gr99))
      have hb14:=ht12803.ge'
      have k922:=hr28.goL hgl41 (apC dj211 (apC dj212 apN))
      refine yp (h:=(yp (h:=(yp (h:=(yp (h:=(yp (h:=(ze (za (zd (zb (zx rfl rfl (W_val_Str H) ?_))))))))))))))
      rintro _ w110 ⟨hg51,v_t1323,F_t1323,t1323,rfl,ht1323,ho68,H⟩
      have gr101:=qG (qN gr99 hgl41 (apC (Ge.le hge1 (qE gr2)) (apC hO68.ge' apN))) hg51
      have k923:=hB53.g0 hg51
      have k924:=hO70.grown hg51
      have k925:=hr29.grown hg51
      have k926:=(ht12803.base (fun g hg=>Nat.le_trans (qE gr99) (hb14 g hg))).grown hg51
      have k927:=ht12813.grown hg51
      have k928:=u5.grown hg51
      refine zx rfl rfl (W_list_Each (hG.grown gr101) hS3 ht1323 H) ?_
      rintro v_ w111 ⟨hg_,hc_ | hc_⟩
      ·obtain ⟨v_t13315,t13315,rfl,ht13315,H⟩:=hc_
       have hg52:=hg_
       have gr102:=qG gr101 hg52
       have k929:=k923.g0 hg52
       have k930:=k924.grown hg52
       have k932:=k926.grown hg52
       have k934:=k928.grown hg52
       refine yp (h:=(yp (h:=(yp (h:=(yp (h:=(yp (h:=(ze (za (zd (zb (yp (h:=(zg rfl (qe Tryz.underlying43 (k927.grown hg52) rfl) (yp (h:=?_))))))))))))))))))
       rcases Bool.eq_false_or_eq_true (decide (t12813=Er.ok)) with b43 | b43
       ·replace H:=H.1 b43
        refine gp b43 (h:=(gp b43 (h:=(gp b43 (h:=(gp b43 (h:=(gp b43 (h:=(zg rfl (zQ (okb b43) rfl) (yp (h:=?_))))))))))))
        rcases Bool.eq_false_or_eq_true (decide ((t12803.length:Int)=(l.length:Int))) with b44 | b44
        ·replace H:=H.1 b44
         refine gp b44 (h:=(zT (qF rfl rfl (okb b44)) rfl rfl (qM H) ?_))
         rintro _ w113 ⟨hg53,v_t1473,F_t1473,t1473,rfl,ht1473,ho69,H⟩
         have gr103:=qG gr102 hg53
         have k935:=k929.g0 hg53
         have k936:=k930.grown hg53
         have k937:=(k925.grown hg52).grown hg53
         refine zT (qF rfl rfl (okb b44)) rfl rfl (jk (GB.grown hG gr103) (qE gr103) (apC (Ge.le hge1 (qE gr2)) (apC k936.ge' apN)) hS3 hS7 (k936.base (fun _ _=>Nat.zero_le _)) rfl k937 k935 ht1473 dj214 (apC dj215 (apC dj216 apN)) (apC (ho69 _ k929.lt') (apC (ho69 _ k930.lt') apN)) H) ?_
         rintro v_t1483 w114 ⟨hgl42,_,t1483,a_88,a4z,a6k,a2m,a_89,a_90,rfl,ht1483,hB54,hO71,hi30,hr30,ho70,dj222,dj223,dj224,H⟩
         have hO72:=hO71.base (InP.toGe hi30 (apC (Ge.le hge1 (qE gr2)) (apC k936.ge' apN)) (qE gr103))
         have gr104:=qN gr103 hgl42 (apC (Ge.le hge1 (qE gr2)) (apC k936.ge' apN))
         have k939:=k937.goL hgl42 (apC dj215 (apC dj216 apN))
         have k940:=ErrR.goB (ht13315.grown hg53) (GB.grown hG gr103) hgl42 (apC (Ge.le hge1 (qE gr2)) (apC k936.ge' apN)) (apC (NoAt.bl k935 rfl) (apC (NoAt.own k936 rfl) apN))
         have k941:=ht1473.goL hgl42 (apC (ho69 _ k929.lt') (apC (ho69 _ k930.lt') apN))
         refine zc rfl rfl (okb b44) rfl (qe Tryz.underlying43 ht1483 rfl) (zg rfl (zQ (okb b44) rfl) (yp (h:=?_)))
         rcases Bool.eq_false_or_eq_true (decide (t1483=Er.ok)) with b45 | b45
         ·replace H:=H.1 b45
          refine gp b45 (h:=(zT (qF rfl rfl (okb b45)) rfl rfl (ji (hG.grown gr104) hS0 hS1 hS2 hS3 hS4 hS5 hS6 hS7 hS8 hS9 hS10 hS11 hS12 hS13 hS14 hS15 hS16 k940 H) ?_))
          rintro _ w115 ⟨hg54,t1533,rfl,H⟩
          have k942:=k940.grown hg54
          exact zg rfl (zQ (okb b45) rfl) (yp (h:=(ze (za (zt (zD rfl rfl ⟨(qG gr104 hg54),t1533,rfl,H⟩))))))
         replace H:=H.2 b45
         exact gn b45 (h:=(gn b45 (h:=(zg rfl (zK (okb b45) rfl) (yp (h:=(ze (za (zt (zD rfl rfl ⟨gr104,false,rfl,H⟩))))))))))
        replace H:=H.2 b44
        exact gn b44 (h:=(gn b44 (h:=(gn b44 (h:=(gn b44 (h:=(zg rfl (zK (okb b44) rfl) (yp (h:=(zG rfl rfl (rfl) rfl (zG rfl rfl (rfl) rfl (zg rfl (zK (rfl) rfl) (yp (h:=(ze (za (zt (zD rfl rfl ⟨gr102,false,rfl,H⟩)))))))))))))))))))
       replace H:=H.2 b43
       exact gn b43 (h:=(gn b43 (h:=(gn b43 (h:=(gn b43 (h:=(gn b43 (h:=(zg rfl (zK (okb b43) rfl) (yp (h:=(zG rfl rfl (rfl) rfl (zG rfl rfl (rfl) rfl (zG rfl rfl (rfl) rfl (zG rfl rfl (rfl) rfl (zg rfl (zK (rfl) rfl) (yp (h:=(zG rfl rfl (rfl) rfl (zG rfl rfl (rfl) rfl (zg rfl (zK (rfl) rfl) (yp (h:=(ze (za (zt (zD rfl rfl ⟨gr102,false,rfl,H⟩))))))))))))))))))))))))))))
      obtain ⟨a1c,v_t1330_v3,F_t1330_v3,a1o,a1l,a0f,a0i,y8,a0t,y2,a0b,v_t13316,t13316,rfl,ht1330_v3,ho71,ht1330_l3,y5,ho72,dj225,ht13316,ht13303,hge10,dj226,dj227,dj228,H⟩:=hc_
      have hg55:=hg_
      have hb15:=ht1330_l3.ge'
      have k943:=ht1330_l3.base (fun g hg=>Nat.le_trans (qE gr101) (hb15 g hg))
      have gr106:=qG gr101 hg55
      have k944:=k923.g0 hg55
      have k945:=k924.grown hg55
      have k946:=k925.grown hg55
      have k947:=k926.grown hg55
      have k948:=k927.grown hg55
      have k949:=k928.grown hg55
      exact False.elim H
     clear H
     exact zc rfl rfl (rfl) rfl (zh qD rfl) (zc rfl rfl (rfl) rfl (z1 Tryz.underlying43 ht55112 rfl) (zg rfl (zK (rfl) rfl) (wk (hQ _ _ ⟨!decide (t55112=Er.ok),rfl,rfl,rfl⟩))))
    clear H
    exact zc rfl rfl (rfl) rfl (zh qD rfl) (zc rfl rfl (rfl) rfl (z1 Tryz.underlying43 ht55110 rfl) (zg rfl (zK (rfl) rfl) (wk (hQ _ _ ⟨!decide (t55110=Er.ok),rfl,rfl,rfl⟩))))
   clear H
   exact zc rfl rfl (rfl) rfl (zh qD rfl) (zc rfl rfl (rfl) rfl (z1 Tryz.underlying43 ht5518 rfl) (zg rfl (zK (rfl) rfl) (wk (hQ _ _ ⟨!decide (t5518=Er.ok),rfl,rfl,rfl⟩))))
  replace H:=H.2.2.2 b3
  rw [b3]
  refine zd (zb (yp (h:=(ze (za (zd (zd (zb (yp (h:=(ze (za (WC.block (qv (WCL.one (zd (zd (zb (yp (h:=(yp (h:=(yp (h:=(ze (za (zm rfl (fun _=>zo (za (zd (WC.block (zd (zb (yp (h:=(zg rfl (qj Tryz.underlying61 rfl rfl) (zx rfl rfl (jg (S:=S) (k5.base (fun _ _=>Nat.zero_le _)) rfl l8 ha dj6.symm (apC dj5 (apC dj4 apN)) H) ?_)))))))))) (fun h=>by cases h))))))))))))))))))))))))))))
  rintro v_ w117 ⟨hg_,hc_ | hc_⟩
  ·obtain ⟨v_t55113,t55113,a_91,a5a,a6l,a2n,a_92,a_93,rfl,ht55113,hB55,hO73,hi31,hr31,ho73,dj229,dj230,dj231,H⟩:=hc_
   have hgl43:=hg_
   have hO74:=hO73.base (InP.toGe hi31 (apC (Ge.le hge1 (qE gr2)) (apC k5.ge' apN)) (qE gr4))
   have k950:=k6.goL hgl43 (apC (Dj.new k1.lt' hge1) (apC (Dj.new k1.lt' hb3) apN))
   have k951:=k7.goL hgl43 (apC (a0.new hge1) (apC (a0.new hb3) apN))
   have k952:=l8.goL hgl43 (apC dj5 (apC dj4 apN))
   refine yp (h:=(yp (h:=(yp (h:=(yp (h:=(yp (h:=(ze (za (zd (zd (zb (yp (h:=(zg rfl (zY Tryz.underlying64 rfl rfl) (yp (h:=(zV 3 (fun L' w'=>∃ q29:Bool,L'=[(63,.bool q29),(0,.slice A_l l.length c_l),(1,.int .i64 (4:Int)),(6,.slice a1 t370.length a2),(8,.pointer (some ⟨g_a,0,none⟩)),(9,.slice none 0 0),(10,.int .i64 (0:Int)),(11,.pointer none)]/\true=q29/\w117=w') ?_ (fun hQ=>?_)))))))))))))))))))))
   ·rintro _ _ ⟨q29,rfl,rfl,rfl⟩
    exact ze (za (zm rfl (fun _=>zd (zb (yp (h:=(ze (za (zt (zf (zj (zf (zf (zj (zf (zD rfl rfl ⟨(qN gr4 hgl43 (apC (Ge.le hge1 (qE gr2)) (apC k5.ge' apN))),false,rfl,H⟩)))))))))))))) (fun h=>by cases h)))
   clear H
   exact zG rfl rfl (rfl) rfl (zG rfl rfl (rfl) rfl (zg rfl (zQ (rfl) rfl) (wk (hQ _ _ ⟨true,rfl,rfl,rfl⟩))))
  obtain ⟨a4,e6,d9,e2,c9,p5,c3,d6,v_t55114,t55114,a_94,a5b,a6m,a2o,a_95,a_96,rfl,ht550_l7,r9,ho75,dj232,ht55114,ht5507,hge11,dj233,dj234,dj235,hB56,hO75,hi32,hr32,ho74,dj236,dj237,dj238,dj239,dj240,dj241,dj242,dj243,dj244,dj245,dj246,H⟩:=hc_
  have hgl44:=hg_
  have hO76:=hO75.base (InP.toGe hi32 (apC (Ge.le hge1 (qE gr2)) (apC k5.ge' apN)) (qE gr4))
  have hb16:=ht550_l7.ge'
  have gr108:=qN gr4 hgl44 (apC (Ge.le hge1 (qE gr2)) (apC k5.ge' apN))
  have k956:=l8.goL hgl44 (apC dj5 (apC dj4 apN))
  refine yp (h:=(yp (h:=(yp (h:=(yp (h:=(yp (h:=(ze (za (zd (zd (zb (yp (h:=(zg rfl (zY Tryz.underlying64 rfl rfl) (yp (h:=(zV 3 (fun L' w'=>∃ q30:Bool,L'=[(63,.bool q30),(0,.slice A_l l.length c_l),(1,.int .i64 (4:Int)),(6,.slice a1 t370.length a2),(8,.pointer (some ⟨g_a,0,none⟩)),(9,.slice none 0 0),(10,.int .i64 (0:Int)),(11,.pointer (some ⟨a4,0,none⟩))]/\(!decide (t55114=Er.ok))=q30/\w117=w') ?_ (fun hQ=>?_)))))))))))))))))))))
  ·rintro _ _ ⟨q30,rfl,rfl,rfl⟩
   refine ze (za (zm rfl (fun b46=>?_) (fun b46=>?_)))
   ·replace H:=H.1 (jw b46)
    exact zd (zb (yp (h:=(ze (za (zt (zf (zj (zf (zf (zj (zf (zD rfl rfl ⟨gr108,false,rfl,H⟩)))))))))))))
   replace H:=H.2 (jq b46)
   refine zo (za (zb (yp (h:=(yp (h:=(z5 qD rfl rfl rfl (qJ rfl jl) rfl (by omega) (fun g7 w120 hB57 hg56 hl7=>?_))))))))
   have hO77:Own vQ w120 w.heap.size 64 (some ⟨g7,0,none⟩) 1 ([a4]:List Nat):=Own.ofBl hB57 (Nat.le_trans (qE gr108) hl7) (by simp [maxLen]) rfl
   have gr109:=qG gr108 hg56
   have k957:=(k6.goL hgl44 (apC (Dj.new k1.lt' hge1) (apC (Dj.new k1.lt' hb3) apN))).grown hg56
   have k958:=(k7.goL hgl44 (apC (a0.new hge1) (apC (a0.new hb3) apN))).grown hg56
   have k959:=hB56.g0 hg56
   have k960:=hO76.grown hg56
   have k961:=hr32.grown hg56
   have k962:=(ht550_l7.base (fun g hg=>Nat.le_trans (qE gr4) (hb16 g hg))).grown hg56
   have k963:=ht5507.g0 hg56
   have k964:=r9.grown hg56
   refine z4 qD rfl rfl One.vQ (Own.nil vQ w120 w.heap.size 64) rfl rfl hO77.rd rfl rfl (by simp) (jT (c:=7) (by simp)) (qE gr109) (fun s6 t3 w121 hO78 hg57 hk7=>?_)
   have gr110:=qG gr109 hg57
   have k965:=k957.grown hg57
   have k966:=k958.grown hg57
   have k967:=k959.g0 hg57
   have k968:=k960.grown hg57
   have k969:=k961.grown hg57
   have k970:=k962.grown hg57
   have k971:=k963.g0 hg57
   have k972:=k964.grown hg57
   refine yp (h:=(ze (zi (za (zb (yp (h:=(zg rfl (zR (v:=.int .i64 (1:Int)) (Yld.add rfl rfl (by simp only [In]; omega)) rfl) (yp (h:=(ze (qf (WCL.one (zd (zd (zb (yp (h:=(yp (h:=(yp (h:=(ze (za (zm rfl (fun _=>zo (za (zd (WC.block (zd (zb (yp (h:=(zg rfl (qj Tryz.underlying61 rfl rfl) (zx rfl rfl (jg (S:=S) (k968.base (fun _ _=>Nat.zero_le _)) rfl k969 k967 dj236 (apC dj237 (apC dj238 apN)) H) ?_)))))))))) (fun h=>by cases h))))))))))))))))))))))))))
   rintro v_ w122 ⟨hg_,hc_ | hc_⟩
   ·obtain ⟨v_t55115,t55115,a_97,a5c,a6n,a2p,a_98,a_99,rfl,ht55115,hB58,hO79,hi33,hr33,ho76,dj247,dj248,dj249,H⟩:=hc_
    have hgl45:=hg_
    have hO80:=hO79.base (InP.toGe hi33 (apC (Ge.le hge1 (qE gr2)) (apC k968.ge' apN)) (qE gr110))
    have k973:=k965.goL hgl45 (apC (Dj.new k1.lt' hge1) (apC (InP.dj hi32 k6.lt' (apC (Dj.new k1.lt' hge1) (apC (Dj.new k1.lt' hb3) apN))).symm apN))
    have k974:=k966.goL hgl45 (apC (a0.new hge1) (apC (RelD.inp k7 (apC (a0.new hge1) (apC (a0.new hb3) apN)) hi32) apN))
    have k975:=k969.goL hgl45 (apC dj237 (apC dj238 apN))
    have k976:=k970.goL hgl45 (apC dj239 (apC dj240 apN))
    have k977:=k971.goL hgl45 (apC dj241 (apC dj242 apN))
    have k978:=k972.goL hgl45 (apC dj243 (apC dj244 apN))
    have k979:=hO78.goL hgl45 (apC (Dj.app (p:=none) Dj.nl k959.lt' hk7) (apC (Dj.app (p:=none) Dj.nl k960.lt' hk7) apN))
    refine yp (h:=(yp (h:=(yp (h:=(yp (h:=(yp (h:=(ze (za (zd (zd (zb (yp (h:=(zg rfl (zY Tryz.underlying64 rfl rfl) (yp (h:=(zV 3 (fun L' w'=>∃ q31:Bool,L'=[(63,.bool q31),(0,.slice A_l l.length c_l),(1,.int .i64 (4:Int)),(6,.slice a1 t370.length a2),(8,.pointer (some ⟨g_a,0,none⟩)),(9,.slice s6 (([]++([a4]:List Nat)).length) t3),(10,.int .i64 (1:Int)),(11,.pointer none)]/\true=q31/\w122=w') ?_ (fun hQ=>?_)))))))))))))))))))))
    ·rintro _ _ ⟨q31,rfl,rfl,rfl⟩
     exact ze (za (zm rfl (fun _=>zd (zb (yp (h:=(ze (za (zt (zf (zj (zf (zf (zj (zf (zD rfl rfl ⟨(qN gr110 hgl45 (apC (Ge.le hge1 (qE gr2)) (apC k968.ge' apN))),false,rfl,H⟩)))))))))))))) (fun h=>by cases h)))
    clear H
    exact zG rfl rfl (rfl) rfl (zG rfl rfl (rfl) rfl (zg rfl (zQ (rfl) rfl) (wk (hQ _ _ ⟨true,rfl,rfl,rfl⟩))))
   obtain ⟨a6,e7,e0,e3,d0,p6,c4,d7,v_t55116,t55116,a_100,a5d,a6o,a2q,a_101,a_102,rfl,ht550_l8,s0,ho78,dj250,ht55116,ht5508,hge12,dj251,dj252,dj253,hB59,hO81,hi34,hr34,ho77,dj254,dj255,dj256,dj257,dj258,dj259,dj260,dj261,dj262,dj263,dj264,H⟩:=hc_
   have hgl46:=hg_
   have hO82:=hO81.base (InP.toGe hi34 (apC (Ge.le hge1 (qE gr2)) (apC k968.ge' apN)) (qE gr110))
   have hb17:=ht550_l8.ge'
   have gr112:=qN gr110 hgl46 (apC (Ge.le hge1 (qE gr2)) (apC k968.ge' apN))
   have k983:=k969.goL hgl46 (apC dj237 (apC dj238 apN))
   refine yp (h:=(yp (h:=(yp (h:=(yp (h:=(yp (h:=(ze (za (zd (zd (zb (yp (h:=(zg rfl (zY Tryz.underlying64 rfl rfl) (yp (h:=(zV 3 (fun L' w'=>∃ q32:Bool,L'=[(63,.bool q32),(0,.slice A_l l.length c_l),(1,.int .i64 (4:Int)),(6,.slice a1 t370.length a2),(8,.pointer (some ⟨g_a,0,none⟩)),(9,.slice s6 (([]++([a4]:List Nat)).length) t3),(10,.int .i64 (1:Int)),(11,.pointer (some ⟨a6,0,none⟩))]/\(!decide (t55116=Er.ok))=q32/\w122=w') ?_ (fun hQ=>?_)))))))))))))))))))))
   ·rintro _ _ ⟨q32,rfl,rfl,rfl⟩
    refine ze (za (zm rfl (fun b47=>?_) (fun b47=>?_)))
    ·replace H:=H.1 (jw b47)
     exact zd (zb (yp (h:=(ze (za (zt (zf (zj (zf (zf (zj (zf (zD rfl rfl ⟨gr112,false,rfl,H⟩)))))))))))))
    replace H:=H.2 (jq b47)
    refine zo (za (zb (yp (h:=(yp (h:=(z5 qD rfl rfl rfl (qJ rfl jl) rfl (by omega) (fun g8 w125 hB60 hg58 hl8=>?_))))))))
    have hO83:Own vQ w125 w.heap.size 64 (some ⟨g8,0,none⟩) 1 ([a6]:List Nat):=Own.ofBl hB60 (Nat.le_trans (qE gr112) hl8) (by simp [maxLen]) rfl
    have gr113:=qG gr112 hg58
    have k988:=(k965.goL hgl46 (apC (Dj.new k1.lt' hge1) (apC (InP.dj hi32 k6.lt' (apC (Dj.new k1.lt' hge1) (apC (Dj.new k1.lt' hb3) apN))).symm apN))).grown hg58
    have k989:=(k966.goL hgl46 (apC (a0.new hge1) (apC (RelD.inp k7 (apC (a0.new hge1) (apC (a0.new hb3) apN)) hi32) apN))).grown hg58
    have k990:=hB59.g0 hg58
    have k991:=(k970.goL hgl46 (apC dj239 (apC dj240 apN))).grown hg58
    have k992:=(k971.goL hgl46 (apC dj241 (apC dj242 apN))).g0 hg58
    have k993:=(k972.goL hgl46 (apC dj243 (apC dj244 apN))).grown hg58
    have k994:=(hO78.goL hgl46 (apC (Dj.app (p:=none) Dj.nl k959.lt' hk7) (apC (Dj.app (p:=none) Dj.nl k960.lt' hk7) apN))).grown hg58
    have k995:=hO82.grown hg58
    have k996:=hr34.grown hg58
    have k997:=(ht550_l8.base (fun g hg=>Nat.le_trans (qE gr110) (hb17 g hg))).grown hg58
    have k998:=ht5508.g0 hg58
    have k999:=s0.grown hg58
    refine z4 qD rfl rfl One.vQ k994 rfl rfl hO83.rd rfl rfl (by simp) (jT (c:=7) (by simp)) (qE gr113) (fun s7 t4 w126 hO84 hg59 hk8=>?_)
    have gr114:=js gr113 hg59 k994.ge'
    have k1000:=k988.go hg59 ((Dj.app (p:=none) Dj.nl k957.lt' hk7).symm)
    have k1001:=k989.go hg59 (RelD.app k958 (DnD.none k958) hk7)
    have k1002:=k990.go hg59 ((Dj.app (p:=none) Dj.nl k959.lt' hk7).symm)
    have k1003:=k991.go hg59 ((Dj.app (p:=none) Dj.nl k962.lt' hk7).symm)
    have k1004:=k992.go hg59 ((Dj.app (p:=none) Dj.nl k963.lt' hk7).symm)
    have k1005:=k993.go hg59 (RelD.app k964 (DnD.none k964) hk7)
    have k1006:=k995.go hg59 (InP.dj hi34 hO78.lt' (apC (Dj.app (p:=none) Dj.nl k959.lt' hk7) (apC (Dj.app (p:=none) Dj.nl k960.lt' hk7) apN)))
    have k1007:=k996.go hg59 (ho77 _ hO78.lt' (RelD.app k961 (DnD.none k961) hk7))
    have k1008:=k997.go hg59 ((Dj.new hO78.lt' hb17).symm)
    have k1009:=k998.go hg59 ((Dj.new hO78.lt' hge12).symm)
    have k1010:=k999.go hg59 (ho78 _ hO78.lt' (RelD.app k961 (DnD.none k961) hk7))
    refine yp (h:=(ze (zi (za (zb (yp (h:=(zg rfl (zR (v:=.int .i64 (2:Int)) (Yld.add rfl rfl (by simp only [In]; omega)) rfl) (yp (h:=(ze (qf (WCL.one (zd (zd (zb (yp (h:=(yp (h:=(yp (h:=(ze (za (zm rfl (fun _=>zo (za (zd (WC.block (zd (zb (yp (h:=(zg rfl (qj Tryz.underlying61 rfl rfl) (zx rfl rfl (jg (S:=S) (k1006.base (fun _ _=>Nat.zero_le _)) rfl k1007 k1002 dj254 (apC dj255 (apC dj256 apN)) H) ?_)))))))))) (fun h=>by cases h))))))))))))))))))))))))))
    rintro v_ w127 ⟨hg_,hc_ | hc_⟩
    ·obtain ⟨v_t55117,t55117,a_103,a5e,a6p,a2r,a_104,a_105,rfl,ht55117,hB61,hO85,hi35,hr35,ho79,dj265,dj266,dj267,H⟩:=hc_
     have hgl47:=hg_
     have hO86:=hO85.base (InP.toGe hi35 (apC (Ge.le hge1 (qE gr2)) (apC k1006.ge' apN)) (qE gr114))
     have k1011:=k1000.goL hgl47 (apC (Dj.new k1.lt' hge1) (apC (InP.dj hi34 k965.lt' (apC (Dj.new k1.lt' hge1) (apC (InP.dj hi32 k6.lt' (apC (Dj.new k1.lt' hge1) (apC (Dj.new k1.lt' hb3) apN))).symm apN))).symm apN))
     have k1012:=k1001.goL hgl47 (apC (a0.new hge1) (apC (RelD.inp k966 (apC (a0.new hge1) (apC (RelD.inp k7 (apC (a0.new hge1) (apC (a0.new hb3) apN)) hi32) apN)) hi34) apN))
     have k1013:=k1003.goL hgl47 (apC dj239 (apC (InP.dj hi34 k970.lt' (apC dj239 (apC dj240 apN))).symm apN))
     have k1014:=k1004.goL hgl47 (apC dj241 (apC (InP.dj hi34 k971.lt' (apC dj241 (apC dj242 apN))).symm apN))
     have k1015:=k1005.goL hgl47 (apC dj243 (apC (RelD.inp k972 (apC dj243 (apC dj244 apN)) hi34) apN))
     have k1016:=k1007.goL hgl47 (apC dj255 (apC dj256 apN))
     have k1017:=k1008.goL hgl47 (apC dj257 (apC dj258 apN))
     have k1018:=k1009.goL hgl47 (apC dj259 (apC dj260 apN))
     have k1019:=k1010.goL hgl47 (apC dj261 (apC dj262 apN))
     have k1020:=hO84.goL hgl47 (apC (Dj.app (Dj.app (p:=none) Dj.nl k959.lt' hk7) k990.lt' hk8) (apC (Dj.app (InP.dj hi34 hO78.lt' (apC (Dj.app (p:=none) Dj.nl k959.lt' hk7) (apC (Dj.app (p:=none) Dj.nl k960.lt' hk7) apN))).symm k995.lt' hk8) apN))
     refine yp (h:=(yp (h:=(yp (h:=(yp (h:=(yp (h:=(ze (za (zd (zd (zb (yp (h:=(zg rfl (zY Tryz.underlying64 rfl rfl) (yp (h:=(zV 3 (fun L' w'=>∃ q33:Bool,L'=[(63,.bool q33),(0,.slice A_l l.length c_l),(1,.int .i64 (4:Int)),(6,.slice a1 t370.length a2),(8,.pointer (some ⟨g_a,0,none⟩)),(9,.slice s7 ((([]++([a4]:List Nat))++([a6]:List Nat)).length) t4),(10,.int .i64 (2:Int)),(11,.pointer none)]/\true=q33/\w127=w') ?_ (fun hQ=>?_)))))))))))))))))))))
     ·rintro _ _ ⟨q33,rfl,rfl,rfl⟩
      exact ze (za (zm rfl (fun _=>zd (zb (yp (h:=(ze (za (zt (zf (zj (zf (zf (zj (zf (zD rfl rfl ⟨(qN gr114 hgl47 (apC (Ge.le hge1 (qE gr2)) (apC k1006.ge' apN))),false,rfl,H⟩)))))))))))))) (fun h=>by cases h)))
     clear H
     exact zG rfl rfl (rfl) rfl (zG rfl rfl (rfl) rfl (zg rfl (zQ (rfl) rfl) (wk (hQ _ _ ⟨true,rfl,rfl,rfl⟩))))
    obtain ⟨a7,e8,e1,e4,d1,p7,c5,d8,v_t55118,t55118,a_106,a5f,a6q,a2s,a_107,a_108,rfl,ht550_l9,s1,ho81,dj268,ht55118,ht5509,hge13,dj269,dj270,dj271,hB62,hO87,hi36,hr36,ho80,dj272,dj273,dj274,dj275,dj276,dj277,dj278,dj279,dj280,dj281,dj282,H⟩:=hc_
    have hgl48:=hg_
    have hO88:=hO87.base (InP.toGe hi36 (apC (Ge.le hge1 (qE gr2)) (apC k1006.ge' apN)) (qE gr114))
    have hb18:=ht550_l9.ge'
    have gr116:=qN gr114 hgl48 (apC (Ge.le hge1 (qE gr2)) (apC k1006.ge' apN))
    have k1027:=k1007.goL hgl48 (apC dj255 (apC dj256 apN))
    refine yp (h:=(yp (h:=(yp (h:=(yp (h:=(yp (h:=(ze (za (zd (zd (zb (yp (h:=(zg rfl (zY Tryz.underlying64 rfl rfl) (yp (h:=(zV 3 (fun L' w'=>∃ q34:Bool,L'=[(63,.bool q34),(0,.slice A_l l.length c_l),(1,.int .i64 (4:Int)),(6,.slice a1 t370.length a2),(8,.pointer (some ⟨g_a,0,none⟩)),(9,.slice s7 ((([]++([a4]:List Nat))++([a6]:List Nat)).length) t4),(10,.int .i64 (2:Int)),(11,.pointer (some ⟨a7,0,none⟩))]/\(!decide (t55118=Er.ok))=q34/\w127=w') ?_ (fun hQ=>?_)))))))))))))))))))))
    ·rintro _ _ ⟨q34,rfl,rfl,rfl⟩
     refine ze (za (zm rfl (fun b48=>?_) (fun b48=>?_)))
     ·replace H:=H.1 (jw b48)
      exact zd (zb (yp (h:=(ze (za (zt (zf (zj (zf (zf (zj (zf (zD rfl rfl ⟨gr116,false,rfl,H⟩)))))))))))))
     replace H:=H.2 (jq b48)
     refine zo (za (zb (yp (h:=(yp (h:=(z5 qD rfl rfl rfl (qJ rfl jl) rfl (by omega) (fun g9 w130 hB63 hg60 hl9=>?_))))))))
     have hO89:Own vQ w130 w.heap.size 64 (some ⟨g9,0,none⟩) 1 ([a7]:List Nat):=Own.ofBl hB63 (Nat.le_trans (qE gr116) hl9) (by simp [maxLen]) rfl
     have gr117:=qG gr116 hg60
     have k1032:=(k1000.goL hgl48 (apC (Dj.new k1.lt' hge1) (apC (InP.dj hi34 k965.lt' (apC (Dj.new k1.lt' hge1) (apC (InP.dj hi32 k6.lt' (apC (Dj.new k1.lt' hge1) (apC (Dj.new k1.lt' hb3) apN))).symm apN))).symm apN))).grown hg60
     have k1033:=(k1001.goL hgl48 (apC (a0.new hge1) (apC (RelD.inp k966 (apC (a0.new hge1) (apC (RelD.inp k7 (apC (a0.new hge1) (apC (a0.new hb3) apN)) hi32) apN)) hi34) apN))).grown hg60
     have k1034:=hB62.g0 hg60
     have k1035:=(k1003.goL hgl48 (apC dj239 (apC (InP.dj hi34 k970.lt' (apC dj239 (apC dj240 apN))).symm apN))).grown hg60
     have k1036:=(k1004.goL hgl48 (apC dj241 (apC (InP.dj hi34 k971.lt' (apC dj241 (apC dj242 apN))).symm apN))).g0 hg60
     have k1037:=(k1005.goL hgl48 (apC dj243 (apC (RelD.inp k972 (apC dj243 (apC dj244 apN)) hi34) apN))).grown hg60
     have k1038:=(k1008.goL hgl48 (apC dj257 (apC dj258 apN))).grown hg60
     have k1039:=(k1009.goL hgl48 (apC dj259 (apC dj260 apN))).g0 hg60
     have k1040:=(k1010.goL hgl48 (apC dj261 (apC dj262 apN))).grown hg60
     have k1041:=(hO84.goL hgl48 (apC (Dj.app (Dj.app (p:=none) Dj.nl k959.lt' hk7) k990.lt' hk8) (apC (Dj.app (InP.dj hi34 hO78.lt' (apC (Dj.app (p:=none) Dj.nl k959.lt' hk7) (apC (Dj.app (p:=none) Dj.nl k960.lt' hk7) apN))).symm k995.lt' hk8) apN))).grown hg60
     have k1042:=hO88.grown hg60
     have k1043:=hr36.grown hg60
     have k1044:=(ht550_l9.base (fun g hg=>Nat.le_trans (qE gr114) (hb18 g hg))).grown hg60
     have k1045:=ht5509.g0 hg60
     have k1046:=s1.grown hg60
     refine z4 qD rfl rfl One.vQ k1041 rfl rfl hO89.rd rfl rfl (by simp) (jT (c:=7) (by simp)) (qE gr117) (fun s8 t5 w131 hO90 hg61 hk9=>?_)
     have gr118:=js gr117 hg61 k1041.ge'
     have k1047:=k1032.go hg61 ((Dj.app (Dj.app (p:=none) Dj.nl k957.lt' hk7) k988.lt' hk8).symm)
     have k1048:=k1033.go hg61 (RelD.app k989 (RelD.app k958 (DnD.none k958) hk7) hk8)
     have k1049:=k1034.go hg61 ((Dj.app (Dj.app (p:=none) Dj.nl k959.lt' hk7) k990.lt' hk8).symm)
     have k1050:=k1035.go hg61 ((Dj.app (Dj.app (p:=none) Dj.nl k962.lt' hk7) k991.lt' hk8).symm)
     have k1051:=k1036.go hg61 ((Dj.app (Dj.app (p:=none) Dj.nl k963.lt' hk7) k992.lt' hk8).symm)
     have k1052:=k1037.go hg61 (RelD.app k993 (RelD.app k964 (DnD.none k964) hk7) hk8)
     have k1053:=k1038.go hg61 ((Dj.app (Dj.new hO78.lt' hb17) k997.lt' hk8).symm)
     have k1054:=k1039.go hg61 ((Dj.app (Dj.new hO78.lt' hge12) k998.lt' hk8).symm)
     have k1055:=k1040.go hg61 (RelD.app k999 (ho78 _ hO78.lt' (RelD.app k961 (DnD.none k961) hk7)) hk8)
     have k1056:=k1042.go hg61 (InP.dj hi36 hO84.lt' (apC (Dj.app (Dj.app (p:=none) Dj.nl k959.lt' hk7) k990.lt' hk8) (apC (Dj.app (InP.dj hi34 hO78.lt' (apC (Dj.app (p:=none) Dj.nl k959.lt' hk7) (apC (Dj.app (p:=none) Dj.nl k960.lt' hk7) apN))).symm k995.lt' hk8) apN)))
     have k1057:=k1043.go hg61 (ho80 _ hO84.lt' (RelD.app k996 (ho77 _ hO78.lt' (RelD.app k961 (DnD.none k961) hk7)) hk8))
     have k1058:=k1044.go hg61 ((Dj.new hO84.lt' hb18).symm)
     have k1059:=k1045.go hg61 ((Dj.new hO84.lt' hge13).symm)
     have k1060:=k1046.go hg61 (ho81 _ hO84.lt' (RelD.app k996 (ho77 _ hO78.lt' (RelD.app k961 (DnD.none k961) hk7)) hk8))
     refine yp (h:=(ze (zi (za (zb (yp (h:=(zg rfl (zR (v:=.int .i64 (3:Int)) (Yld.add rfl rfl (by simp only [In]; omega)) rfl) (yp (h:=(ze (qf (WCL.one (zd (zd (zb (yp (h:=(yp (h:=(yp (h:=(ze (za (zm rfl (fun _=>zo (za (zd (WC.block (zd (zb (yp (h:=(zg rfl (qj Tryz.underlying61 rfl rfl) (zx rfl rfl (jg (S:=S) (k1056.base (fun _ _=>Nat.zero_le _)) rfl k1057 k1049 dj272 (apC dj273 (apC dj274 apN)) H) ?_)))))))))) (fun h=>by cases h))))))))))))))))))))))))))
     rintro v_ w132 ⟨hg_,hc_ | hc_⟩
     ·obtain ⟨v_t55119,t55119,a_109,a5g,a6r,a2t,a_110,a_111,rfl,ht55119,hB64,hO91,hi37,hr37,ho82,dj283,dj284,dj285,H⟩:=hc_
      have hgl49:=hg_
      have hO92:=hO91.base (InP.toGe hi37 (apC (Ge.le hge1 (qE gr2)) (apC k1056.ge' apN)) (qE gr118))
      have k1061:=k1047.goL hgl49 (apC (Dj.new k1.lt' hge1) (apC (InP.dj hi36 k1000.lt' (apC (Dj.new k1.lt' hge1) (apC (InP.dj hi34 k965.lt' (apC (Dj.new k1.lt' hge1) (apC (InP.dj hi32 k6.lt' (apC (Dj.new k1.lt' hge1) (apC (Dj.new k1.lt' hb3) apN))).symm apN))).symm apN))).symm apN))
      have k1062:=k1048.goL hgl49 (apC (a0.new hge1) (apC (RelD.inp k1001 (apC (a0.new hge1) (apC (RelD.inp k966 (apC (a0.new hge1) (apC (RelD.inp k7 (apC (a0.new hge1) (apC (a0.new hb3) apN)) hi32) apN)) hi34) apN)) hi36) apN))
      have k1063:=k1050.goL hgl49 (apC dj239 (apC (InP.dj hi36 k1003.lt' (apC dj239 (apC (InP.dj hi34 k970.lt' (apC dj239 (apC dj240 apN))).symm apN))).symm apN))
      have k1064:=k1051.goL hgl49 (apC dj241 (apC (InP.dj hi36 k1004.lt' (apC dj241 (apC (InP.dj hi34 k971.lt' (apC dj241 (apC dj242 apN))).symm apN))).symm apN))
      have k1065:=k1052.goL hgl49 (apC dj243 (apC (RelD.inp k1005 (apC dj243 (apC (RelD.inp k972 (apC dj243 (apC dj244 apN)) hi34) apN)) hi36) apN))
      have k1066:=k1053.goL hgl49 (apC dj257 (apC (InP.dj hi36 k1008.lt' (apC dj257 (apC dj258 apN))).symm apN))
      have k1067:=k1054.goL hgl49 (apC dj259 (apC (InP.dj hi36 k1009.lt' (apC dj259 (apC dj260 apN))).symm apN))
      have k1068:=k1055.goL hgl49 (apC dj261 (apC (RelD.inp k1010 (apC dj261 (apC dj262 apN)) hi36) apN))
      have k1069:=k1057.goL hgl49 (apC dj273 (apC dj274 apN))
      have k1070:=k1058.goL hgl49 (apC dj275 (apC dj276 apN))
      have k1071:=k1059.goL hgl49 (apC dj277 (apC dj278 apN))
      have k1072:=k1060.goL hgl49 (apC dj279 (apC dj280 apN))
      have k1073:=hO90.goL hgl49 (apC (Dj.app (Dj.app (Dj.app (p:=none) Dj.nl k959.lt' hk7) k990.lt' hk8) k1034.lt' hk9) (apC (Dj.app (InP.dj hi36 hO84.lt' (apC (Dj.app (Dj.app (p:=none) Dj.nl k959.lt' hk7) k990.lt' hk8) (apC (Dj.app (InP.dj hi34 hO78.lt' (apC (Dj.app (p:=none) Dj.nl k959.lt' hk7) (apC (Dj.app (p:=none) Dj.nl k960.lt' hk7) apN))).symm k995.lt' hk8) apN))).symm k1042.lt' hk9) apN))
      refine yp (h:=(yp (h:=(yp (h:=(yp (h:=(yp (h:=(ze (za (zd (zd (zb (yp (h:=(zg rfl (zY Tryz.underlying64 rfl rfl) (yp (h:=(zV 3 (fun L' w'=>∃ q35:Bool,L'=[(63,.bool q35),(0,.slice A_l l.length c_l),(1,.int .i64 (4:Int)),(6,.slice a1 t370.length a2),(8,.pointer (some ⟨g_a,0,none⟩)),(9,.slice s8 (((([]++([a4]:List Nat))++([a6]:List Nat))++([a7]:List Nat)).length) t5),(10,.int .i64 (3:Int)),(11,.pointer none)]/\true=q35/\w132=w') ?_ (fun hQ=>?_)))))))))))))))))))))
      ·rintro _ _ ⟨q35,rfl,rfl,rfl⟩
       exact ze (za (zm rfl (fun _=>zd (zb (yp (h:=(ze (za (zt (zf (zj (zf (zf (zj (zf (zD rfl rfl ⟨(qN gr118 hgl49 (apC (Ge.le hge1 (qE gr2)) (apC k1056.ge' apN))),false,rfl,H⟩)))))))))))))) (fun h=>by cases h)))
      clear H
      exact zG rfl rfl (rfl) rfl (zG rfl rfl (rfl) rfl (zg rfl (zQ (rfl) rfl) (wk (hQ _ _ ⟨true,rfl,rfl,rfl⟩))))
     obtain ⟨a5,c6,c7,c8,c0,o6,b0,c2,v_t55120,t55120,a_112,m8,m9,l5,a_113,a_114,rfl,ht550_l10,r3,ho84,dj286,ht55120,ht55010,hge14,dj287,dj288,dj289,hB65,hO93,hi38,hr38,ho83,dj290,dj291,dj292,dj293,dj294,dj295,dj296,dj297,dj298,dj299,dj300,H⟩:=hc_
     have hgl50:=hg_
     have hO94:=hO93.base (InP.toGe hi38 (apC (Ge.le hge1 (qE gr2)) (apC k1056.ge' apN)) (qE gr118))
     have hb19:=ht550_l10.ge'
     have gr120:=qN gr118 hgl50 (apC (Ge.le hge1 (qE gr2)) (apC k1056.ge' apN))
     have k1083:=k1057.goL hgl50 (apC dj273 (apC dj274 apN))
     refine yp (h:=(yp (h:=(yp (h:=(yp (h:=(yp (h:=(ze (za (zd (zd (zb (yp (h:=(zg rfl (zY Tryz.underlying64 rfl rfl) (yp (h:=(zV 3 (fun L' w'=>∃ q36:Bool,L'=[(63,.bool q36),(0,.slice A_l l.length c_l),(1,.int .i64 (4:Int)),(6,.slice a1 t370.length a2),(8,.pointer (some ⟨g_a,0,none⟩)),(9,.slice s8 (((([]++([a4]:List Nat))++([a6]:List Nat))++([a7]:List Nat)).length) t5),(10,.int .i64 (3:Int)),(11,.pointer (some ⟨a5,0,none⟩))]/\(!decide (t55120=Er.ok))=q36/\w132=w') ?_ (fun hQ=>?_)))))))))))))))))))))
     ·rintro _ _ ⟨q36,rfl,rfl,rfl⟩
      refine ze (za (zm rfl (fun b49=>?_) (fun b49=>?_)))
      ·replace H:=H.1 (jw b49)
       exact zd (zb (yp (h:=(ze (za (zt (zf (zj (zf (zf (zj (zf (zD rfl rfl ⟨gr120,false,rfl,H⟩)))))))))))))
      replace H:=H.2 (jq b49)
      refine zo (za (zb (yp (h:=(yp (h:=(z5 qD rfl rfl rfl (qJ rfl jl) rfl (by omega) (fun g10 w135 hB66 hg62 hl10=>?_))))))))
      have hO95:Own vQ w135 w.heap.size 64 (some ⟨g10,0,none⟩) 1 ([a5]:List Nat):=Own.ofBl hB66 (Nat.le_trans (qE gr120) hl10) (by simp [maxLen]) rfl
      have gr121:=qG gr120 hg62
      have k1090:=hB65.g0 hg62
      have k1092:=(k1051.goL hgl50 (apC dj241 (apC (InP.dj hi36 k1004.lt' (apC dj241 (apC (InP.dj hi34 k971.lt' (apC dj241 (apC dj242 apN))).symm apN))).symm apN))).g0 hg62
      have k1095:=(k1054.goL hgl50 (apC dj259 (apC (InP.dj hi36 k1009.lt' (apC dj259 (apC dj260 apN))).symm apN))).g0 hg62
      have k1098:=(k1059.goL hgl50 (apC dj277 (apC dj278 apN))).g0 hg62
      have k1100:=(hO90.goL hgl50 (apC (Dj.app (Dj.app (Dj.app (p:=none) Dj.nl k959.lt' hk7) k990.lt' hk8) k1034.lt' hk9) (apC (Dj.app (InP.dj hi36 hO84.lt' (apC (Dj.app (Dj.app (p:=none) Dj.nl k959.lt' hk7) k990.lt' hk8) (apC (Dj.app (InP.dj hi34 hO78.lt' (apC (Dj.app (p:=none) Dj.nl k959.lt' hk7) (apC (Dj.app (p:=none) Dj.nl k960.lt' hk7) apN))).symm k995.lt' hk8) apN))).symm k1042.lt' hk9) apN))).grown hg62
      have k1101:=hO94.grown hg62
      have k1104:=ht55010.g0 hg62
      refine z4 qD rfl rfl One.vQ k1100 rfl rfl hO95.rd rfl rfl (by simp) (jT (c:=7) (by simp)) (qE gr121) (fun f7 f8 w136 hO96 hg63 hk10=>yp (h:=(ze (zi (za (zb (yp (h:=(zg rfl (zR (v:=.int .i64 (4:Int)) (Yld.add rfl rfl (by simp only [In]; omega)) rfl) (yp (h:=(ze (qf (WCL.one (zd (zd (zb (yp (h:=(yp (h:=(yp (h:=(ze (za (zm rfl (fun h=>by cases h) (fun _=>zy (zk (zk (zl (za (zd (zd (zb (yp (h:=(ze (za (WC.block ?_)))))))))))))))))))))))))))))))))))))))
      obtain ⟨I4,mu4,a1h,HR4⟩:=H
      refine z3 (fun n' L' w'=>∃ (i4:Int),∃ (t55027:Int),∃ (t55028:Int),∃ (t55029:Int),∃ (t550210:Int),n'=mu4 i4 t55027 t55028 t55029 t550210/\L'=[(0,.slice A_l l.length c_l),(1,.int .i64 (4:Int)),(6,.slice a1 t370.length a2),(8,.pointer (some ⟨g_a,0,none⟩)),(9,.slice f7 ((((([]++([a4]:List Nat))++([a6]:List Nat))++([a7]:List Nat))++([a5]:List Nat)).length) f8),(13,.int .i64 i4)]/\I4 i4 t55027 t55028 t55029 t550210/\w.grownBy w' none/\Own vv w' w.heap.size 32 a1 a2 a3/\RelD deV w' a3 t370/\Bl w' g_a 166 [.slice m8 a_112.length m9,.bool a_113,.int .i64 a_114]/\Own vv w' w.heap.size 32 d9 e2 c9/\Bl w' a4 168 [.iface 61 (.pointer (some ⟨g_a,0,none⟩)),.slice d9 e6.length e2,.int .i64 t55027,.bool c3,.bool d6]/\RelD deV w' c9 e6/\Own vv w' w.heap.size 32 e0 e3 d0/\Bl w' a6 168 [.iface 61 (.pointer (some ⟨g_a,0,none⟩)),.slice e0 e7.length e3,.int .i64 t55028,.bool c4,.bool d7]/\RelD deV w' d0 e7/\Own vv w' w.heap.size 32 e1 e4 d1/\Bl w' a7 168 [.iface 61 (.pointer (some ⟨g_a,0,none⟩)),.slice e1 e8.length e4,.int .i64 t55029,.bool c5,.bool d8]/\RelD deV w' d1 e8/\Own vv w' w.heap.size 32 m8 m9 l5/\RelD deV w' l5 a_112/\Own vv w' w.heap.size 32 c7 c8 c0/\Bl w' a5 168 [.iface 61 (.pointer (some ⟨g_a,0,none⟩)),.slice c7 c6.length c8,.int .i64 t550210,.bool b0,.bool c2]/\RelD deV w' c0 c6/\Own vQ w' w.heap.size 64 f7 f8 (((([]++([a4]:List Nat))++([a6]:List Nat))++([a7]:List Nat))++([a5]:List Nat))) _ _ ⟨(0:Int),p5,p6,p7,o6,rfl,rfl,a1h,(js gr121 hg63 k1100.ge'),(((k1047.goL hgl50 (apC (Dj.new k1.lt' hge1) (apC (InP.dj hi36 k1000.lt' (apC (Dj.new k1.lt' hge1) (apC (InP.dj hi34 k965.lt' (apC (Dj.new k1.lt' hge1) (apC (InP.dj hi32 k6.lt' (apC (Dj.new k1.lt' hge1) (apC (Dj.new k1.lt' hb3) apN))).symm apN))).symm apN))).symm apN))).grown hg62).go hg63 ((Dj.app (Dj.app (Dj.app (p:=none) Dj.nl k957.lt' hk7) k988.lt' hk8) k1032.lt' hk9).symm)),(((k1048.goL hgl50 (apC (a0.new hge1) (apC (RelD.inp k1001 (apC (a0.new hge1) (apC (RelD.inp k966 (apC (a0.new hge1) (apC (RelD.inp k7 (apC (a0.new hge1) (apC (a0.new hb3) apN)) hi32) apN)) hi34) apN)) hi36) apN))).grown hg62).go hg63 (RelD.app k1033 (RelD.app k989 (RelD.app k958 (DnD.none k958) hk7) hk8) hk9)),(k1090.go hg63 ((Dj.app (Dj.app (Dj.app (p:=none) Dj.nl k959.lt' hk7) k990.lt' hk8) k1034.lt' hk9).symm)),(((k1050.goL hgl50 (apC dj239 (apC (InP.dj hi36 k1003.lt' (apC dj239 (apC (InP.dj hi34 k970.lt' (apC dj239 (apC dj240 apN))).symm apN))).symm apN))).grown hg62).go hg63 ((Dj.app (Dj.app (Dj.app (p:=none) Dj.nl k962.lt' hk7) k991.lt' hk8) k1035.lt' hk9).symm)),(k1092.go hg63 ((Dj.app (Dj.app (Dj.app (p:=none) Dj.nl k963.lt' hk7) k992.lt' hk8) k1036.lt' hk9).symm)),(((k1052.goL hgl50 (apC dj243 (apC (RelD.inp k1005 (apC dj243 (apC (RelD.inp k972 (apC dj243 (apC dj244 apN)) hi34) apN)) hi36) apN))).grown hg62).go hg63 (RelD.app k1037 (RelD.app k993 (RelD.app k964 (DnD.none k964) hk7) hk8) hk9)),(((k1053.goL hgl50 (apC dj257 (apC (InP.dj hi36 k1008.lt' (apC dj257 (apC dj258 apN))).symm apN))).grown hg62).go hg63 ((Dj.app (Dj.app (Dj.new hO78.lt' hb17) k997.lt' hk8) k1038.lt' hk9).symm)),(k1095.go hg63 ((Dj.app (Dj.app (Dj.new hO78.lt' hge12) k998.lt' hk8) k1039.lt' hk9).symm)),(((k1055.goL hgl50 (apC dj261 (apC (RelD.inp k1010 (apC dj261 (apC dj262 apN)) hi36) apN))).grown hg62).go hg63 (RelD.app k1040 (RelD.app k999 (ho78 _ hO78.lt' (RelD.app k961 (DnD.none k961) hk7)) hk8) hk9)),(((k1058.goL hgl50 (apC dj275 (apC dj276 apN))).grown hg62).go hg63 ((Dj.app (Dj.new hO84.lt' hb18) k1044.lt' hk9).symm)),(k1098.go hg63 ((Dj.app (Dj.new hO84.lt' hge13) k1045.lt' hk9).symm)),(((k1060.goL hgl50 (apC dj279 (apC dj280 apN))).grown hg62).go hg63 (RelD.app k1046 (ho81 _ hO84.lt' (RelD.app k996 (ho77 _ hO78.lt' (RelD.app k961 (DnD.none k961) hk7)) hk8)) hk9)),(k1101.go hg63 (InP.dj hi38 hO90.lt' (apC (Dj.app (Dj.app (Dj.app (p:=none) Dj.nl k959.lt' hk7) k990.lt' hk8) k1034.lt' hk9) (apC (Dj.app (InP.dj hi36 hO84.lt' (apC (Dj.app (Dj.app (p:=none) Dj.nl k959.lt' hk7) k990.lt' hk8) (apC (Dj.app (InP.dj hi34 hO78.lt' (apC (Dj.app (p:=none) Dj.nl k959.lt' hk7) (apC (Dj.app (p:=none) Dj.nl k960.lt' hk7) apN))).symm k995.lt' hk8) apN))).symm k1042.lt' hk9) apN)))),((hr38.grown hg62).go hg63 (ho83 _ hO90.lt' (RelD.app k1043 (ho80 _ hO84.lt' (RelD.app k996 (ho77 _ hO78.lt' (RelD.app k961 (DnD.none k961) hk7)) hk8)) hk9))),(((ht550_l10.base (fun g hg=>Nat.le_trans (qE gr118) (hb19 g hg))).grown hg62).go hg63 ((Dj.new hO90.lt' hb19).symm)),(k1104.go hg63 ((Dj.new hO90.lt' hge14).symm)),((r3.grown hg62).go hg63 (ho84 _ hO90.lt' (RelD.app k1043 (ho80 _ hO84.lt' (RelD.app k996 (ho77 _ hO78.lt' (RelD.app k961 (DnD.none k961) hk7)) hk8)) hk9))),hO96⟩ sb ?_
      clear a1h
      rintro _ _ w137 ⟨i4,t55027,t55028,t55029,t550210,rfl,rfl,hI4,gr123,k1123,k1124,k1125,k1126,k1127,k1128,k1129,k1130,k1131,k1132,k1133,k1134,k1135,k1136,k1137,k1138,k1139,k1140⟩
      have H:=HR4 i4 t55027 t55028 t55029 t550210 hI4
      refine zd (zd (zb (yp (h:=(yp (h:=(yp (h:=(yp (h:=(ze (za (zm rfl (fun b50=>?_) (fun b50=>?_))))))))))))))
      ·replace H:=H.1 (of_decide_eq_true b50)
       refine zo (za (zd (WC.block (zd (zb (yp (h:=(ze (za (WC.block (qv (WCL.one (zd (zd (zb (yp (h:=(yp (h:=(yp (h:=(ze (za (zm rfl (fun _=>zo (za (zd (WC.block (zd (zb (yp (h:=(yp (h:=(zg rfl (zB qD k1140.rd rfl rfl rfl rfl (by omega) (by simp)) (zg rfl (zR (v:=.pointer (some ⟨a4,0,none⟩)) (zM 0 qD k1140.rd rfl rfl (by simp)) rfl) (zx rfl rfl (qK k1135.rd rfl k1136 k1125 k1126.rd rfl k1128 k1127 (apC (Dn.of (InP.dj hi38 k1051.lt' (apC dj241 (apC (InP.dj hi36 k1004.lt' (apC dj241 (apC (InP.dj hi34 k971.lt' (apC dj241 (apC dj242 apN))).symm apN))).symm apN))).symm.symm) apN) (apC (ho83 _ k1051.lt' (ho80 _ k1004.lt' (ho77 _ k971.lt' dj246))) apN) (apC dj241.symm apN) (apC (Dn.of dj235) apN) (apC dj234 apN) H) ?_))))))))))))) (fun h=>by cases h)))))))))))))))))))))))))
       rintro _ w138 ⟨hgl51,v_t8407,F_t8407,t8407,t8417,n0,rfl,ht8407,ho85,hB67,dj301,H⟩
       have gr124:=qN gr123 hgl51 (apC (Ge.le hge11 (qE gr4)) apN)
       have k1141:=k1123.goL hgl51 (apC (Dj.new k6.lt' hge11) apN)
       have k1142:=k1124.goL hgl51 (apC (k7.new hge11) apN)
       have k1143:=k1125.goL hgl51 (apC dj241.symm apN)
       have k1144:=k1126.goL hgl51 (apC dj235 apN)
       have k1145:=k1128.goL hgl51 (apC dj234 apN)
       have k1146:=k1129.goL hgl51 (apC (Dj.new k971.lt' hb17).symm apN)
       have k1147:=k1130.goL hgl51 (apC (Dj.new k971.lt' hge12).symm apN)
       have k1148:=k1131.goL hgl51 (apC (ho78 _ k971.lt' dj246) apN)
       have k1149:=k1132.goL hgl51 (apC (Dj.new k1004.lt' hb18).symm apN)
       have k1150:=k1133.goL hgl51 (apC (Dj.new k1004.lt' hge13).symm apN)
       have k1151:=k1134.goL hgl51 (apC (ho81 _ k1004.lt' (ho77 _ k971.lt' dj246)) apN)
       have k1152:=k1135.goL hgl51 (apC (InP.dj hi38 k1051.lt' (apC dj241 (apC (InP.dj hi36 k1004.lt' (apC dj241 (apC (InP.dj hi34 k971.lt' (apC dj241 (apC dj242 apN))).symm apN))).symm apN))).symm.symm apN)
       have k1153:=k1136.goL hgl51 (apC (ho83 _ k1051.lt' (ho80 _ k1004.lt' (ho77 _ k971.lt' dj246))) apN)
       have k1154:=k1137.goL hgl51 (apC (Dj.new k1051.lt' hb19).symm apN)
       have k1155:=k1138.goL hgl51 (apC (Dj.new k1051.lt' hge14).symm apN)
       have k1156:=k1139.goL hgl51 (apC (ho84 _ k1051.lt' (ho80 _ k1004.lt' (ho77 _ k971.lt' dj246))) apN)
       have k1157:=k1140.goL hgl51 (apC (Dj.app (Dj.app (Dj.app (Dj.app (p:=none) Dj.nl k963.lt' hk7) k992.lt' hk8) k1036.lt' hk9) k1092.lt' hk10).symm.symm apN)
       refine yp (h:=(yp (h:=(yp (h:=(yp (h:=(yp (h:=(ze (za (zd (zW (fun k => !(Nat.beq k 4 || Nat.beq k 9)) (LD [8] (fun w'=>Rd vv w' a1 a2 a3)) jx (by kernel_rfl) (fun k w' h _=>(jQ h k1141.rd)) (zA rfl rfl (fun w' hw'=>zh qD rfl) (zA rfl rfl (fun w' hw'=>zh qD rfl) (zA rfl rfl (fun w' hw'=>zh qD rfl) ?_))))))))))))))))
       obtain ⟨J16,H,hJ16⟩:=H
       refine qr 9 (fun L' w'=>∃ q37:Bool,L'=[(98,.bool q37),(0,.slice A_l l.length c_l),(1,.int .i64 (4:Int)),(6,.slice a1 t370.length a2),(8,.pointer (some ⟨g_a,0,none⟩)),(9,.slice f7 ((((([]++([a4]:List Nat))++([a6]:List Nat))++([a7]:List Nat))++([a5]:List Nat)).length) f8),(13,.int .i64 i4),(14,.int .i64 (0:Int))]/\J16 q37/\w.grownBy w' none/\Own vv w' w.heap.size 32 a1 a2 a3/\RelD deV w' a3 t370/\Bl w' g_a 166 [.slice m8 a_112.length m9,.bool a_113,.int .i64 a_114]/\Own vv w' w.heap.size 32 d9 e2 c9/\Bl w' a4 168 [.iface 61 (.pointer (some ⟨g_a,0,none⟩)),.slice d9 e6.length e2,.int .i64 n0,.bool c3,.bool d6]/\RelD deV w' c9 e6/\Own vv w' w.heap.size 32 e0 e3 d0/\Bl w' a6 168 [.iface 61 (.pointer (some ⟨g_a,0,none⟩)),.slice e0 e7.length e3,.int .i64 t55028,.bool c4,.bool d7]/\RelD deV w' d0 e7/\Own vv w' w.heap.size 32 e1 e4 d1/\Bl w' a7 168 [.iface 61 (.pointer (some ⟨g_a,0,none⟩)),.slice e1 e8.length e4,.int .i64 t55029,.bool c5,.bool d8]/\RelD deV w' d1 e8/\Own vv w' w.heap.size 32 m8 m9 l5/\RelD deV w' l5 a_112/\Own vv w' w.heap.size 32 c7 c8 c0/\Bl w' a5 168 [.iface 61 (.pointer (some ⟨g_a,0,none⟩)),.slice c7 c6.length c8,.int .i64 t550210,.bool b0,.bool c2]/\RelD deV w' c0 c6/\Own vQ w' w.heap.size 64 f7 f8 (((([]++([a4]:List Nat))++([a6]:List Nat))++([a7]:List Nat))++([a5]:List Nat))) ?_ (fun hQ=>?_)
       ·clear H
        rintro _ w139 ⟨q37,rfl,H,gr125,k1158,k1159,k1160,k1161,k1162,k1163,k1164,k1165,k1166,k1167,k1168,k1169,k1170,k1171,k1172,k1173,k1174,k1175⟩
        replace H:=hJ16 q37 H
        refine qh (za (zm rfl (fun b51=>?_) (fun b51=>?_)))
        ·replace H:=H.1 (b51)
         exact zd (zb (yp (h:=(ze (za (zt (zj (zf (zf (zj (zj (zf (zf (zj (zf (zD rfl rfl ⟨gr125,false,rfl,H⟩))))))))))))))))
        replace H:=H.2 (b51)
        refine zo (zi (za (zb (yp (h:=(zg rfl (zR (v:=.int .i64 (1:Int)) (Yld.add rfl rfl (by simp only [In]; omega)) rfl) (yp (h:=(ze (qf (WCL.one (zd (zd (zb (yp (h:=(yp (h:=(yp (h:=(ze (za (zm rfl (fun _=>zo (za (zd (WC.block (zd (zb (yp (h:=(yp (h:=(zg rfl (zB qD k1175.rd rfl rfl rfl rfl (by omega) (by simp)) (zg rfl (zR (v:=.pointer (some ⟨a6,0,none⟩)) (zM 0 qD k1175.rd rfl rfl (by simp)) rfl) (zx rfl rfl (qK k1170.rd rfl k1171 k1160 k1164.rd rfl k1166 k1165 (apC (Dn.of (InP.dj hi38 k1054.lt' (apC dj259 (apC (InP.dj hi36 k1009.lt' (apC dj259 (apC dj260 apN))).symm apN))).symm.symm) apN) (apC (ho83 _ k1054.lt' (ho80 _ k1009.lt' dj264)) apN) (apC dj259.symm apN) (apC (Dn.of dj253) apN) (apC dj252 apN) H) ?_))))))))))))) (fun h=>by cases h))))))))))))))))))))))))
        rintro _ w140 ⟨hgl52,v_t8408,F_t8408,t8408,t8418,n9,rfl,ht8408,ho86,hB68,dj302,H⟩
        have gr126:=qN gr125 hgl52 (apC (Ge.le hge12 (qE gr110)) apN)
        have k1176:=k1158.goL hgl52 (apC (Dj.new k965.lt' hge12) apN)
        have k1177:=k1159.goL hgl52 (apC (k966.new hge12) apN)
        have k1178:=k1160.goL hgl52 (apC dj259.symm apN)
        have k1179:=k1161.goL hgl52 (apC (Dj.new k970.lt' hge12) apN)
        have k1180:=k1162.goL hgl52 (apC (Dj.new k971.lt' hge12) apN)
        have k1181:=k1163.goL hgl52 (apC (k972.new hge12) apN)
        have k1182:=k1164.goL hgl52 (apC dj253 apN)
        have k1183:=k1166.goL hgl52 (apC dj252 apN)
        have k1184:=k1167.goL hgl52 (apC (Dj.new k1009.lt' hb18).symm apN)
        have k1185:=k1168.goL hgl52 (apC (Dj.new k1009.lt' hge13).symm apN)
        have k1186:=k1169.goL hgl52 (apC (ho81 _ k1009.lt' dj264) apN)
        have k1187:=k1170.goL hgl52 (apC (InP.dj hi38 k1054.lt' (apC dj259 (apC (InP.dj hi36 k1009.lt' (apC dj259 (apC dj260 apN))).symm apN))).symm.symm apN)
        have k1188:=k1171.goL hgl52 (apC (ho83 _ k1054.lt' (ho80 _ k1009.lt' dj264)) apN)
        have k1189:=k1172.goL hgl52 (apC (Dj.new k1054.lt' hb19).symm apN)
        have k1190:=k1173.goL hgl52 (apC (Dj.new k1054.lt' hge14).symm apN)
        have k1191:=k1174.goL hgl52 (apC (ho84 _ k1054.lt' (ho80 _ k1009.lt' dj264)) apN)
        have k1192:=k1175.goL hgl52 (apC (Dj.app (Dj.app (Dj.app (Dj.new hO78.lt' hge12) k998.lt' hk8) k1039.lt' hk9) k1095.lt' hk10).symm.symm apN)
        refine yp (h:=(yp (h:=(yp (h:=(yp (h:=(yp (h:=(ze (za (zd (zW (fun k => !(Nat.beq k 4 || Nat.beq k 9)) (LD [8] (fun w'=>Rd vv w' a1 a2 a3)) jx (by kernel_rfl) (fun k w' h _=>(jQ h k1176.rd)) (zA rfl rfl (fun w' hw'=>zh qD rfl) (zA rfl rfl (fun w' hw'=>zh qD rfl) (zA rfl rfl (fun w' hw'=>zh qD rfl) ?_))))))))))))))))
        obtain ⟨J17,H,hJ17⟩:=H
        refine qr 9 (fun L' w'=>∃ q38:Bool,L'=[(98,.bool q38),(0,.slice A_l l.length c_l),(1,.int .i64 (4:Int)),(6,.slice a1 t370.length a2),(8,.pointer (some ⟨g_a,0,none⟩)),(9,.slice f7 ((((([]++([a4]:List Nat))++([a6]:List Nat))++([a7]:List Nat))++([a5]:List Nat)).length) f8),(13,.int .i64 i4),(14,.int .i64 (1:Int))]/\J17 q38/\w.grownBy w' none/\Own vv w' w.heap.size 32 a1 a2 a3/\RelD deV w' a3 t370/\Bl w' g_a 166 [.slice m8 a_112.length m9,.bool a_113,.int .i64 a_114]/\Own vv w' w.heap.size 32 d9 e2 c9/\Bl w' a4 168 [.iface 61 (.pointer (some ⟨g_a,0,none⟩)),.slice d9 e6.length e2,.int .i64 n0,.bool c3,.bool d6]/\RelD deV w' c9 e6/\Own vv w' w.heap.size 32 e0 e3 d0/\Bl w' a6 168 [.iface 61 (.pointer (some ⟨g_a,0,none⟩)),.slice e0 e7.length e3,.int .i64 n9,.bool c4,.bool d7]/\RelD deV w' d0 e7/\Own vv w' w.heap.size 32 e1 e4 d1/\Bl w' a7 168 [.iface 61 (.pointer (some ⟨g_a,0,none⟩)),.slice e1 e8.length e4,.int .i64 t55029,.bool c5,.bool d8]/\RelD deV w' d1 e8/\Own vv w' w.heap.size 32 m8 m9 l5/\RelD deV w' l5 a_112/\Own vv w' w.heap.size 32 c7 c8 c0/\Bl w' a5 168 [.iface 61 (.pointer (some ⟨g_a,0,none⟩)),.slice c7 c6.length c8,.int .i64 t550210,.bool b0,.bool c2]/\RelD deV w' c0 c6/\Own vQ w' w.heap.size 64 f7 f8 (((([]++([a4]:List Nat))++([a6]:List Nat))++([a7]:List Nat))++([a5]:List Nat))) ?_ (fun hQ=>?_)
        ·clear H
         rintro _ w141 ⟨q38,rfl,H,gr127,k1193,k1194,k1195,k1196,k1197,k1198,k1199,k1200,k1201,k1202,k1203,k1204,k1205,k1206,k1207,k1208,k1209,k1210⟩
         replace H:=hJ17 q38 H
         refine qh (za (zm rfl (fun b52=>?_) (fun b52=>?_)))
         ·replace H:=H.1 (b52)
          exact zd (zb (yp (h:=(ze (za (zt (zj (zf (zf (zj (zj (zf (zf (zj (zf (zD rfl rfl ⟨gr127,false,rfl,H⟩))))))))))))))))
         replace H:=H.2 (b52)
         refine zo (zi (za (zb (yp (h:=(zg rfl (zR (v:=.int .i64 (2:Int)) (Yld.add rfl rfl (by simp only [In]; omega)) rfl) (yp (h:=(ze (qf (WCL.one (zd (zd (zb (yp (h:=(yp (h:=(yp (h:=(ze (za (zm rfl (fun _=>zo (za (zd (WC.block (zd (zb (yp (h:=(yp (h:=(zg rfl (zB qD k1210.rd rfl rfl rfl rfl (by omega) (by simp)) (zg rfl (zR (v:=.pointer (some ⟨a7,0,none⟩)) (zM 0 qD k1210.rd rfl rfl (by simp)) rfl) (zx rfl rfl (qK k1205.rd rfl k1206 k1195 k1202.rd rfl k1204 k1203 (apC (Dn.of (InP.dj hi38 k1059.lt' (apC dj277 (apC dj278 apN))).symm.symm) apN) (apC (ho83 _ k1059.lt' dj282) apN) (apC dj277.symm apN) (apC (Dn.of dj271) apN) (apC dj270 apN) H) ?_))))))))))))) (fun h=>by cases h))))))))))))))))))))))))
         rintro _ w142 ⟨hgl53,v_t8409,F_t8409,t8409,t8419,o3,rfl,ht8409,ho87,hB69,dj303,H⟩
         have gr128:=qN gr127 hgl53 (apC (Ge.le hge13 (qE gr114)) apN)
         have k1211:=k1193.goL hgl53 (apC (Dj.new k1000.lt' hge13) apN)
         have k1212:=k1194.goL hgl53 (apC (k1001.new hge13) apN)
         have k1213:=k1195.goL hgl53 (apC dj277.symm apN)
         have k1214:=k1196.goL hgl53 (apC (Dj.new k1003.lt' hge13) apN)
         have k1215:=k1197.goL hgl53 (apC (Dj.new k1004.lt' hge13) apN)
         have k1216:=k1198.goL hgl53 (apC (k1005.new hge13) apN)
         have k1217:=k1199.goL hgl53 (apC (Dj.new k1008.lt' hge13) apN)
         have k1218:=k1200.goL hgl53 (apC (Dj.new k1009.lt' hge13) apN)
         have k1219:=k1201.goL hgl53 (apC (k1010.new hge13) apN)
         have k1220:=k1202.goL hgl53 (apC dj271 apN)
         have k1221:=k1204.goL hgl53 (apC dj270 apN)
         have k1222:=k1205.goL hgl53 (apC (InP.dj hi38 k1059.lt' (apC dj277 (apC dj278 apN))).symm.symm apN)
         have k1223:=k1206.goL hgl53 (apC (ho83 _ k1059.lt' dj282) apN)
         have k1224:=k1207.goL hgl53 (apC (Dj.new k1059.lt' hb19).symm apN)
         have k1225:=k1208.goL hgl53 (apC (Dj.new k1059.lt' hge14).symm apN)
         have k1226:=k1209.goL hgl53 (apC (ho84 _ k1059.lt' dj282) apN)
         have k1227:=k1210.goL hgl53 (apC (Dj.app (Dj.app (Dj.new hO84.lt' hge13) k1045.lt' hk9) k1098.lt' hk10).symm.symm apN)
         refine yp (h:=(yp (h:=(yp (h:=(yp (h:=(yp (h:=(ze (za (zd (zW (fun k => !(Nat.beq k 4 || Nat.beq k 9)) (LD [8] (fun w'=>Rd vv w' a1 a2 a3)) jx (by kernel_rfl) (fun k w' h _=>(jQ h k1211.rd)) (zA rfl rfl (fun w' hw'=>zh qD rfl) (zA rfl rfl (fun w' hw'=>zh qD rfl) (zA rfl rfl (fun w' hw'=>zh qD rfl) ?_))))))))))))))))
         obtain ⟨J18,H,hJ18⟩:=H
         refine qr 9 (fun L' w'=>∃ q39:Bool,L'=[(98,.bool q39),(0,.slice A_l l.length c_l),(1,.int .i64 (4:Int)),(6,.slice a1 t370.length a2),(8,.pointer (some ⟨g_a,0,none⟩)),(9,.slice f7 ((((([]++([a4]:List Nat))++([a6]:List Nat))++([a7]:List Nat))++([a5]:List Nat)).length) f8),(13,.int .i64 i4),(14,.int .i64 (2:Int))]/\J18 q39/\w.grownBy w' none/\Own vv w' w.heap.size 32 a1 a2 a3/\RelD deV w' a3 t370/\Bl w' g_a 166 [.slice m8 a_112.length m9,.bool a_113,.int .i64 a_114]/\Own vv w' w.heap.size 32 d9 e2 c9/\Bl w' a4 168 [.iface 61 (.pointer (some ⟨g_a,0,none⟩)),.slice d9 e6.length e2,.int .i64 n0,.bool c3,.bool d6]/\RelD deV w' c9 e6/\Own vv w' w.heap.size 32 e0 e3 d0/\Bl w' a6 168 [.iface 61 (.pointer (some ⟨g_a,0,none⟩)),.slice e0 e7.length e3,.int .i64 n9,.bool c4,.bool d7]/\RelD deV w' d0 e7/\Own vv w' w.heap.size 32 e1 e4 d1/\Bl w' a7 168 [.iface 61 (.pointer (some ⟨g_a,0,none⟩)),.slice e1 e8.length e4,.int .i64 o3,.bool c5,.bool d8]/\RelD deV w' d1 e8/\Own vv w' w.heap.size 32 m8 m9 l5/\RelD deV w' l5 a_112/\Own vv w' w.heap.size 32 c7 c8 c0/\Bl w' a5 168 [.iface 61 (.pointer (some ⟨g_a,0,none⟩)),.slice c7 c6.length c8,.int .i64 t550210,.bool b0,.bool c2]/\RelD deV w' c0 c6/\Own vQ w' w.heap.size 64 f7 f8 (((([]++([a4]:List Nat))++([a6]:List Nat))++([a7]:List Nat))++([a5]:List Nat))) ?_ (fun hQ=>?_)
         ·clear H
          rintro _ w143 ⟨q39,rfl,H,gr129,k1228,k1229,k1230,k1231,k1232,k1233,k1234,k1235,k1236,k1237,k1238,k1239,k1240,k1241,k1242,k1243,k1244,k1245⟩
          replace H:=hJ18 q39 H
          refine qh (za (zm rfl (fun b53=>?_) (fun b53=>?_)))
          ·replace H:=H.1 (b53)
           exact zd (zb (yp (h:=(ze (za (zt (zj (zf (zf (zj (zj (zf (zf (zj (zf (zD rfl rfl ⟨gr129,false,rfl,H⟩))))))))))))))))
          replace H:=H.2 (b53)
          refine zo (zi (za (zb (yp (h:=(zg rfl (zR (v:=.int .i64 (3:Int)) (Yld.add rfl rfl (by simp only [In]; omega)) rfl) (yp (h:=(ze (qf (WCL.one (zd (zd (zb (yp (h:=(yp (h:=(yp (h:=(ze (za (zm rfl (fun _=>zo (za (zd (WC.block (zd (zb (yp (h:=(yp (h:=(zg rfl (zB qD k1245.rd rfl rfl rfl rfl (by omega) (by simp)) (zg rfl (zR (v:=.pointer (some ⟨a5,0,none⟩)) (zM 0 qD k1245.rd rfl rfl (by simp)) rfl) (zx rfl rfl (qK k1240.rd rfl k1241 k1230 k1242.rd rfl k1244 k1243 (apC (Dn.of dj296.symm) apN) (apC dj300 apN) (apC dj295.symm apN) (apC (Dn.of dj289) apN) (apC dj288 apN) H) ?_))))))))))))) (fun h=>by cases h))))))))))))))))))))))))
          rintro _ w144 ⟨hgl54,v_t84010,F_t84010,t84010,t84110,o8,rfl,ht84010,ho88,hB70,dj304,H⟩
          have gr130:=qN gr129 hgl54 (apC (Ge.le hge14 (qE gr118)) apN)
          have k1246:=k1228.goL hgl54 (apC (Dj.new k1047.lt' hge14) apN)
          have k1247:=k1229.goL hgl54 (apC (k1048.new hge14) apN)
          have k1248:=k1230.goL hgl54 (apC dj295.symm apN)
          have k1249:=k1231.goL hgl54 (apC (Dj.new k1050.lt' hge14) apN)
          have k1250:=k1232.goL hgl54 (apC (Dj.new k1051.lt' hge14) apN)
          have k1251:=k1233.goL hgl54 (apC (k1052.new hge14) apN)
          have k1252:=k1234.goL hgl54 (apC (Dj.new k1053.lt' hge14) apN)
          have k1253:=k1235.goL hgl54 (apC (Dj.new k1054.lt' hge14) apN)
          have k1254:=k1236.goL hgl54 (apC (k1055.new hge14) apN)
          have k1255:=k1237.goL hgl54 (apC (Dj.new k1058.lt' hge14) apN)
          have k1256:=k1238.goL hgl54 (apC (Dj.new k1059.lt' hge14) apN)
          have k1257:=k1239.goL hgl54 (apC (k1060.new hge14) apN)
          have k1258:=k1240.goL hgl54 (apC dj296.symm apN)
          have k1259:=k1241.goL hgl54 (apC dj300 apN)
          have k1260:=k1242.goL hgl54 (apC dj289 apN)
          have k1261:=k1244.goL hgl54 (apC dj288 apN)
          have k1262:=k1245.goL hgl54 (apC (Dj.app (Dj.new hO90.lt' hge14) k1104.lt' hk10).symm.symm apN)
          refine yp (h:=(yp (h:=(yp (h:=(yp (h:=(yp (h:=(ze (za (zd (zW (fun k => !(Nat.beq k 4 || Nat.beq k 9)) (LD [8] (fun w'=>Rd vv w' a1 a2 a3)) jx (by kernel_rfl) (fun k w' h _=>(jQ h k1246.rd)) (zA rfl rfl (fun w' hw'=>zh qD rfl) (zA rfl rfl (fun w' hw'=>zh qD rfl) (zA rfl rfl (fun w' hw'=>zh qD rfl) ?_))))))))))))))))
          obtain ⟨J19,H,hJ19⟩:=H
          refine qr 9 (fun L' w'=>∃ q40:Bool,L'=[(98,.bool q40),(0,.slice A_l l.length c_l),(1,.int .i64 (4:Int)),(6,.slice a1 t370.length a2),(8,.pointer (some ⟨g_a,0,none⟩)),(9,.slice f7 ((((([]++([a4]:List Nat))++([a6]:List Nat))++([a7]:List Nat))++([a5]:List Nat)).length) f8),(13,.int .i64 i4),(14,.int .i64 (3:Int))]/\J19 q40/\w.grownBy w' none/\Own vv w' w.heap.size 32 a1 a2 a3/\RelD deV w' a3 t370/\Bl w' g_a 166 [.slice m8 a_112.length m9,.bool a_113,.int .i64 a_114]/\Own vv w' w.heap.size 32 d9 e2 c9/\Bl w' a4 168 [.iface 61 (.pointer (some ⟨g_a,0,none⟩)),.slice d9 e6.length e2,.int .i64 n0,.bool c3,.bool d6]/\RelD deV w' c9 e6/\Own vv w' w.heap.size 32 e0 e3 d0/\Bl w' a6 168 [.iface 61 (.pointer (some ⟨g_a,0,none⟩)),.slice e0 e7.length e3,.int .i64 n9,.bool c4,.bool d7]/\RelD deV w' d0 e7/\Own vv w' w.heap.size 32 e1 e4 d1/\Bl w' a7 168 [.iface 61 (.pointer (some ⟨g_a,0,none⟩)),.slice e1 e8.length e4,.int .i64 o3,.bool c5,.bool d8]/\RelD deV w' d1 e8/\Own vv w' w.heap.size 32 m8 m9 l5/\RelD deV w' l5 a_112/\Own vv w' w.heap.size 32 c7 c8 c0/\Bl w' a5 168 [.iface 61 (.pointer (some ⟨g_a,0,none⟩)),.slice c7 c6.length c8,.int .i64 o8,.bool b0,.bool c2]/\RelD deV w' c0 c6/\Own vQ w' w.heap.size 64 f7 f8 (((([]++([a4]:List Nat))++([a6]:List Nat))++([a7]:List Nat))++([a5]:List Nat))) ?_ (fun hQ=>?_)
          ·clear H
           rintro _ w145 ⟨q40,rfl,H,gr131,k1263,k1264,k1265,k1266,k1267,k1268,k1269,k1270,k1271,k1272,k1273,k1274,k1275,k1276,k1277,k1278,k1279,k1280⟩
           replace H:=hJ19 q40 H
           refine qh (za (zm rfl (fun b54=>?_) (fun b54=>?_)))
           ·replace H:=H.1 (b54)
            exact zd (zb (yp (h:=(ze (za (zt (zj (zf (zf (zj (zj (zf (zf (zj (zf (zD rfl rfl ⟨gr131,false,rfl,H⟩))))))))))))))))
           replace H:=H.2 (b54)
           refine zo (zi (za (zb (yp (h:=(zg rfl (zR (v:=.int .i64 (4:Int)) (Yld.add rfl rfl (by simp only [In]; omega)) rfl) (yp (h:=(ze (qf (WCL.one (zd (zd (zb (yp (h:=(yp (h:=(yp (h:=(ze (za (zm rfl (fun h=>by cases h) (fun _=>zy (zk (zk (zl (zi (za (zb (yp (h:=?_))))))))))))))))))))))))))))))))
           obtain ⟨h12,H⟩:=H
           exact zg rfl (Yld.add rfl rfl h12) (yp (h:=(ze (zX _ ⟨i4+(1:Int),n0,n9,o3,o8,rfl,rfl,H.1,gr131,k1263,k1264,k1265,k1266,k1267,k1268,k1269,k1270,k1271,k1272,k1273,k1274,k1275,k1276,k1277,k1278,k1279,k1280⟩ sb H.2))))
          clear hJ19
          rcases Bool.eq_false_or_eq_true (!t84110) with b55 | b55
          ·replace H:=H.1 b55
           exact zS rfl rfl (okb b55) rfl (zS rfl rfl (okb b55) rfl (zS rfl rfl (okb b55) rfl (zS rfl rfl (okb b55) rfl (zS rfl rfl (okb b55) rfl (zS rfl rfl (okb b55) rfl (zS rfl rfl (okb b55) rfl (zS rfl rfl (okb b55) rfl (zA rfl rfl (fun w' hw'=>zQ (okb b55) rfl) (WJ.weaken sb (hQ _ _ ⟨true,rfl,H,gr130,k1246,k1247,k1248,k1249,k1250,k1251,k1252,k1253,k1254,k1255,k1256,k1257,k1258,k1259,k1260,hB70,k1261,k1262⟩))))))))))
          replace H:=H.2 b55
          refine zU rfl (qF rfl rfl (okb b55)) rfl (fun w' hw'=>zh qD rfl) (z7 rfl (qF rfl rfl (okb b55)) rfl rfl (jn ht84010 H) (fun v w' h w2 e=>DD.keep (Rd.grown k1246.rd (jo h.1 e))) ?_)
          rintro _ w146 ⟨hg64,t917,rfl,H⟩
          have k1281:=k1246.grown hg64
          have k1282:=k1247.grown hg64
          have k1299:=ht84010.grown hg64
          refine zU rfl (qF rfl rfl (okb b55)) rfl (fun w' hw'=>zh qD rfl) (zU rfl (qF rfl rfl (okb b55)) rfl (fun w' hw'=>zh qD rfl) ?_)
          obtain ⟨h13,H⟩:=H
          refine zU rfl (qF rfl rfl (okb b55)) rfl (fun w' hw'=>zB qD k1281.rd rfl rfl a0.1.symm rfl h13.1 h13.2) ?_
          obtain ⟨⟨v_el7,F_el7⟩,eh7,hR7⟩:=RelD.at k1282 vh0 PV.nil (j:=i4.toNat) (Nat.lt_of_lt_of_eq (iltN h13 a0.1.symm) k1282.1)
          have hv7:RelD deV w146 [(v_el7,F_el7)] [t370.getD i4.toNat PV.nil]:=RelD.cons hR7 RelD.nil
          refine zU rfl (qF rfl rfl (okb b55)) rfl (fun w' hw'=>zR (v:=v_el7.1) (zM vh0 qD (hw' rfl) rfl rfl (iltN h13 a0.1.symm)) (congrArg vv eh7)) (z7 rfl (qF rfl rfl (okb b55)) rfl rfl (jn hv7 H) (fun v w' h w2 e=>DD.keep (Rd.grown k1281.rd (jo h.1 e))) ?_)
          rintro _ w147 ⟨hg65,t967,rfl,H⟩
          have k1318:=hv7.grown hg65
          exact zU rfl (qF rfl rfl (okb b55)) rfl (fun w' hw'=>zh qD rfl) (zA rfl rfl (fun w' hw'=>zK (okb b55) rfl) (WJ.weaken sb (hQ _ _ ⟨!decide (t917=t967),rfl,H,(qG (qG gr130 hg64) hg65),(k1281.grown hg65),(k1282.grown hg65),((k1248.g0 hg64).g0 hg65),((k1249.grown hg64).grown hg65),((k1250.g0 hg64).g0 hg65),((k1251.grown hg64).grown hg65),((k1252.grown hg64).grown hg65),((k1253.g0 hg64).g0 hg65),((k1254.grown hg64).grown hg65),((k1255.grown hg64).grown hg65),((k1256.g0 hg64).g0 hg65),((k1257.grown hg64).grown hg65),((k1258.grown hg64).grown hg65),((k1259.grown hg64).grown hg65),((k1260.grown hg64).grown hg65),((hB70.g0 hg64).g0 hg65),((k1261.grown hg64).grown hg65),((k1262.grown hg64).grown hg65)⟩)))
         clear hJ18
         rcases Bool.eq_false_or_eq_true (!t8419) with b56 | b56
         ·replace H:=H.1 b56
          exact zS rfl rfl (okb b56) rfl (zS rfl rfl (okb b56) rfl (zS rfl rfl (okb b56) rfl (zS rfl rfl (okb b56) rfl (zS rfl rfl (okb b56) rfl (zS rfl rfl (okb b56) rfl (zS rfl rfl (okb b56) rfl (zS rfl rfl (okb b56) rfl (zA rfl rfl (fun w' hw'=>zQ (okb b56) rfl) (WJ.weaken sb (hQ _ _ ⟨true,rfl,H,gr128,k1211,k1212,k1213,k1214,k1215,k1216,k1217,k1218,k1219,k1220,hB69,k1221,k1222,k1223,k1224,k1225,k1226,k1227⟩))))))))))
         replace H:=H.2 b56
         refine zU rfl (qF rfl rfl (okb b56)) rfl (fun w' hw'=>zh qD rfl) (z7 rfl (qF rfl rfl (okb b56)) rfl rfl (jn ht8409 H) (fun v w' h w2 e=>DD.keep (Rd.grown k1211.rd (jo h.1 e))) ?_)
         rintro _ w148 ⟨hg66,t918,rfl,H⟩
         have k1319:=k1211.grown hg66
         have k1320:=k1212.grown hg66
         have k1337:=ht8409.grown hg66
         refine zU rfl (qF rfl rfl (okb b56)) rfl (fun w' hw'=>zh qD rfl) (zU rfl (qF rfl rfl (okb b56)) rfl (fun w' hw'=>zh qD rfl) ?_)
         obtain ⟨h14,H⟩:=H
         refine zU rfl (qF rfl rfl (okb b56)) rfl (fun w' hw'=>zB qD k1319.rd rfl rfl a0.1.symm rfl h14.1 h14.2) ?_
         obtain ⟨⟨v_el8,F_el8⟩,eh8,hR8⟩:=RelD.at k1320 vh0 PV.nil (j:=i4.toNat) (Nat.lt_of_lt_of_eq (iltN h14 a0.1.symm) k1320.1)
         have hv8:RelD deV w148 [(v_el8,F_el8)] [t370.getD i4.toNat PV.nil]:=RelD.cons hR8 RelD.nil
         refine zU rfl (qF rfl rfl (okb b56)) rfl (fun w' hw'=>zR (v:=v_el8.1) (zM vh0 qD (hw' rfl) rfl rfl (iltN h14 a0.1.symm)) (congrArg vv eh8)) (z7 rfl (qF rfl rfl (okb b56)) rfl rfl (jn hv8 H) (fun v w' h w2 e=>DD.keep (Rd.grown k1319.rd (jo h.1 e))) ?_)
         rintro _ w149 ⟨hg67,t968,rfl,H⟩
         have k1356:=hv8.grown hg67
         exact zU rfl (qF rfl rfl (okb b56)) rfl (fun w' hw'=>zh qD rfl) (zA rfl rfl (fun w' hw'=>zK (okb b56) rfl) (WJ.weaken sb (hQ _ _ ⟨!decide (t918=t968),rfl,H,(qG (qG gr128 hg66) hg67),(k1319.grown hg67),(k1320.grown hg67),((k1213.g0 hg66).g0 hg67),((k1214.grown hg66).grown hg67),((k1215.g0 hg66).g0 hg67),((k1216.grown hg66).grown hg67),((k1217.grown hg66).grown hg67),((k1218.g0 hg66).g0 hg67),((k1219.grown hg66).grown hg67),((k1220.grown hg66).grown hg67),((hB69.g0 hg66).g0 hg67),((k1221.grown hg66).grown hg67),((k1222.grown hg66).grown hg67),((k1223.grown hg66).grown hg67),((k1224.grown hg66).grown hg67),((k1225.g0 hg66).g0 hg67),((k1226.grown hg66).grown hg67),((k1227.grown hg66).grown hg67)⟩)))
        clear hJ17
        rcases Bool.eq_false_or_eq_true (!t8418) with b57 | b57
        ·replace H:=H.1 b57
         exact zS rfl rfl (okb b57) rfl (zS rfl rfl (okb b57) rfl (zS rfl rfl (okb b57) rfl (zS rfl rfl (okb b57) rfl (zS rfl rfl (okb b57) rfl (zS rfl rfl (okb b57) rfl (zS rfl rfl (okb b57) rfl (zS rfl rfl (okb b57) rfl (zA rfl rfl (fun w' hw'=>zQ (okb b57) rfl) (WJ.weaken sb (hQ _ _ ⟨true,rfl,H,gr126,k1176,k1177,k1178,k1179,k1180,k1181,k1182,hB68,k1183,k1184,k1185,k1186,k1187,k1188,k1189,k1190,k1191,k1192⟩))))))))))
        replace H:=H.2 b57
        refine zU rfl (qF rfl rfl (okb b57)) rfl (fun w' hw'=>zh qD rfl) (z7 rfl (qF rfl rfl (okb b57)) rfl rfl (jn ht8408 H) (fun v w' h w2 e=>DD.keep (Rd.grown k1176.rd (jo h.1 e))) ?_)
        rintro _ w150 ⟨hg68,t919,rfl,H⟩
        have k1357:=k1176.grown hg68
        have k1358:=k1177.grown hg68
        have k1375:=ht8408.grown hg68
        refine zU rfl (qF rfl rfl (okb b57)) rfl (fun w' hw'=>zh qD rfl) (zU rfl (qF rfl rfl (okb b57)) rfl (fun w' hw'=>zh qD rfl) ?_)
        obtain ⟨h15,H⟩:=H
        refine zU rfl (qF rfl rfl (okb b57)) rfl (fun w' hw'=>zB qD k1357.rd rfl rfl a0.1.symm rfl h15.1 h15.2) ?_
        obtain ⟨⟨v_el9,F_el9⟩,eh9,hR9⟩:=RelD.at k1358 vh0 PV.nil (j:=i4.toNat) (Nat.lt_of_lt_of_eq (iltN h15 a0.1.symm) k1358.1)
        have hv9:RelD deV w150 [(v_el9,F_el9)] [t370.getD i4.toNat PV.nil]:=RelD.cons hR9 RelD.nil
        refine zU rfl (qF rfl rfl (okb b57)) rfl (fun w' hw'=>zR (v:=v_el9.1) (zM vh0 qD (hw' rfl) rfl rfl (iltN h15 a0.1.symm)) (congrArg vv eh9)) (z7 rfl (qF rfl rfl (okb b57)) rfl rfl (jn hv9 H) (fun v w' h w2 e=>DD.keep (Rd.grown k1357.rd (jo h.1 e))) ?_)
        rintro _ w151 ⟨hg69,t969,rfl,H⟩
        have k1394:=hv9.grown hg69
        exact zU rfl (qF rfl rfl (okb b57)) rfl (fun w' hw'=>zh qD rfl) (zA rfl rfl (fun w' hw'=>zK (okb b57) rfl) (WJ.weaken sb (hQ _ _ ⟨!decide (t919=t969),rfl,H,(qG (qG gr126 hg68) hg69),(k1357.grown hg69),(k1358.grown hg69),((k1178.g0 hg68).g0 hg69),((k1179.grown hg68).grown hg69),((k1180.g0 hg68).g0 hg69),((k1181.grown hg68).grown hg69),((k1182.grown hg68).grown hg69),((hB68.g0 hg68).g0 hg69),((k1183.grown hg68).grown hg69),((k1184.grown hg68).grown hg69),((k1185.g0 hg68).g0 hg69),((k1186.grown hg68).grown hg69),((k1187.grown hg68).grown hg69),((k1188.grown hg68).grown hg69),((k1189.grown hg68).grown hg69),((k1190.g0 hg68).g0 hg69),((k1191.grown hg68).grown hg69),((k1192.grown hg68).grown hg69)⟩)))
       clear hJ16
       rcases Bool.eq_false_or_eq_true (!t8417) with b58 | b58
       ·replace H:=H.1 b58
        exact zS rfl rfl (okb b58) rfl (zS rfl rfl (okb b58) rfl (zS rfl rfl (okb b58) rfl (zS rfl rfl (okb b58) rfl (zS rfl rfl (okb b58) rfl (zS rfl rfl (okb b58) rfl (zS rfl rfl (okb b58) rfl (zS rfl rfl (okb b58) rfl (zA rfl rfl (fun w' hw'=>zQ (okb b58) rfl) (WJ.weaken sb (hQ _ _ ⟨true,rfl,H,gr124,k1141,k1142,k1143,k1144,hB67,k1145,k1146,k1147,k1148,k1149,k1150,k1151,k1152,k1153,k1154,k1155,k1156,k1157⟩))))))))))
       replace H:=H.2 b58
       refine zU rfl (qF rfl rfl (okb b58)) rfl (fun w' hw'=>zh qD rfl) (z7 rfl (qF rfl rfl (okb b58)) rfl rfl (jn ht8407 H) (fun v w' h w2 e=>DD.keep (Rd.grown k1141.rd (jo h.1 e))) ?_)
       rintro _ w152 ⟨hg70,t9110,rfl,H⟩
       have k1395:=k1141.grown hg70
       have k1396:=k1142.grown hg70
       have k1413:=ht8407.grown hg70
       refine zU rfl (qF rfl rfl (okb b58)) rfl (fun w' hw'=>zh qD rfl) (zU rfl (qF rfl rfl (okb b58)) rfl (fun w' hw'=>zh qD rfl) ?_)
       obtain ⟨h16,H⟩:=H
       refine zU rfl (qF rfl rfl (okb b58)) rfl (fun w' hw'=>zB qD k1395.rd rfl rfl a0.1.symm rfl h16.1 h16.2) ?_
       obtain ⟨⟨v_el10,F_el10⟩,eh10,hR10⟩:=RelD.at k1396 vh0 PV.nil (j:=i4.toNat) (Nat.lt_of_lt_of_eq (iltN h16 a0.1.symm) k1396.1)
       have hv10:RelD deV w152 [(v_el10,F_el10)] [t370.getD i4.toNat PV.nil]:=RelD.cons hR10 RelD.nil
       refine zU rfl (qF rfl rfl (okb b58)) rfl (fun w' hw'=>zR (v:=v_el10.1) (zM vh0 qD (hw' rfl) rfl rfl (iltN h16 a0.1.symm)) (congrArg vv eh10)) (z7 rfl (qF rfl rfl (okb b58)) rfl rfl (jn hv10 H) (fun v w' h w2 e=>DD.keep (Rd.grown k1395.rd (jo h.1 e))) ?_)
       rintro _ w153 ⟨hg71,t9610,rfl,H⟩
       have k1432:=hv10.grown hg71
       exact zU rfl (qF rfl rfl (okb b58)) rfl (fun w' hw'=>zh qD rfl) (zA rfl rfl (fun w' hw'=>zK (okb b58) rfl) (WJ.weaken sb (hQ _ _ ⟨!decide (t9110=t9610),rfl,H,(qG (qG gr124 hg70) hg71),(k1395.grown hg71),(k1396.grown hg71),((k1143.g0 hg70).g0 hg71),((k1144.grown hg70).grown hg71),((hB67.g0 hg70).g0 hg71),((k1145.grown hg70).grown hg71),((k1146.grown hg70).grown hg71),((k1147.g0 hg70).g0 hg71),((k1148.grown hg70).grown hg71),((k1149.grown hg70).grown hg71),((k1150.g0 hg70).g0 hg71),((k1151.grown hg70).grown hg71),((k1152.grown hg70).grown hg71),((k1153.grown hg70).grown hg71),((k1154.grown hg70).grown hg71),((k1155.g0 hg70).g0 hg71),((k1156.grown hg70).grown hg71),((k1157.grown hg70).grown hg71)⟩)))
      replace H:=H.2 (of_decide_eq_false b50)
      refine zy (zk (zk (zl (za (zd (zd (zb (yp (h:=(ze (za (WC.block (qv (WCL.one (zd (zd (zb (yp (h:=(yp (h:=(yp (h:=(ze (za (zm rfl (fun _=>zo (za (zd (WC.block (zd (zb (yp (h:=(yp (h:=(zg rfl (zB qD k1140.rd rfl rfl rfl rfl (by omega) (by simp)) (zg rfl (zR (v:=.pointer (some ⟨a4,0,none⟩)) (zM 0 qD k1140.rd rfl rfl (by simp)) rfl) (zx rfl rfl (qK k1135.rd rfl k1136 k1125 k1126.rd rfl k1128 k1127 (apC (Dn.of (InP.dj hi38 k1051.lt' (apC dj241 (apC (InP.dj hi36 k1004.lt' (apC dj241 (apC (InP.dj hi34 k971.lt' (apC dj241 (apC dj242 apN))).symm apN))).symm apN))).symm.symm) apN) (apC (ho83 _ k1051.lt' (ho80 _ k1004.lt' (ho77 _ k971.lt' dj246))) apN) (apC dj241.symm apN) (apC (Dn.of dj235) apN) (apC dj234 apN) H) ?_))))))))))))) (fun h=>by cases h)))))))))))))))))))))))))))
      rintro _ w154 ⟨hgl55,v_t10907,F_t10907,t10907,t10917,u0,rfl,ht10907,ho89,hB71,dj305,H⟩
      have gr140:=qN gr123 hgl55 (apC (Ge.le hge11 (qE gr4)) apN)
      have k1433:=k1125.goL hgl55 (apC dj241.symm apN)
      have k1437:=k1130.goL hgl55 (apC (Dj.new k971.lt' hge12).symm apN)
      have k1440:=k1133.goL hgl55 (apC (Dj.new k1004.lt' hge13).symm apN)
      have k1442:=k1135.goL hgl55 (apC (InP.dj hi38 k1051.lt' (apC dj241 (apC (InP.dj hi36 k1004.lt' (apC dj241 (apC (InP.dj hi34 k971.lt' (apC dj241 (apC dj242 apN))).symm apN))).symm apN))).symm.symm apN)
      have k1445:=k1138.goL hgl55 (apC (Dj.new k1051.lt' hge14).symm apN)
      refine yp (h:=(yp (h:=(yp (h:=(yp (h:=(yp (h:=(ze (za (zd (zd (zb (yp (h:=(yp (h:=?_))))))))))))))))))
      rcases Bool.eq_false_or_eq_true (t10917) with b59 | b59
      ·replace H:=H.1 b59
       exact gn b59 (h:=(gn b59 (h:=(gn b59 (h:=(gn b59 (h:=(gn b59 (h:=(zg rfl (zQ (okb b59) rfl) (ze (za (zm rfl (fun _=>zd (zb (yp (h:=(ze (za (zt (zf (zj (zf (zf (zj (zf (zD rfl rfl ⟨gr140,false,rfl,H⟩)))))))))))))) (fun h=>by cases h))))))))))))))
      replace H:=H.2 b59
      refine gp b59 (h:=(zT (qF rfl rfl (okb b59)) rfl rfl (qM H) ?_))
      rintro _ w155 ⟨hg72,v_t1157,F_t1157,t1157,rfl,ht1157,ho90,H⟩
      have gr141:=qG gr140 hg72
      have k1448:=k1433.g0 hg72
      have k1449:=(k1126.goL hgl55 (apC dj235 apN)).grown hg72
      have k1450:=hB71.g0 hg72
      have k1451:=(k1128.goL hgl55 (apC dj234 apN)).grown hg72
      have k1452:=(k1129.goL hgl55 (apC (Dj.new k971.lt' hb17).symm apN)).grown hg72
      have k1453:=k1437.g0 hg72
      have k1454:=(k1131.goL hgl55 (apC (ho78 _ k971.lt' dj246) apN)).grown hg72
      have k1455:=(k1132.goL hgl55 (apC (Dj.new k1004.lt' hb18).symm apN)).grown hg72
      have k1456:=k1440.g0 hg72
      have k1457:=(k1134.goL hgl55 (apC (ho81 _ k1004.lt' (ho77 _ k971.lt' dj246)) apN)).grown hg72
      have k1458:=k1442.grown hg72
      have k1459:=(k1136.goL hgl55 (apC (ho83 _ k1051.lt' (ho80 _ k1004.lt' (ho77 _ k971.lt' dj246))) apN)).grown hg72
      have k1460:=(k1137.goL hgl55 (apC (Dj.new k1051.lt' hb19).symm apN)).grown hg72
      have k1461:=k1445.g0 hg72
      have k1462:=(k1139.goL hgl55 (apC (ho84 _ k1051.lt' (ho80 _ k1004.lt' (ho77 _ k971.lt' dj246))) apN)).grown hg72
      have k1463:=(k1140.goL hgl55 (apC (Dj.app (Dj.app (Dj.app (Dj.app (p:=none) Dj.nl k963.lt' hk7) k992.lt' hk8) k1036.lt' hk9) k1092.lt' hk10).symm.symm apN)).grown hg72
      refine zT (qF rfl rfl (okb b59)) rfl rfl (jk (GB.grown hG gr141) (qE gr141) (apC (Ge.le hge1 (qE gr2)) (apC k1458.ge' apN)) hS3 hS7 (k1458.base (fun _ _=>Nat.zero_le _)) rfl k1459 k1448 ht1157 dj290 (apC dj291 (apC dj292 apN)) (apC (ho90 _ k1433.lt') (apC (ho90 _ k1442.lt') apN)) H) ?_
      rintro v_t1167 w156 ⟨hgl56,_,t1167,a_115,a5h,a6s,a2u,a_116,a_117,rfl,ht1167,hB72,hO97,hi39,hr39,ho91,dj306,dj307,dj308,H⟩
      have hO98:=hO97.base (InP.toGe hi39 (apC (Ge.le hge1 (qE gr2)) (apC k1458.ge' apN)) (qE gr141))
      have gr142:=qN gr141 hgl56 (apC (Ge.le hge1 (qE gr2)) (apC k1458.ge' apN))
      have k1473:=k1459.goL hgl56 (apC dj291 (apC dj292 apN))
      have k1478:=ht1157.goL hgl56 (apC (ho90 _ k1433.lt') (apC (ho90 _ k1442.lt') apN))
      refine zT (qF rfl rfl (okb b59)) rfl rfl (ji (hG.grown gr142) hS0 hS1 hS2 hS3 hS4 hS5 hS6 hS7 hS8 hS9 hS10 hS11 hS12 hS13 hS14 hS15 hS16 ht1167 H) ?_
      rintro _ w157 ⟨hg73,t1177,rfl,H⟩
      have gr143:=qG gr142 hg73
      have k1479:=hB72.g0 hg73
      have k1480:=(k1449.goL hgl56 (apC dj239.symm.symm (apC (InP.dj hi38 k1050.lt' (apC dj239 (apC (InP.dj hi36 k1003.lt' (apC dj239 (apC (InP.dj hi34 k970.lt' (apC dj239 (apC dj240 apN))).symm apN))).symm apN))).symm apN))).grown hg73
      have k1482:=(k1451.goL hgl56 (apC dj243 (apC (RelD.inp k1052 (apC dj243 (apC (RelD.inp k1005 (apC dj243 (apC (RelD.inp k972 (apC dj243 (apC dj244 apN)) hi34) apN)) hi36) apN)) hi38) apN))).grown hg73
      have k1483:=(k1452.goL hgl56 (apC dj257.symm.symm (apC (InP.dj hi38 k1053.lt' (apC dj257 (apC (InP.dj hi36 k1008.lt' (apC dj257 (apC dj258 apN))).symm apN))).symm apN))).grown hg73
      have k1484:=(k1453.goL hgl56 (apC dj259.symm.symm (apC (InP.dj hi38 k1054.lt' (apC dj259 (apC (InP.dj hi36 k1009.lt' (apC dj259 (apC dj260 apN))).symm apN))).symm apN))).g0 hg73
      have k1485:=(k1454.goL hgl56 (apC dj261 (apC (RelD.inp k1055 (apC dj261 (apC (RelD.inp k1010 (apC dj261 (apC dj262 apN)) hi36) apN)) hi38) apN))).grown hg73
      have k1486:=(k1455.goL hgl56 (apC dj275.symm.symm (apC (InP.dj hi38 k1058.lt' (apC dj275 (apC dj276 apN))).symm apN))).grown hg73
      have k1487:=(k1456.goL hgl56 (apC dj277.symm.symm (apC (InP.dj hi38 k1059.lt' (apC dj277 (apC dj278 apN))).symm apN))).g0 hg73
      have k1488:=(k1457.goL hgl56 (apC dj279 (apC (RelD.inp k1060 (apC dj279 (apC dj280 apN)) hi38) apN))).grown hg73
      have k1489:=(k1460.goL hgl56 (apC dj293.symm.symm (apC dj294 apN))).grown hg73
      have k1490:=(k1461.goL hgl56 (apC dj295.symm.symm (apC dj296 apN))).g0 hg73
      have k1491:=(k1462.goL hgl56 (apC dj297 (apC dj298 apN))).grown hg73
      have k1492:=(k1463.goL hgl56 (apC (Dj.app (Dj.app (Dj.app (Dj.app (p:=none) Dj.nl k959.lt' hk7) k990.lt' hk8) k1034.lt' hk9) k1090.lt' hk10).symm.symm (apC (Dj.app (InP.dj hi38 hO90.lt' (apC (Dj.app (Dj.app (Dj.app (p:=none) Dj.nl k959.lt' hk7) k990.lt' hk8) k1034.lt' hk9) (apC (Dj.app (InP.dj hi36 hO84.lt' (apC (Dj.app (Dj.app (p:=none) Dj.nl k959.lt' hk7) k990.lt' hk8) (apC (Dj.app (InP.dj hi34 hO78.lt' (apC (Dj.app (p:=none) Dj.nl k959.lt' hk7) (apC (Dj.app (p:=none) Dj.nl k960.lt' hk7) apN))).symm k995.lt' hk8) apN))).symm k1042.lt' hk9) apN))).symm k1101.lt' hk10).symm.symm apN))).grown hg73
      have k1493:=hO98.grown hg73
      have k1494:=hr39.grown hg73
      have k1495:=ht1167.grown hg73
      refine gp b59 (h:=(zg rfl (zK (okb b59) rfl) (ze (za (zm rfl (fun b60=>?_) (fun b60=>?_))))))
      ·replace H:=H.1 (b60)
       exact zd (zb (yp (h:=(ze (za (zt (zf (zj (zf (zf (zj (zf (zD rfl rfl ⟨gr143,false,rfl,H⟩)))))))))))))
      replace H:=H.2 (b60)
      refine zo (za (zb (yp (h:=(yp (h:=(zg rfl (zB qD k1492.rd rfl rfl rfl rfl (by omega) (by simp)) (zg rfl (zR (v:=.pointer (some ⟨a4,0,none⟩)) (zM 0 qD k1492.rd rfl rfl (by simp)) rfl) ?_))))))))
      refine zx rfl rfl (ja (k1493.base (fun _ _=>Nat.zero_le _)) rfl k1494 k1479 k1480.rd rfl k1482 ((k1450.goL hgl56 (apC dj241.symm.symm (apC (InP.dj hi38 k1051.lt' (apC dj241 (apC (InP.dj hi36 k1004.lt' (apC dj241 (apC (InP.dj hi34 k971.lt' (apC dj241 (apC dj242 apN))).symm apN))).symm apN))).symm apN))).g0 hg73) dj241.symm.symm (InP.dj hi39 k1450.lt' (apC dj241.symm.symm (apC (InP.dj hi38 k1051.lt' (apC dj241 (apC (InP.dj hi36 k1004.lt' (apC dj241 (apC (InP.dj hi34 k971.lt' (apC dj241 (apC dj242 apN))).symm apN))).symm apN))).symm apN))).symm dj306 (apC (ho91 _ k1450.lt' (ho83 _ k1051.lt' (ho80 _ k1004.lt' (ho77 _ k971.lt' dj246))) (ho90 _ hB71.lt')) (apC dj307 (apC dj308 apN))) (apC (Dn.of dj235) (apC (Dn.of dj239.symm.symm) (apC (Dn.of (InP.dj hi39 k1449.lt' (apC dj239.symm.symm (apC (InP.dj hi38 k1050.lt' (apC dj239 (apC (InP.dj hi36 k1003.lt' (apC dj239 (apC (InP.dj hi34 k970.lt' (apC dj239 (apC dj240 apN))).symm apN))).symm apN))).symm apN))).symm) apN))) (apC dj234 (apC dj243 (apC (RelD.inp k1451 (apC dj243 (apC (RelD.inp k1052 (apC dj243 (apC (RelD.inp k1005 (apC dj243 (apC (RelD.inp k972 (apC dj243 (apC dj244 apN)) hi34) apN)) hi36) apN)) hi38) apN)) hi39) apN))) H) ?_
      rintro _ w158 ⟨hgl57,a3v,a3w,a3x,a_118,a5i,a6t,a2v,a_119,a_120,rfl,hB73,hB74,hO99,hi40,hr40,ho92,dj309,dj310,dj311,dj312,dj313,dj314,H⟩
      have hO100:=hO99.base (InP.toGe hi40 (apC (Ge.le hge11 (qE gr4)) (apC (Ge.le hge1 (qE gr2)) (apC k1493.ge' apN))) (qE gr143))
      have k1498:=k1483.goL hgl57 (apC (Dj.new k971.lt' hb17).symm (apC dj257.symm.symm (apC (InP.dj hi39 k1452.lt' (apC dj257.symm.symm (apC (InP.dj hi38 k1053.lt' (apC dj257 (apC (InP.dj hi36 k1008.lt' (apC dj257 (apC dj258 apN))).symm apN))).symm apN))).symm apN)))
      have k1500:=k1485.goL hgl57 (apC (ho78 _ k971.lt' dj246) (apC dj261 (apC (RelD.inp k1454 (apC dj261 (apC (RelD.inp k1055 (apC dj261 (apC (RelD.inp k1010 (apC dj261 (apC dj262 apN)) hi36) apN)) hi38) apN)) hi39) apN)))
      have k1507:=k1492.goL hgl57 (apC (Dj.app (Dj.app (Dj.app (Dj.app (p:=none) Dj.nl k963.lt' hk7) k992.lt' hk8) k1036.lt' hk9) k1092.lt' hk10).symm.symm (apC (Dj.app (Dj.app (Dj.app (Dj.app (p:=none) Dj.nl k959.lt' hk7) k990.lt' hk8) k1034.lt' hk9) k1090.lt' hk10).symm.symm (apC (InP.dj hi39 k1463.lt' (apC (Dj.app (Dj.app (Dj.app (Dj.app (p:=none) Dj.nl k959.lt' hk7) k990.lt' hk8) k1034.lt' hk9) k1090.lt' hk10).symm.symm (apC (Dj.app (InP.dj hi38 hO90.lt' (apC (Dj.app (Dj.app (Dj.app (p:=none) Dj.nl k959.lt' hk7) k990.lt' hk8) k1034.lt' hk9) (apC (Dj.app (InP.dj hi36 hO84.lt' (apC (Dj.app (Dj.app (p:=none) Dj.nl k959.lt' hk7) k990.lt' hk8) (apC (Dj.app (InP.dj hi34 hO78.lt' (apC (Dj.app (p:=none) Dj.nl k959.lt' hk7) (apC (Dj.app (p:=none) Dj.nl k960.lt' hk7) apN))).symm k995.lt' hk8) apN))).symm k1042.lt' hk9) apN))).symm k1101.lt' hk10).symm.symm apN))).symm apN)))
      have k1508:=k1494.goL hgl57 (apC (ho91 _ k1450.lt' (ho83 _ k1051.lt' (ho80 _ k1004.lt' (ho77 _ k971.lt' dj246))) (ho90 _ hB71.lt')) (apC dj307 (apC dj308 apN)))
      refine ze (zi (za (zb (yp (h:=(zg rfl (zR (v:=.int .i64 (1:Int)) (Yld.add rfl rfl (by simp only [In]; omega)) rfl) (yp (h:=(ze (qf (WCL.one (zd (zd (zb (yp (h:=(yp (h:=(yp (h:=(ze (za (zm rfl (fun _=>zo (za (zd (WC.block (zd (zb (yp (h:=(yp (h:=(zg rfl (zB qD k1507.rd rfl rfl rfl rfl (by omega) (by simp)) (zg rfl (zR (v:=.pointer (some ⟨a6,0,none⟩)) (zM 0 qD k1507.rd rfl rfl (by simp)) rfl) ?_)))))))))))) (fun h=>by cases h))))))))))))))))))))))))
      refine zx rfl rfl (qK hO100.rd rfl hr40 hB74 k1498.rd rfl k1500 (k1484.goL hgl57 (apC (Dj.new k971.lt' hge12).symm (apC dj259.symm.symm (apC (InP.dj hi39 k1453.lt' (apC dj259.symm.symm (apC (InP.dj hi38 k1054.lt' (apC dj259 (apC (InP.dj hi36 k1009.lt' (apC dj259 (apC dj260 apN))).symm apN))).symm apN))).symm apN)))) (apC (Dn.of (InP.dj hi40 k1484.lt' (apC (Dj.new k971.lt' hge12).symm (apC dj259.symm.symm (apC (InP.dj hi39 k1453.lt' (apC dj259.symm.symm (apC (InP.dj hi38 k1054.lt' (apC dj259 (apC (InP.dj hi36 k1009.lt' (apC dj259 (apC dj260 apN))).symm apN))).symm apN))).symm apN))))) apN) (apC (ho92 _ k1484.lt' (ho91 _ k1453.lt' (ho83 _ k1054.lt' (ho80 _ k1009.lt' dj264)) (ho90 _ k1437.lt')) (k972.new hge12)) apN) (apC dj259.symm apN) (apC (Dn.of dj253) apN) (apC dj252 apN) H) ?_
      rintro _ w159 ⟨hgl58,v_t10908,F_t10908,t10908,t10918,u1,rfl,ht10908,ho93,hB75,dj315,H⟩
      have gr145:=qN (qN gr143 hgl57 (apC (Ge.le hge11 (qE gr4)) (apC (Ge.le hge1 (qE gr2)) (apC k1493.ge' apN)))) hgl58 (apC (Ge.le hge12 (qE gr110)) apN)
      have k1509:=hB74.goL hgl58 (apC dj259.symm apN)
      have k1516:=(k1487.goL hgl57 (apC (Dj.new k1004.lt' hge13).symm (apC dj277.symm.symm (apC (InP.dj hi39 k1456.lt' (apC dj277.symm.symm (apC (InP.dj hi38 k1059.lt' (apC dj277 (apC dj278 apN))).symm apN))).symm apN)))).goL hgl58 (apC (Dj.new k1009.lt' hge13).symm apN)
      have k1519:=(k1490.goL hgl57 (apC (Dj.new k1051.lt' hge14).symm (apC dj295.symm.symm (apC (InP.dj hi39 k1461.lt' (apC dj295.symm.symm (apC dj296 apN))).symm apN)))).goL hgl58 (apC (Dj.new k1054.lt' hge14).symm apN)
      have k1522:=hO100.goL hgl58 (apC (InP.dj hi40 k1484.lt' (apC (Dj.new k971.lt' hge12).symm (apC dj259.symm.symm (apC (InP.dj hi39 k1453.lt' (apC dj259.symm.symm (apC (InP.dj hi38 k1054.lt' (apC dj259 (apC (InP.dj hi36 k1009.lt' (apC dj259 (apC dj260 apN))).symm apN))).symm apN))).symm apN)))) apN)
      refine yp (h:=(yp (h:=(yp (h:=(yp (h:=(yp (h:=(ze (za (zd (zd (zb (yp (h:=(yp (h:=?_))))))))))))))))))
      rcases Bool.eq_false_or_eq_true (t10918) with b61 | b61
      ·replace H:=H.1 b61
       exact gn b61 (h:=(gn b61 (h:=(gn b61 (h:=(gn b61 (h:=(gn b61 (h:=(zg rfl (zQ (okb b61) rfl) (ze (za (zm rfl (fun _=>zd (zb (yp (h:=(ze (za (zt (zf (zj (zf (zf (zj (zf (zD rfl rfl ⟨gr145,false,rfl,H⟩)))))))))))))) (fun h=>by cases h))))))))))))))
      replace H:=H.2 b61
      refine gp b61 (h:=(zT (qF rfl rfl (okb b61)) rfl rfl (qM H) ?_))
      rintro _ w160 ⟨hg74,v_t1158,F_t1158,t1158,rfl,ht1158,ho94,H⟩
      have gr146:=qG gr145 hg74
      have k1524:=k1509.g0 hg74
      have k1525:=((k1480.goL hgl57 (apC dj235 (apC dj239.symm.symm (apC (InP.dj hi39 k1449.lt' (apC dj239.symm.symm (apC (InP.dj hi38 k1050.lt' (apC dj239 (apC (InP.dj hi36 k1003.lt' (apC dj239 (apC (InP.dj hi34 k970.lt' (apC dj239 (apC dj240 apN))).symm apN))).symm apN))).symm apN))).symm apN)))).goL hgl58 (apC (Dj.new k970.lt' hge12) apN)).grown hg74
      have k1526:=(hB73.goL hgl58 (apC (Dj.new k971.lt' hge12) apN)).g0 hg74
      have k1527:=((k1482.goL hgl57 (apC dj234 (apC dj243 (apC (RelD.inp k1451 (apC dj243 (apC (RelD.inp k1052 (apC dj243 (apC (RelD.inp k1005 (apC dj243 (apC (RelD.inp k972 (apC dj243 (apC dj244 apN)) hi34) apN)) hi36) apN)) hi38) apN)) hi39) apN)))).goL hgl58 (apC (k972.new hge12) apN)).grown hg74
      have k1528:=(k1498.goL hgl58 (apC dj253 apN)).grown hg74
      have k1529:=hB75.g0 hg74
      have k1530:=(k1500.goL hgl58 (apC dj252 apN)).grown hg74
      have k1531:=((k1486.goL hgl57 (apC (Dj.new k1004.lt' hb18).symm (apC dj275.symm.symm (apC (InP.dj hi39 k1455.lt' (apC dj275.symm.symm (apC (InP.dj hi38 k1058.lt' (apC dj275 (apC dj276 apN))).symm apN))).symm apN)))).goL hgl58 (apC (Dj.new k1009.lt' hb18).symm apN)).grown hg74
      have k1532:=k1516.g0 hg74
      have k1533:=((k1488.goL hgl57 (apC (ho81 _ k1004.lt' (ho77 _ k971.lt' dj246)) (apC dj279 (apC (RelD.inp k1457 (apC dj279 (apC (RelD.inp k1060 (apC dj279 (apC dj280 apN)) hi38) apN)) hi39) apN)))).goL hgl58 (apC (ho81 _ k1009.lt' dj264) apN)).grown hg74
      have k1534:=((k1489.goL hgl57 (apC (Dj.new k1051.lt' hb19).symm (apC dj293.symm.symm (apC (InP.dj hi39 k1460.lt' (apC dj293.symm.symm (apC dj294 apN))).symm apN)))).goL hgl58 (apC (Dj.new k1054.lt' hb19).symm apN)).grown hg74
      have k1535:=k1519.g0 hg74
      have k1536:=((k1491.goL hgl57 (apC (ho84 _ k1051.lt' (ho80 _ k1004.lt' (ho77 _ k971.lt' dj246))) (apC dj297 (apC (RelD.inp k1462 (apC dj297 (apC dj298 apN)) hi39) apN)))).goL hgl58 (apC (ho84 _ k1054.lt' (ho80 _ k1009.lt' dj264)) apN)).grown hg74
      have k1537:=(k1507.goL hgl58 (apC (Dj.app (Dj.app (Dj.app (Dj.new hO78.lt' hge12) k998.lt' hk8) k1039.lt' hk9) k1095.lt' hk10).symm.symm apN)).grown hg74
      have k1538:=k1522.grown hg74
      have k1539:=(hr40.goL hgl58 (apC (ho92 _ k1484.lt' (ho91 _ k1453.lt' (ho83 _ k1054.lt' (ho80 _ k1009.lt' dj264)) (ho90 _ k1437.lt')) (k972.new hge12)) apN)).grown hg74
      refine zT (qF rfl rfl (okb b61)) rfl rfl (jk (GB.grown hG gr146) (qE gr146) (apC (Ge.le hge1 (qE gr2)) (apC k1538.ge' apN)) hS3 hS7 (k1538.base (fun _ _=>Nat.zero_le _)) rfl k1539 k1524 ht1158 dj311 (apC dj313 (apC dj314 apN)) (apC (ho94 _ k1509.lt') (apC (ho94 _ k1522.lt') apN)) H) ?_
      rintro v_t1168 w161 ⟨hgl59,_,t1168,a_121,a5j,a6u,a2w,a_122,a_123,rfl,ht1168,hB76,hO101,hi41,hr41,ho95,dj316,dj317,dj318,H⟩
      have hO102:=hO101.base (InP.toGe hi41 (apC (Ge.le hge1 (qE gr2)) (apC k1538.ge' apN)) (qE gr146))
      have gr147:=qN gr146 hgl59 (apC (Ge.le hge1 (qE gr2)) (apC k1538.ge' apN))
      have k1553:=k1539.goL hgl59 (apC dj313 (apC dj314 apN))
      have k1554:=ht1158.goL hgl59 (apC (ho94 _ k1509.lt') (apC (ho94 _ k1522.lt') apN))
      refine zT (qF rfl rfl (okb b61)) rfl rfl (ji (hG.grown gr147) hS0 hS1 hS2 hS3 hS4 hS5 hS6 hS7 hS8 hS9 hS10 hS11 hS12 hS13 hS14 hS15 hS16 ht1168 H) ?_
      rintro _ w162 ⟨hg75,t1178,rfl,H⟩
      have gr148:=qG gr147 hg75
      have k1555:=hB76.g0 hg75
      have k1556:=(k1525.goL hgl59 (apC dj239.symm.symm (apC (InP.dj hi40 k1480.lt' (apC dj235 (apC dj239.symm.symm (apC (InP.dj hi39 k1449.lt' (apC dj239.symm.symm (apC (InP.dj hi38 k1050.lt' (apC dj239 (apC (InP.dj hi36 k1003.lt' (apC dj239 (apC (InP.dj hi34 k970.lt' (apC dj239 (apC dj240 apN))).symm apN))).symm apN))).symm apN))).symm apN)))).symm apN))).grown hg75
      have k1557:=(k1526.goL hgl59 (apC dj309 (apC dj310 apN))).g0 hg75
      have k1558:=(k1527.goL hgl59 (apC dj243 (apC (RelD.inp k1482 (apC dj234 (apC dj243 (apC (RelD.inp k1451 (apC dj243 (apC (RelD.inp k1052 (apC dj243 (apC (RelD.inp k1005 (apC dj243 (apC (RelD.inp k972 (apC dj243 (apC dj244 apN)) hi34) apN)) hi36) apN)) hi38) apN)) hi39) apN))) hi40) apN))).grown hg75
      have k1559:=(k1528.goL hgl59 (apC dj257.symm.symm (apC (InP.dj hi40 k1483.lt' (apC (Dj.new k971.lt' hb17).symm (apC dj257.symm.symm (apC (InP.dj hi39 k1452.lt' (apC dj257.symm.symm (apC (InP.dj hi38 k1053.lt' (apC dj257 (apC (InP.dj hi36 k1008.lt' (apC dj257 (apC dj258 apN))).symm apN))).symm apN))).symm apN)))).symm apN))).grown hg75
      have k1561:=(k1530.goL hgl59 (apC dj261 (apC (RelD.inp k1485 (apC (ho78 _ k971.lt' dj246) (apC dj261 (apC (RelD.inp k1454 (apC dj261 (apC (RelD.inp k1055 (apC dj261 (apC (RelD.inp k1010 (apC dj261 (apC dj262 apN)) hi36) apN)) hi38) apN)) hi39) apN))) hi40) apN))).grown hg75
      have k1562:=(k1531.goL hgl59 (apC dj275.symm.symm (apC (InP.dj hi40 k1486.lt' (apC (Dj.new k1004.lt' hb18).symm (apC dj275.symm.symm (apC (InP.dj hi39 k1455.lt' (apC dj275.symm.symm (apC (InP.dj hi38 k1058.lt' (apC dj275 (apC dj276 apN))).symm apN))).symm apN)))).symm apN))).grown hg75
      have k1563:=(k1532.goL hgl59 (apC dj277.symm.symm (apC (InP.dj hi40 k1487.lt' (apC (Dj.new k1004.lt' hge13).symm (apC dj277.symm.symm (apC (InP.dj hi39 k1456.lt' (apC dj277.symm.symm (apC (InP.dj hi38 k1059.lt' (apC dj277 (apC dj278 apN))).symm apN))).symm apN)))).symm apN))).g0 hg75
      have k1564:=(k1533.goL hgl59 (apC dj279 (apC (RelD.inp k1488 (apC (ho81 _ k1004.lt' (ho77 _ k971.lt' dj246)) (apC dj279 (apC (RelD.inp k1457 (apC dj279 (apC (RelD.inp k1060 (apC dj279 (apC dj280 apN)) hi38) apN)) hi39) apN))) hi40) apN))).grown hg75
      have k1565:=(k1534.goL hgl59 (apC dj293.symm.symm (apC (InP.dj hi40 k1489.lt' (apC (Dj.new k1051.lt' hb19).symm (apC dj293.symm.symm (apC (InP.dj hi39 k1460.lt' (apC dj293.symm.symm (apC dj294 apN))).symm apN)))).symm apN))).grown hg75
      have k1566:=(k1535.goL hgl59 (apC dj295.symm.symm (apC (InP.dj hi40 k1490.lt' (apC (Dj.new k1051.lt' hge14).symm (apC dj295.symm.symm (apC (InP.dj hi39 k1461.lt' (apC dj295.symm.symm (apC dj296 apN))).symm apN)))).symm apN))).g0 hg75
      have k1567:=(k1536.goL hgl59 (apC dj297 (apC (RelD.inp k1491 (apC (ho84 _ k1051.lt' (ho80 _ k1004.lt' (ho77 _ k971.lt' dj246))) (apC dj297 (apC (RelD.inp k1462 (apC dj297 (apC dj298 apN)) hi39) apN))) hi40) apN))).grown hg75
      have k1568:=(k1537.goL hgl59 (apC (Dj.app (Dj.app (Dj.app (Dj.app (p:=none) Dj.nl k959.lt' hk7) k990.lt' hk8) k1034.lt' hk9) k1090.lt' hk10).symm.symm (apC (InP.dj hi40 k1492.lt' (apC (Dj.app (Dj.app (Dj.app (Dj.app (p:=none) Dj.nl k963.lt' hk7) k992.lt' hk8) k1036.lt' hk9) k1092.lt' hk10).symm.symm (apC (Dj.app (Dj.app (Dj.app (Dj.app (p:=none) Dj.nl k959.lt' hk7) k990.lt' hk8) k1034.lt' hk9) k1090.lt' hk10).symm.symm (apC (InP.dj hi39 k1463.lt' (apC (Dj.app (Dj.app (Dj.app (Dj.app (p:=none) Dj.nl k959.lt' hk7) k990.lt' hk8) k1034.lt' hk9) k1090.lt' hk10).symm.symm (apC (Dj.app (InP.dj hi38 hO90.lt' (apC (Dj.app (Dj.app (Dj.app (p:=none) Dj.nl k959.lt' hk7) k990.lt' hk8) k1034.lt' hk9) (apC (Dj.app (InP.dj hi36 hO84.lt' (apC (Dj.app (Dj.app (p:=none) Dj.nl k959.lt' hk7) k990.lt' hk8) (apC (Dj.app (InP.dj hi34 hO78.lt' (apC (Dj.app (p:=none) Dj.nl k959.lt' hk7) (apC (Dj.app (p:=none) Dj.nl k960.lt' hk7) apN))).symm k995.lt' hk8) apN))).symm k1042.lt' hk9) apN))).symm k1101.lt' hk10).symm.symm apN))).symm apN)))).symm apN))).grown hg75
      have k1569:=hO102.grown hg75
      have k1570:=hr41.grown hg75
      have k1571:=ht1168.grown hg75
      refine gp b61 (h:=(zg rfl (zK (okb b61) rfl) (ze (za (zm rfl (fun b62=>?_) (fun b62=>?_))))))
      ·replace H:=H.1 (b62)
       exact zd (zb (yp (h:=(ze (za (zt (zf (zj (zf (zf (zj (zf (zD rfl rfl ⟨gr148,false,rfl,H⟩)))))))))))))
      replace H:=H.2 (b62)
      refine zo (za (zb (yp (h:=(yp (h:=(zg rfl (zB qD k1568.rd rfl rfl rfl rfl (by omega) (by simp)) (zg rfl (zR (v:=.pointer (some ⟨a6,0,none⟩)) (zM 0 qD k1568.rd rfl rfl (by simp)) rfl) ?_))))))))
      refine zx rfl rfl (ja (k1569.base (fun _ _=>Nat.zero_le _)) rfl k1570 k1555 k1559.rd rfl k1561 ((k1529.goL hgl59 (apC dj259.symm.symm (apC (InP.dj hi40 k1484.lt' (apC (Dj.new k971.lt' hge12).symm (apC dj259.symm.symm (apC (InP.dj hi39 k1453.lt' (apC dj259.symm.symm (apC (InP.dj hi38 k1054.lt' (apC dj259 (apC (InP.dj hi36 k1009.lt' (apC dj259 (apC dj260 apN))).symm apN))).symm apN))).symm apN)))).symm apN))).g0 hg75) dj259.symm.symm (InP.dj hi41 k1529.lt' (apC dj259.symm.symm (apC (InP.dj hi40 k1484.lt' (apC (Dj.new k971.lt' hge12).symm (apC dj259.symm.symm (apC (InP.dj hi39 k1453.lt' (apC dj259.symm.symm (apC (InP.dj hi38 k1054.lt' (apC dj259 (apC (InP.dj hi36 k1009.lt' (apC dj259 (apC dj260 apN))).symm apN))).symm apN))).symm apN)))).symm apN))).symm dj316 (apC (ho95 _ k1529.lt' (ho92 _ k1484.lt' (ho91 _ k1453.lt' (ho83 _ k1054.lt' (ho80 _ k1009.lt' dj264)) (ho90 _ k1437.lt')) (k972.new hge12)) (ho94 _ hB75.lt')) (apC dj317 (apC dj318 apN))) (apC (Dn.of dj253) (apC (Dn.of dj257.symm.symm) (apC (Dn.of (InP.dj hi41 k1528.lt' (apC dj257.symm.symm (apC (InP.dj hi40 k1483.lt' (apC (Dj.new k971.lt' hb17).symm (apC dj257.symm.symm (apC (InP.dj hi39 k1452.lt' (apC dj257.symm.symm (apC (InP.dj hi38 k1053.lt' (apC dj257 (apC (InP.dj hi36 k1008.lt' (apC dj257 (apC dj258 apN))).symm apN))).symm apN))).symm apN)))).symm apN))).symm) apN))) (apC dj252 (apC dj261 (apC (RelD.inp k1530 (apC dj261 (apC (RelD.inp k1485 (apC (ho78 _ k971.lt' dj246) (apC dj261 (apC (RelD.inp k1454 (apC dj261 (apC (RelD.inp k1055 (apC dj261 (apC (RelD.inp k1010 (apC dj261 (apC dj262 apN)) hi36) apN)) hi38) apN)) hi39) apN))) hi40) apN)) hi41) apN))) H) ?_
      rintro _ w163 ⟨hgl60,a3y,a3z,a4a,a_124,a5k,a6v,a2x,a_125,a_126,rfl,hB77,hB78,hO103,hi42,hr42,ho96,dj319,dj320,dj321,dj322,dj323,dj324,H⟩
      have hO104:=hO103.base (InP.toGe hi42 (apC (Ge.le hge12 (qE gr110)) (apC (Ge.le hge1 (qE gr2)) (apC k1569.ge' apN))) (qE gr148))
      have k1577:=k1562.goL hgl60 (apC (Dj.new k1009.lt' hb18).symm (apC dj275.symm.symm (apC (InP.dj hi41 k1531.lt' (apC dj275.symm.symm (apC (InP.dj hi40 k1486.lt' (apC (Dj.new k1004.lt' hb18).symm (apC dj275.symm.symm (apC (InP.dj hi39 k1455.lt' (apC dj275.symm.symm (apC (InP.dj hi38 k1058.lt' (apC dj275 (apC dj276 apN))).symm apN))).symm apN)))).symm apN))).symm apN)))
      have k1579:=k1564.goL hgl60 (apC (ho81 _ k1009.lt' dj264) (apC dj279 (apC (RelD.inp k1533 (apC dj279 (apC (RelD.inp k1488 (apC (ho81 _ k1004.lt' (ho77 _ k971.lt' dj246)) (apC dj279 (apC (RelD.inp k1457 (apC dj279 (apC (RelD.inp k1060 (apC dj279 (apC dj280 apN)) hi38) apN)) hi39) apN))) hi40) apN)) hi41) apN)))
      have k1583:=k1568.goL hgl60 (apC (Dj.app (Dj.app (Dj.app (Dj.new hO78.lt' hge12) k998.lt' hk8) k1039.lt' hk9) k1095.lt' hk10).symm.symm (apC (Dj.app (Dj.app (Dj.app (Dj.app (p:=none) Dj.nl k959.lt' hk7) k990.lt' hk8) k1034.lt' hk9) k1090.lt' hk10).symm.symm (apC (InP.dj hi41 k1537.lt' (apC (Dj.app (Dj.app (Dj.app (Dj.app (p:=none) Dj.nl k959.lt' hk7) k990.lt' hk8) k1034.lt' hk9) k1090.lt' hk10).symm.symm (apC (InP.dj hi40 k1492.lt' (apC (Dj.app (Dj.app (Dj.app (Dj.app (p:=none) Dj.nl k963.lt' hk7) k992.lt' hk8) k1036.lt' hk9) k1092.lt' hk10).symm.symm (apC (Dj.app (Dj.app (Dj.app (Dj.app (p:=none) Dj.nl k959.lt' hk7) k990.lt' hk8) k1034.lt' hk9) k1090.lt' hk10).symm.symm (apC (InP.dj hi39 k1463.lt' (apC (Dj.app (Dj.app (Dj.app (Dj.app (p:=none) Dj.nl k959.lt' hk7) k990.lt' hk8) k1034.lt' hk9) k1090.lt' hk10).symm.symm (apC (Dj.app (InP.dj hi38 hO90.lt' (apC (Dj.app (Dj.app (Dj.app (p:=none) Dj.nl k959.lt' hk7) k990.lt' hk8) k1034.lt' hk9) (apC (Dj.app (InP.dj hi36 hO84.lt' (apC (Dj.app (Dj.app (p:=none) Dj.nl k959.lt' hk7) k990.lt' hk8) (apC (Dj.app (InP.dj hi34 hO78.lt' (apC (Dj.app (p:=none) Dj.nl k959.lt' hk7) (apC (Dj.app (p:=none) Dj.nl k960.lt' hk7) apN))).symm k995.lt' hk8) apN))).symm k1042.lt' hk9) apN))).symm k1101.lt' hk10).symm.symm apN))).symm apN)))).symm apN))).symm apN)))
      have k1584:=k1570.goL hgl60 (apC (ho95 _ k1529.lt' (ho92 _ k1484.lt' (ho91 _ k1453.lt' (ho83 _ k1054.lt' (ho80 _ k1009.lt' dj264)) (ho90 _ k1437.lt')) (k972.new hge12)) (ho94 _ hB75.lt')) (apC dj317 (apC dj318 apN)))
      refine ze (zi (za (zb (yp (h:=(zg rfl (zR (v:=.int .i64 (2:Int)) (Yld.add rfl rfl (by simp only [In]; omega)) rfl) (yp (h:=(ze (qf (WCL.one (zd (zd (zb (yp (h:=(yp (h:=(yp (h:=(ze (za (zm rfl (fun _=>zo (za (zd (WC.block (zd (zb (yp (h:=(yp (h:=(zg rfl (zB qD k1583.rd rfl rfl rfl rfl (by omega) (by simp)) (zg rfl (zR (v:=.pointer (some ⟨a7,0,none⟩)) (zM 0 qD k1583.rd rfl rfl (by simp)) rfl) ?_)))))))))))) (fun h=>by cases h))))))))))))))))))))))))
      refine zx rfl rfl (qK hO104.rd rfl hr42 hB78 k1577.rd rfl k1579 (k1563.goL hgl60 (apC (Dj.new k1009.lt' hge13).symm (apC dj277.symm.symm (apC (InP.dj hi41 k1532.lt' (apC dj277.symm.symm (apC (InP.dj hi40 k1487.lt' (apC (Dj.new k1004.lt' hge13).symm (apC dj277.symm.symm (apC (InP.dj hi39 k1456.lt' (apC dj277.symm.symm (apC (InP.dj hi38 k1059.lt' (apC dj277 (apC dj278 apN))).symm apN))).symm apN)))).symm apN))).symm apN)))) (apC (Dn.of (InP.dj hi42 k1563.lt' (apC (Dj.new k1009.lt' hge13).symm (apC dj277.symm.symm (apC (InP.dj hi41 k1532.lt' (apC dj277.symm.symm (apC (InP.dj hi40 k1487.lt' (apC (Dj.new k1004.lt' hge13).symm (apC dj277.symm.symm (apC (InP.dj hi39 k1456.lt' (apC dj277.symm.symm (apC (InP.dj hi38 k1059.lt' (apC dj277 (apC dj278 apN))).symm apN))).symm apN)))).symm apN))).symm apN))))) apN) (apC (ho96 _ k1563.lt' (ho95 _ k1532.lt' (ho92 _ k1487.lt' (ho91 _ k1456.lt' (ho83 _ k1059.lt' dj282) (ho90 _ k1440.lt')) (k1005.new hge13)) (ho94 _ k1516.lt')) (k1010.new hge13)) apN) (apC dj277.symm apN) (apC (Dn.of dj271) apN) (apC dj270 apN) H) ?_
      rintro _ w164 ⟨hgl61,v_t10909,F_t10909,t10909,t10919,u2,rfl,ht10909,ho97,hB79,dj325,H⟩
      have gr150:=qN (qN gr148 hgl60 (apC (Ge.le hge12 (qE gr110)) (apC (Ge.le hge1 (qE gr2)) (apC k1569.ge' apN)))) hgl61 (apC (Ge.le hge13 (qE gr114)) apN)
      have k1585:=hB78.goL hgl61 (apC dj277.symm apN)
      have k1595:=(k1566.goL hgl60 (apC (Dj.new k1054.lt' hge14).symm (apC dj295.symm.symm (apC (InP.dj hi41 k1535.lt' (apC dj295.symm.symm (apC (InP.dj hi40 k1490.lt' (apC (Dj.new k1051.lt' hge14).symm (apC dj295.symm.symm (apC (InP.dj hi39 k1461.lt' (apC dj295.symm.symm (apC dj296 apN))).symm apN)))).symm apN))).symm apN)))).goL hgl61 (apC (Dj.new k1059.lt' hge14).symm apN)
      have k1598:=hO104.goL hgl61 (apC (InP.dj hi42 k1563.lt' (apC (Dj.new k1009.lt' hge13).symm (apC dj277.symm.symm (apC (InP.dj hi41 k1532.lt' (apC dj277.symm.symm (apC (InP.dj hi40 k1487.lt' (apC (Dj.new k1004.lt' hge13).symm (apC dj277.symm.symm (apC (InP.dj hi39 k1456.lt' (apC dj277.symm.symm (apC (InP.dj hi38 k1059.lt' (apC dj277 (apC dj278 apN))).symm apN))).symm apN)))).symm apN))).symm apN)))) apN)
      refine yp (h:=(yp (h:=(yp (h:=(yp (h:=(yp (h:=(ze (za (zd (zd (zb (yp (h:=(yp (h:=?_))))))))))))))))))
      rcases Bool.eq_false_or_eq_true (t10919) with b63 | b63
      ·replace H:=H.1 b63
       exact gn b63 (h:=(gn b63 (h:=(gn b63 (h:=(gn b63 (h:=(gn b63 (h:=(zg rfl (zQ (okb b63) rfl) (ze (za (zm rfl (fun _=>zd (zb (yp (h:=(ze (za (zt (zf (zj (zf (zf (zj (zf (zD rfl rfl ⟨gr150,false,rfl,H⟩)))))))))))))) (fun h=>by cases h))))))))))))))
      replace H:=H.2 b63
      refine gp b63 (h:=(zT (qF rfl rfl (okb b63)) rfl rfl (qM H) ?_))
      rintro _ w165 ⟨hg76,v_t1159,F_t1159,t1159,rfl,ht1159,ho98,H⟩
      have gr151:=qG gr150 hg76
      have k1600:=k1585.g0 hg76
      have k1601:=((k1556.goL hgl60 (apC (Dj.new k970.lt' hge12) (apC dj239.symm.symm (apC (InP.dj hi41 k1525.lt' (apC dj239.symm.symm (apC (InP.dj hi40 k1480.lt' (apC dj235 (apC dj239.symm.symm (apC (InP.dj hi39 k1449.lt' (apC dj239.symm.symm (apC (InP.dj hi38 k1050.lt' (apC dj239 (apC (InP.dj hi36 k1003.lt' (apC dj239 (apC (InP.dj hi34 k970.lt' (apC dj239 (apC dj240 apN))).symm apN))).symm apN))).symm apN))).symm apN)))).symm apN))).symm apN)))).goL hgl61 (apC (Dj.new k1003.lt' hge13) apN)).grown hg76
      have k1602:=((k1557.goL hgl60 (apC (Dj.new k971.lt' hge12) (apC dj309 (apC (InP.dj hi41 k1526.lt' (apC dj309 (apC dj310 apN))).symm apN)))).goL hgl61 (apC (Dj.new k1004.lt' hge13) apN)).g0 hg76
      have k1603:=((k1558.goL hgl60 (apC (k972.new hge12) (apC dj243 (apC (RelD.inp k1527 (apC dj243 (apC (RelD.inp k1482 (apC dj234 (apC dj243 (apC (RelD.inp k1451 (apC dj243 (apC (RelD.inp k1052 (apC dj243 (apC (RelD.inp k1005 (apC dj243 (apC (RelD.inp k972 (apC dj243 (apC dj244 apN)) hi34) apN)) hi36) apN)) hi38) apN)) hi39) apN))) hi40) apN)) hi41) apN)))).goL hgl61 (apC (k1005.new hge13) apN)).grown hg76
      have k1604:=((k1559.goL hgl60 (apC dj253 (apC dj257.symm.symm (apC (InP.dj hi41 k1528.lt' (apC dj257.symm.symm (apC (InP.dj hi40 k1483.lt' (apC (Dj.new k971.lt' hb17).symm (apC dj257.symm.symm (apC (InP.dj hi39 k1452.lt' (apC dj257.symm.symm (apC (InP.dj hi38 k1053.lt' (apC dj257 (apC (InP.dj hi36 k1008.lt' (apC dj257 (apC dj258 apN))).symm apN))).symm apN))).symm apN)))).symm apN))).symm apN)))).goL hgl61 (apC (Dj.new k1008.lt' hge13) apN)).grown hg76
      have k1605:=(hB77.goL hgl61 (apC (Dj.new k1009.lt' hge13) apN)).g0 hg76
      have k1606:=((k1561.goL hgl60 (apC dj252 (apC dj261 (apC (RelD.inp k1530 (apC dj261 (apC (RelD.inp k1485 (apC (ho78 _ k971.lt' dj246) (apC dj261 (apC (RelD.inp k1454 (apC dj261 (apC (RelD.inp k1055 (apC dj261 (apC (RelD.inp k1010 (apC dj261 (apC dj262 apN)) hi36) apN)) hi38) apN)) hi39) apN))) hi40) apN)) hi41) apN)))).goL hgl61 (apC (k1010.new hge13) apN)).grown hg76
      have k1607:=(k1577.goL hgl61 (apC dj271 apN)).grown hg76
      have k1608:=hB79.g0 hg76
      have k1609:=(k1579.goL hgl61 (apC dj270 apN)).grown hg76
      have k1610:=((k1565.goL hgl60 (apC (Dj.new k1054.lt' hb19).symm (apC dj293.symm.symm (apC (InP.dj hi41 k1534.lt' (apC dj293.symm.symm (apC (InP.dj hi40 k1489.lt' (apC (Dj.new k1051.lt' hb19).symm (apC dj293.symm.symm (apC (InP.dj hi39 k1460.lt' (apC dj293.symm.symm (apC dj294 apN))).symm apN)))).symm apN))).symm apN)))).goL hgl61 (apC (Dj.new k1059.lt' hb19).symm apN)).grown hg76
      have k1611:=k1595.g0 hg76
      have k1612:=((k1567.goL hgl60 (apC (ho84 _ k1054.lt' (ho80 _ k1009.lt' dj264)) (apC dj297 (apC (RelD.inp k1536 (apC dj297 (apC (RelD.inp k1491 (apC (ho84 _ k1051.lt' (ho80 _ k1004.lt' (ho77 _ k971.lt' dj246))) (apC dj297 (apC (RelD.inp k1462 (apC dj297 (apC dj298 apN)) hi39) apN))) hi40) apN)) hi41) apN)))).goL hgl61 (apC (ho84 _ k1059.lt' dj282) apN)).grown hg76
      have k1613:=(k1583.goL hgl61 (apC (Dj.app (Dj.app (Dj.new hO84.lt' hge13) k1045.lt' hk9) k1098.lt' hk10).symm.symm apN)).grown hg76
      have k1614:=k1598.grown hg76
      have k1615:=(hr42.goL hgl61 (apC (ho96 _ k1563.lt' (ho95 _ k1532.lt' (ho92 _ k1487.lt' (ho91 _ k1456.lt' (ho83 _ k1059.lt' dj282) (ho90 _ k1440.lt')) (k1005.new hge13)) (ho94 _ k1516.lt')) (k1010.new hge13)) apN)).grown hg76
      refine zT (qF rfl rfl (okb b63)) rfl rfl (jk (GB.grown hG gr151) (qE gr151) (apC (Ge.le hge1 (qE gr2)) (apC k1614.ge' apN)) hS3 hS7 (k1614.base (fun _ _=>Nat.zero_le _)) rfl k1615 k1600 ht1159 dj321 (apC dj323 (apC dj324 apN)) (apC (ho98 _ k1585.lt') (apC (ho98 _ k1598.lt') apN)) H) ?_
      rintro v_t1169 w166 ⟨hgl62,_,t1169,a_127,a5l,a6w,a2y,a_128,a_129,rfl,ht1169,hB80,hO105,hi43,hr43,ho99,dj326,dj327,dj328,H⟩
      have hO106:=hO105.base (InP.toGe hi43 (apC (Ge.le hge1 (qE gr2)) (apC k1614.ge' apN)) (qE gr151))
      have gr152:=qN gr151 hgl62 (apC (Ge.le hge1 (qE gr2)) (apC k1614.ge' apN))
      have k1629:=k1615.goL hgl62 (apC dj323 (apC dj324 apN))
      have k1630:=ht1159.goL hgl62 (apC (ho98 _ k1585.lt') (apC (ho98 _ k1598.lt') apN))
      refine zT (qF rfl rfl (okb b63)) rfl rfl (ji (hG.grown gr152) hS0 hS1 hS2 hS3 hS4 hS5 hS6 hS7 hS8 hS9 hS10 hS11 hS12 hS13 hS14 hS15 hS16 ht1169 H) ?_
      rintro _ w167 ⟨hg77,t1179,rfl,H⟩
      have gr153:=qG gr152 hg77
      have k1631:=hB80.g0 hg77
      have k1632:=(k1601.goL hgl62 (apC dj239.symm.symm (apC (InP.dj hi42 k1556.lt' (apC (Dj.new k970.lt' hge12) (apC dj239.symm.symm (apC (InP.dj hi41 k1525.lt' (apC dj239.symm.symm (apC (InP.dj hi40 k1480.lt' (apC dj235 (apC dj239.symm.symm (apC (InP.dj hi39 k1449.lt' (apC dj239.symm.symm (apC (InP.dj hi38 k1050.lt' (apC dj239 (apC (InP.dj hi36 k1003.lt' (apC dj239 (apC (InP.dj hi34 k970.lt' (apC dj239 (apC dj240 apN))).symm apN))).symm apN))).symm apN))).symm apN)))).symm apN))).symm apN)))).symm apN))).grown hg77
      have k1633:=(k1602.goL hgl62 (apC dj309 (apC (InP.dj hi42 k1557.lt' (apC (Dj.new k971.lt' hge12) (apC dj309 (apC (InP.dj hi41 k1526.lt' (apC dj309 (apC dj310 apN))).symm apN)))).symm apN))).g0 hg77
      have k1634:=(k1603.goL hgl62 (apC dj243 (apC (RelD.inp k1558 (apC (k972.new hge12) (apC dj243 (apC (RelD.inp k1527 (apC dj243 (apC (RelD.inp k1482 (apC dj234 (apC dj243 (apC (RelD.inp k1451 (apC dj243 (apC (RelD.inp k1052 (apC dj243 (apC (RelD.inp k1005 (apC dj243 (apC (RelD.inp k972 (apC dj243 (apC dj244 apN)) hi34) apN)) hi36) apN)) hi38) apN)) hi39) apN))) hi40) apN)) hi41) apN))) hi42) apN))).grown hg77
      have k1635:=(k1604.goL hgl62 (apC dj257.symm.symm (apC (InP.dj hi42 k1559.lt' (apC dj253 (apC dj257.symm.symm (apC (InP.dj hi41 k1528.lt' (apC dj257.symm.symm (apC (InP.dj hi40 k1483.lt' (apC (Dj.new k971.lt' hb17).symm (apC dj257.symm.symm (apC (InP.dj hi39 k1452.lt' (apC dj257.symm.symm (apC (InP.dj hi38 k1053.lt' (apC dj257 (apC (InP.dj hi36 k1008.lt' (apC dj257 (apC dj258 apN))).symm apN))).symm apN))).symm apN)))).symm apN))).symm apN)))).symm apN))).grown hg77
      have k1636:=(k1605.goL hgl62 (apC dj319 (apC dj320 apN))).g0 hg77
      have k1637:=(k1606.goL hgl62 (apC dj261 (apC (RelD.inp k1561 (apC dj252 (apC dj261 (apC (RelD.inp k1530 (apC dj261 (apC (RelD.inp k1485 (apC (ho78 _ k971.lt' dj246) (apC dj261 (apC (RelD.inp k1454 (apC dj261 (apC (RelD.inp k1055 (apC dj261 (apC (RelD.inp k1010 (apC dj261 (apC dj262 apN)) hi36) apN)) hi38) apN)) hi39) apN))) hi40) apN)) hi41) apN))) hi42) apN))).grown hg77
      have k1638:=(k1607.goL hgl62 (apC dj275.symm.symm (apC (InP.dj hi42 k1562.lt' (apC (Dj.new k1009.lt' hb18).symm (apC dj275.symm.symm (apC (InP.dj hi41 k1531.lt' (apC dj275.symm.symm (apC (InP.dj hi40 k1486.lt' (apC (Dj.new k1004.lt' hb18).symm (apC dj275.symm.symm (apC (InP.dj hi39 k1455.lt' (apC dj275.symm.symm (apC (InP.dj hi38 k1058.lt' (apC dj275 (apC dj276 apN))).symm apN))).symm apN)))).symm apN))).symm apN)))).symm apN))).grown hg77
      have k1640:=(k1609.goL hgl62 (apC dj279 (apC (RelD.inp k1564 (apC (ho81 _ k1009.lt' dj264) (apC dj279 (apC (RelD.inp k1533 (apC dj279 (apC (RelD.inp k1488 (apC (ho81 _ k1004.lt' (ho77 _ k971.lt' dj246)) (apC dj279 (apC (RelD.inp k1457 (apC dj279 (apC (RelD.inp k1060 (apC dj279 (apC dj280 apN)) hi38) apN)) hi39) apN))) hi40) apN)) hi41) apN))) hi42) apN))).grown hg77
      have k1641:=(k1610.goL hgl62 (apC dj293.symm.symm (apC (InP.dj hi42 k1565.lt' (apC (Dj.new k1054.lt' hb19).symm (apC dj293.symm.symm (apC (InP.dj hi41 k1534.lt' (apC dj293.symm.symm (apC (InP.dj hi40 k1489.lt' (apC (Dj.new k1051.lt' hb19).symm (apC dj293.symm.symm (apC (InP.dj hi39 k1460.lt' (apC dj293.symm.symm (apC dj294 apN))).symm apN)))).symm apN))).symm apN)))).symm apN))).grown hg77
      have k1642:=(k1611.goL hgl62 (apC dj295.symm.symm (apC (InP.dj hi42 k1566.lt' (apC (Dj.new k1054.lt' hge14).symm (apC dj295.symm.symm (apC (InP.dj hi41 k1535.lt' (apC dj295.symm.symm (apC (InP.dj hi40 k1490.lt' (apC (Dj.new k1051.lt' hge14).symm (apC dj295.symm.symm (apC (InP.dj hi39 k1461.lt' (apC dj295.symm.symm (apC dj296 apN))).symm apN)))).symm apN))).symm apN)))).symm apN))).g0 hg77
      have k1643:=(k1612.goL hgl62 (apC dj297 (apC (RelD.inp k1567 (apC (ho84 _ k1054.lt' (ho80 _ k1009.lt' dj264)) (apC dj297 (apC (RelD.inp k1536 (apC dj297 (apC (RelD.inp k1491 (apC (ho84 _ k1051.lt' (ho80 _ k1004.lt' (ho77 _ k971.lt' dj246))) (apC dj297 (apC (RelD.inp k1462 (apC dj297 (apC dj298 apN)) hi39) apN))) hi40) apN)) hi41) apN))) hi42) apN))).grown hg77
      have k1644:=(k1613.goL hgl62 (apC (Dj.app (Dj.app (Dj.app (Dj.app (p:=none) Dj.nl k959.lt' hk7) k990.lt' hk8) k1034.lt' hk9) k1090.lt' hk10).symm.symm (apC (InP.dj hi42 k1568.lt' (apC (Dj.app (Dj.app (Dj.app (Dj.new hO78.lt' hge12) k998.lt' hk8) k1039.lt' hk9) k1095.lt' hk10).symm.symm (apC (Dj.app (Dj.app (Dj.app (Dj.app (p:=none) Dj.nl k959.lt' hk7) k990.lt' hk8) k1034.lt' hk9) k1090.lt' hk10).symm.symm (apC (InP.dj hi41 k1537.lt' (apC (Dj.app (Dj.app (Dj.app (Dj.app (p:=none) Dj.nl k959.lt' hk7) k990.lt' hk8) k1034.lt' hk9) k1090.lt' hk10).symm.symm (apC (InP.dj hi40 k1492.lt' (apC (Dj.app (Dj.app (Dj.app (Dj.app (p:=none) Dj.nl k963.lt' hk7) k992.lt' hk8) k1036.lt' hk9) k1092.lt' hk10).symm.symm (apC (Dj.app (Dj.app (Dj.app (Dj.app (p:=none) Dj.nl k959.lt' hk7) k990.lt' hk8) k1034.lt' hk9) k1090.lt' hk10).symm.symm (apC (InP.dj hi39 k1463.lt' (apC (Dj.app (Dj.app (Dj.app (Dj.app (p:=none) Dj.nl k959.lt' hk7) k990.lt' hk8) k1034.lt' hk9) k1090.lt' hk10).symm.symm (apC (Dj.app (InP.dj hi38 hO90.lt' (apC (Dj.app (Dj.app (Dj.app (p:=none) Dj.nl k959.lt' hk7) k990.lt' hk8) k1034.lt' hk9) (apC (Dj.app (InP.dj hi36 hO84.lt' (apC (Dj.app (Dj.app (p:=none) Dj.nl k959.lt' hk7) k990.lt' hk8) (apC (Dj.app (InP.dj hi34 hO78.lt' (apC (Dj.app (p:=none) Dj.nl k959.lt' hk7) (apC (Dj.app (p:=none) Dj.nl k960.lt' hk7) apN))).symm k995.lt' hk8) apN))).symm k1042.lt' hk9) apN))).symm k1101.lt' hk10).symm.symm apN))).symm apN)))).symm apN))).symm apN)))).symm apN))).grown hg77
      have k1645:=hO106.grown hg77
      have k1646:=hr43.grown hg77
      have k1647:=ht1169.grown hg77
      refine gp b63 (h:=(zg rfl (zK (okb b63) rfl) (ze (za (zm rfl (fun b64=>?_) (fun b64=>?_))))))
      ·replace H:=H.1 (b64)
       exact zd (zb (yp (h:=(ze (za (zt (zf (zj (zf (zf (zj (zf (zD rfl rfl ⟨gr153,false,rfl,H⟩)))))))))))))
      replace H:=H.2 (b64)
      refine zo (za (zb (yp (h:=(yp (h:=(zg rfl (zB qD k1644.rd rfl rfl rfl rfl (by omega) (by simp)) (zg rfl (zR (v:=.pointer (some ⟨a7,0,none⟩)) (zM 0 qD k1644.rd rfl rfl (by simp)) rfl) ?_))))))))
      refine zx rfl rfl (ja (k1645.base (fun _ _=>Nat.zero_le _)) rfl k1646 k1631 k1638.rd rfl k1640 ((k1608.goL hgl62 (apC dj277.symm.symm (apC (InP.dj hi42 k1563.lt' (apC (Dj.new k1009.lt' hge13).symm (apC dj277.symm.symm (apC (InP.dj hi41 k1532.lt' (apC dj277.symm.symm (apC (InP.dj hi40 k1487.lt' (apC (Dj.new k1004.lt' hge13).symm (apC dj277.symm.symm (apC (InP.dj hi39 k1456.lt' (apC dj277.symm.symm (apC (InP.dj hi38 k1059.lt' (apC dj277 (apC dj278 apN))).symm apN))).symm apN)))).symm apN))).symm apN)))).symm apN))).g0 hg77) dj277.symm.symm (InP.dj hi43 k1608.lt' (apC dj277.symm.symm (apC (InP.dj hi42 k1563.lt' (apC (Dj.new k1009.lt' hge13).symm (apC dj277.symm.symm (apC (InP.dj hi41 k1532.lt' (apC dj277.symm.symm (apC (InP.dj hi40 k1487.lt' (apC (Dj.new k1004.lt' hge13).symm (apC dj277.symm.symm (apC (InP.dj hi39 k1456.lt' (apC dj277.symm.symm (apC (InP.dj hi38 k1059.lt' (apC dj277 (apC dj278 apN))).symm apN))).symm apN)))).symm apN))).symm apN)))).symm apN))).symm dj326 (apC (ho99 _ k1608.lt' (ho96 _ k1563.lt' (ho95 _ k1532.lt' (ho92 _ k1487.lt' (ho91 _ k1456.lt' (ho83 _ k1059.lt' dj282) (ho90 _ k1440.lt')) (k1005.new hge13)) (ho94 _ k1516.lt')) (k1010.new hge13)) (ho98 _ hB79.lt')) (apC dj327 (apC dj328 apN))) (apC (Dn.of dj271) (apC (Dn.of dj275.symm.symm) (apC (Dn.of (InP.dj hi43 k1607.lt' (apC dj275.symm.symm (apC (InP.dj hi42 k1562.lt' (apC (Dj.new k1009.lt' hb18).symm (apC dj275.symm.symm (apC (InP.dj hi41 k1531.lt' (apC dj275.symm.symm (apC (InP.dj hi40 k1486.lt' (apC (Dj.new k1004.lt' hb18).symm (apC dj275.symm.symm (apC (InP.dj hi39 k1455.lt' (apC dj275.symm.symm (apC (InP.dj hi38 k1058.lt' (apC dj275 (apC dj276 apN))).symm apN))).symm apN)))).symm apN))).symm apN)))).symm apN))).symm) apN))) (apC dj270 (apC dj279 (apC (RelD.inp k1609 (apC dj279 (apC (RelD.inp k1564 (apC (ho81 _ k1009.lt' dj264) (apC dj279 (apC (RelD.inp k1533 (apC dj279 (apC (RelD.inp k1488 (apC (ho81 _ k1004.lt' (ho77 _ k971.lt' dj246)) (apC dj279 (apC (RelD.inp k1457 (apC dj279 (apC (RelD.inp k1060 (apC dj279 (apC dj280 apN)) hi38) apN)) hi39) apN))) hi40) apN)) hi41) apN))) hi42) apN)) hi43) apN))) H) ?_
      rintro _ w168 ⟨hgl63,a4b,a4c,a4d,a_130,a5m,a6x,a2z,a_131,a_132,rfl,hB81,hB82,hO107,hi44,hr44,ho100,dj329,dj330,dj331,dj332,dj333,dj334,H⟩
      have hO108:=hO107.base (InP.toGe hi44 (apC (Ge.le hge13 (qE gr114)) (apC (Ge.le hge1 (qE gr2)) (apC k1645.ge' apN))) (qE gr153))
      have k1656:=k1641.goL hgl63 (apC (Dj.new k1059.lt' hb19).symm (apC dj293.symm.symm (apC (InP.dj hi43 k1610.lt' (apC dj293.symm.symm (apC (InP.dj hi42 k1565.lt' (apC (Dj.new k1054.lt' hb19).symm (apC dj293.symm.symm (apC (InP.dj hi41 k1534.lt' (apC dj293.symm.symm (apC (InP.dj hi40 k1489.lt' (apC (Dj.new k1051.lt' hb19).symm (apC dj293.symm.symm (apC (InP.dj hi39 k1460.lt' (apC dj293.symm.symm (apC dj294 apN))).symm apN)))).symm apN))).symm apN)))).symm apN))).symm apN)))
      have k1658:=k1643.goL hgl63 (apC (ho84 _ k1059.lt' dj282) (apC dj297 (apC (RelD.inp k1612 (apC dj297 (apC (RelD.inp k1567 (apC (ho84 _ k1054.lt' (ho80 _ k1009.lt' dj264)) (apC dj297 (apC (RelD.inp k1536 (apC dj297 (apC (RelD.inp k1491 (apC (ho84 _ k1051.lt' (ho80 _ k1004.lt' (ho77 _ k971.lt' dj246))) (apC dj297 (apC (RelD.inp k1462 (apC dj297 (apC dj298 apN)) hi39) apN))) hi40) apN)) hi41) apN))) hi42) apN)) hi43) apN)))
      have k1659:=k1644.goL hgl63 (apC (Dj.app (Dj.app (Dj.new hO84.lt' hge13) k1045.lt' hk9) k1098.lt' hk10).symm.symm (apC (Dj.app (Dj.app (Dj.app (Dj.app (p:=none) Dj.nl k959.lt' hk7) k990.lt' hk8) k1034.lt' hk9) k1090.lt' hk10).symm.symm (apC (InP.dj hi43 k1613.lt' (apC (Dj.app (Dj.app (Dj.app (Dj.app (p:=none) Dj.nl k959.lt' hk7) k990.lt' hk8) k1034.lt' hk9) k1090.lt' hk10).symm.symm (apC (InP.dj hi42 k1568.lt' (apC (Dj.app (Dj.app (Dj.app (Dj.new hO78.lt' hge12) k998.lt' hk8) k1039.lt' hk9) k1095.lt' hk10).symm.symm (apC (Dj.app (Dj.app (Dj.app (Dj.app (p:=none) Dj.nl k959.lt' hk7) k990.lt' hk8) k1034.lt' hk9) k1090.lt' hk10).symm.symm (apC (InP.dj hi41 k1537.lt' (apC (Dj.app (Dj.app (Dj.app (Dj.app (p:=none) Dj.nl k959.lt' hk7) k990.lt' hk8) k1034.lt' hk9) k1090.lt' hk10).symm.symm (apC (InP.dj hi40 k1492.lt' (apC (Dj.app (Dj.app (Dj.app (Dj.app (p:=none) Dj.nl k963.lt' hk7) k992.lt' hk8) k1036.lt' hk9) k1092.lt' hk10).symm.symm (apC (Dj.app (Dj.app (Dj.app (Dj.app (p:=none) Dj.nl k959.lt' hk7) k990.lt' hk8) k1034.lt' hk9) k1090.lt' hk10).symm.symm (apC (InP.dj hi39 k1463.lt' (apC (Dj.app (Dj.app (Dj.app (Dj.app (p:=none) Dj.nl k959.lt' hk7) k990.lt' hk8) k1034.lt' hk9) k1090.lt' hk10).symm.symm (apC (Dj.app (InP.dj hi38 hO90.lt' (apC (Dj.app (Dj.app (Dj.app (p:=none) Dj.nl k959.lt' hk7) k990.lt' hk8) k1034.lt' hk9) (apC (Dj.app (InP.dj hi36 hO84.lt' (apC (Dj.app (Dj.app (p:=none) Dj.nl k959.lt' hk7) k990.lt' hk8) (apC (Dj.app (InP.dj hi34 hO78.lt' (apC (Dj.app (p:=none) Dj.nl k959.lt' hk7) (apC (Dj.app (p:=none) Dj.nl k960.lt' hk7) apN))).symm k995.lt' hk8) apN))).symm k1042.lt' hk9) apN))).symm k1101.lt' hk10).symm.symm apN))).symm apN)))).symm apN))).symm apN)))).symm apN))).symm apN)))
      have k1660:=k1646.goL hgl63 (apC (ho99 _ k1608.lt' (ho96 _ k1563.lt' (ho95 _ k1532.lt' (ho92 _ k1487.lt' (ho91 _ k1456.lt' (ho83 _ k1059.lt' dj282) (ho90 _ k1440.lt')) (k1005.new hge13)) (ho94 _ k1516.lt')) (k1010.new hge13)) (ho98 _ hB79.lt')) (apC dj327 (apC dj328 apN)))
      refine ze (zi (za (zb (yp (h:=(zg rfl (zR (v:=.int .i64 (3:Int)) (Yld.add rfl rfl (by simp only [In]; omega)) rfl) (yp (h:=(ze (qf (WCL.one (zd (zd (zb (yp (h:=(yp (h:=(yp (h:=(ze (za (zm rfl (fun _=>zo (za (zd (WC.block (zd (zb (yp (h:=(yp (h:=(zg rfl (zB qD k1659.rd rfl rfl rfl rfl (by omega) (by simp)) (zg rfl (zR (v:=.pointer (some ⟨a5,0,none⟩)) (zM 0 qD k1659.rd rfl rfl (by simp)) rfl) ?_)))))))))))) (fun h=>by cases h))))))))))))))))))))))))
      refine zx rfl rfl (qK hO108.rd rfl hr44 hB82 k1656.rd rfl k1658 (k1642.goL hgl63 (apC (Dj.new k1059.lt' hge14).symm (apC dj295.symm.symm (apC (InP.dj hi43 k1611.lt' (apC dj295.symm.symm (apC (InP.dj hi42 k1566.lt' (apC (Dj.new k1054.lt' hge14).symm (apC dj295.symm.symm (apC (InP.dj hi41 k1535.lt' (apC dj295.symm.symm (apC (InP.dj hi40 k1490.lt' (apC (Dj.new k1051.lt' hge14).symm (apC dj295.symm.symm (apC (InP.dj hi39 k1461.lt' (apC dj295.symm.symm (apC dj296 apN))).symm apN)))).symm apN))).symm apN)))).symm apN))).symm apN)))) (apC (Dn.of (InP.dj hi44 k1642.lt' (apC (Dj.new k1059.lt' hge14).symm (apC dj295.symm.symm (apC (InP.dj hi43 k1611.lt' (apC dj295.symm.symm (apC (InP.dj hi42 k1566.lt' (apC (Dj.new k1054.lt' hge14).symm (apC dj295.symm.symm (apC (InP.dj hi41 k1535.lt' (apC dj295.symm.symm (apC (InP.dj hi40 k1490.lt' (apC (Dj.new k1051.lt' hge14).symm (apC dj295.symm.symm (apC (InP.dj hi39 k1461.lt' (apC dj295.symm.symm (apC dj296 apN))).symm apN)))).symm apN))).symm apN)))).symm apN))).symm apN))))) apN) (apC (ho100 _ k1642.lt' (ho99 _ k1611.lt' (ho96 _ k1566.lt' (ho95 _ k1535.lt' (ho92 _ k1490.lt' (ho91 _ k1461.lt' dj300 (ho90 _ k1445.lt')) (k1052.new hge14)) (ho94 _ k1519.lt')) (k1055.new hge14)) (ho98 _ k1595.lt')) (k1060.new hge14)) apN) (apC dj295.symm apN) (apC (Dn.of dj289) apN) (apC dj288 apN) H) ?_
      rintro _ w169 ⟨hgl64,v_t109010,F_t109010,t109010,t109110,u3,rfl,ht109010,ho101,hB83,dj335,H⟩
      have gr155:=qN (qN gr153 hgl63 (apC (Ge.le hge13 (qE gr114)) (apC (Ge.le hge1 (qE gr2)) (apC k1645.ge' apN)))) hgl64 (apC (Ge.le hge14 (qE gr118)) apN)
      have k1661:=hB82.goL hgl64 (apC dj295.symm apN)
      have k1674:=hO108.goL hgl64 (apC (InP.dj hi44 k1642.lt' (apC (Dj.new k1059.lt' hge14).symm (apC dj295.symm.symm (apC (InP.dj hi43 k1611.lt' (apC dj295.symm.symm (apC (InP.dj hi42 k1566.lt' (apC (Dj.new k1054.lt' hge14).symm (apC dj295.symm.symm (apC (InP.dj hi41 k1535.lt' (apC dj295.symm.symm (apC (InP.dj hi40 k1490.lt' (apC (Dj.new k1051.lt' hge14).symm (apC dj295.symm.symm (apC (InP.dj hi39 k1461.lt' (apC dj295.symm.symm (apC dj296 apN))).symm apN)))).symm apN))).symm apN)))).symm apN))).symm apN)))) apN)
      refine yp (h:=(yp (h:=(yp (h:=(yp (h:=(yp (h:=(ze (za (zd (zd (zb (yp (h:=(yp (h:=?_))))))))))))))))))
      rcases Bool.eq_false_or_eq_true (t109110) with b65 | b65
      ·replace H:=H.1 b65
       exact gn b65 (h:=(gn b65 (h:=(gn b65 (h:=(gn b65 (h:=(gn b65 (h:=(zg rfl (zQ (okb b65) rfl) (ze (za (zm rfl (fun _=>zd (zb (yp (h:=(ze (za (zt (zf (zj (zf (zf (zj (zf (zD rfl rfl ⟨gr155,false,rfl,H⟩)))))))))))))) (fun h=>by cases h))))))))))))))
      replace H:=H.2 b65
      refine gp b65 (h:=(zT (qF rfl rfl (okb b65)) rfl rfl (qM H) ?_))
      rintro _ w170 ⟨hg78,v_t11510,F_t11510,t11510,rfl,ht11510,ho102,H⟩
      have gr156:=qG gr155 hg78
      have k1676:=k1661.g0 hg78
      have k1677:=((k1632.goL hgl63 (apC (Dj.new k1003.lt' hge13) (apC dj239.symm.symm (apC (InP.dj hi43 k1601.lt' (apC dj239.symm.symm (apC (InP.dj hi42 k1556.lt' (apC (Dj.new k970.lt' hge12) (apC dj239.symm.symm (apC (InP.dj hi41 k1525.lt' (apC dj239.symm.symm (apC (InP.dj hi40 k1480.lt' (apC dj235 (apC dj239.symm.symm (apC (InP.dj hi39 k1449.lt' (apC dj239.symm.symm (apC (InP.dj hi38 k1050.lt' (apC dj239 (apC (InP.dj hi36 k1003.lt' (apC dj239 (apC (InP.dj hi34 k970.lt' (apC dj239 (apC dj240 apN))).symm apN))).symm apN))).symm apN))).symm apN)))).symm apN))).symm apN)))).symm apN))).symm apN)))).goL hgl64 (apC (Dj.new k1050.lt' hge14) apN)).grown hg78
      have k1678:=((k1633.goL hgl63 (apC (Dj.new k1004.lt' hge13) (apC dj309 (apC (InP.dj hi43 k1602.lt' (apC dj309 (apC (InP.dj hi42 k1557.lt' (apC (Dj.new k971.lt' hge12) (apC dj309 (apC (InP.dj hi41 k1526.lt' (apC dj309 (apC dj310 apN))).symm apN)))).symm apN))).symm apN)))).goL hgl64 (apC (Dj.new k1051.lt' hge14) apN)).g0 hg78
      have k1679:=((k1634.goL hgl63 (apC (k1005.new hge13) (apC dj243 (apC (RelD.inp k1603 (apC dj243 (apC (RelD.inp k1558 (apC (k972.new hge12) (apC dj243 (apC (RelD.inp k1527 (apC dj243 (apC (RelD.inp k1482 (apC dj234 (apC dj243 (apC (RelD.inp k1451 (apC dj243 (apC (RelD.inp k1052 (apC dj243 (apC (RelD.inp k1005 (apC dj243 (apC (RelD.inp k972 (apC dj243 (apC dj244 apN)) hi34) apN)) hi36) apN)) hi38) apN)) hi39) apN))) hi40) apN)) hi41) apN))) hi42) apN)) hi43) apN)))).goL hgl64 (apC (k1052.new hge14) apN)).grown hg78
      have k1680:=((k1635.goL hgl63 (apC (Dj.new k1008.lt' hge13) (apC dj257.symm.symm (apC (InP.dj hi43 k1604.lt' (apC dj257.symm.symm (apC (InP.dj hi42 k1559.lt' (apC dj253 (apC dj257.symm.symm (apC (InP.dj hi41 k1528.lt' (apC dj257.symm.symm (apC (InP.dj hi40 k1483.lt' (apC (Dj.new k971.lt' hb17).symm (apC dj257.symm.symm (apC (InP.dj hi39 k1452.lt' (apC dj257.symm.symm (apC (InP.dj hi38 k1053.lt' (apC dj257 (apC (InP.dj hi36 k1008.lt' (apC dj257 (apC dj258 apN))).symm apN))).symm apN))).symm apN)))).symm apN))).symm apN)))).symm apN))).symm apN)))).goL hgl64 (apC (Dj.new k1053.lt' hge14) apN)).grown hg78
      have k1681:=((k1636.goL hgl63 (apC (Dj.new k1009.lt' hge13) (apC dj319 (apC (InP.dj hi43 k1605.lt' (apC dj319 (apC dj320 apN))).symm apN)))).goL hgl64 (apC (Dj.new k1054.lt' hge14) apN)).g0 hg78
      have k1682:=((k1637.goL hgl63 (apC (k1010.new hge13) (apC dj261 (apC (RelD.inp k1606 (apC dj261 (apC (RelD.inp k1561 (apC dj252 (apC dj261 (apC (RelD.inp k1530 (apC dj261 (apC (RelD.inp k1485 (apC (ho78 _ k971.lt' dj246) (apC dj261 (apC (RelD.inp k1454 (apC dj261 (apC (RelD.inp k1055 (apC dj261 (apC (RelD.inp k1010 (apC dj261 (apC dj262 apN)) hi36) apN)) hi38) apN)) hi39) apN))) hi40) apN)) hi41) apN))) hi42) apN)) hi43) apN)))).goL hgl64 (apC (k1055.new hge14) apN)).grown hg78
      have k1683:=((k1638.goL hgl63 (apC dj271 (apC dj275.symm.symm (apC (InP.dj hi43 k1607.lt' (apC dj275.symm.symm (apC (InP.dj hi42 k1562.lt' (apC (Dj.new k1009.lt' hb18).symm (apC dj275.symm.symm (apC (InP.dj hi41 k1531.lt' (apC dj275.symm.symm (apC (InP.dj hi40 k1486.lt' (apC (Dj.new k1004.lt' hb18).symm (apC dj275.symm.symm (apC (InP.dj hi39 k1455.lt' (apC dj275.symm.symm (apC (InP.dj hi38 k1058.lt' (apC dj275 (apC dj276 apN))).symm apN))).symm apN)))).symm apN))).symm apN)))).symm apN))).symm apN)))).goL hgl64 (apC (Dj.new k1058.lt' hge14) apN)).grown hg78
      have k1684:=(hB81.goL hgl64 (apC (Dj.new k1059.lt' hge14) apN)).g0 hg78
      have k1685:=((k1640.goL hgl63 (apC dj270 (apC dj279 (apC (RelD.inp k1609 (apC dj279 (apC (RelD.inp k1564 (apC (ho81 _ k1009.lt' dj264) (apC dj279 (apC (RelD.inp k1533 (apC dj279 (apC (RelD.inp k1488 (apC (ho81 _ k1004.lt' (ho77 _ k971.lt' dj246)) (apC dj279 (apC (RelD.inp k1457 (apC dj279 (apC (RelD.inp k1060 (apC dj279 (apC dj280 apN)) hi38) apN)) hi39) apN))) hi40) apN)) hi41) apN))) hi42) apN)) hi43) apN)))).goL hgl64 (apC (k1060.new hge14) apN)).grown hg78
      have k1686:=(k1656.goL hgl64 (apC dj289 apN)).grown hg78
      have k1687:=hB83.g0 hg78
      have k1688:=(k1658.goL hgl64 (apC dj288 apN)).grown hg78
      have k1689:=(k1659.goL hgl64 (apC (Dj.app (Dj.new hO90.lt' hge14) k1104.lt' hk10).symm.symm apN)).grown hg78
      have k1690:=k1674.grown hg78
      have k1691:=(hr44.goL hgl64 (apC (ho100 _ k1642.lt' (ho99 _ k1611.lt' (ho96 _ k1566.lt' (ho95 _ k1535.lt' (ho92 _ k1490.lt' (ho91 _ k1461.lt' dj300 (ho90 _ k1445.lt')) (k1052.new hge14)) (ho94 _ k1519.lt')) (k1055.new hge14)) (ho98 _ k1595.lt')) (k1060.new hge14)) apN)).grown hg78
      refine zT (qF rfl rfl (okb b65)) rfl rfl (jk (GB.grown hG gr156) (qE gr156) (apC (Ge.le hge1 (qE gr2)) (apC k1690.ge' apN)) hS3 hS7 (k1690.base (fun _ _=>Nat.zero_le _)) rfl k1691 k1676 ht11510 dj331 (apC dj333 (apC dj334 apN)) (apC (ho102 _ k1661.lt') (apC (ho102 _ k1674.lt') apN)) H) ?_
      rintro v_t11610 w171 ⟨hgl65,_,t11610,a_133,a5n,a6y,a3a,a_134,a_135,rfl,ht11610,hB84,hO109,hi45,hr45,ho103,dj336,dj337,dj338,H⟩
      have hO110:=hO109.base (InP.toGe hi45 (apC (Ge.le hge1 (qE gr2)) (apC k1690.ge' apN)) (qE gr156))
      have gr157:=qN gr156 hgl65 (apC (Ge.le hge1 (qE gr2)) (apC k1690.ge' apN))
      have k1705:=k1691.goL hgl65 (apC dj333 (apC dj334 apN))
      have k1706:=ht11510.goL hgl65 (apC (ho102 _ k1661.lt') (apC (ho102 _ k1674.lt') apN))
      refine zT (qF rfl rfl (okb b65)) rfl rfl (ji (hG.grown gr157) hS0 hS1 hS2 hS3 hS4 hS5 hS6 hS7 hS8 hS9 hS10 hS11 hS12 hS13 hS14 hS15 hS16 ht11610 H) ?_
      rintro _ w172 ⟨hg79,t11710,rfl,H⟩
      have gr158:=qG gr157 hg79
      have k1707:=hB84.g0 hg79
      have k1717:=(k1686.goL hgl65 (apC dj293.symm.symm (apC (InP.dj hi44 k1641.lt' (apC (Dj.new k1059.lt' hb19).symm (apC dj293.symm.symm (apC (InP.dj hi43 k1610.lt' (apC dj293.symm.symm (apC (InP.dj hi42 k1565.lt' (apC (Dj.new k1054.lt' hb19).symm (apC dj293.symm.symm (apC (InP.dj hi41 k1534.lt' (apC dj293.symm.symm (apC (InP.dj hi40 k1489.lt' (apC (Dj.new k1051.lt' hb19).symm (apC dj293.symm.symm (apC (InP.dj hi39 k1460.lt' (apC dj293.symm.symm (apC dj294 apN))).symm apN)))).symm apN))).symm apN)))).symm apN))).symm apN)))).symm apN))).grown hg79
      have k1719:=(k1688.goL hgl65 (apC dj297 (apC (RelD.inp k1643 (apC (ho84 _ k1059.lt' dj282) (apC dj297 (apC (RelD.inp k1612 (apC dj297 (apC (RelD.inp k1567 (apC (ho84 _ k1054.lt' (ho80 _ k1009.lt' dj264)) (apC dj297 (apC (RelD.inp k1536 (apC dj297 (apC (RelD.inp k1491 (apC (ho84 _ k1051.lt' (ho80 _ k1004.lt' (ho77 _ k971.lt' dj246))) (apC dj297 (apC (RelD.inp k1462 (apC dj297 (apC dj298 apN)) hi39) apN))) hi40) apN)) hi41) apN))) hi42) apN)) hi43) apN))) hi44) apN))).grown hg79
      have k1720:=(k1689.goL hgl65 (apC (Dj.app (Dj.app (Dj.app (Dj.app (p:=none) Dj.nl k959.lt' hk7) k990.lt' hk8) k1034.lt' hk9) k1090.lt' hk10).symm.symm (apC (InP.dj hi44 k1644.lt' (apC (Dj.app (Dj.app (Dj.new hO84.lt' hge13) k1045.lt' hk9) k1098.lt' hk10).symm.symm (apC (Dj.app (Dj.app (Dj.app (Dj.app (p:=none) Dj.nl k959.lt' hk7) k990.lt' hk8) k1034.lt' hk9) k1090.lt' hk10).symm.symm (apC (InP.dj hi43 k1613.lt' (apC (Dj.app (Dj.app (Dj.app (Dj.app (p:=none) Dj.nl k959.lt' hk7) k990.lt' hk8) k1034.lt' hk9) k1090.lt' hk10).symm.symm (apC (InP.dj hi42 k1568.lt' (apC (Dj.app (Dj.app (Dj.app (Dj.new hO78.lt' hge12) k998.lt' hk8) k1039.lt' hk9) k1095.lt' hk10).symm.symm (apC (Dj.app (Dj.app (Dj.app (Dj.app (p:=none) Dj.nl k959.lt' hk7) k990.lt' hk8) k1034.lt' hk9) k1090.lt' hk10).symm.symm (apC (InP.dj hi41 k1537.lt' (apC (Dj.app (Dj.app (Dj.app (Dj.app (p:=none) Dj.nl k959.lt' hk7) k990.lt' hk8) k1034.lt' hk9) k1090.lt' hk10).symm.symm (apC (InP.dj hi40 k1492.lt' (apC (Dj.app (Dj.app (Dj.app (Dj.app (p:=none) Dj.nl k963.lt' hk7) k992.lt' hk8) k1036.lt' hk9) k1092.lt' hk10).symm.symm (apC (Dj.app (Dj.app (Dj.app (Dj.app (p:=none) Dj.nl k959.lt' hk7) k990.lt' hk8) k1034.lt' hk9) k1090.lt' hk10).symm.symm (apC (InP.dj hi39 k1463.lt' (apC (Dj.app (Dj.app (Dj.app (Dj.app (p:=none) Dj.nl k959.lt' hk7) k990.lt' hk8) k1034.lt' hk9) k1090.lt' hk10).symm.symm (apC (Dj.app (InP.dj hi38 hO90.lt' (apC (Dj.app (Dj.app (Dj.app (p:=none) Dj.nl k959.lt' hk7) k990.lt' hk8) k1034.lt' hk9) (apC (Dj.app (InP.dj hi36 hO84.lt' (apC (Dj.app (Dj.app (p:=none) Dj.nl k959.lt' hk7) k990.lt' hk8) (apC (Dj.app (InP.dj hi34 hO78.lt' (apC (Dj.app (p:=none) Dj.nl k959.lt' hk7) (apC (Dj.app (p:=none) Dj.nl k960.lt' hk7) apN))).symm k995.lt' hk8) apN))).symm k1042.lt' hk9) apN))).symm k1101.lt' hk10).symm.symm apN))).symm apN)))).symm apN))).symm apN)))).symm apN))).symm apN)))).symm apN))).grown hg79
      have k1721:=hO110.grown hg79
      have k1722:=hr45.grown hg79
      have k1723:=ht11610.grown hg79
      refine gp b65 (h:=(zg rfl (zK (okb b65) rfl) (ze (za (zm rfl (fun b66=>?_) (fun b66=>?_))))))
      ·replace H:=H.1 (b66)
       exact zd (zb (yp (h:=(ze (za (zt (zf (zj (zf (zf (zj (zf (zD rfl rfl ⟨gr158,false,rfl,H⟩)))))))))))))
      replace H:=H.2 (b66)
      refine zo (za (zb (yp (h:=(yp (h:=(zg rfl (zB qD k1720.rd rfl rfl rfl rfl (by omega) (by simp)) (zg rfl (zR (v:=.pointer (some ⟨a5,0,none⟩)) (zM 0 qD k1720.rd rfl rfl (by simp)) rfl) ?_))))))))
      refine zx rfl rfl (ja (k1721.base (fun _ _=>Nat.zero_le _)) rfl k1722 k1707 k1717.rd rfl k1719 ((k1687.goL hgl65 (apC dj295.symm.symm (apC (InP.dj hi44 k1642.lt' (apC (Dj.new k1059.lt' hge14).symm (apC dj295.symm.symm (apC (InP.dj hi43 k1611.lt' (apC dj295.symm.symm (apC (InP.dj hi42 k1566.lt' (apC (Dj.new k1054.lt' hge14).symm (apC dj295.symm.symm (apC (InP.dj hi41 k1535.lt' (apC dj295.symm.symm (apC (InP.dj hi40 k1490.lt' (apC (Dj.new k1051.lt' hge14).symm (apC dj295.symm.symm (apC (InP.dj hi39 k1461.lt' (apC dj295.symm.symm (apC dj296 apN))).symm apN)))).symm apN))).symm apN)))).symm apN))).symm apN)))).symm apN))).g0 hg79) dj295.symm.symm (InP.dj hi45 k1687.lt' (apC dj295.symm.symm (apC (InP.dj hi44 k1642.lt' (apC (Dj.new k1059.lt' hge14).symm (apC dj295.symm.symm (apC (InP.dj hi43 k1611.lt' (apC dj295.symm.symm (apC (InP.dj hi42 k1566.lt' (apC (Dj.new k1054.lt' hge14).symm (apC dj295.symm.symm (apC (InP.dj hi41 k1535.lt' (apC dj295.symm.symm (apC (InP.dj hi40 k1490.lt' (apC (Dj.new k1051.lt' hge14).symm (apC dj295.symm.symm (apC (InP.dj hi39 k1461.lt' (apC dj295.symm.symm (apC dj296 apN))).symm apN)))).symm apN))).symm apN)))).symm apN))).symm apN)))).symm apN))).symm dj336 (apC (ho103 _ k1687.lt' (ho100 _ k1642.lt' (ho99 _ k1611.lt' (ho96 _ k1566.lt' (ho95 _ k1535.lt' (ho92 _ k1490.lt' (ho91 _ k1461.lt' dj300 (ho90 _ k1445.lt')) (k1052.new hge14)) (ho94 _ k1519.lt')) (k1055.new hge14)) (ho98 _ k1595.lt')) (k1060.new hge14)) (ho102 _ hB83.lt')) (apC dj337 (apC dj338 apN))) (apC (Dn.of dj289) (apC (Dn.of dj293.symm.symm) (apC (Dn.of (InP.dj hi45 k1686.lt' (apC dj293.symm.symm (apC (InP.dj hi44 k1641.lt' (apC (Dj.new k1059.lt' hb19).symm (apC dj293.symm.symm (apC (InP.dj hi43 k1610.lt' (apC dj293.symm.symm (apC (InP.dj hi42 k1565.lt' (apC (Dj.new k1054.lt' hb19).symm (apC dj293.symm.symm (apC (InP.dj hi41 k1534.lt' (apC dj293.symm.symm (apC (InP.dj hi40 k1489.lt' (apC (Dj.new k1051.lt' hb19).symm (apC dj293.symm.symm (apC (InP.dj hi39 k1460.lt' (apC dj293.symm.symm (apC dj294 apN))).symm apN)))).symm apN))).symm apN)))).symm apN))).symm apN)))).symm apN))).symm) apN))) (apC dj288 (apC dj297 (apC (RelD.inp k1688 (apC dj297 (apC (RelD.inp k1643 (apC (ho84 _ k1059.lt' dj282) (apC dj297 (apC (RelD.inp k1612 (apC dj297 (apC (RelD.inp k1567 (apC (ho84 _ k1054.lt' (ho80 _ k1009.lt' dj264)) (apC dj297 (apC (RelD.inp k1536 (apC dj297 (apC (RelD.inp k1491 (apC (ho84 _ k1051.lt' (ho80 _ k1004.lt' (ho77 _ k971.lt' dj246))) (apC dj297 (apC (RelD.inp k1462 (apC dj297 (apC dj298 apN)) hi39) apN))) hi40) apN)) hi41) apN))) hi42) apN)) hi43) apN))) hi44) apN)) hi45) apN))) H) ?_
      rintro _ w173 ⟨hgl66,a4e,a4f,a4g,a_136,a5o,a6z,a3b,a_137,a_138,rfl,hB85,hB86,hO111,hi46,hr46,ho104,dj339,dj340,dj341,dj342,dj343,dj344,H⟩
      have hO112:=hO111.base (InP.toGe hi46 (apC (Ge.le hge14 (qE gr118)) (apC (Ge.le hge1 (qE gr2)) (apC k1721.ge' apN))) (qE gr158))
      have gr159:=qN gr158 hgl66 (apC (Ge.le hge14 (qE gr118)) (apC (Ge.le hge1 (qE gr2)) (apC k1721.ge' apN)))
      have k1724:=((k1677.goL hgl65 (apC dj239.symm.symm (apC (InP.dj hi44 k1632.lt' (apC (Dj.new k1003.lt' hge13) (apC dj239.symm.symm (apC (InP.dj hi43 k1601.lt' (apC dj239.symm.symm (apC (InP.dj hi42 k1556.lt' (apC (Dj.new k970.lt' hge12) (apC dj239.symm.symm (apC (InP.dj hi41 k1525.lt' (apC dj239.symm.symm (apC (InP.dj hi40 k1480.lt' (apC dj235 (apC dj239.symm.symm (apC (InP.dj hi39 k1449.lt' (apC dj239.symm.symm (apC (InP.dj hi38 k1050.lt' (apC dj239 (apC (InP.dj hi36 k1003.lt' (apC dj239 (apC (InP.dj hi34 k970.lt' (apC dj239 (apC dj240 apN))).symm apN))).symm apN))).symm apN))).symm apN)))).symm apN))).symm apN)))).symm apN))).symm apN)))).symm apN))).grown hg79).goL hgl66 (apC (Dj.new k1050.lt' hge14) (apC dj239.symm.symm (apC (InP.dj hi45 k1677.lt' (apC dj239.symm.symm (apC (InP.dj hi44 k1632.lt' (apC (Dj.new k1003.lt' hge13) (apC dj239.symm.symm (apC (InP.dj hi43 k1601.lt' (apC dj239.symm.symm (apC (InP.dj hi42 k1556.lt' (apC (Dj.new k970.lt' hge12) (apC dj239.symm.symm (apC (InP.dj hi41 k1525.lt' (apC dj239.symm.symm (apC (InP.dj hi40 k1480.lt' (apC dj235 (apC dj239.symm.symm (apC (InP.dj hi39 k1449.lt' (apC dj239.symm.symm (apC (InP.dj hi38 k1050.lt' (apC dj239 (apC (InP.dj hi36 k1003.lt' (apC dj239 (apC (InP.dj hi34 k970.lt' (apC dj239 (apC dj240 apN))).symm apN))).symm apN))).symm apN))).symm apN)))).symm apN))).symm apN)))).symm apN))).symm apN)))).symm apN))).symm apN)))
      have k1725:=((k1678.goL hgl65 (apC dj309 (apC (InP.dj hi44 k1633.lt' (apC (Dj.new k1004.lt' hge13) (apC dj309 (apC (InP.dj hi43 k1602.lt' (apC dj309 (apC (InP.dj hi42 k1557.lt' (apC (Dj.new k971.lt' hge12) (apC dj309 (apC (InP.dj hi41 k1526.lt' (apC dj309 (apC dj310 apN))).symm apN)))).symm apN))).symm apN)))).symm apN))).g0 hg79).goL hgl66 (apC (Dj.new k1051.lt' hge14) (apC dj309 (apC (InP.dj hi45 k1678.lt' (apC dj309 (apC (InP.dj hi44 k1633.lt' (apC (Dj.new k1004.lt' hge13) (apC dj309 (apC (InP.dj hi43 k1602.lt' (apC dj309 (apC (InP.dj hi42 k1557.lt' (apC (Dj.new k971.lt' hge12) (apC dj309 (apC (InP.dj hi41 k1526.lt' (apC dj309 (apC dj310 apN))).symm apN)))).symm apN))).symm apN)))).symm apN))).symm apN)))
      have k1726:=((k1679.goL hgl65 (apC dj243 (apC (RelD.inp k1634 (apC (k1005.new hge13) (apC dj243 (apC (RelD.inp k1603 (apC dj243 (apC (RelD.inp k1558 (apC (k972.new hge12) (apC dj243 (apC (RelD.inp k1527 (apC dj243 (apC (RelD.inp k1482 (apC dj234 (apC dj243 (apC (RelD.inp k1451 (apC dj243 (apC (RelD.inp k1052 (apC dj243 (apC (RelD.inp k1005 (apC dj243 (apC (RelD.inp k972 (apC dj243 (apC dj244 apN)) hi34) apN)) hi36) apN)) hi38) apN)) hi39) apN))) hi40) apN)) hi41) apN))) hi42) apN)) hi43) apN))) hi44) apN))).grown hg79).goL hgl66 (apC (k1052.new hge14) (apC dj243 (apC (RelD.inp k1679 (apC dj243 (apC (RelD.inp k1634 (apC (k1005.new hge13) (apC dj243 (apC (RelD.inp k1603 (apC dj243 (apC (RelD.inp k1558 (apC (k972.new hge12) (apC dj243 (apC (RelD.inp k1527 (apC dj243 (apC (RelD.inp k1482 (apC dj234 (apC dj243 (apC (RelD.inp k1451 (apC dj243 (apC (RelD.inp k1052 (apC dj243 (apC (RelD.inp k1005 (apC dj243 (apC (RelD.inp k972 (apC dj243 (apC dj244 apN)) hi34) apN)) hi36) apN)) hi38) apN)) hi39) apN))) hi40) apN)) hi41) apN))) hi42) apN)) hi43) apN))) hi44) apN)) hi45) apN)))
      have k1727:=((k1680.goL hgl65 (apC dj257.symm.symm (apC (InP.dj hi44 k1635.lt' (apC (Dj.new k1008.lt' hge13) (apC dj257.symm.symm (apC (InP.dj hi43 k1604.lt' (apC dj257.symm.symm (apC (InP.dj hi42 k1559.lt' (apC dj253 (apC dj257.symm.symm (apC (InP.dj hi41 k1528.lt' (apC dj257.symm.symm (apC (InP.dj hi40 k1483.lt' (apC (Dj.new k971.lt' hb17).symm (apC dj257.symm.symm (apC (InP.dj hi39 k1452.lt' (apC dj257.symm.symm (apC (InP.dj hi38 k1053.lt' (apC dj257 (apC (InP.dj hi36 k1008.lt' (apC dj257 (apC dj258 apN))).symm apN))).symm apN))).symm apN)))).symm apN))).symm apN)))).symm apN))).symm apN)))).symm apN))).grown hg79).goL hgl66 (apC (Dj.new k1053.lt' hge14) (apC dj257.symm.symm (apC (InP.dj hi45 k1680.lt' (apC dj257.symm.symm (apC (InP.dj hi44 k1635.lt' (apC (Dj.new k1008.lt' hge13) (apC dj257.symm.symm (apC (InP.dj hi43 k1604.lt' (apC dj257.symm.symm (apC (InP.dj hi42 k1559.lt' (apC dj253 (apC dj257.symm.symm (apC (InP.dj hi41 k1528.lt' (apC dj257.symm.symm (apC (InP.dj hi40 k1483.lt' (apC (Dj.new k971.lt' hb17).symm (apC dj257.symm.symm (apC (InP.dj hi39 k1452.lt' (apC dj257.symm.symm (apC (InP.dj hi38 k1053.lt' (apC dj257 (apC (InP.dj hi36 k1008.lt' (apC dj257 (apC dj258 apN))).symm apN))).symm apN))).symm apN)))).symm apN))).symm apN)))).symm apN))).symm apN)))).symm apN))).symm apN)))
      have k1728:=((k1681.goL hgl65 (apC dj319 (apC (InP.dj hi44 k1636.lt' (apC (Dj.new k1009.lt' hge13) (apC dj319 (apC (InP.dj hi43 k1605.lt' (apC dj319 (apC dj320 apN))).symm apN)))).symm apN))).g0 hg79).goL hgl66 (apC (Dj.new k1054.lt' hge14) (apC dj319 (apC (InP.dj hi45 k1681.lt' (apC dj319 (apC (InP.dj hi44 k1636.lt' (apC (Dj.new k1009.lt' hge13) (apC dj319 (apC (InP.dj hi43 k1605.lt' (apC dj319 (apC dj320 apN))).symm apN)))).symm apN))).symm apN)))
      have k1729:=((k1682.goL hgl65 (apC dj261 (apC (RelD.inp k1637 (apC (k1010.new hge13) (apC dj261 (apC (RelD.inp k1606 (apC dj261 (apC (RelD.inp k1561 (apC dj252 (apC dj261 (apC (RelD.inp k1530 (apC dj261 (apC (RelD.inp k1485 (apC (ho78 _ k971.lt' dj246) (apC dj261 (apC (RelD.inp k1454 (apC dj261 (apC (RelD.inp k1055 (apC dj261 (apC (RelD.inp k1010 (apC dj261 (apC dj262 apN)) hi36) apN)) hi38) apN)) hi39) apN))) hi40) apN)) hi41) apN))) hi42) apN)) hi43) apN))) hi44) apN))).grown hg79).goL hgl66 (apC (k1055.new hge14) (apC dj261 (apC (RelD.inp k1682 (apC dj261 (apC (RelD.inp k1637 (apC (k1010.new hge13) (apC dj261 (apC (RelD.inp k1606 (apC dj261 (apC (RelD.inp k1561 (apC dj252 (apC dj261 (apC (RelD.inp k1530 (apC dj261 (apC (RelD.inp k1485 (apC (ho78 _ k971.lt' dj246) (apC dj261 (apC (RelD.inp k1454 (apC dj261 (apC (RelD.inp k1055 (apC dj261 (apC (RelD.inp k1010 (apC dj261 (apC dj262 apN)) hi36) apN)) hi38) apN)) hi39) apN))) hi40) apN)) hi41) apN))) hi42) apN)) hi43) apN))) hi44) apN)) hi45) apN)))
      have k1730:=((k1683.goL hgl65 (apC dj275.symm.symm (apC (InP.dj hi44 k1638.lt' (apC dj271 (apC dj275.symm.symm (apC (InP.dj hi43 k1607.lt' (apC dj275.symm.symm (apC (InP.dj hi42 k1562.lt' (apC (Dj.new k1009.lt' hb18).symm (apC dj275.symm.symm (apC (InP.dj hi41 k1531.lt' (apC dj275.symm.symm (apC (InP.dj hi40 k1486.lt' (apC (Dj.new k1004.lt' hb18).symm (apC dj275.symm.symm (apC (InP.dj hi39 k1455.lt' (apC dj275.symm.symm (apC (InP.dj hi38 k1058.lt' (apC dj275 (apC dj276 apN))).symm apN))).symm apN)))).symm apN))).symm apN)))).symm apN))).symm apN)))).symm apN))).grown hg79).goL hgl66 (apC (Dj.new k1058.lt' hge14) (apC dj275.symm.symm (apC (InP.dj hi45 k1683.lt' (apC dj275.symm.symm (apC (InP.dj hi44 k1638.lt' (apC dj271 (apC dj275.symm.symm (apC (InP.dj hi43 k1607.lt' (apC dj275.symm.symm (apC (InP.dj hi42 k1562.lt' (apC (Dj.new k1009.lt' hb18).symm (apC dj275.symm.symm (apC (InP.dj hi41 k1531.lt' (apC dj275.symm.symm (apC (InP.dj hi40 k1486.lt' (apC (Dj.new k1004.lt' hb18).symm (apC dj275.symm.symm (apC (InP.dj hi39 k1455.lt' (apC dj275.symm.symm (apC (InP.dj hi38 k1058.lt' (apC dj275 (apC dj276 apN))).symm apN))).symm apN)))).symm apN))).symm apN)))).symm apN))).symm apN)))).symm apN))).symm apN)))
      have k1731:=((k1684.goL hgl65 (apC dj329 (apC dj330 apN))).g0 hg79).goL hgl66 (apC (Dj.new k1059.lt' hge14) (apC dj329 (apC (InP.dj hi45 k1684.lt' (apC dj329 (apC dj330 apN))).symm apN)))
      have k1732:=((k1685.goL hgl65 (apC dj279 (apC (RelD.inp k1640 (apC dj270 (apC dj279 (apC (RelD.inp k1609 (apC dj279 (apC (RelD.inp k1564 (apC (ho81 _ k1009.lt' dj264) (apC dj279 (apC (RelD.inp k1533 (apC dj279 (apC (RelD.inp k1488 (apC (ho81 _ k1004.lt' (ho77 _ k971.lt' dj246)) (apC dj279 (apC (RelD.inp k1457 (apC dj279 (apC (RelD.inp k1060 (apC dj279 (apC dj280 apN)) hi38) apN)) hi39) apN))) hi40) apN)) hi41) apN))) hi42) apN)) hi43) apN))) hi44) apN))).grown hg79).goL hgl66 (apC (k1060.new hge14) (apC dj279 (apC (RelD.inp k1685 (apC dj279 (apC (RelD.inp k1640 (apC dj270 (apC dj279 (apC (RelD.inp k1609 (apC dj279 (apC (RelD.inp k1564 (apC (ho81 _ k1009.lt' dj264) (apC dj279 (apC (RelD.inp k1533 (apC dj279 (apC (RelD.inp k1488 (apC (ho81 _ k1004.lt' (ho77 _ k971.lt' dj246)) (apC dj279 (apC (RelD.inp k1457 (apC dj279 (apC (RelD.inp k1060 (apC dj279 (apC dj280 apN)) hi38) apN)) hi39) apN))) hi40) apN)) hi41) apN))) hi42) apN)) hi43) apN))) hi44) apN)) hi45) apN)))
      have k1733:=k1717.goL hgl66 (apC dj289 (apC dj293.symm.symm (apC (InP.dj hi45 k1686.lt' (apC dj293.symm.symm (apC (InP.dj hi44 k1641.lt' (apC (Dj.new k1059.lt' hb19).symm (apC dj293.symm.symm (apC (InP.dj hi43 k1610.lt' (apC dj293.symm.symm (apC (InP.dj hi42 k1565.lt' (apC (Dj.new k1054.lt' hb19).symm (apC dj293.symm.symm (apC (InP.dj hi41 k1534.lt' (apC dj293.symm.symm (apC (InP.dj hi40 k1489.lt' (apC (Dj.new k1051.lt' hb19).symm (apC dj293.symm.symm (apC (InP.dj hi39 k1460.lt' (apC dj293.symm.symm (apC dj294 apN))).symm apN)))).symm apN))).symm apN)))).symm apN))).symm apN)))).symm apN))).symm apN)))
      have k1734:=k1719.goL hgl66 (apC dj288 (apC dj297 (apC (RelD.inp k1688 (apC dj297 (apC (RelD.inp k1643 (apC (ho84 _ k1059.lt' dj282) (apC dj297 (apC (RelD.inp k1612 (apC dj297 (apC (RelD.inp k1567 (apC (ho84 _ k1054.lt' (ho80 _ k1009.lt' dj264)) (apC dj297 (apC (RelD.inp k1536 (apC dj297 (apC (RelD.inp k1491 (apC (ho84 _ k1051.lt' (ho80 _ k1004.lt' (ho77 _ k971.lt' dj246))) (apC dj297 (apC (RelD.inp k1462 (apC dj297 (apC dj298 apN)) hi39) apN))) hi40) apN)) hi41) apN))) hi42) apN)) hi43) apN))) hi44) apN)) hi45) apN)))
      have k1735:=k1720.goL hgl66 (apC (Dj.app (Dj.new hO90.lt' hge14) k1104.lt' hk10).symm.symm (apC (Dj.app (Dj.app (Dj.app (Dj.app (p:=none) Dj.nl k959.lt' hk7) k990.lt' hk8) k1034.lt' hk9) k1090.lt' hk10).symm.symm (apC (InP.dj hi45 k1689.lt' (apC (Dj.app (Dj.app (Dj.app (Dj.app (p:=none) Dj.nl k959.lt' hk7) k990.lt' hk8) k1034.lt' hk9) k1090.lt' hk10).symm.symm (apC (InP.dj hi44 k1644.lt' (apC (Dj.app (Dj.app (Dj.new hO84.lt' hge13) k1045.lt' hk9) k1098.lt' hk10).symm.symm (apC (Dj.app (Dj.app (Dj.app (Dj.app (p:=none) Dj.nl k959.lt' hk7) k990.lt' hk8) k1034.lt' hk9) k1090.lt' hk10).symm.symm (apC (InP.dj hi43 k1613.lt' (apC (Dj.app (Dj.app (Dj.app (Dj.app (p:=none) Dj.nl k959.lt' hk7) k990.lt' hk8) k1034.lt' hk9) k1090.lt' hk10).symm.symm (apC (InP.dj hi42 k1568.lt' (apC (Dj.app (Dj.app (Dj.app (Dj.new hO78.lt' hge12) k998.lt' hk8) k1039.lt' hk9) k1095.lt' hk10).symm.symm (apC (Dj.app (Dj.app (Dj.app (Dj.app (p:=none) Dj.nl k959.lt' hk7) k990.lt' hk8) k1034.lt' hk9) k1090.lt' hk10).symm.symm (apC (InP.dj hi41 k1537.lt' (apC (Dj.app (Dj.app (Dj.app (Dj.app (p:=none) Dj.nl k959.lt' hk7) k990.lt' hk8) k1034.lt' hk9) k1090.lt' hk10).symm.symm (apC (InP.dj hi40 k1492.lt' (apC (Dj.app (Dj.app (Dj.app (Dj.app (p:=none) Dj.nl k963.lt' hk7) k992.lt' hk8) k1036.lt' hk9) k1092.lt' hk10).symm.symm (apC (Dj.app (Dj.app (Dj.app (Dj.app (p:=none) Dj.nl k959.lt' hk7) k990.lt' hk8) k1034.lt' hk9) k1090.lt' hk10).symm.symm (apC (InP.dj hi39 k1463.lt' (apC (Dj.app (Dj.app (Dj.app (Dj.app (p:=none) Dj.nl k959.lt' hk7) k990.lt' hk8) k1034.lt' hk9) k1090.lt' hk10).symm.symm (apC (Dj.app (InP.dj hi38 hO90.lt' (apC (Dj.app (Dj.app (Dj.app (p:=none) Dj.nl k959.lt' hk7) k990.lt' hk8) k1034.lt' hk9) (apC (Dj.app (InP.dj hi36 hO84.lt' (apC (Dj.app (Dj.app (p:=none) Dj.nl k959.lt' hk7) k990.lt' hk8) (apC (Dj.app (InP.dj hi34 hO78.lt' (apC (Dj.app (p:=none) Dj.nl k959.lt' hk7) (apC (Dj.app (p:=none) Dj.nl k960.lt' hk7) apN))).symm k995.lt' hk8) apN))).symm k1042.lt' hk9) apN))).symm k1101.lt' hk10).symm.symm apN))).symm apN)))).symm apN))).symm apN)))).symm apN))).symm apN)))).symm apN))).symm apN)))
      have k1736:=k1722.goL hgl66 (apC (ho103 _ k1687.lt' (ho100 _ k1642.lt' (ho99 _ k1611.lt' (ho96 _ k1566.lt' (ho95 _ k1535.lt' (ho92 _ k1490.lt' (ho91 _ k1461.lt' dj300 (ho90 _ k1445.lt')) (k1052.new hge14)) (ho94 _ k1519.lt')) (k1055.new hge14)) (ho98 _ k1595.lt')) (k1060.new hge14)) (ho102 _ hB83.lt')) (apC dj337 (apC dj338 apN)))
      refine ze (zi (za (zb (yp (h:=(zg rfl (zR (v:=.int .i64 (4:Int)) (Yld.add rfl rfl (by simp only [In]; omega)) rfl) (yp (h:=(ze (qf (WCL.one (zd (zd (zb (yp (h:=(yp (h:=(yp (h:=(ze (za (zm rfl (fun h=>by cases h) (fun _=>zy (zk (zk (zl (za (zd (zb (yp (h:=(zg rfl (qj Tryz.underlying61 rfl rfl) (zx rfl rfl (ks (S:=S) (hO112.base (fun _ _=>Nat.zero_le _)) rfl hr46 hB86 dj341 (apC dj343 (apC dj344 apN)) H) ?_))))))))))))))))))))))))))))))))))
      rintro _ w174 ⟨hgl67,t12804,a0x,a1a,a0r,v_t12814,t12814,a_139,a5p,a7a,a3c,a_140,a_141,rfl,ht12804,u6,ho106,dj345,ht12814,hB87,hO113,hi47,hr47,ho105,dj346,dj347,dj348,dj349,dj350,dj351,dj352,dj353,H⟩
      have hO114:=hO113.base (InP.toGe hi47 (apC (Ge.le hge1 (qE gr2)) (apC hO112.ge' apN)) (qE gr159))
      have hb20:=ht12804.ge'
      have k1738:=hr46.goL hgl67 (apC dj343 (apC dj344 apN))
      refine yp (h:=(yp (h:=(yp (h:=(yp (h:=(yp (h:=(ze (za (zd (zb (zx rfl rfl (W_val_Str H) ?_))))))))))))))
      rintro _ w175 ⟨hg80,v_t1324,F_t1324,t1324,rfl,ht1324,ho107,H⟩
      have gr161:=qG (qN gr159 hgl67 (apC (Ge.le hge1 (qE gr2)) (apC hO112.ge' apN))) hg80
      have k1739:=hB87.g0 hg80
      have k1740:=hO114.grown hg80
      have k1741:=hr47.grown hg80
      have k1742:=(ht12804.base (fun g hg=>Nat.le_trans (qE gr159) (hb20 g hg))).grown hg80
      have k1743:=ht12814.grown hg80
      have k1744:=u6.grown hg80
      refine zx rfl rfl (W_list_Each (hG.grown gr161) hS3 ht1324 H) ?_
      rintro v_ w176 ⟨hg_,hc_ | hc_⟩
      ·obtain ⟨v_t13317,t13317,rfl,ht13317,H⟩:=hc_
       have hg81:=hg_
       have gr162:=qG gr161 hg81
       have k1745:=k1739.g0 hg81
       have k1746:=k1740.grown hg81
       have k1748:=k1742.grown hg81
       have k1750:=k1744.grown hg81
       refine yp (h:=(yp (h:=(yp (h:=(yp (h:=(yp (h:=(ze (za (zd (zb (yp (h:=(zg rfl (qe Tryz.underlying43 (k1743.grown hg81) rfl) (yp (h:=?_))))))))))))))))))
       rcases Bool.eq_false_or_eq_true (decide (t12814=Er.ok)) with b67 | b67
       ·replace H:=H.1 b67
        refine gp b67 (h:=(gp b67 (h:=(gp b67 (h:=(gp b67 (h:=(gp b67 (h:=(zg rfl (zQ (okb b67) rfl) (yp (h:=?_))))))))))))
        rcases Bool.eq_false_or_eq_true (decide ((t12804.length:Int)=(l.length:Int))) with b68 | b68
        ·replace H:=H.1 b68
         refine gp b68 (h:=(zT (qF rfl rfl (okb b68)) rfl rfl (qM H) ?_))
         rintro _ w178 ⟨hg82,v_t1474,F_t1474,t1474,rfl,ht1474,ho108,H⟩
         have gr163:=qG gr162 hg82
         have k1751:=k1745.g0 hg82
         have k1752:=k1746.grown hg82
         have k1753:=(k1741.grown hg81).grown hg82
         refine zT (qF rfl rfl (okb b68)) rfl rfl (jk (GB.grown hG gr163) (qE gr163) (apC (Ge.le hge1 (qE gr2)) (apC k1752.ge' apN)) hS3 hS7 (k1752.base (fun _ _=>Nat.zero_le _)) rfl k1753 k1751 ht1474 dj346 (apC dj347 (apC dj348 apN)) (apC (ho108 _ k1745.lt') (apC (ho108 _ k1746.lt') apN)) H) ?_
         rintro v_t1484 w179 ⟨hgl68,_,t1484,a_142,a5q,a7b,a3d,a_143,a_144,rfl,ht1484,hB88,hO115,hi48,hr48,ho109,dj354,dj355,dj356,H⟩
         have hO116:=hO115.base (InP.toGe hi48 (apC (Ge.le hge1 (qE gr2)) (apC k1752.ge' apN)) (qE gr163))
         have gr164:=qN gr163 hgl68 (apC (Ge.le hge1 (qE gr2)) (apC k1752.ge' apN))
         have k1755:=k1753.goL hgl68 (apC dj347 (apC dj348 apN))
         have k1756:=ErrR.goB (ht13317.grown hg82) (GB.grown hG gr163) hgl68 (apC (Ge.le hge1 (qE gr2)) (apC k1752.ge' apN)) (apC (NoAt.bl k1751 rfl) (apC (NoAt.own k1752 rfl) apN))
         have k1757:=ht1474.goL hgl68 (apC (ho108 _ k1745.lt') (apC (ho108 _ k1746.lt') apN))
         refine zc rfl rfl (okb b68) rfl (qe Tryz.underlying43 ht1484 rfl) (zg rfl (zQ (okb b68) rfl) (yp (h:=?_)))
         rcases Bool.eq_false_or_eq_true (decide (t1484=Er.ok)) with b69 | b69
         ·replace H:=H.1 b69
          refine gp b69 (h:=(zT (qF rfl rfl (okb b69)) rfl rfl (ji (hG.grown gr164) hS0 hS1 hS2 hS3 hS4 hS5 hS6 hS7 hS8 hS9 hS10 hS11 hS12 hS13 hS14 hS15 hS16 k1756 H) ?_))
          rintro _ w180 ⟨hg83,t1534,rfl,H⟩
          have k1758:=k1756.grown hg83
          exact zg rfl (zQ (okb b69) rfl) (yp (h:=(ze (za (zt (zD rfl rfl ⟨(qG gr164 hg83),t1534,rfl,H⟩))))))
         replace H:=H.2 b69
         exact gn b69 (h:=(gn b69 (h:=(zg rfl (zK (okb b69) rfl) (yp (h:=(ze (za (zt (zD rfl rfl ⟨gr164,false,rfl,H⟩))))))))))
        replace H:=H.2 b68
        exact gn b68 (h:=(gn b68 (h:=(gn b68 (h:=(gn b68 (h:=(zg rfl (zK (okb b68) rfl) (yp (h:=(zG rfl rfl (rfl) rfl (zG rfl rfl (rfl) rfl (zg rfl (zK (rfl) rfl) (yp (h:=(ze (za (zt (zD rfl rfl ⟨gr162,false,rfl,H⟩)))))))))))))))))))
       replace H:=H.2 b67
       exact gn b67 (h:=(gn b67 (h:=(gn b67 (h:=(gn b67 (h:=(gn b67 (h:=(zg rfl (zK (okb b67) rfl) (yp (h:=(zG rfl rfl (rfl) rfl (zG rfl rfl (rfl) rfl (zG rfl rfl (rfl) rfl (zG rfl rfl (rfl) rfl (zg rfl (zK (rfl) rfl) (yp (h:=(zG rfl rfl (rfl) rfl (zG rfl rfl (rfl) rfl (zg rfl (zK (rfl) rfl) (yp (h:=(ze (za (zt (zD rfl rfl ⟨gr162,false,rfl,H⟩))))))))))))))))))))))))))))
      obtain ⟨a1d,v_t1330_v4,F_t1330_v4,a1p,a1m,a0g,a0j,y9,a0u,y3,a0c,v_t13318,t13318,rfl,ht1330_v4,ho110,ht1330_l4,y6,ho111,dj357,ht13318,ht13304,hge15,dj358,dj359,dj360,H⟩:=hc_
      have hg84:=hg_
      have hb21:=ht1330_l4.ge'
      have k1759:=ht1330_l4.base (fun g hg=>Nat.le_trans (qE gr161) (hb21 g hg))
      have gr166:=qG gr161 hg84
      have k1760:=k1739.g0 hg84
      have k1761:=k1740.grown hg84
      have k1762:=k1741.grown hg84
      have k1763:=k1742.grown hg84
      have k1764:=k1743.grown hg84
      have k1765:=k1744.grown hg84
      exact False.elim H
     clear H
     exact zc rfl rfl (rfl) rfl (zh qD rfl) (zc rfl rfl (rfl) rfl (z1 Tryz.underlying43 ht55120 rfl) (zg rfl (zK (rfl) rfl) (wk (hQ _ _ ⟨!decide (t55120=Er.ok),rfl,rfl,rfl⟩))))
    clear H
    exact zc rfl rfl (rfl) rfl (zh qD rfl) (zc rfl rfl (rfl) rfl (z1 Tryz.underlying43 ht55118 rfl) (zg rfl (zK (rfl) rfl) (wk (hQ _ _ ⟨!decide (t55118=Er.ok),rfl,rfl,rfl⟩))))
   clear H
   exact zc rfl rfl (rfl) rfl (zh qD rfl) (zc rfl rfl (rfl) rfl (z1 Tryz.underlying43 ht55116 rfl) (zg rfl (zK (rfl) rfl) (wk (hQ _ _ ⟨!decide (t55116=Er.ok),rfl,rfl,rfl⟩))))
  clear H
  exact zc rfl rfl (rfl) rfl (zh qD rfl) (zc rfl rfl (rfl) rfl (z1 Tryz.underlying43 ht55114 rfl) (zg rfl (zK (rfl) rfl) (wk (hQ _ _ ⟨!decide (t55114=Er.ok),rfl,rfl,rfl⟩))))
 clear H
 rcases Bool.eq_false_or_eq_true (decide ((20:Int)<(l.length:Int))) with b70 | b70
 ·exact gn b70 (h:=(gn b70 (h:=(zg rfl (zQ (okb b70) rfl) (wk (hQ _ _ ⟨true,rfl,by rw [b70] <;> rfl,rfl⟩))))))
 exact gp b70 (h:=(gp b70 (h:=(zg rfl (zK (okb b70) rfl) (wk (hQ _ _ ⟨!ok,rfl,by rw [b70] <;> rfl,rfl⟩))))))
end
 end Go.Proofs.YtjoepdjeekadcaaGreatDoor
