/- Texts of this claim, joined by a program: GCd, CpC, CpD, CpE, CpF, CpG, Prt, SrtG, SrtK, Shelf3, EntC. -/
import Derived.Test.YtafpeckmdjplnaaGreatDoorJ4
import Derived.Lib.SlicesCompact
import Derived.Lib.Bytealg
import Derived.Sort.Walk0
import Derived.Shelf.SlSortCmp.Insertion
import Derived.Sort.OwnSorted
import Derived.Shelf.SlSortCmp.NoneTotal
import Derived.Ground.SlsfProg
import Derived.Test.YtafpeckmdjplnaaGreatDoorProg
import Derived.Shelf.GgSortFunc.RowK
import Derived.RegionTactic
import Derived.StillTailTactics
import Derived.Deep.RegionWith
import Derived.Lib.BytesEntry
namespace Go.Proofs.YtafpeckmdjplnaaGreatDoor

section
open Go Go.RowKit
attribute [local irreducible] WL WC WX WQ WK WJ Yld Eff Ef0 Fn
def jG (d_L_Path:List UInt8) (d_L_There:Bool) (d_L_Text:List UInt8) (d_L_Synced:Bool) (d_L_SyncedText:List UInt8) (d_L_Changes:List (Bool × List UInt8 × Int)) (d_Ops:Int) (d_Armed:Int) (d_Down:Bool) (K:Bool->Int->Int->Bool->(List UInt8)->Bool->(List UInt8)->Bool->(List UInt8)->(List (Bool × List UInt8 × Int))->Prop):Prop :=
 (d_L_Changes.length<=maxLen ->
 ((d_Down=true->K false d_Ops d_Armed d_Down d_L_Path d_L_There d_L_Text d_L_Synced d_L_SyncedText d_L_Changes) /\
 (d_Down=false->(In .i64 (d_Ops+(1:Int))) /\
 ((d_Armed=(0:Int)->K false (d_Ops+(1:Int)) d_Armed true d_L_Path d_L_There d_L_Text d_L_Synced d_L_SyncedText d_L_Changes) /\
 (¬ (d_Armed=(0:Int))->∃ J1:Int->Prop,((((0:Int)<d_Armed->(In .i64 (d_Armed - (1:Int))) /\
 J1 (d_Armed - (1:Int))) /\
 (¬ ((0:Int)<d_Armed)->J1 d_Armed))) /\
 (∀ d2:Int,J1 d2->K true (d_Ops+(1:Int)) d2 d_Down d_L_Path d_L_There d_L_Text d_L_Synced d_L_SyncedText d_L_Changes))))))
def jH (d_L_Path:List UInt8) (_:Bool) (_:List UInt8) (_:Bool) (_:List UInt8) (d_L_Changes:List (Bool × List UInt8 × Int)) (_:Int) (_:Int) (_:Bool) (p:List UInt8) (K:Int->Prop):Prop :=
 (d_L_Changes.length<=maxLen ->
 Lp1 (fun (i:Int) kont1=>((i<(1:Int)->(i=0) /\
 ((d_L_Path=p->K i) /\
 (¬ (d_L_Path=p)->(In .i64 (i+(1:Int))) /\
 kont1 (i+(1:Int))))) /\
 (¬ (i<(1:Int))->K (-1:Int)))) (0:Int))
def j8 (d_L_Path:List UInt8) (_:Bool) (_:List UInt8) (_:Bool) (_:List UInt8) (d_L_Changes:List (Bool × List UInt8 × Int)) (_:Int) (_:Int) (_:Bool) (p:List UInt8) (K:Int->Prop):Prop :=
 (d_L_Changes.length<=maxLen ->
 Lp1 (fun (k:Int) kont1=>((decide (k<(1:Int)))=true->(k=0)) /\
 ((((decide (k<(1:Int))) && (Op.bytesLess d_L_Path p))=true->(In .i64 (k+(1:Int))) /\
 kont1 (k+(1:Int))) /\
 (((decide (k<(1:Int))) && (Op.bytesLess d_L_Path p))=false->((decide (k<(1:Int)))=true->(k=0)) /\
 ((((decide (k<(1:Int))) && (decide (d_L_Path=p)))=true->K k) /\
 (((decide (k<(1:Int))) && (decide (d_L_Path=p)))=false->False))))) (0:Int))
def kf (d_L_Path:List UInt8) (d_L_There:Bool) (d_L_Text:List UInt8) (d_L_Synced:Bool) (d_L_SyncedText:List UInt8) (d_L_Changes:List (Bool × List UInt8 × Int)) (d_Ops:Int) (d_Armed:Int) (d_Down:Bool) (p:List UInt8) (K:(List UInt8)->Bool->Int->Int->Int->Bool->(List UInt8)->Bool->(List UInt8)->Bool->(List UInt8)->(List (Bool × List UInt8 × Int))->Prop):Prop :=
 (d_L_Changes.length<=maxLen ->
 jG d_L_Path d_L_There d_L_Text d_L_Synced d_L_SyncedText d_L_Changes d_Ops d_Armed d_Down (fun (t9:Bool) (d_:Int) (d_2:Int) (d_3:Bool) (d_L_:List UInt8) (d_L_2:Bool) (d_L_3:List UInt8) (d_L_4:Bool) (d_L_5:List UInt8) (d_L_6:List (Bool × List UInt8 × Int)) =>
 (((!t9)=true->K ([]:List UInt8) false (116:Int) d_ d_2 d_3 d_L_ d_L_2 d_L_3 d_L_4 d_L_5 d_L_6) /\
 ((!t9)=false->jH d_L_ d_L_2 d_L_3 d_L_4 d_L_5 d_L_6 d_ d_2 d_3 p (fun (k:Int) =>
 ((decide (k<(0:Int)))=false->(k=0)) /\
 ((((decide (k<(0:Int))) || (!d_L_2))=true->K ([]:List UInt8) false (0:Int) d_ d_2 d_3 d_L_ d_L_2 d_L_3 d_L_4 d_L_5 d_L_6) /\
 (((decide (k<(0:Int))) || (!d_L_2))=false->(k=0) /\
 K d_L_3 true (0:Int) d_ d_2 d_3 d_L_ d_L_2 d_L_3 d_L_4 d_L_5 d_L_6)))))))
def kM (_:List UInt8) (d_L_There:Bool) (_:List UInt8) (_:Bool) (_:List UInt8) (d_L_Changes:List (Bool × List UInt8 × Int)) (_:Int) (_:Int) (_:Bool) (K:Int->Prop):Prop :=
 (d_L_Changes.length<=maxLen ->
 Lp2 (fun (n:Int) (i:Int) kont1=>((i<(1:Int)->∃ J1:Int->Prop,((i=0) /\
 ((d_L_There=true->(In .i64 (n+(1:Int))) /\
 J1 (n+(1:Int))) /\
 (d_L_There=false->J1 n))) /\
 (∀ n2:Int,J1 n2->(In .i64 (i+(1:Int))) /\
 kont1 n2 (i+(1:Int)))) /\
 (¬ (i<(1:Int))->K n))) (0:Int) (0:Int))
def jt (d_L_Path:List UInt8) (d_L_There:Bool) (d_L_Text:List UInt8) (d_L_Synced:Bool) (d_L_SyncedText:List UInt8) (d_L_Changes:List (Bool × List UInt8 × Int)) (d_Ops:Int) (d_Armed:Int) (d_Down:Bool) (p:List UInt8) (text:List UInt8) (behind:Bool) (K:Int->Int->Int->Bool->(List UInt8)->Bool->(List UInt8)->Bool->(List UInt8)->(List (Bool × List UInt8 × Int))->Prop):Prop :=
 (d_L_Changes.length<=maxLen ->
 jG d_L_Path d_L_There d_L_Text d_L_Synced d_L_SyncedText d_L_Changes d_Ops d_Armed d_Down (fun (t14:Bool) (d_:Int) (d_2:Int) (d_3:Bool) (d_L_:List UInt8) (d_L_2:Bool) (d_L_3:List UInt8) (d_L_4:Bool) (d_L_5:List UInt8) (d_L_6:List (Bool × List UInt8 × Int)) =>
 (((!t14)=true->K (116:Int) d_ d_2 d_3 d_L_ d_L_2 d_L_3 d_L_4 d_L_5 d_L_6) /\
 ((!t14)=false->jH d_L_ d_L_2 d_L_3 d_L_4 d_L_5 d_L_6 d_ d_2 d_3 p (fun (k:Int) =>
 ((decide ((0:Int)<=k))=true->(k=0)) /\
 ∃ J1:(List UInt8)->Prop,((((behind && ((decide ((0:Int)<=k)) && d_L_2))=true->(k=0) /\
 J1 d_L_3) /\
 ((behind && ((decide ((0:Int)<=k)) && d_L_2))=false->J1 ([]:List UInt8)))) /\
 (∀ old:List UInt8,J1 old->j4 p (fun (t44:Bool) =>
 ((!t44)=false->(In .i64 ((65536:Int) - (old.length:Int)))) /\
 ((((!t44) || (decide (((65536:Int) - (old.length:Int))<(text.length:Int))))=true->K (112:Int) d_ d_2 d_3 d_L_ d_L_2 d_L_3 d_L_4 d_L_5 d_L_6) /\
 (((!t44) || (decide (((65536:Int) - (old.length:Int))<(text.length:Int))))=false->∃ J2:Bool->Prop,((((!((decide ((0:Int)<=k)) && d_L_2))=true->kM d_L_ d_L_2 d_L_3 d_L_4 d_L_5 d_L_6 d_ d_2 d_3 (fun (t58:Int) =>
 J2 (decide ((2000:Int)<=t58)))) /\
 ((!((decide ((0:Int)<=k)) && d_L_2))=false->J2 false))) /\
 (∀ q3:Bool,J2 q3->((q3=true->K (110:Int) d_ d_2 d_3 d_L_ d_L_2 d_L_3 d_L_4 d_L_5 d_L_6) /\
 (q3=false->j8 d_L_ d_L_2 d_L_3 d_L_4 d_L_5 d_L_6 d_ d_2 d_3 p (fun (k_2:Int) =>
 (old.length+text.length<=9223372036854775807) /\
 ∃ J3:Int->Prop,(((behind=true->J3 (text.length:Int)) /\
 (behind=false->J3 (-1:Int)))) /\
 (∀ c2:Int,J3 c2->(k_2=0) /\
 (k_2=0) /\
 (k_2=0) /\
 ((d_L_6.length+(([(true,old++text,c2)]:List (Bool × List UInt8 × Int))).length)*32<=140737488355328) /\
 (k_2=0) /\
 K (0:Int) d_ d_2 d_3 d_L_ true (old++text) d_L_4 d_L_5 (d_L_6++([(true,old++text,c2)]:List (Bool × List UInt8 × Int)))))))))))))))))
def jx (d_L_Path:List UInt8) (d_L_There:Bool) (d_L_Text:List UInt8) (d_L_Synced:Bool) (d_L_SyncedText:List UInt8) (d_L_Changes:List (Bool × List UInt8 × Int)) (d_Ops:Int) (d_Armed:Int) (d_Down:Bool) (p:List UInt8) (K:Int->Int->Int->Bool->(List UInt8)->Bool->(List UInt8)->Bool->(List UInt8)->(List (Bool × List UInt8 × Int))->Prop):Prop :=
 (d_L_Changes.length<=maxLen ->
 jG d_L_Path d_L_There d_L_Text d_L_Synced d_L_SyncedText d_L_Changes d_Ops d_Armed d_Down (fun (t7:Bool) (d_:Int) (d_2:Int) (d_3:Bool) (d_L_:List UInt8) (d_L_2:Bool) (d_L_3:List UInt8) (d_L_4:Bool) (d_L_5:List UInt8) (d_L_6:List (Bool × List UInt8 × Int)) =>
 (((!t7)=true->K (116:Int) d_ d_2 d_3 d_L_ d_L_2 d_L_3 d_L_4 d_L_5 d_L_6) /\
 ((!t7)=false->j4 p (fun (t10:Bool) =>
 (((!t10)=true->K (112:Int) d_ d_2 d_3 d_L_ d_L_2 d_L_3 d_L_4 d_L_5 d_L_6) /\
 ((!t10)=false->jH d_L_ d_L_2 d_L_3 d_L_4 d_L_5 d_L_6 d_ d_2 d_3 p (fun (k:Int) =>
 ∃ J1:Bool->(List UInt8)->(List (Bool × List UInt8 × Int))->Prop,((((0:Int)<=k->(k=0) /\
 (k=0) /\
 (k=0) /\
 (k=0) /\
 (k=0) /\
 J1 d_L_2 d_L_3 []) /\
 (¬ ((0:Int)<=k)->J1 d_L_4 d_L_5 d_L_6))) /\
 (∀ d_L3:Bool,∀ d_L4:List UInt8,∀ d_L5:List (Bool × List UInt8 × Int),J1 d_L3 d_L4 d_L5->K (0:Int) d_ d_2 d_3 d_L_ d_L_2 d_L_3 d_L3 d_L4 d_L5)))))))))
def ko (d_L_Path:List UInt8) (d_L_There:Bool) (d_L_Text:List UInt8) (d_L_Synced:Bool) (d_L_SyncedText:List UInt8) (d_L_Changes:List (Bool × List UInt8 × Int)) (d_Ops:Int) (_:Int) (d_Down:Bool) (n:Int) (K:Int->Int->Bool->(List UInt8)->Bool->(List UInt8)->Bool->(List UInt8)->(List (Bool × List UInt8 × Int))->Prop):Prop :=
 (d_L_Changes.length<=maxLen ->
 (((1:Int)<=n->(In .i64 (n - (1:Int))) /\
 K d_Ops (n - (1:Int)) d_Down d_L_Path d_L_There d_L_Text d_L_Synced d_L_SyncedText d_L_Changes) /\
 (¬ ((1:Int)<=n)->K d_Ops (-1:Int) d_Down d_L_Path d_L_There d_L_Text d_L_Synced d_L_SyncedText d_L_Changes)))
def jR (d_L_Path:List UInt8) (d_L_There:Bool) (d_L_Text:List UInt8) (d_L_Synced:Bool) (d_L_SyncedText:List UInt8) (d_L_Changes:List (Bool × List UInt8 × Int)) (d_Ops:Int) (d_Armed:Int) (d_Down:Bool) (keep:Int) (cut:Int) (K:Int->Int->Bool->(List UInt8)->Bool->(List UInt8)->Bool->(List UInt8)->(List (Bool × List UInt8 × Int))->Prop):Prop :=
 (d_L_Changes.length<=maxLen ->
 (((!d_Down)=true->K d_Ops d_Armed d_Down d_L_Path d_L_There d_L_Text d_L_Synced d_L_SyncedText d_L_Changes) /\
 ((!d_Down)=false->∃ J1:Int->Prop,(((keep<(0:Int)->J1 (0:Int)) /\
 (¬ (keep<(0:Int))->J1 keep))) /\
 (∀ keep2:Int,J1 keep2->∃ J2:Int->Prop,(((cut<(0:Int)->J2 (0:Int)) /\
 (¬ (cut<(0:Int))->J2 cut))) /\
 (∀ cut2:Int,J2 cut2->Lp8 (fun (keep3:Int) (i:Int) (d_L0:List UInt8) (d_L1:Bool) (d_L2:List UInt8) (d_L3:Bool) (d_L4:List UInt8) (d_L5:List (Bool × List UInt8 × Int)) kont1=>((i<(1:Int)->∃ J3:Int->Bool->(List UInt8)->Bool->(List UInt8)->(List (Bool × List UInt8 × Int))->Prop,((i=0) /\
 (((d_L5.length:Int)=(0:Int)->J3 keep3 d_L1 d_L2 d_L3 d_L4 d_L5) /\
 (¬ ((d_L5.length:Int)=(0:Int))->(0<=keep3/\0<(4:Int)) /\
 (0<=keep3/\0<(4:Int)/\In .i64 keep3) /\
 ∃ J4:Bool->(List UInt8)->Prop,((((0:Int)<(if (d_L5.length:Int)<(keep3 % (4:Int)) then (d_L5.length:Int) else keep3 % (4:Int))->(In .i64 ((if (d_L5.length:Int)<(keep3 % (4:Int)) then (d_L5.length:Int) else keep3 % (4:Int)) - (1:Int))) /\
 (0<=(if (d_L5.length:Int)<(keep3 % (4:Int)) then (d_L5.length:Int) else keep3 % (4:Int)) - (1:Int)/\(if (d_L5.length:Int)<(keep3 % (4:Int)) then (d_L5.length:Int) else keep3 % (4:Int)) - (1:Int)<(d_L5.length:Nat)) /\
 (In .i64 ((if (d_L5.length:Int)<(keep3 % (4:Int)) then (d_L5.length:Int) else keep3 % (4:Int)) - (1:Int))) /\
 (0<=(if (d_L5.length:Int)<(keep3 % (4:Int)) then (d_L5.length:Int) else keep3 % (4:Int)) - (1:Int)/\(if (d_L5.length:Int)<(keep3 % (4:Int)) then (d_L5.length:Int) else keep3 % (4:Int)) - (1:Int)<(d_L5.length:Nat)) /\
 J4 ((d_L5.getD (((if (d_L5.length:Int)<(keep3 % (4:Int)) then (d_L5.length:Int) else keep3 % (4:Int)) - (1:Int)).toNat) (false,[],0)).1) ((d_L5.getD (((if (d_L5.length:Int)<(keep3 % (4:Int)) then (d_L5.length:Int) else keep3 % (4:Int)) - (1:Int)).toNat) (false,[],0)).2.1)) /\
 (¬ ((0:Int)<(if (d_L5.length:Int)<(keep3 % (4:Int)) then (d_L5.length:Int) else keep3 % (4:Int)))->J4 d_L3 d_L4))) /\
 (∀ d_L13:Bool,∀ d_L23:List UInt8,J4 d_L13 d_L23->∃ J5:Bool->(List UInt8)->Prop,(((decide ((if (d_L5.length:Int)<(keep3 % (4:Int)) then (d_L5.length:Int) else keep3 % (4:Int))<(d_L5.length:Int)))=true->(0<=(if (d_L5.length:Int)<(keep3 % (4:Int)) then (d_L5.length:Int) else keep3 % (4:Int))/\(if (d_L5.length:Int)<(keep3 % (4:Int)) then (d_L5.length:Int) else keep3 % (4:Int))<(d_L5.length:Nat))) /\
 ((((decide ((if (d_L5.length:Int)<(keep3 % (4:Int)) then (d_L5.length:Int) else keep3 % (4:Int))<(d_L5.length:Int))) && (decide ((1:Int)<=((d_L5.getD ((if (d_L5.length:Int)<(keep3 % (4:Int)) then (d_L5.length:Int) else keep3 % (4:Int)).toNat) (false,[],0)).2.2))))=true->(0<=(if (d_L5.length:Int)<(keep3 % (4:Int)) then (d_L5.length:Int) else keep3 % (4:Int))/\(if (d_L5.length:Int)<(keep3 % (4:Int)) then (d_L5.length:Int) else keep3 % (4:Int))<(d_L5.length:Nat)) /\
 (In .i64 (((d_L5.getD ((if (d_L5.length:Int)<(keep3 % (4:Int)) then (d_L5.length:Int) else keep3 % (4:Int)).toNat) (false,[],0)).2.2) - (1:Int))) /\
 (((0:Int)<(if (((d_L5.getD ((if (d_L5.length:Int)<(keep3 % (4:Int)) then (d_L5.length:Int) else keep3 % (4:Int)).toNat) (false,[],0)).2.2) - (1:Int))<cut2 then ((d_L5.getD ((if (d_L5.length:Int)<(keep3 % (4:Int)) then (d_L5.length:Int) else keep3 % (4:Int)).toNat) (false,[],0)).2.2) - (1:Int) else cut2)->(In .i64 ((((d_L5.getD ((if (d_L5.length:Int)<(keep3 % (4:Int)) then (d_L5.length:Int) else keep3 % (4:Int)).toNat) (false,[],0)).2.1).length:Int) - ((d_L5.getD ((if (d_L5.length:Int)<(keep3 % (4:Int)) then (d_L5.length:Int) else keep3 % (4:Int)).toNat) (false,[],0)).2.2))) /\
 (In .i64 (((((d_L5.getD ((if (d_L5.length:Int)<(keep3 % (4:Int)) then (d_L5.length:Int) else keep3 % (4:Int)).toNat) (false,[],0)).2.1).length:Int) - ((d_L5.getD ((if (d_L5.length:Int)<(keep3 % (4:Int)) then (d_L5.length:Int) else keep3 % (4:Int)).toNat) (false,[],0)).2.2))+(if (((d_L5.getD ((if (d_L5.length:Int)<(keep3 % (4:Int)) then (d_L5.length:Int) else keep3 % (4:Int)).toNat) (false,[],0)).2.2) - (1:Int))<cut2 then ((d_L5.getD ((if (d_L5.length:Int)<(keep3 % (4:Int)) then (d_L5.length:Int) else keep3 % (4:Int)).toNat) (false,[],0)).2.2) - (1:Int) else cut2))) /\
 (0<=((((d_L5.getD ((if (d_L5.length:Int)<(keep3 % (4:Int)) then (d_L5.length:Int) else keep3 % (4:Int)).toNat) (false,[],0)).2.1).length:Int) - ((d_L5.getD ((if (d_L5.length:Int)<(keep3 % (4:Int)) then (d_L5.length:Int) else keep3 % (4:Int)).toNat) (false,[],0)).2.2))+(if (((d_L5.getD ((if (d_L5.length:Int)<(keep3 % (4:Int)) then (d_L5.length:Int) else keep3 % (4:Int)).toNat) (false,[],0)).2.2) - (1:Int))<cut2 then ((d_L5.getD ((if (d_L5.length:Int)<(keep3 % (4:Int)) then (d_L5.length:Int) else keep3 % (4:Int)).toNat) (false,[],0)).2.2) - (1:Int) else cut2)/\((((d_L5.getD ((if (d_L5.length:Int)<(keep3 % (4:Int)) then (d_L5.length:Int) else keep3 % (4:Int)).toNat) (false,[],0)).2.1).length:Int) - ((d_L5.getD ((if (d_L5.length:Int)<(keep3 % (4:Int)) then (d_L5.length:Int) else keep3 % (4:Int)).toNat) (false,[],0)).2.2))+(if (((d_L5.getD ((if (d_L5.length:Int)<(keep3 % (4:Int)) then (d_L5.length:Int) else keep3 % (4:Int)).toNat) (false,[],0)).2.2) - (1:Int))<cut2 then ((d_L5.getD ((if (d_L5.length:Int)<(keep3 % (4:Int)) then (d_L5.length:Int) else keep3 % (4:Int)).toNat) (false,[],0)).2.2) - (1:Int) else cut2)<=((d_L5.getD ((if (d_L5.length:Int)<(keep3 % (4:Int)) then (d_L5.length:Int) else keep3 % (4:Int)).toNat) (false,[],0)).2.1).length) /\
 J5 true (((d_L5.getD ((if (d_L5.length:Int)<(keep3 % (4:Int)) then (d_L5.length:Int) else keep3 % (4:Int)).toNat) (false,[],0)).2.1).take (((((d_L5.getD ((if (d_L5.length:Int)<(keep3 % (4:Int)) then (d_L5.length:Int) else keep3 % (4:Int)).toNat) (false,[],0)).2.1).length:Int) - ((d_L5.getD ((if (d_L5.length:Int)<(keep3 % (4:Int)) then (d_L5.length:Int) else keep3 % (4:Int)).toNat) (false,[],0)).2.2))+(if (((d_L5.getD ((if (d_L5.length:Int)<(keep3 % (4:Int)) then (d_L5.length:Int) else keep3 % (4:Int)).toNat) (false,[],0)).2.2) - (1:Int))<cut2 then ((d_L5.getD ((if (d_L5.length:Int)<(keep3 % (4:Int)) then (d_L5.length:Int) else keep3 % (4:Int)).toNat) (false,[],0)).2.2) - (1:Int) else cut2)).toNat)) /\
 (¬ ((0:Int)<(if (((d_L5.getD ((if (d_L5.length:Int)<(keep3 % (4:Int)) then (d_L5.length:Int) else keep3 % (4:Int)).toNat) (false,[],0)).2.2) - (1:Int))<cut2 then ((d_L5.getD ((if (d_L5.length:Int)<(keep3 % (4:Int)) then (d_L5.length:Int) else keep3 % (4:Int)).toNat) (false,[],0)).2.2) - (1:Int) else cut2))->J5 d_L13 d_L23))) /\
 (((decide ((if (d_L5.length:Int)<(keep3 % (4:Int)) then (d_L5.length:Int) else keep3 % (4:Int))<(d_L5.length:Int))) && (decide ((1:Int)<=((d_L5.getD ((if (d_L5.length:Int)<(keep3 % (4:Int)) then (d_L5.length:Int) else keep3 % (4:Int)).toNat) (false,[],0)).2.2))))=false->J5 d_L13 d_L23))) /\
 (∀ d_L14:Bool,∀ d_L24:List UInt8,J5 d_L14 d_L24->J3 (keep3 / (4:Int)) d_L14 d_L24 d_L14 d_L24 []))))) /\
 (∀ keep4:Int,∀ d_L12:Bool,∀ d_L22:List UInt8,∀ d_L32:Bool,∀ d_L42:List UInt8,∀ d_L52:List (Bool × List UInt8 × Int),J3 keep4 d_L12 d_L22 d_L32 d_L42 d_L52->(In .i64 (i+(1:Int))) /\
 kont1 keep4 (i+(1:Int)) d_L0 d_L12 d_L22 d_L32 d_L42 d_L52)) /\
 (¬ (i<(1:Int))->K d_Ops (-1:Int) false d_L0 d_L1 d_L2 d_L3 d_L4 d_L5))) keep2 (0:Int) d_L_Path d_L_There d_L_Text d_L_Synced d_L_SyncedText d_L_Changes)))))
def ke (d_L_Path:List UInt8) (d_L_There:Bool) (d_L_Text:List UInt8) (_:Bool) (_:List UInt8) (d_L_Changes:List (Bool × List UInt8 × Int)) (_:Int) (_:Int) (_:Bool) (K:(List (List UInt8 × List UInt8))->Prop):Prop :=
 (d_L_Changes.length<=maxLen ->
 Lp2 (fun (out:List (List UInt8 × List UInt8)) (i:Int) kont1=>((i<(1:Int)->∃ J1:(List (List UInt8 × List UInt8))->Prop,((i=0) /\
 ((d_L_There=true->(i=0) /\
 (i=0) /\
 ((out.length+(([(d_L_Path,d_L_Text)]:List (List UInt8 × List UInt8))).length)*32<=140737488355328) /\
 J1 (out++([(d_L_Path,d_L_Text)]:List (List UInt8 × List UInt8)))) /\
 (d_L_There=false->J1 out))) /\
 (∀ out2:List (List UInt8 × List UInt8),J1 out2->(In .i64 (i+(1:Int))) /\
 kont1 out2 (i+(1:Int)))) /\
 (¬ (i<(1:Int))->K out))) [] (0:Int))
def kR (files:List (List UInt8 × List UInt8)) (K0:Int->Prop) (K:(List UInt8)->Bool->(List UInt8)->Bool->(List UInt8)->(List (Bool × List UInt8 × Int))->Int->Int->Bool->Int->Prop):Prop :=
 (files.length<=maxLen ->
 (files.length=1) /\
 (0<=(0:Int)/\(0:Int)<(1:Nat)) /\
 j4 ((files.getD 0 ([],[])).1) (fun (t22:Bool) =>
 ∃ J1:Bool->Prop,((((!t22)=true->J1 true) /\
 ((!t22)=false->J1 false))) /\
 (∀ q1:Bool,J1 q1->(((q1 || (decide ((65536:Int)<(((files.getD 0 ([],[])).2).length:Int))))=true->K0 (112:Int)) /\
 ((q1 || (decide ((65536:Int)<(((files.getD 0 ([],[])).2).length:Int))))=false->K ((files.getD 0 ([],[])).1) true ((files.getD 0 ([],[])).2) true ((files.getD 0 ([],[])).2) [] (0:Int) (-1:Int) false (0:Int))))))
def jE (c0:List UInt8) (c_L:List (List UInt8 × List UInt8)) (e_Key:List UInt8) (e_Out:List UInt8) (K:(List UInt8)->(List (List UInt8 × List UInt8))->Prop):Prop :=
 (c_L.length<=maxLen ->
 Lp2 (fun (i:Int) (c2:List (List UInt8 × List UInt8)) kont1=>((i<(c2.length:Int)->(0<=i/\i<(c2.length:Nat)) /\
 jl ((c2.getD i.toNat ([],[])).1) e_Key (fun (t24:Bool) =>
 ((t24=true->(0<=i/\i<(c2.length:Nat)) /\
 K c0 (c2.set i.toNat ((c2.getD i.toNat ([],[])).1,e_Out))) /\
 (t24=false->(In .i64 (i+(1:Int))) /\
 kont1 (i+(1:Int)) c2)))) /\
 (¬ (i<(c2.length:Int))->((c2.length+(([(e_Key,e_Out)]:List (List UInt8 × List UInt8))).length)*64<=140737488355328) /\
 K c0 (c2++([(e_Key,e_Out)]:List (List UInt8 × List UInt8)))))) (0:Int) c_L)
def jo (d_L_Path:List UInt8) (d_L_There:Bool) (d_L_Text:List UInt8) (d_L_Synced:Bool) (d_L_SyncedText:List UInt8) (d_L_Changes:List (Bool × List UInt8 × Int)) (d_Ops:Int) (d_Armed:Int) (d_Down:Bool) (p:List UInt8) (K0:Int->Int->Int->Bool->(List UInt8)->Bool->(List UInt8)->Bool->(List UInt8)->(List (Bool × List UInt8 × Int))->Prop) (K:(List UInt8)->(List (List UInt8 × List UInt8))->Int->Int->Int->Bool->(List UInt8)->Bool->(List UInt8)->Bool->(List UInt8)->(List (Bool × List UInt8 × Int))->Prop):Prop :=
 (d_L_Changes.length<=maxLen ->
 kf d_L_Path d_L_There d_L_Text d_L_Synced d_L_SyncedText d_L_Changes d_Ops d_Armed d_Down p (fun (t200:List UInt8) (_:Bool) (t202:Int) (d_:Int) (d_2:Int) (d_3:Bool) (d_L_:List UInt8) (d_L_2:Bool) (d_L_3:List UInt8) (d_L_4:Bool) (d_L_5:List UInt8) (d_L_6:List (Bool × List UInt8 × Int)) =>
 ((¬ (t202=(0:Int))->K0 t202 d_ d_2 d_3 d_L_ d_L_2 d_L_3 d_L_4 d_L_5 d_L_6) /\
 (t202=(0:Int)->jZ t200 (fun (t290:List (List UInt8 × List UInt8)) (t291:Int) =>
 ∃ J1:(List UInt8)->Bool->(List UInt8)->Bool->(List UInt8)->(List (Bool × List UInt8 × Int))->Int->Int->Bool->Prop,(((t291<(t200.length:Int)->(0<=t291/\t291<=t200.length) /\
 jt d_L_ d_L_2 d_L_3 d_L_4 d_L_5 d_L_6 d_ d_2 d_3 p (t200.take t291.toNat) false (fun (bad:Int) (d_4:Int) (d_5:Int) (d_6:Bool) (d_L_7:List UInt8) (d_L_8:Bool) (d_L_9:List UInt8) (d_L_10:Bool) (d_L_11:List UInt8) (d_L_12:List (Bool × List UInt8 × Int)) =>
 ∃ J2:Int->(List UInt8)->Bool->(List UInt8)->Bool->(List UInt8)->(List (Bool × List UInt8 × Int))->Int->Int->Bool->Prop,(((bad=(0:Int)->jx d_L_7 d_L_8 d_L_9 d_L_10 d_L_11 d_L_12 d_4 d_5 d_6 p (fun (bad3:Int) (d_7:Int) (d_8:Int) (d_9:Bool) (d_L_13:List UInt8) (d_L_14:Bool) (d_L_15:List UInt8) (d_L_16:Bool) (d_L_17:List UInt8) (d_L_18:List (Bool × List UInt8 × Int)) =>
 J2 bad3 d_L_13 d_L_14 d_L_15 d_L_16 d_L_17 d_L_18 d_7 d_8 d_9)) /\
 (¬ (bad=(0:Int))->J2 bad d_L_7 d_L_8 d_L_9 d_L_10 d_L_11 d_L_12 d_4 d_5 d_6))) /\
 (∀ bad2:Int,∀ d_L03:List UInt8,∀ d_L13:Bool,∀ d_L23:List UInt8,∀ d_L33:Bool,∀ d_L43:List UInt8,∀ d_L53:List (Bool × List UInt8 × Int),∀ d13:Int,∀ d23:Int,∀ d33:Bool,J2 bad2 d_L03 d_L13 d_L23 d_L33 d_L43 d_L53 d13 d23 d33->((¬ (bad2=(0:Int))->K0 bad2 d13 d23 d33 d_L03 d_L13 d_L23 d_L33 d_L43 d_L53) /\
 (bad2=(0:Int)->J1 d_L03 d_L13 d_L23 d_L33 d_L43 d_L53 d13 d23 d33))))) /\
 (¬ (t291<(t200.length:Int))->J1 d_L_ d_L_2 d_L_3 d_L_4 d_L_5 d_L_6 d_ d_2 d_3))) /\
 (∀ d_L0:List UInt8,∀ d_L1:Bool,∀ d_L2:List UInt8,∀ d_L3:Bool,∀ d_L4:List UInt8,∀ d_L5:List (Bool × List UInt8 × Int),∀ d1:Int,∀ d2:Int,∀ d3:Bool,J1 d_L0 d_L1 d_L2 d_L3 d_L4 d_L5 d1 d2 d3->Lp12 (fun (i:Int) (t161:List UInt8) (t162:List (List UInt8 × List UInt8)) (d12:Int) (d22:Int) (d32:Bool) (d_L02:List UInt8) (d_L12:Bool) (d_L22:List UInt8) (d_L32:Bool) (d_L42:List UInt8) (d_L52:List (Bool × List UInt8 × Int)) kont1=>((i<(t290.length:Int)->(0<=i/\i<(t290.length:Nat)) /\
 jE t161 t162 ((t290.getD i.toNat ([],[])).1) ((t290.getD i.toNat ([],[])).2) (fun (t16_:List UInt8) (o6:List (List UInt8 × List UInt8)) =>
 (In .i64 (i+(1:Int))) /\
 kont1 (i+(1:Int)) t16_ o6 d12 d22 d32 d_L02 d_L12 d_L22 d_L32 d_L42 d_L52)) /\
 (¬ (i<(t290.length:Int))->K t161 t162 (0:Int) d12 d22 d32 d_L02 d_L12 d_L22 d_L32 d_L42 d_L52))) (0:Int) p [] d1 d2 d3 d_L0 d_L1 d_L2 d_L3 d_L4 d_L5))))))
def jD (_:List UInt8) (c_L:List (List UInt8 × List UInt8)) (k:List UInt8) (K:(List UInt8)->Bool->Prop):Prop :=
 (c_L.length<=maxLen ->
 Lp2 (fun (i:Int) (t40:List UInt8) kont1=>((i<(c_L.length:Int)->(0<=i/\i<(c_L.length:Nat)) /\
 jl ((c_L.getD i.toNat ([],[])).1) k (fun (t25:Bool) =>
 ((t25=true->(0<=i/\i<(c_L.length:Nat)) /\
 K ((c_L.getD i.toNat ([],[])).2) true) /\
 (t25=false->(In .i64 (i+(1:Int))) /\
 kont1 (i+(1:Int)) t40)))) /\
 (¬ (i<(c_L.length:Int))->K (List.replicate 32 0:List UInt8) false))) (0:Int) (List.replicate 32 0:List UInt8))
def jO (d8:List UInt8) (d6:Bool) (d9:List UInt8) (d4:Bool) (c6:List UInt8) (c3:List (Bool × List UInt8 × Int)) (f6:Int) (e2:Int) (e7:Bool) (c0:List UInt8) (c_L:List (List UInt8 × List UInt8)) (k:List UInt8) (out:List UInt8) (K:Int->(List UInt8)->(List (List UInt8 × List UInt8))->Int->Int->Bool->(List UInt8)->Bool->(List UInt8)->Bool->(List UInt8)->(List (Bool × List UInt8 × Int))->Prop):Prop :=
 (c3.length<=maxLen ->
 (c_L.length<=maxLen ->
 jD c0 c_L k (fun (t140:List UInt8) (t141:Bool) =>
 ∃ J1:Bool->Prop,(((t141=true->jl t140 out (fun (t21:Bool) =>
 J1 t21)) /\
 (t141=false->J1 false))) /\
 (∀ q1:Bool,J1 q1->((q1=true->K (0:Int) c0 c_L f6 e2 e7 d8 d6 d9 d4 c6 c3) /\
 (q1=false->ka k out (fun (t35:List UInt8) =>
 jt d8 d6 d9 d4 c6 c3 f6 e2 e7 c0 t35 true (fun (bad:Int) (p3:Int) (o1:Int) (o2:Bool) (m9:List UInt8) (l5:Bool) (l6:List UInt8) (l7:Bool) (l8:List UInt8) (i0:List (Bool × List UInt8 × Int)) =>
 ∃ J2:(List UInt8)->(List (List UInt8 × List UInt8))->Prop,(((bad=(0:Int)->jE c0 c_L k out (fun (c_:List UInt8) (c_2:List (List UInt8 × List UInt8)) =>
 J2 c_ c_2)) /\
 (¬ (bad=(0:Int))->J2 c0 c_L))) /\
 (∀ c1:List UInt8,∀ c2:List (List UInt8 × List UInt8),J2 c1 c2->K bad c1 c2 p3 o1 o2 m9 l5 l6 l7 l8 i0)))))))))
def jP (_:List UInt8) (c_L:List (List UInt8 × List UInt8)) (K:(List (List UInt8 × List UInt8))->Prop):Prop :=
 (c_L.length<=maxLen ->
 Lp2 (fun (out:List (List UInt8 × List UInt8)) (i:Int) kont1=>((i<(c_L.length:Int)->Lp1 (fun (k:Int) kont2=>∃ J1:Bool->Prop,((((decide (k<(out.length:Int)))=true->(0<=k/\k<(out.length:Nat)) /\
 jF ((out.getD k.toNat ([],[])).1) (fun (t26:List UInt8) =>
 (0<=i/\i<(c_L.length:Nat)) /\
 jF ((c_L.getD i.toNat ([],[])).1) (fun (t35:List UInt8) =>
 J1 (Op.bytesLess t26 t35)))) /\
 ((decide (k<(out.length:Int)))=false->J1 false))) /\
 (∀ q1:Bool,J1 q1->((q1=true->(In .i64 (k+(1:Int))) /\
 kont2 (k+(1:Int))) /\
 (q1=false->(In .i64 ((out.length:Int)+(1:Int))) /\
 (0<=(out.length:Int)+(1:Int)/\((out.length:Int)+(1:Int))*64<=140737488355328/\(out.length:Int)+(1:Int)<=140737488355328) /\
 (0<=k/\k<=(out.length:Nat)) /\
 (((([]:List (List UInt8 × List UInt8))).length+(out.take k.toNat).length)*64<=140737488355328) /\
 (0<=i/\i<(c_L.length:Nat)) /\
 (((([]:List (List UInt8 × List UInt8))++(out.take k.toNat)).length+(([((c_L.getD i.toNat ([],[])).1,(c_L.getD i.toNat ([],[])).2)]:List (List UInt8 × List UInt8))).length)*64<=140737488355328) /\
 (0<=k/\k<=(out.length:Int)/\(out.length:Int)<=(out.length:Nat)) /\
 ((((([]:List (List UInt8 × List UInt8))++(out.take k.toNat))++([((c_L.getD i.toNat ([],[])).1,(c_L.getD i.toNat ([],[])).2)]:List (List UInt8 × List UInt8))).length+(out.drop k.toNat).length)*64<=140737488355328) /\
 (In .i64 (i+(1:Int))) /\
 kont1 (((([]:List (List UInt8 × List UInt8))++(out.take k.toNat))++([((c_L.getD i.toNat ([],[])).1,(c_L.getD i.toNat ([],[])).2)]:List (List UInt8 × List UInt8)))++(out.drop k.toNat)) (i+(1:Int)))))) (0:Int)) /\
 (¬ (i<(c_L.length:Int))->K out))) [] (0:Int))
def kJ (a_Path:List UInt8) (a_Text:List UInt8) (b_Path:List UInt8) (b_Text:List UInt8) (K:Bool->Prop):Prop :=
 K ((decide (a_Path=b_Path)) && (decide (a_Text=b_Text)))
def kC (a:List (List UInt8 × List UInt8)) (b:List (List UInt8 × List UInt8)) (K:Bool->Prop):Prop :=
 (a.length<=maxLen ->
 (b.length<=maxLen ->
 ((¬ ((a.length:Int)=(b.length:Int))->K false) /\
 ((a.length:Int)=(b.length:Int)->Lp1 (fun (i:Int) kont1=>((i<(a.length:Int)->(0<=i/\i<(a.length:Nat)) /\
 (0<=i/\i<(b.length:Nat)) /\
 kJ ((a.getD i.toNat ([],[])).1) ((a.getD i.toNat ([],[])).2) ((b.getD i.toNat ([],[])).1) ((b.getD i.toNat ([],[])).2) (fun (same:Bool) =>
 (((!same)=true->K false) /\
 ((!same)=false->(In .i64 (i+(1:Int))) /\
 kont1 (i+(1:Int)))))) /\
 (¬ (i<(a.length:Int))->K true))) (0:Int)))))
set_option maxHeartbeats 8000000 in
theorem kS {w:World} {g_d:Nat} {a1:Nat} {d_L_Path:List UInt8} {d_L_There:Bool} {d_L_Text:List UInt8} {d_L_Synced:Bool} {d_L_SyncedText:List UInt8} {d_L_Changes:List (Bool × List UInt8 × Int)} {a0:Option Addr} {a3:Nat} {d_Ops:Int} {d_Armed:Int} {d_Down:Bool} {a4:Nat} {K:Bool->Int->Int->Bool->(List UInt8)->Bool->(List UInt8)->Bool->(List UInt8)->(List (Bool × List UInt8 × Int))->Prop} (hd_L_Changes:OwnK 3 jw w 0 127 a0 a3 d_L_Changes) (a7:a4=d_L_Changes.length) (hd_L:Bl w a1 89 [vs d_L_Path,.bool d_L_There,vs d_L_Text,.bool d_L_Synced,vs d_L_SyncedText,.slice a0 a4 a3]) (hd:Bl w g_d 73 [.slice (some ⟨a1,0,none⟩) 1 1,.int .i64 d_Ops,.int .i64 d_Armed,.bool d_Down]) (hdj0_1:Dj (some g_d) (some a1)) (hdj0_2:Dj (some g_d) (blk a0)) (hdj1_2:Dj (some a1) (blk a0)) (H:jG d_L_Path d_L_There d_L_Text d_L_Synced d_L_SyncedText d_L_Changes d_Ops d_Armed d_Down K):Fn Tryz.prog 54 ⟨[.pointer (some ⟨g_d,0,none⟩)]⟩ w (fun v w'=>GrL [(some g_d),(some a1),(blk a0)] w w'/\∃ (r:Bool),∃ (d_Ops2:Int),∃ (d_Armed2:Int),∃ (d_Down2:Bool),∃ (d_L_Path2:List UInt8),∃ (d_L_There2:Bool),∃ (d_L_Text2:List UInt8),∃ (d_L_Synced2:Bool),∃ (d_L_SyncedText2:List UInt8),∃ (d_L_Changes2:List (Bool × List UInt8 × Int)),∃ (a2:Option Addr),∃ (a6:Nat),v=.bool r/\Bl w' g_d 73 [.slice (some ⟨a1,0,none⟩) 1 1,.int .i64 d_Ops2,.int .i64 d_Armed2,.bool d_Down2]/\Bl w' a1 89 [vs d_L_Path2,.bool d_L_There2,vs d_L_Text2,.bool d_L_Synced2,vs d_L_SyncedText2,.slice a2 d_L_Changes2.length a6]/\OwnK 3 jw w' 0 127 a2 a6 d_L_Changes2/\InP [(some g_d),(some a1),(blk a0)] w.heap.size (blk a2)/\Dj (some g_d) (some a1)/\Dj (some g_d) (blk a2)/\Dj (some a1) (blk a2)/\K r d_Ops2 d_Armed2 d_Down2 d_L_Path2 d_L_There2 d_L_Text2 d_L_Synced2 d_L_SyncedText2 d_L_Changes2):=by
 subst a7
 unfold jG at H
 refine Fn.enter (by kernel_rfl) Tryz.func54 rfl Tryz.ntmps54 rfl ?_
 replace H:=H (Nat.le_trans hd_L_Changes.rd.cap hd_L_Changes.rd.max)
 have hNoAt:AllP (NoAt w) [(some g_d),(some a1),(blk a0)]:=(apC (NoAt.bl hd rfl) (apC (NoAt.bl hd_L rfl) (apC (NoAt.ownK hd_L_Changes rfl) apN)))
 refine zd (zb (yp (h:=(zf (za (zd (zd (zb (yp (h:=(yp (h:=(yp (h:=(zg rfl (zk qY hd rfl rfl rfl) (zf (za (zp rfl (fun b1=>?_) (fun b1=>?_)))))))))))))))))))
 ·replace H:=H.1 (b1)
  exact zd (zb (yp (h:=(zf (za (zq (zh (zw rfl rfl ⟨(GrL.refl _),false,d_Ops,d_Armed,d_Down,d_L_Path,d_L_There,d_L_Text,d_L_Synced,d_L_SyncedText,d_L_Changes,a0,a3,rfl,hd,hd_L,hd_L_Changes,(InP.mem (List.Mem.tail _ (List.Mem.tail _ (List.Mem.head _)))),hdj0_1,hdj0_2,hdj1_2,H⟩))))))))
 ·replace H:=H.2 (b1)
  refine zo (za (zd (zb (yp (h:=(yp (h:=(yp (h:=(yp (h:=(zg rfl (zk qY hd rfl rfl rfl) ?_))))))))))))
  obtain ⟨h1,H⟩:=H
  refine zg rfl (Yld.add rfl rfl h1) (yp (h:=(yp (h:=(zR one3 rfl rfl rfl hd (by simp) (fun w1 hB2 hg1=>?_))))))
  have hB1:Bl w1 g_d 73 [.slice (some ⟨a1,0,none⟩) 1 1,.int .i64 (d_Ops+(1:Int)),.int .i64 d_Armed,.bool d_Down]:=hB2
  have gr1:GrL [(some g_d),(some a1),(blk a0)] w w1:=GrL.mod (GrL.refl _) hg1 (InP.mem (List.Mem.head _))
  have k1:=hd_L_Changes.go hg1 hdj0_2.symm
  have k2:=hd_L.go hg1 hdj0_1.symm
  refine zf (za (zd (zd (zb (yp (h:=(yp (h:=(yp (h:=(zg rfl (zk qY hB1 rfl rfl rfl) (yp (h:=(zf (za (zp rfl (fun b2=>?_) (fun b2=>?_)))))))))))))))))
  ·replace H:=H.1 (of_decide_eq_true b2)
   refine zd (zb (yp (h:=(yp (h:=(yp (h:=(zR one4 rfl rfl rfl hB1 (by simp) (fun w2 hB4 hg2=>?_)))))))))
   have hB3:Bl w2 g_d 73 [.slice (some ⟨a1,0,none⟩) 1 1,.int .i64 (d_Ops+(1:Int)),.int .i64 d_Armed,.bool true]:=hB4
   have gr2:GrL [(some g_d),(some a1),(blk a0)] w w2:=GrL.mod gr1 hg2 (InP.mem (List.Mem.head _))
   exact zf (za (zd (zb (yp (h:=(zf (za (zq (zh (zw rfl rfl ⟨gr2,false,d_Ops+(1:Int),d_Armed,true,d_L_Path,d_L_There,d_L_Text,d_L_Synced,d_L_SyncedText,d_L_Changes,a0,a3,rfl,hB3,(k2.go hg2 hdj0_1.symm),(k1.go hg2 hdj0_2.symm),(InP.mem (List.Mem.tail _ (List.Mem.tail _ (List.Mem.head _)))),hdj0_1,hdj0_2,hdj1_2,H⟩))))))))))
  ·replace H:=H.2 (of_decide_eq_false b2)
   refine zo (za (zd ?_))
   obtain ⟨J1,H,hJ1⟩:=H
   refine qd (fun L' w'=>∃ (d2:Int),L'=[]/\J1 d2/\GrL [(some g_d),(some a1),(blk a0)] w w'/\OwnK 3 jw w' 0 127 a0 a3 d_L_Changes/\Bl w' a1 89 [vs d_L_Path,.bool d_L_There,vs d_L_Text,.bool d_L_Synced,vs d_L_SyncedText,.slice a0 d_L_Changes.length a3]/\Bl w' g_d 73 [.slice (some ⟨a1,0,none⟩) 1 1,.int .i64 (d_Ops+(1:Int)),.int .i64 d2,.bool d_Down]) ?_ (fun hQ=>?_)
   ·clear H
    rintro _ w3 ⟨d2,rfl,H,gr3,k5,k6,k7⟩
    replace H:=hJ1 d2 H
    exact za (zd (zb (yp (h:=(zf (za (zq (zw rfl rfl ⟨gr3,true,d_Ops+(1:Int),d2,d_Down,d_L_Path,d_L_There,d_L_Text,d_L_Synced,d_L_SyncedText,d_L_Changes,a0,a3,rfl,k7,k6,k5,(InP.mem (List.Mem.tail _ (List.Mem.tail _ (List.Mem.head _)))),hdj0_1,hdj0_2,hdj1_2,H⟩))))))))
   ·clear hJ1
    refine zd (zb (yp (h:=(yp (h:=(yp (h:=(zg rfl (zk qY hB1 rfl rfl rfl) (yp (h:=(zf (za (zp rfl (fun b3=>?_) (fun b3=>?_))))))))))))))
    ·replace H:=H.1 (of_decide_eq_true b3)
     refine zb (yp (h:=(yp (h:=(yp (h:=(yp (h:=(zg rfl (zk qY hB1 rfl rfl rfl) ?_)))))))))
     obtain ⟨h2,H⟩:=H
     refine zg rfl (Yld.sub rfl rfl h2) (yp (h:=(yp (h:=(zR one3 rfl rfl rfl hB1 (by simp) (fun w4 hB6 hg3=>?_))))))
     have hB5:Bl w4 g_d 73 [.slice (some ⟨a1,0,none⟩) 1 1,.int .i64 (d_Ops+(1:Int)),.int .i64 (d_Armed - (1:Int)),.bool d_Down]:=hB6
     have gr4:GrL [(some g_d),(some a1),(blk a0)] w w4:=GrL.mod gr1 hg3 (InP.mem (List.Mem.head _))
     exact zf (WX.weaken sb (hQ _ _ ⟨d_Armed - (1:Int),rfl,H,gr4,(k1.go hg3 hdj0_2.symm),(k2.go hg3 hdj0_1.symm),hB5⟩))
    ·replace H:=H.2 (of_decide_eq_false b3)
     exact zo (WX.weaken sb (hQ _ _ ⟨d_Armed,rfl,H,gr1,k1,k2,hB1⟩))
set_option maxHeartbeats 8000000 in
theorem kT {w:World} {g_d:Nat} {a1:Nat} {d_L_Path:List UInt8} {d_L_There:Bool} {d_L_Text:List UInt8} {d_L_Synced:Bool} {d_L_SyncedText:List UInt8} {d_L_Changes:List (Bool × List UInt8 × Int)} {a0:Option Addr} {a3:Nat} {d_Ops:Int} {d_Armed:Int} {d_Down:Bool} {p:List UInt8} {a4:Nat} {K:Int->Prop} (hd_L_Changes:RdK 3 jw w a0 a3 d_L_Changes) (a7:a4=d_L_Changes.length) (hd_L:Bl w a1 89 [vs d_L_Path,.bool d_L_There,vs d_L_Text,.bool d_L_Synced,vs d_L_SyncedText,.slice a0 a4 a3]) (hd:Bl w g_d 73 [.slice (some ⟨a1,0,none⟩) 1 1,.int .i64 d_Ops,.int .i64 d_Armed,.bool d_Down]) (H:jH d_L_Path d_L_There d_L_Text d_L_Synced d_L_SyncedText d_L_Changes d_Ops d_Armed d_Down p K):Fn Tryz.prog 39 ⟨[.pointer (some ⟨g_d,0,none⟩),vs p]⟩ w (fun v w'=>w=w'/\∃ (r:Int),v=.int .i64 r/\K r):=by
 subst a7
 unfold jH at H
 refine Fn.enter (by kernel_rfl) Tryz.func39 rfl Tryz.ntmps39 rfl ?_
 replace H:=H (Nat.le_trans hd_L_Changes.cap hd_L_Changes.max)
 refine zd (zb (yp (h:=(zf (za (zd (zd (zb (yp (h:=(zf (za (WC.block ?_)))))))))))))
 obtain ⟨I1,mu1,e1,HR1⟩:=H
 refine zW (fun n' L' w'=>∃ (i:Int),n'=mu1 i/\L'=[(0,.pointer (some ⟨g_d,0,none⟩)),(1,vs p),(5,.int .i64 i)]/\I1 i/\w=w') _ _ ⟨(0:Int),rfl,rfl,e1,rfl⟩ sb ?_
 clear e1
 rintro _ _ _ ⟨i,rfl,rfl,hI1,rfl⟩
 have H:=HR1 i hI1
 refine zd (zd (zb (yp (h:=(yp (h:=(yp (h:=(yp (h:=(zg rfl (zk qY hd rfl rfl rfl) (yp (h:=(yp (h:=(zf (za (zp rfl (fun b1=>?_) (fun b1=>?_)))))))))))))))))))
 ·replace H:=H.1 (of_decide_eq_true b1)
  refine zo (za (zd (WC.block (zd (zb (yp (h:=(yp (h:=(yp (h:=(zg rfl (zk qY hd rfl rfl rfl) (yp (h:=?_))))))))))))))
  obtain ⟨h1,H⟩:=H
  refine zg rfl (zZ qY rfl rfl rfl h1) (yp (h:=(zg rfl (zk qY hd_L rfl rfl rfl) (yp (h:=(yp (h:=(zf (za (zp rfl (fun b2=>?_) (fun b2=>?_)))))))))))
  ·replace H:=H.1 (of_decide_eq_true b2)
   exact zd (zb (yp (h:=(yp (h:=(zf (za (zq (zn (zh (zh (zn (zh (zw rfl rfl ⟨rfl,i,rfl,H⟩))))))))))))))
  ·replace H:=H.2 (of_decide_eq_false b2)
   refine zo (zi (za (zb (yp (h:=?_)))))
   obtain ⟨h2,H⟩:=H
   exact zg rfl (Yld.add rfl rfl h2) (yp (h:=(zf (zS _ ⟨i+(1:Int),rfl,rfl,H.1,rfl⟩ sb H.2))))
 ·replace H:=H.2 (of_decide_eq_false b1)
  exact zD (zj (zj (zm (za (zd (zb (yp (h:=(zf (za (zq (zw rfl rfl ⟨rfl,(-1:Int),rfl,H⟩))))))))))))
set_option maxHeartbeats 8000000 in
theorem W_psmithyref3_Disk_entry {w:World} {g_d:Nat} {a1:Nat} {d_L_Path:List UInt8} {d_L_There:Bool} {d_L_Text:List UInt8} {d_L_Synced:Bool} {d_L_SyncedText:List UInt8} {d_L_Changes:List (Bool × List UInt8 × Int)} {a0:Option Addr} {a3:Nat} {d_Ops:Int} {d_Armed:Int} {d_Down:Bool} {p:List UInt8} {a4:Nat} {K:Int->Prop} (hd_L_Changes:RdK 3 jw w a0 a3 d_L_Changes) (a7:a4=d_L_Changes.length) (hd_L:Bl w a1 89 [vs d_L_Path,.bool d_L_There,vs d_L_Text,.bool d_L_Synced,vs d_L_SyncedText,.slice a0 a4 a3]) (hd:Bl w g_d 73 [.slice (some ⟨a1,0,none⟩) 1 1,.int .i64 d_Ops,.int .i64 d_Armed,.bool d_Down]) (H:j8 d_L_Path d_L_There d_L_Text d_L_Synced d_L_SyncedText d_L_Changes d_Ops d_Armed d_Down p K):Fn Tryz.prog 40 ⟨[.pointer (some ⟨g_d,0,none⟩),vs p]⟩ w (fun v w'=>w.grownBy w' none/\∃ (r:Int),v=.int .i64 r/\K r):=by
 subst a7
 unfold j8 at H
 refine Fn.enter (by kernel_rfl) Tryz.func40 rfl Tryz.ntmps40 rfl ?_
 replace H:=H (Nat.le_trans hd_L_Changes.cap hd_L_Changes.max)
 refine zd (zb (yp (h:=(zf (za (zd (zb (yp (h:=(zf (za (zd (WC.block ?_)))))))))))))
 obtain ⟨I1,mu1,e1,HR1⟩:=H
 refine zW (fun n' L' w'=>∃ (k:Int),n'=mu1 k/\L'=[(0,.pointer (some ⟨g_d,0,none⟩)),(1,vs p),(5,.int .i64 k)]/\I1 k/\w=w') _ _ ⟨(0:Int),rfl,rfl,e1,rfl⟩ sb ?_
 clear e1
 rintro _ _ _ ⟨k,rfl,rfl,hI1,rfl⟩
 have H:=HR1 k hI1
 refine zd (zd (zb (yp (h:=(yp (h:=(yp (h:=(yp (h:=(zg rfl (zk qY hd rfl rfl rfl) (yp (h:=(yp (h:=(yp (h:=?_)))))))))))))))))
 obtain ⟨h1,H⟩:=H
 refine zL 11 (fun L' w'=>∃ q1:Bool,L'=[(25,.bool q1),(0,.pointer (some ⟨g_d,0,none⟩)),(1,vs p),(5,.int .i64 k)]/\((decide (k<(1:Int))) && (Op.bytesLess d_L_Path p))=q1/\w=w') ?_ (fun hQ=>?_)
 ·rintro _ _ ⟨q1,rfl,rfl,rfl⟩
  refine zf (za (zp rfl (fun b1=>?_) (fun b1=>?_)))
  ·replace H:=H.1 (b1)
   refine zo (za (WC.block (zb (yp (h:=?_)))))
   obtain ⟨h2,H⟩:=H
   exact zg rfl (Yld.add rfl rfl h2) (yp (h:=(zf (zi (zS _ ⟨k+(1:Int),rfl,rfl,H.1,rfl⟩ sb H.2)))))
  ·replace H:=H.2 (b1)
   refine zD (zj (zj (zm (za (zd (zd (zb (yp (h:=(yp (h:=(yp (h:=(yp (h:=(zg rfl (zk qY hd rfl rfl rfl) (yp (h:=(yp (h:=(yp (h:=?_))))))))))))))))))))))
   obtain ⟨h3,H⟩:=H
   refine zL 11 (fun L' w'=>∃ q2:Bool,L'=[(46,.bool q2),(0,.pointer (some ⟨g_d,0,none⟩)),(1,vs p),(5,.int .i64 k)]/\((decide (k<(1:Int))) && (decide (d_L_Path=p)))=q2/\w=w') ?_ (fun hQ=>?_)
   ·rintro _ _ ⟨q2,rfl,rfl,rfl⟩
    refine zf (za (zp rfl (fun b2=>?_) (fun b2=>?_)))
    ·replace H:=H.1 (b2)
     exact zd (zb (yp (h:=(yp (h:=(zf (za (zq (zh (zw rfl rfl ⟨(jr _ _),k,rfl,H⟩))))))))))
    ·replace H:=H.2 (b2)
     exact zo (za (zd (False.elim H)))
   ·clear H
    rcases Bool.eq_false_or_eq_true (decide (k<(1:Int))) with b3 | b3
    ·exact gp b3 (h:=(gp b3 (h:=(gp b3 (h:=(ze rfl rfl (okb b3) rfl (zk qY hd rfl rfl rfl) (gp b3 (h:=(ze rfl rfl (okb b3) rfl (zZ qY rfl rfl rfl (h3 b3)) (gp b3 (h:=(ze rfl rfl (okb b3) rfl (zk qY hd_L rfl rfl rfl) (gp b3 (h:=(gp b3 (h:=(zg rfl (zt (okb b3) rfl) (wk (hQ _ _ ⟨decide (d_L_Path=p),rfl,by rw [b3] <;> rfl,rfl⟩)))))))))))))))))))
    ·exact gn b3 (h:=(gn b3 (h:=(gn b3 (h:=(gn b3 (h:=(gn b3 (h:=(gn b3 (h:=(gn b3 (h:=(gn b3 (h:=(gn b3 (h:=(gn b3 (h:=(zg rfl (zr (okb b3) rfl) (wk (hQ _ _ ⟨false,rfl,by rw [b3] <;> rfl,rfl⟩))))))))))))))))))))))
 ·clear H
  rcases Bool.eq_false_or_eq_true (decide (k<(1:Int))) with b4 | b4
  ·exact gp b4 (h:=(gp b4 (h:=(gp b4 (h:=(ze rfl rfl (okb b4) rfl (zk qY hd rfl rfl rfl) (gp b4 (h:=(ze rfl rfl (okb b4) rfl (zZ qY rfl rfl rfl (h1 b4)) (gp b4 (h:=(ze rfl rfl (okb b4) rfl (zk qY hd_L rfl rfl rfl) (gp b4 (h:=(gp b4 (h:=(zg rfl (zt (okb b4) rfl) (wk (hQ _ _ ⟨Op.bytesLess d_L_Path p,rfl,by rw [b4] <;> rfl,rfl⟩)))))))))))))))))))
  ·exact gn b4 (h:=(gn b4 (h:=(gn b4 (h:=(gn b4 (h:=(gn b4 (h:=(gn b4 (h:=(gn b4 (h:=(gn b4 (h:=(gn b4 (h:=(gn b4 (h:=(zg rfl (zr (okb b4) rfl) (wk (hQ _ _ ⟨false,rfl,by rw [b4] <;> rfl,rfl⟩))))))))))))))))))))))
set_option maxHeartbeats 8000000 in
theorem W_psmithyref3_Disk_Read {w:World} {g_d:Nat} {a1:Nat} {d_L_Path:List UInt8} {d_L_There:Bool} {d_L_Text:List UInt8} {d_L_Synced:Bool} {d_L_SyncedText:List UInt8} {d_L_Changes:List (Bool × List UInt8 × Int)} {a0:Option Addr} {a3:Nat} {d_Ops:Int} {d_Armed:Int} {d_Down:Bool} {p:List UInt8} {a4:Nat} {K:(List UInt8)->Bool->Int->Int->Int->Bool->(List UInt8)->Bool->(List UInt8)->Bool->(List UInt8)->(List (Bool × List UInt8 × Int))->Prop} (hd_L_Changes:OwnK 3 jw w 0 127 a0 a3 d_L_Changes) (a7:a4=d_L_Changes.length) (hd_L:Bl w a1 89 [vs d_L_Path,.bool d_L_There,vs d_L_Text,.bool d_L_Synced,vs d_L_SyncedText,.slice a0 a4 a3]) (hd:Bl w g_d 73 [.slice (some ⟨a1,0,none⟩) 1 1,.int .i64 d_Ops,.int .i64 d_Armed,.bool d_Down]) (hdj0_1:Dj (some g_d) (some a1)) (hdj0_2:Dj (some g_d) (blk a0)) (hdj1_2:Dj (some a1) (blk a0)) (H:kf d_L_Path d_L_There d_L_Text d_L_Synced d_L_SyncedText d_L_Changes d_Ops d_Armed d_Down p K):Fn Tryz.prog 44 ⟨[.pointer (some ⟨g_d,0,none⟩),vs p]⟩ w (fun v w'=>GrL [(some g_d),(some a1),(blk a0)] w w'/\∃ (r0:List UInt8),∃ (r1:Bool),∃ (r2:Int),∃ (d_Ops2:Int),∃ (d_Armed2:Int),∃ (d_Down2:Bool),∃ (d_L_Path2:List UInt8),∃ (d_L_There2:Bool),∃ (d_L_Text2:List UInt8),∃ (d_L_Synced2:Bool),∃ (d_L_SyncedText2:List UInt8),∃ (d_L_Changes2:List (Bool × List UInt8 × Int)),∃ (a2:Option Addr),∃ (a6:Nat),v=.tuple #[vs r0,.bool r1,.int .i64 r2]/\Bl w' g_d 73 [.slice (some ⟨a1,0,none⟩) 1 1,.int .i64 d_Ops2,.int .i64 d_Armed2,.bool d_Down2]/\Bl w' a1 89 [vs d_L_Path2,.bool d_L_There2,vs d_L_Text2,.bool d_L_Synced2,vs d_L_SyncedText2,.slice a2 d_L_Changes2.length a6]/\OwnK 3 jw w' 0 127 a2 a6 d_L_Changes2/\InP [(some g_d),(some a1),(blk a0)] w.heap.size (blk a2)/\Dj (some g_d) (some a1)/\Dj (some g_d) (blk a2)/\Dj (some a1) (blk a2)/\K r0 r1 r2 d_Ops2 d_Armed2 d_Down2 d_L_Path2 d_L_There2 d_L_Text2 d_L_Synced2 d_L_SyncedText2 d_L_Changes2):=by
 subst a7
 unfold kf at H
 refine Fn.enter (by kernel_rfl) Tryz.func44 rfl Tryz.ntmps44 rfl ?_
 replace H:=H (Nat.le_trans hd_L_Changes.rd.cap hd_L_Changes.rd.max)
 have hNoAt:AllP (NoAt w) [(some g_d),(some a1),(blk a0)]:=(apC (NoAt.bl hd rfl) (apC (NoAt.bl hd_L rfl) (apC (NoAt.ownK hd_L_Changes rfl) apN)))
 refine zd (zb (yp (h:=(yp (h:=(yp (h:=(zf (za (zd (zd (zb (yp (h:=(WL.call rfl rfl (kS hd_L_Changes rfl hd_L hd hdj0_1 hdj0_2 hdj1_2 H) ?_)))))))))))))))
 rintro _ w1 ⟨hgl1,t9,d_,d_2,d_3,d_L_,d_L_2,d_L_3,d_L_4,d_L_5,d_L_6,c5,d0,rfl,hB1,hB2,hO1,hi1,dj1,dj2,dj3,H⟩
 have hi2:InP [(some g_d),(some a1),(blk a0)] w.heap.size (blk c5):=InP.trans hi1 (apC (InP.mem (List.Mem.head _)) (apC (InP.mem (List.Mem.tail _ (List.Mem.head _))) (apC (InP.mem (List.Mem.tail _ (List.Mem.tail _ (List.Mem.head _)))) apN))) (Nat.le_refl _)
 have gr1:GrL [(some g_d),(some a1),(blk a0)] w w1:=GrL.modL (GrL.refl _) hgl1 (apC (InP.mem (List.Mem.head _)) (apC (InP.mem (List.Mem.tail _ (List.Mem.head _))) (apC (InP.mem (List.Mem.tail _ (List.Mem.tail _ (List.Mem.head _)))) apN)))
 refine yp (h:=(zf (za (zp rfl (fun b1=>?_) (fun b1=>?_)))))
 ·replace H:=H.1 (b1)
  exact zd (zb (yp (h:=(yp (h:=(yp (h:=(zf (za (zq (zh (WX.ret3 rfl rfl rfl rfl ⟨gr1,([]:List UInt8),false,(116:Int),d_,d_2,d_3,d_L_,d_L_2,d_L_3,d_L_4,d_L_5,d_L_6,c5,d0,rfl,hB1,hB2,hO1,hi2,dj1,dj2,dj3,H⟩))))))))))))
 ·replace H:=H.2 (b1)
  refine zo (za (zd (zb (yp (h:=(yp (h:=(WL.call rfl rfl (kT hO1.rd rfl hB2 hB1 H) ?_))))))))
  rintro _ _ ⟨rfl,k,rfl,H⟩
  refine yp (h:=(zf (za (zd (zd (zb (yp (h:=(yp (h:=(yp (h:=?_))))))))))))
  obtain ⟨h1,H⟩:=H
  refine zL 10 (fun L' w'=>∃ q1:Bool,L'=[(26,.bool q1),(0,.pointer (some ⟨g_d,0,none⟩)),(7,.int .i64 k)]/\((decide (k<(0:Int))) || (!d_L_2))=q1/\w1=w') ?_ (fun hQ=>?_)
  ·rintro _ _ ⟨q1,rfl,rfl,rfl⟩
   refine zf (za (zp rfl (fun b2=>?_) (fun b2=>?_)))
   ·replace H:=H.1 (b2)
    exact zd (zb (yp (h:=(yp (h:=(yp (h:=(zf (za (zq (zh (WX.ret3 rfl rfl rfl rfl ⟨gr1,([]:List UInt8),false,(0:Int),d_,d_2,d_3,d_L_,d_L_2,d_L_3,d_L_4,d_L_5,d_L_6,c5,d0,rfl,hB1,hB2,hO1,hi2,dj1,dj2,dj3,H⟩))))))))))))
   ·replace H:=H.2 (b2)
    refine zo (za (zd (zb (yp (h:=(yp (h:=(yp (h:=(zg rfl (zk qY hB1 rfl rfl rfl) (yp (h:=?_))))))))))))
    obtain ⟨h2,H⟩:=H
    exact zg rfl (zZ qY rfl rfl rfl h2) (yp (h:=(zg rfl (zk qY hB2 rfl rfl rfl) (yp (h:=(yp (h:=(yp (h:=(zf (za (zq (WX.ret3 rfl rfl rfl rfl ⟨gr1,d_L_3,true,(0:Int),d_,d_2,d_3,d_L_,d_L_2,d_L_3,d_L_4,d_L_5,d_L_6,c5,d0,rfl,hB1,hB2,hO1,hi2,dj1,dj2,dj3,H⟩)))))))))))))
  ·clear H
   rcases Bool.eq_false_or_eq_true (decide (k<(0:Int))) with b3 | b3
   ·exact gn b3 (h:=(gn b3 (h:=(gn b3 (h:=(gn b3 (h:=(gn b3 (h:=(gn b3 (h:=(gn b3 (h:=(gn b3 (h:=(gn b3 (h:=(zg rfl (zt (okb b3) rfl) (wk (hQ _ _ ⟨true,rfl,by rw [b3] <;> rfl,rfl⟩))))))))))))))))))))
   ·exact gp b3 (h:=(gp b3 (h:=(gp b3 (h:=(ze rfl rfl (okb b3) rfl (zk qY hB1 rfl rfl rfl) (gp b3 (h:=(ze rfl rfl (okb b3) rfl (zZ qY rfl rfl rfl (h1 b3)) (gp b3 (h:=(ze rfl rfl (okb b3) rfl (zk qY hB2 rfl rfl rfl) (gp b3 (h:=(zg rfl (zr (okb b3) rfl) (wk (hQ _ _ ⟨!d_L_2,rfl,by rw [b3] <;> rfl,rfl⟩)))))))))))))))))
set_option maxHeartbeats 8000000 in
theorem W_psmithyref3_Disk_count {w:World} {g_d:Nat} {a1:Nat} {d_L_Path:List UInt8} {d_L_There:Bool} {d_L_Text:List UInt8} {d_L_Synced:Bool} {d_L_SyncedText:List UInt8} {d_L_Changes:List (Bool × List UInt8 × Int)} {a0:Option Addr} {a3:Nat} {d_Ops:Int} {d_Armed:Int} {d_Down:Bool} {a4:Nat} {K:Int->Prop} (hd_L_Changes:RdK 3 jw w a0 a3 d_L_Changes) (a7:a4=d_L_Changes.length) (hd_L:Bl w a1 89 [vs d_L_Path,.bool d_L_There,vs d_L_Text,.bool d_L_Synced,vs d_L_SyncedText,.slice a0 a4 a3]) (hd:Bl w g_d 73 [.slice (some ⟨a1,0,none⟩) 1 1,.int .i64 d_Ops,.int .i64 d_Armed,.bool d_Down]) (H:kM d_L_Path d_L_There d_L_Text d_L_Synced d_L_SyncedText d_L_Changes d_Ops d_Armed d_Down K):Fn Tryz.prog 61 ⟨[.pointer (some ⟨g_d,0,none⟩)]⟩ w (fun v w'=>w=w'/\∃ (r:Int),v=.int .i64 r/\K r):=by
 subst a7
 unfold kM at H
 refine Fn.enter (by kernel_rfl) Tryz.func61 rfl Tryz.ntmps61 rfl ?_
 replace H:=H (Nat.le_trans hd_L_Changes.cap hd_L_Changes.max)
 refine zd (zb (yp (h:=(zf (za (zd (zb (yp (h:=(zf (za (zd (zd (zb (yp (h:=(zf (za (WC.block ?_)))))))))))))))))))
 obtain ⟨I1,mu1,e1,HR1⟩:=H
 refine zW (fun n' L' w'=>∃ (n:Int),∃ (i:Int),n'=mu1 n i/\L'=[(0,.pointer (some ⟨g_d,0,none⟩)),(3,.int .i64 n),(4,.int .i64 i)]/\I1 n i/\w=w') _ _ ⟨(0:Int),(0:Int),rfl,rfl,e1,rfl⟩ sb ?_
 clear e1
 rintro _ _ _ ⟨n,i,rfl,rfl,hI1,rfl⟩
 have H:=HR1 n i hI1
 refine zd (zd (zb (yp (h:=(yp (h:=(yp (h:=(yp (h:=(zg rfl (zk qY hd rfl rfl rfl) (yp (h:=(yp (h:=(zf (za (zp rfl (fun b1=>?_) (fun b1=>?_)))))))))))))))))))
 ·replace H:=H.1 (of_decide_eq_true b1)
  refine zo (za (zd ?_))
  obtain ⟨J1,H,hJ1⟩:=H
  refine qd (fun L' w'=>∃ (n2:Int),L'=[(0,.pointer (some ⟨g_d,0,none⟩)),(3,.int .i64 n2),(4,.int .i64 i)]/\J1 n2/\w=w') ?_ (fun hQ=>?_)
  ·clear H
   rintro _ _ ⟨n2,rfl,H,rfl⟩
   replace H:=hJ1 n2 H
   refine za (zb (yp (h:=?_)))
   obtain ⟨h1,H⟩:=H
   exact zg rfl (Yld.add rfl rfl h1) (yp (h:=(zf (zS _ ⟨n2,i+(1:Int),rfl,rfl,H.1,rfl⟩ sb H.2))))
  ·clear hJ1
   refine WC.block (zd (zb (yp (h:=(yp (h:=(yp (h:=(zg rfl (zk qY hd rfl rfl rfl) (yp (h:=?_)))))))))))
   obtain ⟨h2,H⟩:=H
   refine zg rfl (zZ qY rfl rfl rfl h2) (yp (h:=(zg rfl (zk qY hd_L rfl rfl rfl) (zf (za (zp rfl (fun b2=>?_) (fun b2=>?_)))))))
   ·replace H:=H.1 (b2)
    refine zb (yp (h:=?_))
    obtain ⟨h3,H⟩:=H
    exact zg rfl (Yld.add rfl rfl h3) (yp (h:=(zf (zi (WX.weaken sb (hQ _ _ ⟨n+(1:Int),rfl,H,rfl⟩))))))
   ·replace H:=H.2 (b2)
    exact zo (zi (WX.weaken sb (hQ _ _ ⟨n,rfl,H,rfl⟩)))
 ·replace H:=H.2 (of_decide_eq_false b1)
  exact zD (zj (zj (zm (za (zd (zb (yp (h:=(yp (h:=(zf (za (zq (zw rfl rfl ⟨rfl,n,rfl,H⟩))))))))))))))
set_option maxHeartbeats 8000000 in
theorem Zg {w:World} {g_d:Nat} {a1:Nat} {d_L_Path:List UInt8} {d_L_There:Bool} {d_L_Text:List UInt8} {d_L_Synced:Bool} {d_L_SyncedText:List UInt8} {d_L_Changes:List (Bool × List UInt8 × Int)} {a0:Option Addr} {a3:Nat} {d_Ops:Int} {d_Armed:Int} {d_Down:Bool} {p:List UInt8} {text:List UInt8} {behind:Bool} {a4:Nat} {K:Int->Int->Int->Bool->(List UInt8)->Bool->(List UInt8)->Bool->(List UInt8)->(List (Bool × List UInt8 × Int))->Prop} (hd_L_Changes:OwnK 3 jw w 0 127 a0 a3 d_L_Changes) (a7:a4=d_L_Changes.length) (hd_L:Bl w a1 89 [vs d_L_Path,.bool d_L_There,vs d_L_Text,.bool d_L_Synced,vs d_L_SyncedText,.slice a0 a4 a3]) (hd:Bl w g_d 73 [.slice (some ⟨a1,0,none⟩) 1 1,.int .i64 d_Ops,.int .i64 d_Armed,.bool d_Down]) (hdj0_1:Dj (some g_d) (some a1)) (hdj0_2:Dj (some g_d) (blk a0)) (hdj1_2:Dj (some a1) (blk a0)) (H:jt d_L_Path d_L_There d_L_Text d_L_Synced d_L_SyncedText d_L_Changes d_Ops d_Armed d_Down p text behind K):Fn Tryz.prog 26 ⟨[.pointer (some ⟨g_d,0,none⟩),vs p,vs text,.bool behind]⟩ w (fun v w'=>GrL [(some g_d),(some a1),(blk a0)] w w'/\∃ (r:Int),∃ (d_Ops2:Int),∃ (d_Armed2:Int),∃ (d_Down2:Bool),∃ (d_L_Path2:List UInt8),∃ (d_L_There2:Bool),∃ (d_L_Text2:List UInt8),∃ (d_L_Synced2:Bool),∃ (d_L_SyncedText2:List UInt8),∃ (d_L_Changes2:List (Bool × List UInt8 × Int)),∃ (a2:Option Addr),∃ (a6:Nat),v=.int .i64 r/\Bl w' g_d 73 [.slice (some ⟨a1,0,none⟩) 1 1,.int .i64 d_Ops2,.int .i64 d_Armed2,.bool d_Down2]/\Bl w' a1 89 [vs d_L_Path2,.bool d_L_There2,vs d_L_Text2,.bool d_L_Synced2,vs d_L_SyncedText2,.slice a2 d_L_Changes2.length a6]/\OwnK 3 jw w' 0 127 a2 a6 d_L_Changes2/\InP [(some g_d),(some a1),(blk a0)] w.heap.size (blk a2)/\Dj (some g_d) (some a1)/\Dj (some g_d) (blk a2)/\Dj (some a1) (blk a2)/\K r d_Ops2 d_Armed2 d_Down2 d_L_Path2 d_L_There2 d_L_Text2 d_L_Synced2 d_L_SyncedText2 d_L_Changes2):=by
 subst a7
 unfold jt at H
 refine Fn.enter (by kernel_rfl) Tryz.func26 rfl Tryz.ntmps26 rfl ?_
 replace H:=H (Nat.le_trans hd_L_Changes.rd.cap hd_L_Changes.rd.max)
 have hNoAt:AllP (NoAt w) [(some g_d),(some a1),(blk a0)]:=(apC (NoAt.bl hd rfl) (apC (NoAt.bl hd_L rfl) (apC (NoAt.ownK hd_L_Changes rfl) apN)))
 refine zd (zb (yp (h:=(zf (za (zd (zd (zb (yp (h:=(WL.call rfl rfl (kS hd_L_Changes rfl hd_L hd hdj0_1 hdj0_2 hdj1_2 H) ?_)))))))))))
 rintro _ w1 ⟨hgl1,t14,d_,d_2,d_3,d_L_,d_L_2,d_L_3,d_L_4,d_L_5,d_L_6,c5,d0,rfl,hB1,hB2,hO1,hi1,dj1,dj2,dj3,H⟩
 have hi2:InP [(some g_d),(some a1),(blk a0)] w.heap.size (blk c5):=InP.trans hi1 (apC (InP.mem (List.Mem.head _)) (apC (InP.mem (List.Mem.tail _ (List.Mem.head _))) (apC (InP.mem (List.Mem.tail _ (List.Mem.tail _ (List.Mem.head _)))) apN))) (Nat.le_refl _)
 have gr1:GrL [(some g_d),(some a1),(blk a0)] w w1:=GrL.modL (GrL.refl _) hgl1 (apC (InP.mem (List.Mem.head _)) (apC (InP.mem (List.Mem.tail _ (List.Mem.head _))) (apC (InP.mem (List.Mem.tail _ (List.Mem.tail _ (List.Mem.head _)))) apN)))
 refine yp (h:=(zf (za (zp rfl (fun b1=>?_) (fun b1=>?_)))))
 ·replace H:=H.1 (b1)
  exact zd (zb (yp (h:=(zf (za (zq (zh (zw rfl rfl ⟨gr1,(116:Int),d_,d_2,d_3,d_L_,d_L_2,d_L_3,d_L_4,d_L_5,d_L_6,c5,d0,rfl,hB1,hB2,hO1,hi2,dj1,dj2,dj3,H⟩))))))))
 ·replace H:=H.2 (b1)
  refine zo (za (zd (zb (yp (h:=(yp (h:=(WL.call rfl rfl (kT hO1.rd rfl hB2 hB1 H) ?_))))))))
  rintro _ _ ⟨rfl,k,rfl,H⟩
  refine yp (h:=(zf (za (zd (zb (yp (h:=(zf (za (zd (zb (yp (h:=(yp (h:=(yp (h:=?_)))))))))))))))))
  obtain ⟨h1,H⟩:=H
  refine zL 9 (fun L' w'=>∃ q1:Bool,L'=[(30,.bool q1),(0,.pointer (some ⟨g_d,0,none⟩)),(1,vs p),(2,vs text),(3,.bool behind),(9,.int .i64 k),(10,vs ([]:List UInt8))]/\((decide ((0:Int)<=k)) && d_L_2)=q1/\w1=w') ?_ (fun hQ=>?_)
  ·rintro _ _ ⟨q1,rfl,rfl,rfl⟩
   refine yp (h:=(zf (za (zd ?_))))
   obtain ⟨J1,H,hJ1⟩:=H
   refine qd (fun L' w'=>∃ (old:List UInt8),L'=[(0,.pointer (some ⟨g_d,0,none⟩)),(1,vs p),(2,vs text),(3,.bool behind),(10,vs old),(11,.bool ((decide ((0:Int)<=k)) && d_L_2))]/\J1 old/\w1=w') ?_ (fun hQ=>?_)
   ·clear H
    rintro _ _ ⟨old,rfl,H,rfl⟩
    replace H:=hJ1 old H
    refine za (zd (zd (zb (yp (h:=(WL.call rfl rfl (ZF H) ?_))))))
    rintro _ w2 ⟨hg1,t44,rfl,H⟩
    have gr2:=GrL.add0 gr1 hg1
    have k1:=hB2.g0 hg1
    have k2:=hB1.g0 hg1
    have k3:=hO1.grown hg1
    refine yp (h:=(yp (h:=?_)))
    obtain ⟨h2,H⟩:=H
    refine zL 7 (fun L' w'=>∃ q2:Bool,L'=[(53,.bool q2),(0,.pointer (some ⟨g_d,0,none⟩)),(1,vs p),(2,vs text),(3,.bool behind),(10,vs old),(11,.bool ((decide ((0:Int)<=k)) && d_L_2))]/\((!t44) || (decide (((65536:Int) - (old.length:Int))<(text.length:Int))))=q2/\w2=w') ?_ (fun hQ=>?_)
    ·rintro _ _ ⟨q2,rfl,rfl,rfl⟩
     refine zf (za (zp rfl (fun b2=>?_) (fun b2=>?_)))
     ·replace H:=H.1 (b2)
      exact zd (zb (yp (h:=(zf (za (zq (zh (zw rfl rfl ⟨gr2,(112:Int),d_,d_2,d_3,d_L_,d_L_2,d_L_3,d_L_4,d_L_5,d_L_6,c5,d0,rfl,k2,k1,k3,hi2,dj1,dj2,dj3,H⟩))))))))
     ·replace H:=H.2 (b2)
      refine zo (za (zd (zd (zb (yp (h:=(yp (h:=(yp (h:=?_))))))))))
      obtain ⟨J2,H,hJ2⟩:=H
      refine zL 4 (fun L' w'=>∃ q3:Bool,L'=[(60,.bool q3),(0,.pointer (some ⟨g_d,0,none⟩)),(1,vs p),(2,vs text),(3,.bool behind),(10,vs old)]/\J2 q3/\w2=w') ?_ (fun hQ=>?_)
      ·clear H
       rintro _ _ ⟨q3,rfl,H,rfl⟩
       replace H:=hJ2 q3 H
       refine zf (za (zp rfl (fun b3=>?_) (fun b3=>?_)))
       ·replace H:=H.1 (b3)
        exact zd (zb (yp (h:=(zf (za (zq (zh (zw rfl rfl ⟨gr2,(110:Int),d_,d_2,d_3,d_L_,d_L_2,d_L_3,d_L_4,d_L_5,d_L_6,c5,d0,rfl,k2,k1,k3,hi2,dj1,dj2,dj3,H⟩))))))))
       ·replace H:=H.2 (b3)
        refine zo (za (zd (zb (yp (h:=(yp (h:=(WL.call rfl rfl (W_psmithyref3_Disk_entry k3.rd rfl k1 k2 H) ?_))))))))
        rintro _ w3 ⟨hg2,k_2,rfl,H⟩
        have gr3:=GrL.add0 gr2 hg2
        have k4:=k1.g0 hg2
        have k5:=k2.g0 hg2
        have k6:=k3.grown hg2
        refine yp (h:=(zf (za (zd (zb (yp (h:=(yp (h:=?_)))))))))
        obtain ⟨h3,H⟩:=H
        refine zg rfl (qn rfl rfl h3) (zg rfl (z6 (us:=[.bool true,vs (old++text),.int .i64 (-1:Int)]) zero127 places127 rfl rfl) (WL.alloc rfl zero127 (fun g1 w4 hB3 hg3 hl1=>zP (vs:=[.bool true,vs (old++text),.int .i64 (-1:Int)]) qY rfl rfl rfl (jd rfl (jd rfl (jd rfl kg))) hB3 rfl rfl (fun w5 hB4 hg4=>?_))))
        have gr5:GrL [(some g_d),(some a1),(blk a0)] w w5:=GrL.mod (GrL.add0 gr3 hg3) hg4 (InP.ge (Ge.le (Ge.box hl1) (GrL.sizeL gr3)))
        have k10:=(k4.g0 hg3).go hg4 (Dj.new k4.lt' (Ge.box hl1))
        have k11:=(k5.g0 hg3).go hg4 (Dj.new k5.lt' (Ge.box hl1))
        have k12:=(k6.grown hg3).go hg4 (Dj.new k6.lt' (Ge.box hl1))
        refine zf (za (zd ?_))
        obtain ⟨J3,H,hJ3⟩:=H
        refine qd (fun L' w'=>∃ (c2:Int),L'=[(0,.pointer (some ⟨g_d,0,none⟩)),(9,.int .i64 k_2),(12,.pointer (some ⟨g1,0,none⟩))]/\J3 c2/\GrL [(some g_d),(some a1),(blk a0)] w w'/\Bl w' a1 89 [vs d_L_,.bool d_L_2,vs d_L_3,.bool d_L_4,vs d_L_5,.slice c5 d_L_6.length d0]/\Bl w' g_d 73 [.slice (some ⟨a1,0,none⟩) 1 1,.int .i64 d_,.int .i64 d_2,.bool d_3]/\OwnK 3 jw w' 0 127 c5 d0 d_L_6/\Bl w' g1 127 [.bool true,vs (old++text),.int .i64 c2]) ?_ (fun hQ=>?_)
        ·clear H
         rintro _ w6 ⟨c2,rfl,H,gr6,k13,k14,k15,k16⟩
         replace H:=hJ3 c2 H
         refine za (zd (zb (yp (h:=(yp (h:=(yp (h:=(zg rfl (zk qY k14 rfl rfl rfl) (yp (h:=?_)))))))))))
         obtain ⟨h4,H⟩:=H
         refine zg rfl (zZ qY rfl rfl rfl h4) (yp (h:=(zR one4 rfl rfl rfl k13 (by simp) (fun w7 hB6 hg5=>?_))))
         have hB5:Bl w7 a1 89 [vs d_L_,.bool true,vs d_L_3,.bool d_L_4,vs d_L_5,.slice c5 d_L_6.length d0]:=hB6
         have gr7:GrL [(some g_d),(some a1),(blk a0)] w w7:=GrL.mod gr6 hg5 (InP.mem (List.Mem.tail _ (List.Mem.head _)))
         have k17:=k14.go hg5 dj1
         have k19:=k16.go hg5 ((Dj.new k4.lt' (Ge.box hl1)).symm)
         refine zf (za (zd (zO (fun k => !(Nat.beq k 9)) (LD [3,6] (fun w'=>Bl w' g_d 73 [.slice (some ⟨a1,0,none⟩) 1 1,.int .i64 d_,.int .i64 d_2,.bool d_3]/\Bl w' g1 127 [.bool true,vs (old++text),.int .i64 c2])) mixed (by kernel_rfl) (fun k w' h _=>⟨(ji h k17),(ji h k19)⟩) (zl rfl rfl (fun w' hw'=>zc qY rfl) (zl rfl rfl (fun w' hw'=>zc qY rfl) (zl rfl rfl (fun w' hw'=>zc qY rfl) (zl rfl rfl (fun w' hw'=>zk qY (hw' rfl).1 rfl rfl rfl) (zl rfl rfl (fun w' hw'=>zc qY rfl) (zl rfl rfl (fun w' hw'=>zc qY rfl) (zl rfl rfl (fun w' hw'=>zk qY (hw' rfl).2 rfl rfl rfl) ?_))))))))))
         obtain ⟨h5,H⟩:=H
         refine zl rfl rfl (fun w' hw'=>zZ qY rfl rfl rfl h5) (zl rfl rfl (fun w' hw'=>zc qY rfl) (qh rfl (qc one9 rfl rfl rfl hB5 (by simp)) (fun w' h=>DD.keep (⟨(Bl.go k17 (jg h.2 (Eqv.refl _)) dj1),(Bl.go k19 (jg h.2 (Eqv.refl _)) (Dj.new k4.lt' (Ge.box hl1)).symm)⟩)) ?_))
         rintro w8 ⟨hB8,hg6⟩
         have hB7:Bl w8 a1 89 [vs d_L_,.bool true,vs (old++text),.bool d_L_4,vs d_L_5,.slice c5 d_L_6.length d0]:=hB8
         have gr8:GrL [(some g_d),(some a1),(blk a0)] w w8:=GrL.mod gr7 hg6 (InP.mem (List.Mem.tail _ (List.Mem.head _)))
         have k20:=k17.go hg6 dj1
         have k22:=k19.go hg6 ((Dj.new k4.lt' (Ge.box hl1)).symm)
         refine z8 (za (zd (zO (fun k => !(Nat.beq k 14 || Nat.beq k 15 || Nat.beq k 18)) (LD [3,8,12,13] (fun w'=>Bl w' g_d 73 [.slice (some ⟨a1,0,none⟩) 1 1,.int .i64 d_,.int .i64 d_2,.bool d_3]/\Bl w' a1 89 [vs d_L_,.bool true,vs (old++text),.bool d_L_4,vs d_L_5,.slice c5 d_L_6.length d0]/\Bl w' g1 127 [.bool true,vs (old++text),.int .i64 c2])) mixed (by kernel_rfl) (fun k w' h _=>⟨(ji h k20),(ji h hB7),(ji h k22)⟩) (zl rfl rfl (fun w' hw'=>zc qY rfl) (zl rfl rfl (fun w' hw'=>zc qY rfl) (zl rfl rfl (fun w' hw'=>zc qY rfl) (zl rfl rfl (fun w' hw'=>zk qY (hw' rfl).1 rfl rfl rfl) (zl rfl rfl (fun w' hw'=>zc qY rfl) (zl rfl rfl (fun w' hw'=>zc qY rfl) (zl rfl rfl (fun w' hw'=>zc qY rfl) (zl rfl rfl (fun w' hw'=>zc qY rfl) (zl rfl rfl (fun w' hw'=>zk qY (hw' rfl).1 rfl rfl rfl) (zl rfl rfl (fun w' hw'=>zc qY rfl) ?_)))))))))))))
         obtain ⟨h6,H⟩:=H
         refine zl rfl rfl (fun w' hw'=>zZ qY rfl rfl rfl h6) (zl rfl rfl (fun w' hw'=>zc qY rfl) (zl rfl rfl (fun w' hw'=>zk qY (hw' rfl).2.1 rfl rfl rfl) (zl rfl rfl (fun w' hw'=>zQ (vs:=[.bool true,vs (old++text),.int .i64 c2]) qY (hw' rfl).2.2 rfl rfl rfl rfl) (qr rfl (je) rfl (Eff.litK (f:=jw) (xs:=([(true,old++text,c2)]:List (Bool × List UInt8 × Int))) enc127_ok ow87 rfl rfl rfl) (fun v w' ⟨_,_,h⟩=>DD.keep (⟨(Bl.g0 k20 (jg h (Eqv.refl _))),(Bl.g0 hB7 (jg h (Eqv.refl _))),(Bl.g0 k22 (jg h (Eqv.refl _)))⟩)) ?_))))
         rintro _ w9 ⟨rfl,hB9,hg7⟩
         obtain ⟨r5,hl2⟩:∃ g,g=w8.heap.size:=⟨_,rfl⟩
         rw [<-hl2] at hB9
         rw [<-hl2]
         have hO2:OwnK 3 jw w9 w.heap.size 127 (some ⟨r5,0,none⟩) 1 ([(true,old++text,c2)]:List (Bool × List UInt8 × Int)):=OwnK.ofBl enc127_ok hB9 (Nat.le_trans (GrL.sizeL gr8) (Nat.le_of_eq hl2.symm)) (by simp [maxLen]) rfl
         have gr9:=GrL.add0 gr8 hg7
         have k23:=hB7.g0 hg7
         have k24:=k20.g0 hg7
         have k26:=k22.g0 hg7
         obtain ⟨h7,H⟩:=H
         refine qr rfl (je) rfl (qJ ow87 (((k15.go hg5 dj3.symm).go hg6 dj3.symm).grown hg7) rfl rfl hO2.rd rfl rfl h7 (kF h7) (Nat.zero_le _)) (fun v w' ⟨_,_,_,_,h,_⟩=>DD.keep (⟨(Bl.go k24 (jg h (Eqv.refl _)) dj2),(Bl.go k23 (jg h (Eqv.refl _)) dj3),(Bl.go k26 (jg h (Eqv.refl _)) (Dj.new k6.lt' (Ge.box hl1)).symm)⟩)) ?_
         rintro _ w10 ⟨o7,o9,rfl,hO3,hg8,hk1⟩
         have gr10:GrL [(some g_d),(some a1),(blk a0)] w w10:=GrL.mod gr9 hg8 hi2
         obtain ⟨h8,H⟩:=H
         refine zl rfl rfl (fun w' hw'=>zZ qY rfl rfl rfl h8) (zl rfl rfl (fun w' hw'=>zc qY rfl) (qh rfl (qc one87 rfl rfl rfl (k23.go hg8 dj3) (by simp)) (fun w' h=>qf (by kernel_rfl)) ?_))
         rintro w11 ⟨hB11,hg9⟩
         have hB10:Bl w11 a1 89 [vs d_L_,.bool true,vs (old++text),.bool d_L_4,vs d_L_5,.slice o7 ((d_L_6++([(true,old++text,c2)]:List (Bool × List UInt8 × Int))).length) o9]:=hB11
         have gr11:GrL [(some g_d),(some a1),(blk a0)] w w11:=GrL.mod gr10 hg9 (InP.mem (List.Mem.tail _ (List.Mem.head _)))
         have k31:=(k26.go hg8 ((Dj.new k6.lt' (Ge.box hl1)).symm)).go hg9 ((Dj.new k4.lt' (Ge.box hl1)).symm)
         exact z8 (za (zd (zb (yp (h:=(zf (za (zq (zw rfl rfl ⟨gr11,(0:Int),d_,d_2,d_3,d_L_,true,old++text,d_L_4,d_L_5,(d_L_6++([(true,old++text,c2)]:List (Bool × List UInt8 × Int))),o7,o9,rfl,((k24.go hg8 dj2).go hg9 dj1),hB10,(hO3.go hg9 (Dj.app dj3.symm k23.lt' hk1)),(InP.app hi2 hk1 (GrL.sizeL gr9)),dj1,(Dj.app dj2.symm k24.lt' hk1).symm,(Dj.app dj3.symm k23.lt' hk1).symm,H⟩)))))))))
        ·clear hJ3
         refine zd (zb (yp (h:=(zf (za (zp rfl (fun b4=>?_) (fun b4=>?_)))))))
         ·replace H:=H.1 (b4)
          refine zb (yp (h:=(yp (h:=(yp (h:=(zR one3 rfl rfl rfl hB4 (by simp) (fun w12 hB13 hg10=>?_))))))))
          have hB12:Bl w12 g1 127 [.bool true,vs (old++text),.int .i64 (text.length:Int)]:=hB13
          have gr12:GrL [(some g_d),(some a1),(blk a0)] w w12:=GrL.mod gr5 hg10 (InP.ge (Ge.le (Ge.box hl1) (GrL.sizeL gr3)))
          exact zf (WX.weaken sb (hQ _ _ ⟨(text.length:Int),rfl,H,gr12,(k10.go hg10 (Dj.new k4.lt' (Ge.box hl1))),(k11.go hg10 (Dj.new k5.lt' (Ge.box hl1))),(k12.go hg10 (Dj.new k6.lt' (Ge.box hl1))),hB12⟩))
         ·replace H:=H.2 (b4)
          exact zo (WX.weaken sb (hQ _ _ ⟨(-1:Int),rfl,H,gr5,k10,k11,k12,hB4⟩))
      ·clear hJ2
       rcases Bool.eq_false_or_eq_true (!((decide ((0:Int)<=k)) && d_L_2)) with b5 | b5
       ·replace H:=H.1 b5
        refine gp b5 (h:=(qN (jb rfl rfl (okb b5)) rfl rfl (W_psmithyref3_Disk_count k3.rd rfl k1 k2 H) ?_))
        rintro _ _ ⟨rfl,t58,rfl,H⟩
        exact gp b5 (h:=(zg rfl (zt (okb b5) rfl) (wk (hQ _ _ ⟨decide ((2000:Int)<=t58),rfl,H,rfl⟩))))
       ·replace H:=H.2 b5
        exact gn b5 (h:=(gn b5 (h:=(gn b5 (h:=(zg rfl (zr (okb b5) rfl) (wk (hQ _ _ ⟨false,rfl,H,rfl⟩))))))))
    ·clear H
     rcases Bool.eq_false_or_eq_true (!t44) with b6 | b6
     ·exact gn b6 (h:=(gn b6 (h:=(gn b6 (h:=(gn b6 (h:=(gn b6 (h:=(gn b6 (h:=(zg rfl (zt (okb b6) rfl) (wk (hQ _ _ ⟨true,rfl,by rw [b6] <;> rfl,rfl⟩))))))))))))))
     ·exact gp b6 (h:=(gp b6 (h:=(gp b6 (h:=(gp b6 (h:=(ze rfl rfl (okb b6) rfl (Yld.sub rfl rfl (h2 b6)) (gp b6 (h:=(zg rfl (zr (okb b6) rfl) (wk (hQ _ _ ⟨decide (((65536:Int) - (old.length:Int))<(text.length:Int)),rfl,by rw [b6] <;> rfl,rfl⟩)))))))))))))
   ·clear hJ1
    refine zd (zb (yp (h:=(yp (h:=(zL 2 (fun L' w'=>∃ q4:Bool,L'=[(34,.bool q4),(0,.pointer (some ⟨g_d,0,none⟩)),(1,vs p),(2,vs text),(3,.bool behind),(9,.int .i64 k),(10,vs ([]:List UInt8)),(11,.bool ((decide ((0:Int)<=k)) && d_L_2))]/\(behind && ((decide ((0:Int)<=k)) && d_L_2))=q4/\w1=w') ?_ (fun hQ=>?_)))))))
    ·rintro _ _ ⟨q4,rfl,rfl,rfl⟩
     refine zf (za (zp rfl (fun b7=>?_) (fun b7=>?_)))
     ·replace H:=H.1 (b7)
      refine zb (yp (h:=(yp (h:=(yp (h:=(zg rfl (zk qY hB1 rfl rfl rfl) (yp (h:=?_)))))))))
      obtain ⟨h9,H⟩:=H
      exact zg rfl (zZ qY rfl rfl rfl h9) (yp (h:=(zg rfl (zk qY hB2 rfl rfl rfl) (yp (h:=(zf (WX.weaken sb (hQ _ _ ⟨d_L_3,rfl,H,rfl⟩))))))))
     ·replace H:=H.2 (b7)
      exact zo (WX.weaken sb (hQ _ _ ⟨([]:List UInt8),rfl,H,rfl⟩))
    ·clear H
     rcases Bool.eq_false_or_eq_true (behind) with b8 | b8
     ·exact gp b8 (h:=(zg rfl (zt (okb b8) rfl) (wk (hQ _ _ ⟨(decide ((0:Int)<=k)) && d_L_2,rfl,by rw [b8] <;> rfl,rfl⟩))))
     ·exact gn b8 (h:=(zg rfl (zr (okb b8) rfl) (wk (hQ _ _ ⟨false,rfl,by rw [b8] <;> rfl,rfl⟩))))
  ·clear H
   rcases Bool.eq_false_or_eq_true (decide ((0:Int)<=k)) with b9 | b9
   ·exact gp b9 (h:=(gp b9 (h:=(gp b9 (h:=(ze rfl rfl (okb b9) rfl (zk qY hB1 rfl rfl rfl) (gp b9 (h:=(ze rfl rfl (okb b9) rfl (zZ qY rfl rfl rfl (h1 b9)) (gp b9 (h:=(ze rfl rfl (okb b9) rfl (zk qY hB2 rfl rfl rfl) (zg rfl (zt (okb b9) rfl) (wk (hQ _ _ ⟨d_L_2,rfl,by rw [b9] <;> rfl,rfl⟩)))))))))))))))
   ·exact gn b9 (h:=(gn b9 (h:=(gn b9 (h:=(gn b9 (h:=(gn b9 (h:=(gn b9 (h:=(gn b9 (h:=(gn b9 (h:=(zg rfl (zr (okb b9) rfl) (wk (hQ _ _ ⟨false,rfl,by rw [b9] <;> rfl,rfl⟩))))))))))))))))))
set_option maxHeartbeats 8000000 in
theorem ZG {w:World} {g_d:Nat} {a1:Nat} {d_L_Path:List UInt8} {d_L_There:Bool} {d_L_Text:List UInt8} {d_L_Synced:Bool} {d_L_SyncedText:List UInt8} {d_L_Changes:List (Bool × List UInt8 × Int)} {a0:Option Addr} {a3:Nat} {d_Ops:Int} {d_Armed:Int} {d_Down:Bool} {p:List UInt8} {a4:Nat} {K:Int->Int->Int->Bool->(List UInt8)->Bool->(List UInt8)->Bool->(List UInt8)->(List (Bool × List UInt8 × Int))->Prop} (hd_L_Changes:OwnK 3 jw w 0 127 a0 a3 d_L_Changes) (a7:a4=d_L_Changes.length) (hd_L:Bl w a1 89 [vs d_L_Path,.bool d_L_There,vs d_L_Text,.bool d_L_Synced,vs d_L_SyncedText,.slice a0 a4 a3]) (hd:Bl w g_d 73 [.slice (some ⟨a1,0,none⟩) 1 1,.int .i64 d_Ops,.int .i64 d_Armed,.bool d_Down]) (hdj0_1:Dj (some g_d) (some a1)) (hdj0_2:Dj (some g_d) (blk a0)) (hdj1_2:Dj (some a1) (blk a0)) (H:jx d_L_Path d_L_There d_L_Text d_L_Synced d_L_SyncedText d_L_Changes d_Ops d_Armed d_Down p K):Fn Tryz.prog 16 ⟨[.pointer (some ⟨g_d,0,none⟩),vs p]⟩ w (fun v w'=>GrL [(some g_d),(some a1),(blk a0)] w w'/\∃ (r:Int),∃ (d_Ops2:Int),∃ (d_Armed2:Int),∃ (d_Down2:Bool),∃ (d_L_Path2:List UInt8),∃ (d_L_There2:Bool),∃ (d_L_Text2:List UInt8),∃ (d_L_Synced2:Bool),∃ (d_L_SyncedText2:List UInt8),∃ (d_L_Changes2:List (Bool × List UInt8 × Int)),∃ (a2:Option Addr),∃ (a6:Nat),v=.int .i64 r/\Bl w' g_d 73 [.slice (some ⟨a1,0,none⟩) 1 1,.int .i64 d_Ops2,.int .i64 d_Armed2,.bool d_Down2]/\Bl w' a1 89 [vs d_L_Path2,.bool d_L_There2,vs d_L_Text2,.bool d_L_Synced2,vs d_L_SyncedText2,.slice a2 d_L_Changes2.length a6]/\OwnK 3 jw w' 0 127 a2 a6 d_L_Changes2/\InP [(some g_d),(some a1),(blk a0)] w.heap.size (blk a2)/\Dj (some g_d) (some a1)/\Dj (some g_d) (blk a2)/\Dj (some a1) (blk a2)/\K r d_Ops2 d_Armed2 d_Down2 d_L_Path2 d_L_There2 d_L_Text2 d_L_Synced2 d_L_SyncedText2 d_L_Changes2):=by
 subst a7
 unfold jx at H
 refine Fn.enter (by kernel_rfl) Tryz.func16 rfl Tryz.ntmps16 rfl ?_
 replace H:=H (Nat.le_trans hd_L_Changes.rd.cap hd_L_Changes.rd.max)
 have hNoAt:AllP (NoAt w) [(some g_d),(some a1),(blk a0)]:=(apC (NoAt.bl hd rfl) (apC (NoAt.bl hd_L rfl) (apC (NoAt.ownK hd_L_Changes rfl) apN)))
 refine zd (zb (yp (h:=(zf (za (zd (zd (zb (yp (h:=(WL.call rfl rfl (kS hd_L_Changes rfl hd_L hd hdj0_1 hdj0_2 hdj1_2 H) ?_)))))))))))
 rintro _ w1 ⟨hgl1,t7,d_,d_2,d_3,d_L_,d_L_2,d_L_3,d_L_4,d_L_5,d_L_6,c5,d0,rfl,hB1,hB2,hO1,hi1,dj1,dj2,dj3,H⟩
 have hi2:InP [(some g_d),(some a1),(blk a0)] w.heap.size (blk c5):=InP.trans hi1 (apC (InP.mem (List.Mem.head _)) (apC (InP.mem (List.Mem.tail _ (List.Mem.head _))) (apC (InP.mem (List.Mem.tail _ (List.Mem.tail _ (List.Mem.head _)))) apN))) (Nat.le_refl _)
 have gr1:GrL [(some g_d),(some a1),(blk a0)] w w1:=GrL.modL (GrL.refl _) hgl1 (apC (InP.mem (List.Mem.head _)) (apC (InP.mem (List.Mem.tail _ (List.Mem.head _))) (apC (InP.mem (List.Mem.tail _ (List.Mem.tail _ (List.Mem.head _)))) apN)))
 refine yp (h:=(zf (za (zp rfl (fun b1=>?_) (fun b1=>?_)))))
 ·replace H:=H.1 (b1)
  exact zd (zb (yp (h:=(zf (za (zq (zh (zw rfl rfl ⟨gr1,(116:Int),d_,d_2,d_3,d_L_,d_L_2,d_L_3,d_L_4,d_L_5,d_L_6,c5,d0,rfl,hB1,hB2,hO1,hi2,dj1,dj2,dj3,H⟩))))))))
 ·replace H:=H.2 (b1)
  refine zo (za (zd (zd (zb (yp (h:=(WL.call rfl rfl (ZF H) ?_)))))))
  rintro _ w2 ⟨hg1,t10,rfl,H⟩
  have gr2:=GrL.add0 gr1 hg1
  have k1:=hB2.g0 hg1
  have k2:=hB1.g0 hg1
  have k3:=hO1.grown hg1
  refine yp (h:=(zf (za (zp rfl (fun b2=>?_) (fun b2=>?_)))))
  ·replace H:=H.1 (b2)
   exact zd (zb (yp (h:=(zf (za (zq (zh (zw rfl rfl ⟨gr2,(112:Int),d_,d_2,d_3,d_L_,d_L_2,d_L_3,d_L_4,d_L_5,d_L_6,c5,d0,rfl,k2,k1,k3,hi2,dj1,dj2,dj3,H⟩))))))))
  ·replace H:=H.2 (b2)
   refine zo (za (zd (zb (yp (h:=(yp (h:=(WL.call rfl rfl (kT k3.rd rfl k1 k2 H) ?_))))))))
   rintro _ _ ⟨rfl,k,rfl,H⟩
   refine yp (h:=(zf (za (zd ?_))))
   obtain ⟨J1,H,hJ1⟩:=H
   refine qd (fun L' w'=>∃ (d_L3:Bool),∃ (d_L4:List UInt8),∃ (d_L5:List (Bool × List UInt8 × Int)),∃ (a8:Option Addr),∃ (c7:Nat),∃ (f0:Nat),L'=[]/\J1 d_L3 d_L4 d_L5/\f0=d_L5.length/\GrL [(some g_d),(some a1),(blk a0)] w w'/\Bl w' a1 89 [vs d_L_,.bool d_L_2,vs d_L_3,.bool d_L3,vs d_L4,.slice a8 f0 c7]/\Bl w' g_d 73 [.slice (some ⟨a1,0,none⟩) 1 1,.int .i64 d_,.int .i64 d_2,.bool d_3]/\OwnK 3 jw w' 0 127 a8 c7 d_L5/\Dj (some a1) (blk a8)/\Dj (some g_d) (blk a8)/\InP [(some g_d),(some a1),(blk a0)] w.heap.size (blk a8)) ?_ (fun hQ=>?_)
   ·clear H
    rintro _ w3 ⟨d_L3,d_L4,d_L5,a8,c7,f0,rfl,H,rfl,gr3,k4,k5,k6,dj4,dj5,hi3⟩
    replace H:=hJ1 d_L3 d_L4 d_L5 H
    exact za (zd (zb (yp (h:=(zf (za (zq (zw rfl rfl ⟨gr3,(0:Int),d_,d_2,d_3,d_L_,d_L_2,d_L_3,d_L3,d_L4,d_L5,a8,c7,rfl,k5,k4,k6,hi3,dj1,dj5,dj4,H⟩))))))))
   ·clear hJ1
    refine zd (zb (yp (h:=(yp (h:=(zf (za (zp rfl (fun b3=>?_) (fun b3=>?_)))))))))
    ·replace H:=H.1 (of_decide_eq_true b3)
     refine zd (zO (fun k => !(Nat.beq k 15)) (LD [3,8,12] (fun w'=>Bl w' g_d 73 [.slice (some ⟨a1,0,none⟩) 1 1,.int .i64 d_,.int .i64 d_2,.bool d_3]/\Bl w' a1 89 [vs d_L_,.bool d_L_2,vs d_L_3,.bool d_L_4,vs d_L_5,.slice c5 d_L_6.length d0])) mixed (by kernel_rfl) (fun k w' h _=>⟨(ji h k2),(ji h k1)⟩) (zl rfl rfl (fun w' hw'=>zc qY rfl) (zl rfl rfl (fun w' hw'=>zc qY rfl) (zl rfl rfl (fun w' hw'=>zc qY rfl) (zl rfl rfl (fun w' hw'=>zk qY (hw' rfl).1 rfl rfl rfl) (zl rfl rfl (fun w' hw'=>zc qY rfl) (zl rfl rfl (fun w' hw'=>zc qY rfl) (zl rfl rfl (fun w' hw'=>zc qY rfl) (zl rfl rfl (fun w' hw'=>zc qY rfl) (zl rfl rfl (fun w' hw'=>zk qY (hw' rfl).1 rfl rfl rfl) (zl rfl rfl (fun w' hw'=>zc qY rfl) ?_)))))))))))
     obtain ⟨h1,H⟩:=H
     refine zl rfl rfl (fun w' hw'=>zZ qY rfl rfl rfl h1) (zl rfl rfl (fun w' hw'=>zc qY rfl) (zl rfl rfl (fun w' hw'=>zk qY (hw' rfl).2 rfl rfl rfl) ?_))
     obtain ⟨h2,H⟩:=H
     refine zl rfl rfl (fun w' hw'=>zZ qY rfl rfl rfl h2) (zl rfl rfl (fun w' hw'=>zc qY rfl) (qh rfl (qc one4 rfl rfl rfl k1 (by simp)) (fun w' h=>qf (by kernel_rfl)) ?_))
     rintro w4 ⟨hB4,hg2⟩
     have hB3:Bl w4 a1 89 [vs d_L_,.bool d_L_2,vs d_L_3,.bool d_L_2,vs d_L_5,.slice c5 d_L_6.length d0]:=hB4
     have gr4:GrL [(some g_d),(some a1),(blk a0)] w w4:=GrL.mod gr2 hg2 (InP.mem (List.Mem.tail _ (List.Mem.head _)))
     have k7:=k2.go hg2 dj1
     refine z8 (za (zd (zO (fun k => !(Nat.beq k 15)) (LD [3,8,12] (fun w'=>Bl w' g_d 73 [.slice (some ⟨a1,0,none⟩) 1 1,.int .i64 d_,.int .i64 d_2,.bool d_3]/\Bl w' a1 89 [vs d_L_,.bool d_L_2,vs d_L_3,.bool d_L_2,vs d_L_5,.slice c5 d_L_6.length d0])) mixed (by kernel_rfl) (fun k w' h _=>⟨(ji h k7),(ji h hB3)⟩) (zl rfl rfl (fun w' hw'=>zc qY rfl) (zl rfl rfl (fun w' hw'=>zc qY rfl) (zl rfl rfl (fun w' hw'=>zc qY rfl) (zl rfl rfl (fun w' hw'=>zk qY (hw' rfl).1 rfl rfl rfl) (zl rfl rfl (fun w' hw'=>zc qY rfl) (zl rfl rfl (fun w' hw'=>zc qY rfl) (zl rfl rfl (fun w' hw'=>zc qY rfl) (zl rfl rfl (fun w' hw'=>zc qY rfl) (zl rfl rfl (fun w' hw'=>zk qY (hw' rfl).1 rfl rfl rfl) (zl rfl rfl (fun w' hw'=>zc qY rfl) ?_)))))))))))))
     obtain ⟨h3,H⟩:=H
     refine zl rfl rfl (fun w' hw'=>zZ qY rfl rfl rfl h3) (zl rfl rfl (fun w' hw'=>zc qY rfl) (zl rfl rfl (fun w' hw'=>zk qY (hw' rfl).2 rfl rfl rfl) ?_))
     obtain ⟨h4,H⟩:=H
     refine zl rfl rfl (fun w' hw'=>zZ qY rfl rfl rfl h4) (zl rfl rfl (fun w' hw'=>zc qY rfl) (qh rfl (qc one9 rfl rfl rfl hB3 (by simp)) (fun w' h=>qf (by kernel_rfl)) ?_))
     rintro w5 ⟨hB6,hg3⟩
     have hB5:Bl w5 a1 89 [vs d_L_,.bool d_L_2,vs d_L_3,.bool d_L_2,vs d_L_3,.slice c5 d_L_6.length d0]:=hB6
     have gr5:GrL [(some g_d),(some a1),(blk a0)] w w5:=GrL.mod gr4 hg3 (InP.mem (List.Mem.tail _ (List.Mem.head _)))
     have k9:=k7.go hg3 dj1
     have k10:=(k3.go hg2 dj3.symm).go hg3 dj3.symm
     refine z8 (za (zb (yp (h:=(yp (h:=(yp (h:=(zg rfl (zk qY k9 rfl rfl rfl) (yp (h:=?_)))))))))))
     obtain ⟨h5,H⟩:=H
     refine zg rfl (zZ qY rfl rfl rfl h5) (yp (h:=(zR one87 rfl rfl rfl hB5 (by simp) (fun w6 hB8 hg4=>?_))))
     have hB7:Bl w6 a1 89 [vs d_L_,.bool d_L_2,vs d_L_3,.bool d_L_2,vs d_L_3,.slice none 0 0]:=hB8
     have gr6:GrL [(some g_d),(some a1),(blk a0)] w w6:=GrL.mod gr5 hg4 (InP.mem (List.Mem.tail _ (List.Mem.head _)))
     exact zf (WX.weaken sb (hQ _ _ ⟨d_L_2,d_L_3,[],none,0,0,rfl,H,rfl,gr6,hB7,(k9.go hg4 dj1),((OwnK.nil enc127_ok w6 w.heap.size 127).base (fun _ _=>Nat.zero_le _)),Dj.nr,Dj.nr,InP.none⟩))
    ·replace H:=H.2 (of_decide_eq_false b3)
     exact zo (WX.weaken sb (hQ _ _ ⟨d_L_4,d_L_5,d_L_6,c5,d0,d_L_6.length,rfl,H,rfl,gr2,k1,k2,k3,dj3,dj2,hi2⟩))
set_option maxHeartbeats 8000000 in
theorem W_psmithyref3_Disk_Arm {w:World} {g_d:Nat} {a1:Nat} {d_L_Path:List UInt8} {d_L_There:Bool} {d_L_Text:List UInt8} {d_L_Synced:Bool} {d_L_SyncedText:List UInt8} {d_L_Changes:List (Bool × List UInt8 × Int)} {a0:Option Addr} {a3:Nat} {d_Ops:Int} {d_Armed:Int} {d_Down:Bool} {n:Int} {a4:Nat} {K:Int->Int->Bool->(List UInt8)->Bool->(List UInt8)->Bool->(List UInt8)->(List (Bool × List UInt8 × Int))->Prop} (hd_L_Changes:OwnK 3 jw w 0 127 a0 a3 d_L_Changes) (a7:a4=d_L_Changes.length) (hd_L:Bl w a1 89 [vs d_L_Path,.bool d_L_There,vs d_L_Text,.bool d_L_Synced,vs d_L_SyncedText,.slice a0 a4 a3]) (hd:Bl w g_d 73 [.slice (some ⟨a1,0,none⟩) 1 1,.int .i64 d_Ops,.int .i64 d_Armed,.bool d_Down]) (hdj0_1:Dj (some g_d) (some a1)) (hdj0_2:Dj (some g_d) (blk a0)) (hdj1_2:Dj (some a1) (blk a0)) (H:ko d_L_Path d_L_There d_L_Text d_L_Synced d_L_SyncedText d_L_Changes d_Ops d_Armed d_Down n K):Fn Tryz.prog 22 ⟨[.pointer (some ⟨g_d,0,none⟩),.int .i64 n]⟩ w (fun v w'=>GrL [(some g_d),(some a1),(blk a0)] w w'/\∃ (d_Ops2:Int),∃ (d_Armed2:Int),∃ (d_Down2:Bool),∃ (d_L_Path2:List UInt8),∃ (d_L_There2:Bool),∃ (d_L_Text2:List UInt8),∃ (d_L_Synced2:Bool),∃ (d_L_SyncedText2:List UInt8),∃ (d_L_Changes2:List (Bool × List UInt8 × Int)),∃ (a2:Option Addr),∃ (a6:Nat),v=.tuple #[]/\Bl w' g_d 73 [.slice (some ⟨a1,0,none⟩) 1 1,.int .i64 d_Ops2,.int .i64 d_Armed2,.bool d_Down2]/\Bl w' a1 89 [vs d_L_Path2,.bool d_L_There2,vs d_L_Text2,.bool d_L_Synced2,vs d_L_SyncedText2,.slice a2 d_L_Changes2.length a6]/\OwnK 3 jw w' 0 127 a2 a6 d_L_Changes2/\InP [(some g_d),(some a1),(blk a0)] w.heap.size (blk a2)/\Dj (some g_d) (some a1)/\Dj (some g_d) (blk a2)/\Dj (some a1) (blk a2)/\K d_Ops2 d_Armed2 d_Down2 d_L_Path2 d_L_There2 d_L_Text2 d_L_Synced2 d_L_SyncedText2 d_L_Changes2):=by
 subst a7
 unfold ko at H
 refine Fn.enter (by kernel_rfl) Tryz.func22 rfl Tryz.ntmps22 rfl ?_
 replace H:=H (Nat.le_trans hd_L_Changes.rd.cap hd_L_Changes.rd.max)
 have hNoAt:AllP (NoAt w) [(some g_d),(some a1),(blk a0)]:=(apC (NoAt.bl hd rfl) (apC (NoAt.bl hd_L rfl) (apC (NoAt.ownK hd_L_Changes rfl) apN)))
 refine zd (zb (yp (h:=(yp (h:=(yp (h:=(zR one3 rfl rfl rfl hd (by simp) (fun w1 hB2 hg1=>?_)))))))))
 have hB1:Bl w1 g_d 73 [.slice (some ⟨a1,0,none⟩) 1 1,.int .i64 d_Ops,.int .i64 (-1:Int),.bool d_Down]:=hB2
 have gr1:GrL [(some g_d),(some a1),(blk a0)] w w1:=GrL.mod (GrL.refl _) hg1 (InP.mem (List.Mem.head _))
 have k1:=hd_L_Changes.go hg1 hdj0_2.symm
 have k2:=hd_L.go hg1 hdj0_1.symm
 refine zf (za (zd (zb (yp (h:=(yp (h:=(zf (za (zp rfl (fun b1=>?_) (fun b1=>?_)))))))))))
 ·replace H:=H.1 (of_decide_eq_true b1)
  refine zb (yp (h:=(yp (h:=?_))))
  obtain ⟨h1,H⟩:=H
  refine zg rfl (Yld.sub rfl rfl h1) (yp (h:=(yp (h:=(zR one3 rfl rfl rfl hB1 (by simp) (fun w2 hB4 hg2=>?_))))))
  have hB3:Bl w2 g_d 73 [.slice (some ⟨a1,0,none⟩) 1 1,.int .i64 d_Ops,.int .i64 (n - (1:Int)),.bool d_Down]:=hB4
  have gr2:GrL [(some g_d),(some a1),(blk a0)] w w2:=GrL.mod gr1 hg2 (InP.mem (List.Mem.head _))
  exact zf (qM rfl ⟨gr2,d_Ops,n - (1:Int),d_Down,d_L_Path,d_L_There,d_L_Text,d_L_Synced,d_L_SyncedText,d_L_Changes,a0,a3,rfl,hB3,(k2.go hg2 hdj0_1.symm),(k1.go hg2 hdj0_2.symm),(InP.mem (List.Mem.tail _ (List.Mem.tail _ (List.Mem.head _)))),hdj0_1,hdj0_2,hdj1_2,H⟩)
 ·replace H:=H.2 (of_decide_eq_false b1)
  exact zo (qM rfl ⟨gr1,d_Ops,(-1:Int),d_Down,d_L_Path,d_L_There,d_L_Text,d_L_Synced,d_L_SyncedText,d_L_Changes,a0,a3,rfl,hB1,k2,k1,(InP.mem (List.Mem.tail _ (List.Mem.tail _ (List.Mem.head _)))),hdj0_1,hdj0_2,hdj1_2,H⟩)
set_option maxHeartbeats 8000000 in
theorem W_psmithyref3_Disk_Rise {w:World} {g_d:Nat} {a1:Nat} {d_L_Path:List UInt8} {d_L_There:Bool} {d_L_Text:List UInt8} {d_L_Synced:Bool} {d_L_SyncedText:List UInt8} {d_L_Changes:List (Bool × List UInt8 × Int)} {a0:Option Addr} {a3:Nat} {d_Ops:Int} {d_Armed:Int} {d_Down:Bool} {keep:Int} {cut:Int} {a4:Nat} {K:Int->Int->Bool->(List UInt8)->Bool->(List UInt8)->Bool->(List UInt8)->(List (Bool × List UInt8 × Int))->Prop} (hd_L_Changes:OwnK 3 jw w 0 127 a0 a3 d_L_Changes) (a7:a4=d_L_Changes.length) (hd_L:Bl w a1 89 [vs d_L_Path,.bool d_L_There,vs d_L_Text,.bool d_L_Synced,vs d_L_SyncedText,.slice a0 a4 a3]) (hd:Bl w g_d 73 [.slice (some ⟨a1,0,none⟩) 1 1,.int .i64 d_Ops,.int .i64 d_Armed,.bool d_Down]) (hdj0_1:Dj (some g_d) (some a1)) (hdj0_2:Dj (some g_d) (blk a0)) (hdj1_2:Dj (some a1) (blk a0)) (H:jR d_L_Path d_L_There d_L_Text d_L_Synced d_L_SyncedText d_L_Changes d_Ops d_Armed d_Down keep cut K):Fn Tryz.prog 24 ⟨[.pointer (some ⟨g_d,0,none⟩),.int .i64 keep,.int .i64 cut]⟩ w (fun v w'=>GrL [(some g_d),(some a1),(blk a0)] w w'/\∃ (d_Ops2:Int),∃ (d_Armed2:Int),∃ (d_Down2:Bool),∃ (d_L_Path2:List UInt8),∃ (d_L_There2:Bool),∃ (d_L_Text2:List UInt8),∃ (d_L_Synced2:Bool),∃ (d_L_SyncedText2:List UInt8),∃ (d_L_Changes2:List (Bool × List UInt8 × Int)),∃ (a2:Option Addr),∃ (a6:Nat),v=.tuple #[]/\Bl w' g_d 73 [.slice (some ⟨a1,0,none⟩) 1 1,.int .i64 d_Ops2,.int .i64 d_Armed2,.bool d_Down2]/\Bl w' a1 89 [vs d_L_Path2,.bool d_L_There2,vs d_L_Text2,.bool d_L_Synced2,vs d_L_SyncedText2,.slice a2 d_L_Changes2.length a6]/\OwnK 3 jw w' 0 127 a2 a6 d_L_Changes2/\InP [(some g_d),(some a1),(blk a0)] w.heap.size (blk a2)/\Dj (some g_d) (some a1)/\Dj (some g_d) (blk a2)/\Dj (some a1) (blk a2)/\K d_Ops2 d_Armed2 d_Down2 d_L_Path2 d_L_There2 d_L_Text2 d_L_Synced2 d_L_SyncedText2 d_L_Changes2):=by
 subst a7
 unfold jR at H
 refine Fn.enter (by kernel_rfl) Tryz.func24 rfl Tryz.ntmps24 rfl ?_
 replace H:=H (Nat.le_trans hd_L_Changes.rd.cap hd_L_Changes.rd.max)
 have hNoAt:AllP (NoAt w) [(some g_d),(some a1),(blk a0)]:=(apC (NoAt.bl hd rfl) (apC (NoAt.bl hd_L rfl) (apC (NoAt.ownK hd_L_Changes rfl) apN)))
 refine zd (zd (zb (yp (h:=(yp (h:=(yp (h:=(zg rfl (zk qY hd rfl rfl rfl) (yp (h:=(zf (za (zp rfl (fun b1=>?_) (fun b1=>?_)))))))))))))))
 ·replace H:=H.1 (b1)
  exact zq (zh (WX.ret0 rfl ⟨(GrL.refl _),d_Ops,d_Armed,d_Down,d_L_Path,d_L_There,d_L_Text,d_L_Synced,d_L_SyncedText,d_L_Changes,a0,a3,rfl,hd,hd_L,hd_L_Changes,(InP.mem (List.Mem.tail _ (List.Mem.tail _ (List.Mem.head _)))),hdj0_1,hdj0_2,hdj1_2,H⟩))
 ·replace H:=H.2 (b1)
  refine zo (za (zd ?_))
  obtain ⟨J1,H,hJ1⟩:=H
  refine qd (fun L' w'=>∃ (keep2:Int),L'=[(0,.pointer (some ⟨g_d,0,none⟩)),(1,.int .i64 keep2),(2,.int .i64 cut)]/\J1 keep2/\w=w') ?_ (fun hQ=>?_)
  ·clear H
   rintro _ _ ⟨keep2,rfl,H,rfl⟩
   replace H:=hJ1 keep2 H
   refine za (zd ?_)
   obtain ⟨J2,H,hJ2⟩:=H
   refine qd (fun L' w'=>∃ (cut2:Int),L'=[(0,.pointer (some ⟨g_d,0,none⟩)),(1,.int .i64 keep2),(2,.int .i64 cut2)]/\J2 cut2/\w=w') ?_ (fun hQ=>?_)
   ·clear H
    rintro _ _ ⟨cut2,rfl,H,rfl⟩
    replace H:=hJ2 cut2 H
    refine za (zd (zd (zb (yp (h:=(zf (za (WC.block ?_))))))))
    obtain ⟨I1,mu1,e1,HR1⟩:=H
    refine zW (fun n' L' w'=>∃ (keep3:Int),∃ (i:Int),∃ (d_L0:List UInt8),∃ (d_L1:Bool),∃ (d_L2:List UInt8),∃ (d_L3:Bool),∃ (d_L4:List UInt8),∃ (d_L5:List (Bool × List UInt8 × Int)),∃ (a8:Option Addr),∃ (c7:Nat),∃ (f0:Nat),n'=mu1 keep3 i d_L0 d_L1 d_L2 d_L3 d_L4 d_L5/\L'=[(0,.pointer (some ⟨g_d,0,none⟩)),(1,.int .i64 keep3),(2,.int .i64 cut2),(6,.int .i64 i)]/\I1 keep3 i d_L0 d_L1 d_L2 d_L3 d_L4 d_L5/\f0=d_L5.length/\GrL [(some g_d),(some a1),(blk a0)] w w'/\Bl w' a1 89 [vs d_L0,.bool d_L1,vs d_L2,.bool d_L3,vs d_L4,.slice a8 f0 c7]/\Bl w' g_d 73 [.slice (some ⟨a1,0,none⟩) 1 1,.int .i64 d_Ops,.int .i64 d_Armed,.bool d_Down]/\OwnK 3 jw w' 0 127 a8 c7 d_L5/\Dj (some a1) (blk a8)/\Dj (some g_d) (blk a8)/\InP [(some g_d),(some a1),(blk a0)] w.heap.size (blk a8)) _ _ ⟨keep2,(0:Int),d_L_Path,d_L_There,d_L_Text,d_L_Synced,d_L_SyncedText,d_L_Changes,a0,a3,d_L_Changes.length,rfl,rfl,e1,rfl,(GrL.refl _),hd_L,hd,hd_L_Changes,hdj1_2,hdj0_2,(InP.mem (List.Mem.tail _ (List.Mem.tail _ (List.Mem.head _))))⟩ sb ?_
    clear e1
    rintro _ _ w1 ⟨keep3,i,d_L0,d_L1,d_L2,d_L3,d_L4,d_L5,a8,c7,f0,rfl,rfl,hI1,rfl,gr1,k1,k2,k3,dj1,dj2,hi1⟩
    have H:=HR1 keep3 i d_L0 d_L1 d_L2 d_L3 d_L4 d_L5 hI1
    refine zd (zd (zb (yp (h:=(yp (h:=(yp (h:=(yp (h:=(zg rfl (zk qY k2 rfl rfl rfl) (yp (h:=(yp (h:=(zf (za (zp rfl (fun b2=>?_) (fun b2=>?_)))))))))))))))))))
    ·replace H:=H.1 (of_decide_eq_true b2)
     refine zo (za (zd ?_))
     obtain ⟨J3,H,hJ3⟩:=H
     refine qd (fun L' w'=>∃ (keep4:Int),∃ (d_L12:Bool),∃ (d_L22:List UInt8),∃ (d_L32:Bool),∃ (d_L42:List UInt8),∃ (d_L52:List (Bool × List UInt8 × Int)),∃ (c8:Option Addr),∃ (e4:Nat),∃ (f7:Nat),L'=[(0,.pointer (some ⟨g_d,0,none⟩)),(1,.int .i64 keep4),(2,.int .i64 cut2),(6,.int .i64 i)]/\J3 keep4 d_L12 d_L22 d_L32 d_L42 d_L52/\f7=d_L52.length/\GrL [(some g_d),(some a1),(blk a0)] w w'/\Bl w' a1 89 [vs d_L0,.bool d_L12,vs d_L22,.bool d_L32,vs d_L42,.slice c8 f7 e4]/\Bl w' g_d 73 [.slice (some ⟨a1,0,none⟩) 1 1,.int .i64 d_Ops,.int .i64 d_Armed,.bool d_Down]/\OwnK 3 jw w' 0 127 c8 e4 d_L52/\Dj (some a1) (blk c8)/\Dj (some g_d) (blk c8)/\InP [(some g_d),(some a1),(blk a0)] w.heap.size (blk c8)) ?_ (fun hQ=>?_)
     ·clear H
      rintro _ w2 ⟨keep4,d_L12,d_L22,d_L32,d_L42,d_L52,c8,e4,f7,rfl,H,rfl,gr2,k4,k5,k6,dj3,dj4,hi2⟩
      replace H:=hJ3 keep4 d_L12 d_L22 d_L32 d_L42 d_L52 H
      refine za (zb (yp (h:=?_)))
      obtain ⟨h1,H⟩:=H
      exact zg rfl (Yld.add rfl rfl h1) (yp (h:=(zf (zS _ ⟨keep4,i+(1:Int),d_L0,d_L12,d_L22,d_L32,d_L42,d_L52,c8,e4,d_L52.length,rfl,rfl,H.1,rfl,gr2,k4,k5,k6,dj3,dj4,hi2⟩ sb H.2))))
     ·clear hJ3
      refine WC.block (zd (zb (yp (h:=(yp (h:=(yp (h:=(zg rfl (zk qY k2 rfl rfl rfl) (yp (h:=?_)))))))))))
      obtain ⟨h2,H⟩:=H
      refine zg rfl (zZ qY rfl rfl rfl h2) (yp (h:=(zf (za (zd (zd (zb (yp (h:=(yp (h:=(yp (h:=(zg rfl (zk qY k1 rfl rfl rfl) (yp (h:=(yp (h:=(zf (za (zp rfl (fun b3=>?_) (fun b3=>?_))))))))))))))))))))))
      ·replace H:=H.1 (of_decide_eq_true b3)
       exact zD (zj (zm (WX.weaken sb (hQ _ _ ⟨keep3,d_L1,d_L2,d_L3,d_L4,d_L5,a8,c7,d_L5.length,rfl,H,rfl,gr1,k1,k2,k3,dj1,dj2,hi1⟩))))
      ·replace H:=H.2 (of_decide_eq_false b3)
       refine zo (za (zd (zb (yp (h:=?_)))))
       obtain ⟨h3,H⟩:=H
       refine zg rfl (zI rfl rfl h3.1 h3.2) (yp (h:=(yp (h:=(yp (h:=(zg rfl (zk qY k1 rfl rfl rfl) (yp (h:=(zg rfl (zC rfl rfl) (yp (h:=(zf (za (zd (zb (yp (h:=?_))))))))))))))))))
       obtain ⟨h4,H⟩:=H
       refine zg rfl (zH rfl rfl h4.1 h4.2.1 h4.2.2) (yp (h:=(zf (za (zd (zb (yp (h:=(yp (h:=(yp (h:=(yp (h:=(zg rfl (zk qY k1 rfl rfl rfl) (yp (h:=(yp (h:=(zR one4 rfl rfl rfl k1 (by simp) (fun w3 hB2 hg1=>?_)))))))))))))))))))))
       have hB1:Bl w3 a1 89 [vs d_L0,.bool d_L3,vs d_L2,.bool d_L3,vs d_L4,.slice a8 d_L5.length c7]:=hB2
       have gr3:GrL [(some g_d),(some a1),(blk a0)] w w3:=GrL.mod gr1 hg1 (InP.mem (List.Mem.tail _ (List.Mem.head _)))
       refine zf (za (zd (zb (yp (h:=(yp (h:=(yp (h:=(yp (h:=(zg rfl (zk qY hB1 rfl rfl rfl) (yp (h:=(yp (h:=(zR one9 rfl rfl rfl hB1 (by simp) (fun w4 hB4 hg2=>?_))))))))))))))))))
       have hB3:Bl w4 a1 89 [vs d_L0,.bool d_L3,vs d_L4,.bool d_L3,vs d_L4,.slice a8 d_L5.length c7]:=hB4
       have gr4:GrL [(some g_d),(some a1),(blk a0)] w w4:=GrL.mod gr3 hg2 (InP.mem (List.Mem.tail _ (List.Mem.head _)))
       have k9:=(k2.go hg1 hdj0_1).go hg2 hdj0_1
       have k10:=(k3.go hg1 dj1.symm).go hg2 dj1.symm
       refine zf (za (zd ?_))
       obtain ⟨J4,H,hJ4⟩:=H
       refine qd (fun L' w'=>∃ (d_L13:Bool),∃ (d_L23:List UInt8),L'=[(0,.pointer (some ⟨g_d,0,none⟩)),(1,.int .i64 (keep3 / (4:Int))),(2,.int .i64 cut2),(6,.int .i64 i),(7,.pointer (some ⟨a1,0,none⟩)),(8,.int .i64 (if (d_L5.length:Int)<(keep3 % (4:Int)) then (d_L5.length:Int) else keep3 % (4:Int)))]/\J4 d_L13 d_L23/\GrL [(some g_d),(some a1),(blk a0)] w w'/\Bl w' a1 89 [vs d_L0,.bool d_L13,vs d_L23,.bool d_L3,vs d_L4,.slice a8 d_L5.length c7]/\Bl w' g_d 73 [.slice (some ⟨a1,0,none⟩) 1 1,.int .i64 d_Ops,.int .i64 d_Armed,.bool d_Down]/\OwnK 3 jw w' 0 127 a8 c7 d_L5/\InP [(some g_d),(some a1),(blk a0)] w.heap.size (blk a8)) ?_ (fun hQ1=>?_)
       ·clear H
        rintro _ w5 ⟨d_L13,d_L23,rfl,H,gr5,k11,k12,k13,hi3⟩
        replace H:=hJ4 d_L13 d_L23 H
        refine za (zd ?_)
        obtain ⟨J5,H,hJ5⟩:=H
        refine qd (fun L' w'=>∃ (d_L14:Bool),∃ (d_L24:List UInt8),L'=[(0,.pointer (some ⟨g_d,0,none⟩)),(1,.int .i64 (keep3 / (4:Int))),(2,.int .i64 cut2),(6,.int .i64 i),(7,.pointer (some ⟨a1,0,none⟩))]/\J5 d_L14 d_L24/\GrL [(some g_d),(some a1),(blk a0)] w w'/\Bl w' a1 89 [vs d_L0,.bool d_L14,vs d_L24,.bool d_L3,vs d_L4,.slice a8 d_L5.length c7]/\Bl w' g_d 73 [.slice (some ⟨a1,0,none⟩) 1 1,.int .i64 d_Ops,.int .i64 d_Armed,.bool d_Down]/\OwnK 3 jw w' 0 127 a8 c7 d_L5/\InP [(some g_d),(some a1),(blk a0)] w.heap.size (blk a8)) ?_ (fun hQ2=>?_)
        ·clear H
         rintro _ w6 ⟨d_L14,d_L24,rfl,H,gr6,k14,k15,k16,hi4⟩
         replace H:=hJ5 d_L14 d_L24 H
         refine za (zd (zb (yp (h:=(yp (h:=(yp (h:=(yp (h:=(zg rfl (zk qY k14 rfl rfl rfl) (yp (h:=(yp (h:=(zR one4 rfl rfl rfl k14 (by simp) (fun w7 hB6 hg3=>?_)))))))))))))))))
         have hB5:Bl w7 a1 89 [vs d_L0,.bool d_L14,vs d_L24,.bool d_L14,vs d_L4,.slice a8 d_L5.length c7]:=hB6
         have gr7:GrL [(some g_d),(some a1),(blk a0)] w w7:=GrL.mod gr6 hg3 (InP.mem (List.Mem.tail _ (List.Mem.head _)))
         refine zf (za (zd (zb (yp (h:=(yp (h:=(yp (h:=(yp (h:=(zg rfl (zk qY hB5 rfl rfl rfl) (yp (h:=(yp (h:=(zR one9 rfl rfl rfl hB5 (by simp) (fun w8 hB8 hg4=>?_))))))))))))))))))
         have hB7:Bl w8 a1 89 [vs d_L0,.bool d_L14,vs d_L24,.bool d_L14,vs d_L24,.slice a8 d_L5.length c7]:=hB8
         have gr8:GrL [(some g_d),(some a1),(blk a0)] w w8:=GrL.mod gr7 hg4 (InP.mem (List.Mem.tail _ (List.Mem.head _)))
         have k20:=(k16.go hg3 dj1.symm).go hg4 dj1.symm
         refine zf (za (zb (yp (h:=(yp (h:=(yp (h:=(zR one87 rfl rfl rfl hB7 (by simp) (fun w9 hB10 hg5=>?_))))))))))
         have hB9:Bl w9 a1 89 [vs d_L0,.bool d_L14,vs d_L24,.bool d_L14,vs d_L24,.slice none 0 0]:=hB10
         have gr9:GrL [(some g_d),(some a1),(blk a0)] w w9:=GrL.mod gr8 hg5 (InP.mem (List.Mem.tail _ (List.Mem.head _)))
         exact zf (zi (WX.weaken sb (hQ _ _ ⟨keep3 / (4:Int),d_L14,d_L24,d_L14,d_L24,[],none,0,0,rfl,H,rfl,gr9,hB9,(((k15.go hg3 hdj0_1).go hg4 hdj0_1).go hg5 hdj0_1),((OwnK.nil enc127_ok w9 w.heap.size 127).base (fun _ _=>Nat.zero_le _)),Dj.nr,Dj.nr,InP.none⟩)))
        ·clear hJ5
         refine zd (zb (yp (h:=(yp (h:=(yp (h:=(yp (h:=(zg rfl (zk qY k11 rfl rfl rfl) (yp (h:=(yp (h:=(yp (h:=?_))))))))))))))))
         obtain ⟨h5,H⟩:=H
         refine zL 10 (fun L' w'=>∃ q1:Bool,L'=[(108,.bool q1),(0,.pointer (some ⟨g_d,0,none⟩)),(1,.int .i64 (keep3 / (4:Int))),(2,.int .i64 cut2),(6,.int .i64 i),(7,.pointer (some ⟨a1,0,none⟩)),(8,.int .i64 (if (d_L5.length:Int)<(keep3 % (4:Int)) then (d_L5.length:Int) else keep3 % (4:Int)))]/\((decide ((if (d_L5.length:Int)<(keep3 % (4:Int)) then (d_L5.length:Int) else keep3 % (4:Int))<(d_L5.length:Int))) && (decide ((1:Int)<=((d_L5.getD ((if (d_L5.length:Int)<(keep3 % (4:Int)) then (d_L5.length:Int) else keep3 % (4:Int)).toNat) (false,[],0)).2.2))))=q1/\w5=w') ?_ (fun hQ=>?_)
         ·rintro _ _ ⟨q1,rfl,rfl,rfl⟩
          refine zf (za (zp rfl (fun b4=>?_) (fun b4=>?_)))
          ·replace H:=H.1 (b4)
           refine zd (zb (yp (h:=(yp (h:=(yp (h:=(zg rfl (zk qY k11 rfl rfl rfl) (yp (h:=?_))))))))))
           obtain ⟨h6,H⟩:=H
           refine zg rfl (qa qY k13.rd rfl rfl rfl rfl h6.1 h6.2) (zg rfl (qt (false,[],0) qY k13.rd rfl rfl (iltN h6 rfl)) (WL.alloc rfl zero127 (fun g1 w10 hB11 hg6 hl1=>zP (vs:=[.bool ((d_L5.getD ((if (d_L5.length:Int)<(keep3 % (4:Int)) then (d_L5.length:Int) else keep3 % (4:Int)).toNat) (false,[],0)).1),vs ((d_L5.getD ((if (d_L5.length:Int)<(keep3 % (4:Int)) then (d_L5.length:Int) else keep3 % (4:Int)).toNat) (false,[],0)).2.1),.int .i64 ((d_L5.getD ((if (d_L5.length:Int)<(keep3 % (4:Int)) then (d_L5.length:Int) else keep3 % (4:Int)).toNat) (false,[],0)).2.2)]) qY rfl rfl rfl (jd rfl (jd rfl (jd rfl kg))) hB11 rfl rfl (fun w11 hB12 hg7=>?_))))
           have gr11:GrL [(some g_d),(some a1),(blk a0)] w w11:=GrL.mod (GrL.add0 gr5 hg6) hg7 (InP.ge (Ge.le (Ge.box hl1) (GrL.sizeL gr5)))
           have k25:=(k11.g0 hg6).go hg7 (Dj.new k11.lt' (Ge.box hl1))
           have k26:=(k12.g0 hg6).go hg7 (Dj.new k12.lt' (Ge.box hl1))
           have k27:=(k13.grown hg6).go hg7 (Dj.new k13.lt' (Ge.box hl1))
           refine zf (za (zd (zb (yp (h:=(yp (h:=(zg rfl (zk qY hB12 rfl rfl rfl) ?_))))))))
           obtain ⟨h7,H⟩:=H
           refine zg rfl (Yld.sub rfl rfl h7) (zg rfl (zC rfl rfl) (yp (h:=(zf (za (zd (zb (yp (h:=(yp (h:=(zf (za (zp rfl (fun b5=>?_) (fun b5=>?_)))))))))))))))
           ·replace H:=H.1 (of_decide_eq_true b5)
            refine zd (zb (yp (h:=(yp (h:=(yp (h:=(zR one4 rfl rfl rfl k25 (by simp) (fun w12 hB14 hg8=>?_)))))))))
            have hB13:Bl w12 a1 89 [vs d_L0,.bool true,vs d_L23,.bool d_L3,vs d_L4,.slice a8 d_L5.length c7]:=hB14
            have gr12:GrL [(some g_d),(some a1),(blk a0)] w w12:=GrL.mod gr11 hg8 (InP.mem (List.Mem.tail _ (List.Mem.head _)))
            have k30:=hB12.go hg8 ((Dj.new k11.lt' (Ge.box hl1)).symm)
            refine zf (za (zb (yp (h:=(yp (h:=(zg rfl (zk qY k30 rfl rfl rfl) (yp (h:=(zg rfl (zk qY k30 rfl rfl rfl) (yp (h:=(yp (h:=(zg rfl (zk qY k30 rfl rfl rfl) ?_)))))))))))))))
            obtain ⟨h8,H⟩:=H
            refine zg rfl (Yld.sub rfl rfl h8) (yp (h:=?_))
            obtain ⟨h9,H⟩:=H
            refine zg rfl (Yld.add rfl rfl h9) ?_
            obtain ⟨h10,H⟩:=H
            refine zg rfl (qB qY rfl rfl rfl rfl (Int.le_refl 0) h10.1 h10.2) (yp (h:=(yp (h:=(zR one9 rfl rfl rfl hB13 (by simp) (fun w13 hB16 hg9=>?_))))))
            have hB15:Bl w13 a1 89 [vs d_L0,.bool true,vs (((d_L5.getD ((if (d_L5.length:Int)<(keep3 % (4:Int)) then (d_L5.length:Int) else keep3 % (4:Int)).toNat) (false,[],0)).2.1).take (((((d_L5.getD ((if (d_L5.length:Int)<(keep3 % (4:Int)) then (d_L5.length:Int) else keep3 % (4:Int)).toNat) (false,[],0)).2.1).length:Int) - ((d_L5.getD ((if (d_L5.length:Int)<(keep3 % (4:Int)) then (d_L5.length:Int) else keep3 % (4:Int)).toNat) (false,[],0)).2.2))+(if (((d_L5.getD ((if (d_L5.length:Int)<(keep3 % (4:Int)) then (d_L5.length:Int) else keep3 % (4:Int)).toNat) (false,[],0)).2.2) - (1:Int))<cut2 then ((d_L5.getD ((if (d_L5.length:Int)<(keep3 % (4:Int)) then (d_L5.length:Int) else keep3 % (4:Int)).toNat) (false,[],0)).2.2) - (1:Int) else cut2)).toNat),.bool d_L3,vs d_L4,.slice a8 d_L5.length c7]:=hB16
            have gr13:GrL [(some g_d),(some a1),(blk a0)] w w13:=GrL.mod gr12 hg9 (InP.mem (List.Mem.tail _ (List.Mem.head _)))
            exact zf (WX.weaken sb (hQ2 _ _ ⟨true,((d_L5.getD ((if (d_L5.length:Int)<(keep3 % (4:Int)) then (d_L5.length:Int) else keep3 % (4:Int)).toNat) (false,[],0)).2.1).take (((((d_L5.getD ((if (d_L5.length:Int)<(keep3 % (4:Int)) then (d_L5.length:Int) else keep3 % (4:Int)).toNat) (false,[],0)).2.1).length:Int) - ((d_L5.getD ((if (d_L5.length:Int)<(keep3 % (4:Int)) then (d_L5.length:Int) else keep3 % (4:Int)).toNat) (false,[],0)).2.2))+(if (((d_L5.getD ((if (d_L5.length:Int)<(keep3 % (4:Int)) then (d_L5.length:Int) else keep3 % (4:Int)).toNat) (false,[],0)).2.2) - (1:Int))<cut2 then ((d_L5.getD ((if (d_L5.length:Int)<(keep3 % (4:Int)) then (d_L5.length:Int) else keep3 % (4:Int)).toNat) (false,[],0)).2.2) - (1:Int) else cut2)).toNat,rfl,H,gr13,hB15,((k26.go hg8 hdj0_1).go hg9 hdj0_1),((k27.go hg8 dj1.symm).go hg9 dj1.symm),hi3⟩))
           ·replace H:=H.2 (of_decide_eq_false b5)
            exact zo (WX.weaken sb (hQ2 _ _ ⟨d_L13,d_L23,rfl,H,gr11,k25,k26,k27,hi3⟩))
          ·replace H:=H.2 (b4)
           exact zo (WX.weaken sb (hQ2 _ _ ⟨d_L13,d_L23,rfl,H,gr5,k11,k12,k13,hi3⟩))
         ·clear H
          rcases Bool.eq_false_or_eq_true (decide ((if (d_L5.length:Int)<(keep3 % (4:Int)) then (d_L5.length:Int) else keep3 % (4:Int))<(d_L5.length:Int))) with b6 | b6
          ·exact gp b6 (h:=(gp b6 (h:=(gp b6 (h:=(ze rfl rfl (okb b6) rfl (zk qY k11 rfl rfl rfl) (gp b6 (h:=(ze rfl rfl (okb b6) rfl (qa qY k13.rd rfl rfl rfl rfl (h5 b6).1 (h5 b6).2) (ze rfl rfl (okb b6) rfl (qk qY k13.rd (iltN (h5 b6) rfl) rfl rfl rfl) (ze rfl rfl (okb b6) rfl (Yld.iloadF (false,[],0) qY k13.rd rfl rfl (iltN (h5 b6) rfl) rfl) (gp b6 (h:=(zg rfl (zt (okb b6) rfl) (wk (hQ _ _ ⟨decide ((1:Int)<=((d_L5.getD ((if (d_L5.length:Int)<(keep3 % (4:Int)) then (d_L5.length:Int) else keep3 % (4:Int)).toNat) (false,[],0)).2.2)),rfl,by rw [b6] <;> rfl,rfl⟩))))))))))))))))
          ·exact gn b6 (h:=(gn b6 (h:=(gn b6 (h:=(gn b6 (h:=(gn b6 (h:=(gn b6 (h:=(gn b6 (h:=(gn b6 (h:=(gn b6 (h:=(zg rfl (zr (okb b6) rfl) (wk (hQ _ _ ⟨false,rfl,by rw [b6] <;> rfl,rfl⟩))))))))))))))))))))
       ·clear hJ4
        refine zd (zb (yp (h:=(yp (h:=(zf (za (zp rfl (fun b7=>?_) (fun b7=>?_)))))))))
        ·replace H:=H.1 (of_decide_eq_true b7)
         refine zd (zb (yp (h:=(yp (h:=(yp (h:=(yp (h:=(zg rfl (zk qY hB3 rfl rfl rfl) (yp (h:=?_))))))))))))
         obtain ⟨h11,H⟩:=H
         refine zg rfl (Yld.sub rfl rfl h11) ?_
         obtain ⟨h12,H⟩:=H
         refine zg rfl (qa qY k10.rd rfl rfl rfl rfl h12.1 h12.2) (zg rfl (qk qY k10.rd (iltN h12 rfl) rfl rfl rfl) (zg rfl (Yld.iloadF (false,[],0) qY k10.rd rfl rfl (iltN h12 rfl) rfl) (yp (h:=(yp (h:=(zR one4 rfl rfl rfl hB3 (by simp) (fun w14 hB18 hg10=>?_))))))))
         have hB17:Bl w14 a1 89 [vs d_L0,.bool ((d_L5.getD (((if (d_L5.length:Int)<(keep3 % (4:Int)) then (d_L5.length:Int) else keep3 % (4:Int)) - (1:Int)).toNat) (false,[],0)).1),vs d_L4,.bool d_L3,vs d_L4,.slice a8 d_L5.length c7]:=hB18
         have gr14:GrL [(some g_d),(some a1),(blk a0)] w w14:=GrL.mod gr4 hg10 (InP.mem (List.Mem.tail _ (List.Mem.head _)))
         have k34:=k10.go hg10 dj1.symm
         refine zf (za (zb (yp (h:=(yp (h:=(yp (h:=(yp (h:=(zg rfl (zk qY hB17 rfl rfl rfl) (yp (h:=?_)))))))))))))
         obtain ⟨h13,H⟩:=H
         refine zg rfl (Yld.sub rfl rfl h13) ?_
         obtain ⟨h14,H⟩:=H
         refine zg rfl (qa qY k34.rd rfl rfl rfl rfl h14.1 h14.2) (zg rfl (qk qY k34.rd (iltN h14 rfl) rfl rfl rfl) (zg rfl (Yld.iloadF (false,[],0) qY k34.rd rfl rfl (iltN h14 rfl) rfl) (yp (h:=(yp (h:=(zR one9 rfl rfl rfl hB17 (by simp) (fun w15 hB20 hg11=>?_))))))))
         have hB19:Bl w15 a1 89 [vs d_L0,.bool ((d_L5.getD (((if (d_L5.length:Int)<(keep3 % (4:Int)) then (d_L5.length:Int) else keep3 % (4:Int)) - (1:Int)).toNat) (false,[],0)).1),vs ((d_L5.getD (((if (d_L5.length:Int)<(keep3 % (4:Int)) then (d_L5.length:Int) else keep3 % (4:Int)) - (1:Int)).toNat) (false,[],0)).2.1),.bool d_L3,vs d_L4,.slice a8 d_L5.length c7]:=hB20
         have gr15:GrL [(some g_d),(some a1),(blk a0)] w w15:=GrL.mod gr14 hg11 (InP.mem (List.Mem.tail _ (List.Mem.head _)))
         exact zf (WX.weaken sb (hQ1 _ _ ⟨(d_L5.getD (((if (d_L5.length:Int)<(keep3 % (4:Int)) then (d_L5.length:Int) else keep3 % (4:Int)) - (1:Int)).toNat) (false,[],0)).1,(d_L5.getD (((if (d_L5.length:Int)<(keep3 % (4:Int)) then (d_L5.length:Int) else keep3 % (4:Int)) - (1:Int)).toNat) (false,[],0)).2.1,rfl,H,gr15,hB19,((k9.go hg10 hdj0_1).go hg11 hdj0_1),(k34.go hg11 dj1.symm),hi1⟩))
        ·replace H:=H.2 (of_decide_eq_false b7)
         exact zo (WX.weaken sb (hQ1 _ _ ⟨d_L3,d_L4,rfl,H,gr4,hB3,k9,k10,hi1⟩))
    ·replace H:=H.2 (of_decide_eq_false b2)
     refine zD (zj (zj (zm (za (zd (zb (yp (h:=(yp (h:=(yp (h:=(zR one4 rfl rfl rfl k2 (by simp) (fun w16 hB22 hg12=>?_))))))))))))))
     have hB21:Bl w16 g_d 73 [.slice (some ⟨a1,0,none⟩) 1 1,.int .i64 d_Ops,.int .i64 d_Armed,.bool false]:=hB22
     have gr16:GrL [(some g_d),(some a1),(blk a0)] w w16:=GrL.mod gr1 hg12 (InP.mem (List.Mem.head _))
     refine zf (za (zb (yp (h:=(yp (h:=(yp (h:=(zR one3 rfl rfl rfl hB21 (by simp) (fun w17 hB24 hg13=>?_))))))))))
     have hB23:Bl w17 g_d 73 [.slice (some ⟨a1,0,none⟩) 1 1,.int .i64 d_Ops,.int .i64 (-1:Int),.bool false]:=hB24
     have gr17:GrL [(some g_d),(some a1),(blk a0)] w w17:=GrL.mod gr16 hg13 (InP.mem (List.Mem.head _))
     exact zf (qM rfl ⟨gr17,d_Ops,(-1:Int),false,d_L0,d_L1,d_L2,d_L3,d_L4,d_L5,a8,c7,rfl,hB23,((k1.go hg12 hdj0_1.symm).go hg13 hdj0_1.symm),((k3.go hg12 dj2.symm).go hg13 dj2.symm),hi1,hdj0_1,dj2,dj1,H⟩)
   ·clear hJ2
    refine zd (zb (yp (h:=(yp (h:=(zf (za (zp rfl (fun b8=>?_) (fun b8=>?_)))))))))
    ·replace H:=H.1 (of_decide_eq_true b8)
     exact zb (yp (h:=(zf (WX.weaken sb (hQ _ _ ⟨(0:Int),rfl,H,rfl⟩)))))
    ·replace H:=H.2 (of_decide_eq_false b8)
     exact zo (WX.weaken sb (hQ _ _ ⟨cut,rfl,H,rfl⟩))
  ·clear hJ1
   refine zd (zb (yp (h:=(yp (h:=(zf (za (zp rfl (fun b9=>?_) (fun b9=>?_)))))))))
   ·replace H:=H.1 (of_decide_eq_true b9)
    exact zb (yp (h:=(zf (WX.weaken sb (hQ _ _ ⟨(0:Int),rfl,H,rfl⟩)))))
   ·replace H:=H.2 (of_decide_eq_false b9)
    exact zo (WX.weaken sb (hQ _ _ ⟨keep,rfl,H,rfl⟩))
set_option maxHeartbeats 8000000 in
theorem W_psmithyref3_Disk_Dump {w:World} {g_d:Nat} {a1:Nat} {d_L_Path:List UInt8} {d_L_There:Bool} {d_L_Text:List UInt8} {d_L_Synced:Bool} {d_L_SyncedText:List UInt8} {d_L_Changes:List (Bool × List UInt8 × Int)} {a0:Option Addr} {a3:Nat} {d_Ops:Int} {d_Armed:Int} {d_Down:Bool} {a4:Nat} {K:(List (List UInt8 × List UInt8))->Prop} (hd_L_Changes:RdK 3 jw w a0 a3 d_L_Changes) (a7:a4=d_L_Changes.length) (hd_L:Bl w a1 89 [vs d_L_Path,.bool d_L_There,vs d_L_Text,.bool d_L_Synced,vs d_L_SyncedText,.slice a0 a4 a3]) (hd:Bl w g_d 73 [.slice (some ⟨a1,0,none⟩) 1 1,.int .i64 d_Ops,.int .i64 d_Armed,.bool d_Down]) (H:ke d_L_Path d_L_There d_L_Text d_L_Synced d_L_SyncedText d_L_Changes d_Ops d_Armed d_Down K):Fn Tryz.prog 35 ⟨[.pointer (some ⟨g_d,0,none⟩)]⟩ w (fun v w'=>w.grownBy w' none/\∃ (r:List (List UInt8 × List UInt8)),∃ (A_r:Option Addr),∃ (c_r:Nat),v=.slice A_r r.length c_r/\OwnK 2 enc30 w' w.heap.size 30 A_r c_r r/\K r):=by
 subst a7
 unfold ke at H
 refine Fn.enter (by kernel_rfl) Tryz.func35 rfl Tryz.ntmps35 rfl ?_
 replace H:=H (Nat.le_trans hd_L_Changes.cap hd_L_Changes.max)
 refine zd (zb (yp (h:=(zf (za (zd (zb (yp (h:=(zf (za (zd (zd (zb (yp (h:=(zf (za (WC.block ?_)))))))))))))))))))
 obtain ⟨I1,mu1,e1,HR1⟩:=H
 refine zW (fun n' L' w'=>∃ (out:List (List UInt8 × List UInt8)),∃ (e6:Option Addr),∃ (e9:Nat),∃ (m4:Nat),∃ (i:Int),n'=mu1 out i/\L'=[(0,.pointer (some ⟨g_d,0,none⟩)),(3,.slice e6 m4 e9),(4,.int .i64 i)]/\I1 out i/\m4=out.length/\w.grownBy w' none/\OwnK 2 enc30 w' w.heap.size 30 e6 e9 out) _ _ ⟨[],none,0,0,(0:Int),rfl,rfl,e1,rfl,(jr _ _),(OwnK.nil kU w w.heap.size 30)⟩ sb ?_
 clear e1
 rintro _ _ w1 ⟨out,e6,e9,m4,i,rfl,rfl,hI1,rfl,gr1,k1⟩
 have H:=HR1 out i hI1
 refine zd (zd (zb (yp (h:=(yp (h:=(yp (h:=(yp (h:=(zg rfl (zk qY (hd.g0 gr1) rfl rfl rfl) (yp (h:=(yp (h:=(zf (za (zp rfl (fun b1=>?_) (fun b1=>?_)))))))))))))))))))
 ·replace H:=H.1 (of_decide_eq_true b1)
  refine zo (za (zd ?_))
  obtain ⟨J1,H,hJ1⟩:=H
  refine qd (fun L' w'=>∃ (out2:List (List UInt8 × List UInt8)),∃ (i5:Option Addr),∃ (i7:Nat),∃ (n7:Nat),L'=[(0,.pointer (some ⟨g_d,0,none⟩)),(3,.slice i5 n7 i7),(4,.int .i64 i)]/\J1 out2/\n7=out2.length/\w.grownBy w' none/\OwnK 2 enc30 w' w.heap.size 30 i5 i7 out2) ?_ (fun hQ=>?_)
  ·clear H
   rintro _ w2 ⟨out2,i5,i7,n7,rfl,H,rfl,gr2,k2⟩
   replace H:=hJ1 out2 H
   refine za (zb (yp (h:=?_)))
   obtain ⟨h1,H⟩:=H
   exact zg rfl (Yld.add rfl rfl h1) (yp (h:=(zf (zS _ ⟨out2,i5,i7,out2.length,i+(1:Int),rfl,rfl,H.1,rfl,gr2,k2⟩ sb H.2))))
  ·clear hJ1
   refine WC.block (zd (zb (yp (h:=(yp (h:=(yp (h:=(zg rfl (zk qY (hd.g0 gr1) rfl rfl rfl) (yp (h:=?_)))))))))))
   obtain ⟨h2,H⟩:=H
   refine zg rfl (zZ qY rfl rfl rfl h2) (yp (h:=(zg rfl (zk qY (hd_L.g0 gr1) rfl rfl rfl) (zf (za (zp rfl (fun b2=>?_) (fun b2=>?_)))))))
   ·replace H:=H.1 (b2)
    refine zO (fun k => !(Nat.beq k 18 || Nat.beq k 19)) (LD [4,8,12,16] (fun w'=>Bl w' g_d 73 [.slice (some ⟨a1,0,none⟩) 1 1,.int .i64 d_Ops,.int .i64 d_Armed,.bool d_Down]/\Bl w' a1 89 [vs d_L_Path,.bool d_L_There,vs d_L_Text,.bool d_L_Synced,vs d_L_SyncedText,.slice a0 d_L_Changes.length a3])) mixed (by kernel_rfl) (fun k w' h _=>⟨(ji h (hd.g0 gr1)),(ji h (hd_L.g0 gr1))⟩) (zl rfl rfl (fun w' hw'=>zc qY rfl) (zl rfl rfl (fun w' hw'=>zc qY rfl) (zl rfl rfl (fun w' hw'=>zc qY rfl) (zl rfl rfl (fun w' hw'=>zc qY rfl) (zl rfl rfl (fun w' hw'=>zk qY (hw' rfl).1 rfl rfl rfl) (zl rfl rfl (fun w' hw'=>zc qY rfl) ?_))))))
    obtain ⟨h3,H⟩:=H
    refine zl rfl rfl (fun w' hw'=>zZ qY rfl rfl rfl h3) (zl rfl rfl (fun w' hw'=>zc qY rfl) (zl rfl rfl (fun w' hw'=>zk qY (hw' rfl).2 rfl rfl rfl) (zl rfl rfl (fun w' hw'=>zc qY rfl) (zl rfl rfl (fun w' hw'=>zc qY rfl) (zl rfl rfl (fun w' hw'=>zc qY rfl) (zl rfl rfl (fun w' hw'=>zk qY (hw' rfl).1 rfl rfl rfl) (zl rfl rfl (fun w' hw'=>zc qY rfl) ?_)))))))
    obtain ⟨h4,H⟩:=H
    refine zl rfl rfl (fun w' hw'=>zZ qY rfl rfl rfl h4) (zl rfl rfl (fun w' hw'=>zc qY rfl) (zl rfl rfl (fun w' hw'=>zk qY (hw' rfl).2 rfl rfl rfl) (zl rfl rfl (fun w' hw'=>z6 (us:=[vs d_L_Path,vs d_L_Text]) zero30 places30 rfl rfl) (qr rfl (je) rfl (Eff.litK (f:=enc30) (xs:=([(d_L_Path,d_L_Text)]:List (List UInt8 × List UInt8))) kU ow34 rfl rfl rfl) (fun v w' ⟨_,_,h⟩=>DD.keep (⟨(Bl.g0 (hd.g0 gr1) (jg h (Eqv.refl _))),(Bl.g0 (hd_L.g0 gr1) (jg h (Eqv.refl _)))⟩)) ?_))))
    rintro _ w3 ⟨rfl,hB1,hg1⟩
    obtain ⟨p0,hl1⟩:∃ g,g=w1.heap.size:=⟨_,rfl⟩
    rw [<-hl1] at hB1
    rw [<-hl1]
    have hO1:OwnK 2 enc30 w3 w.heap.size 30 (some ⟨p0,0,none⟩) 1 ([(d_L_Path,d_L_Text)]:List (List UInt8 × List UInt8)):=OwnK.ofBl kU hB1 (Nat.le_trans (qZ gr1) (Nat.le_of_eq hl1.symm)) (by simp [maxLen]) rfl
    have gr3:=ja gr1 hg1
    have k3:=k1.grown hg1
    obtain ⟨h5,H⟩:=H
    refine qr rfl (je) rfl (qJ ow34 k3 rfl rfl hO1.rd rfl rfl h5 (kF h5) (qZ gr3)) (fun v w' ⟨_,_,_,_,h,_⟩=>DD.keep (⟨(Bl.go (hd.g0 gr3) (jg h (Eqv.refl _)) (Dj.new hd.lt' k3.ge')),(Bl.go (hd_L.g0 gr3) (jg h (Eqv.refl _)) (Dj.new hd_L.lt' k3.ge'))⟩)) ?_
    rintro _ w4 ⟨p8,r3,rfl,hO2,hg2,hk1⟩
    exact zl rfl rfl (fun w' hw'=>zc qY rfl) (z8 (zi (WX.weaken sb (hQ _ _ ⟨out++([(d_L_Path,d_L_Text)]:List (List UInt8 × List UInt8)),p8,r3,(out++([(d_L_Path,d_L_Text)]:List (List UInt8 × List UInt8))).length,rfl,H,rfl,(jk gr3 hg2 k3.ge'),hO2⟩))))
   ·replace H:=H.2 (b2)
    exact zo (zi (WX.weaken sb (hQ _ _ ⟨out,e6,e9,out.length,rfl,H,rfl,gr1,k1⟩)))
 ·replace H:=H.2 (of_decide_eq_false b1)
  exact zD (zj (zj (zm (za (zd (zb (yp (h:=(yp (h:=(zf (za (zq (zw rfl rfl ⟨gr1,out,e6,e9,rfl,k1,H⟩))))))))))))))
set_option maxRecDepth 100000 in
set_option maxHeartbeats 8000000 in
theorem W_smithyref3_New {w:World} {files:List (List UInt8 × List UInt8)} {l4:Option Addr} {l9:Nat} {o3:Nat} {K0:Int->Prop} {K:(List UInt8)->Bool->(List UInt8)->Bool->(List UInt8)->(List (Bool × List UInt8 × Int))->Int->Int->Bool->Int->Prop} (hfiles:RdK 2 enc30 w l4 l9 files) (p1:o3=files.length) (H:kR files K0 K):Fn Tryz.prog 6 ⟨[.slice l4 o3 l9]⟩ w (fun v w'=>w.grownBy w' none/\((∃ (r12:Int),v=.tuple #[.pointer none,.int .i64 r12]/\K0 r12)∨(∃ (i9:Nat),∃ (m3:Nat),∃ (m7:List UInt8),∃ (m5:Bool),∃ (m8:List UInt8),∃ (l3:Bool),∃ (g5:List UInt8),∃ (f8:List (Bool × List UInt8 × Int)),∃ (e0:Option Addr),∃ (g7:Nat),∃ (p2:Int),∃ (n4:Int),∃ (o4:Bool),∃ (r1:Int),v=.tuple #[.pointer (some ⟨i9,0,none⟩),.int .i64 r1]/\OwnK 3 jw w' w.heap.size 127 e0 g7 f8/\Bl w' m3 89 [vs m7,.bool m5,vs m8,.bool l3,vs g5,.slice e0 f8.length g7]/\Ge (some m3) w.heap.size/\Bl w' i9 73 [.slice (some ⟨m3,0,none⟩) 1 1,.int .i64 p2,.int .i64 n4,.bool o4]/\Ge (some i9) w.heap.size/\Dj (blk e0) (some m3)/\Dj (blk e0) (some i9)/\Dj (some m3) (some i9)/\K m7 m5 m8 l3 g5 f8 p2 n4 o4 r1))):=by
 subst p1
 unfold kR at H
 refine Fn.enter (by kernel_rfl) Tryz.func6 rfl Tryz.ntmps6 rfl ?_
 replace H:=H (Nat.le_trans hfiles.cap hfiles.max)
 obtain ⟨hlen1,H⟩:=H
 rw [hlen1]
 refine zd (zb (yp (h:=(yp (h:=(zf (za (zd (zb (zg rfl (z6 (us:=[.slice none 0 0,.int .i64 (0:Int),.int .i64 (-1:Int),.bool false]) zero73 places73 rfl rfl) (qm (us:=[.slice none 0 0,.int .i64 (0:Int),.int .i64 (-1:Int),.bool false]) rfl rfl rfl (fun g1 w1 hB1 hg1 hl1=>?_))))))))))))
 have gr1:=hg1
 refine yp (h:=(zf (za (zd (zd (zb (yp (h:=(zf (za (WC.block (WC.unr (WCL.one (zd (zd (zb (yp (h:=(yp (h:=(yp (h:=(yp (h:=(zf (za (zp rfl (fun _=>zo (za (zd (WC.block (zd (zb (yp (h:=(yp (h:=?_)))))))))) (fun h=>by cases h))))))))))))))))))))))))))))
 obtain ⟨h1,H⟩:=H
 refine zg rfl (qa qY (hfiles.grown gr1) rfl rfl hlen1.symm rfl h1.1 h1.2) (zg rfl (qt ([],[]) qY (hfiles.grown gr1) rfl rfl (iltN h1 hlen1.symm)) (WL.alloc rfl zero30 (fun g2 w2 hB2 hg2 hl2=>zP (vs:=[vs ((files.getD 0 ([],[])).1),vs ((files.getD 0 ([],[])).2)]) qY rfl rfl rfl (jd rfl (jd rfl kg)) hB2 rfl rfl (fun w3 hB3 hg3=>zf (za (zd (zd (zb (yp (h:=(zg rfl (zk qY hB3 rfl rfl rfl) (WL.call rfl rfl (ZF H) ?_))))))))))))
 rintro _ w4 ⟨hg4,t22,rfl,H⟩
 have gr4:=ja (jk (ja gr1 hg2) hg3 (Ge.le (Ge.box hl2) (qZ gr1))) hg4
 have k3:=((hB1.g0 hg2).go hg3 (Dj.new hB1.lt' (Ge.box hl2))).g0 hg4
 have k4:=hB3.g0 hg4
 refine yp (h:=(yp (h:=?_)))
 obtain ⟨J1,H,hJ1⟩:=H
 refine zL 6 (fun L' w'=>∃ q1:Bool,L'=[(30,.bool q1),(0,.slice l4 1 l9),(4,.pointer (some ⟨g1,0,none⟩)),(5,.int .i64 (0:Int)),(6,.pointer (some ⟨g2,0,none⟩))]/\J1 q1/\w4=w') ?_ (fun hQ=>?_)
 ·clear H
  rintro _ _ ⟨q1,rfl,H,rfl⟩
  replace H:=hJ1 q1 H
  refine yp (h:=(zL 5 (fun L' w'=>∃ q2:Bool,L'=[(36,.bool q2),(0,.slice l4 1 l9),(4,.pointer (some ⟨g1,0,none⟩)),(5,.int .i64 (0:Int)),(6,.pointer (some ⟨g2,0,none⟩))]/\(q1 || (decide ((65536:Int)<(((files.getD 0 ([],[])).2).length:Int))))=q2/\w4=w') ?_ (fun hQ=>?_)))
  ·rintro _ _ ⟨q2,rfl,rfl,rfl⟩
   refine zf (za (zp rfl (fun b1=>?_) (fun b1=>?_)))
   ·replace H:=H.1 (b1)
    exact zd (zb (yp (h:=(yp (h:=(zf (za (zq (zh (zn (zh (zh (zn (zh (qg rfl rfl rfl ⟨gr4,Or.inl ⟨(112:Int),rfl,H⟩⟩)))))))))))))))
   ·replace H:=H.2 (b1)
    refine zo (za (zd (zb (yp (h:=(yp (h:=(zg rfl (zk qY k4 rfl rfl rfl) (WL.call rfl rfl (entry0_fn k3) ?_)))))))))
    rintro _ w5 ⟨g3,rfl,hB4,hB5,hgl1,hge1⟩
    have hE1:Bl w5 g3 89 [vs ((files.getD 0 ([],[])).1),.bool false,vs ([]:List UInt8),.bool false,vs ([]:List UInt8),.slice none 0 0]:=hB5
    refine yp (h:=(zf (za (zd (zb (yp (h:=(yp (h:=(yp (h:=(zg rfl (zk qY hB4 rfl rfl rfl) (yp (h:=(zg rfl (zZ qY rfl rfl rfl rfl) (yp (h:=(zR one4 rfl rfl rfl hE1 (by simp) (fun w6 hB7 hg5=>?_)))))))))))))))))))
    have hB6:Bl w6 g3 89 [vs ((files.getD 0 ([],[])).1),.bool true,vs ([]:List UInt8),.bool false,vs ([]:List UInt8),.slice none 0 0]:=hB7
    have k6:=hB4.go hg5 (Dj.new k3.lt' hge1)
    have k7:=(k4.goL hgl1 (apC (Dj.new hB1.lt' (Ge.box hl2)).symm apN)).go hg5 (Dj.new k4.lt' hge1)
    refine zf (za (zd (zO (fun k => !(Nat.beq k 9)) (LD [3,6] (fun w'=>Bl w' g1 73 [.slice (some ⟨g3,0,none⟩) 1 1,.int .i64 (0:Int),.int .i64 (-1:Int),.bool false]/\Bl w' g2 30 [vs ((files.getD 0 ([],[])).1),vs ((files.getD 0 ([],[])).2)])) mixed (by kernel_rfl) (fun k w' h _=>⟨(ji h k6),(ji h k7)⟩) (zl rfl rfl (fun w' hw'=>zc qY rfl) (zl rfl rfl (fun w' hw'=>zc qY rfl) (zl rfl rfl (fun w' hw'=>zc qY rfl) (zl rfl rfl (fun w' hw'=>zk qY (hw' rfl).1 rfl rfl rfl) (zl rfl rfl (fun w' hw'=>zc qY rfl) (zl rfl rfl (fun w' hw'=>zc qY rfl) (zl rfl rfl (fun w' hw'=>zk qY (hw' rfl).2 rfl rfl rfl) (zl rfl rfl (fun w' hw'=>zZ qY rfl rfl rfl rfl) (zl rfl rfl (fun w' hw'=>zc qY rfl) (qh rfl (qc one9 rfl rfl rfl hB6 (by simp)) (fun w' h=>DD.keep (⟨(Bl.go k6 (jg h.2 (Eqv.refl _)) (Dj.new k3.lt' hge1)),(Bl.go k7 (jg h.2 (Eqv.refl _)) (Dj.new k4.lt' hge1))⟩)) ?_)))))))))))))
    rintro w7 ⟨hB9,hg6⟩
    have hB8:Bl w7 g3 89 [vs ((files.getD 0 ([],[])).1),.bool true,vs ((files.getD 0 ([],[])).2),.bool false,vs ([]:List UInt8),.slice none 0 0]:=hB9
    have k8:=k6.go hg6 (Dj.new k3.lt' hge1)
    refine z8 (za (zd (zb (yp (h:=(yp (h:=(yp (h:=(zg rfl (zk qY k8 rfl rfl rfl) (yp (h:=(zg rfl (zZ qY rfl rfl rfl rfl) (yp (h:=(zR one4 rfl rfl rfl hB8 (by simp) (fun w8 hB11 hg7=>?_)))))))))))))))))
    have hB10:Bl w8 g3 89 [vs ((files.getD 0 ([],[])).1),.bool true,vs ((files.getD 0 ([],[])).2),.bool true,vs ([]:List UInt8),.slice none 0 0]:=hB11
    have k10:=k8.go hg7 (Dj.new k3.lt' hge1)
    have k11:=(k7.go hg6 (Dj.new k4.lt' hge1)).go hg7 (Dj.new k4.lt' hge1)
    refine zf (za (zO (fun k => !(Nat.beq k 9)) (LD [3,6] (fun w'=>Bl w' g1 73 [.slice (some ⟨g3,0,none⟩) 1 1,.int .i64 (0:Int),.int .i64 (-1:Int),.bool false]/\Bl w' g2 30 [vs ((files.getD 0 ([],[])).1),vs ((files.getD 0 ([],[])).2)])) mixed (by kernel_rfl) (fun k w' h _=>⟨(ji h k10),(ji h k11)⟩) (zl rfl rfl (fun w' hw'=>zc qY rfl) (zl rfl rfl (fun w' hw'=>zc qY rfl) (zl rfl rfl (fun w' hw'=>zc qY rfl) (zl rfl rfl (fun w' hw'=>zk qY (hw' rfl).1 rfl rfl rfl) (zl rfl rfl (fun w' hw'=>zc qY rfl) (zl rfl rfl (fun w' hw'=>zc qY rfl) (zl rfl rfl (fun w' hw'=>zk qY (hw' rfl).2 rfl rfl rfl) (zl rfl rfl (fun w' hw'=>zZ qY rfl rfl rfl rfl) (zl rfl rfl (fun w' hw'=>zc qY rfl) (qh rfl (qc one9 rfl rfl rfl hB10 (by simp)) (fun w' h=>DD.keep (⟨(Bl.go k10 (jg h.2 (Eqv.refl _)) (Dj.new k3.lt' hge1)),(Bl.go k11 (jg h.2 (Eqv.refl _)) (Dj.new k4.lt' hge1))⟩)) ?_))))))))))))
    rintro w9 ⟨hB13,hg8⟩
    have hB12:Bl w9 g3 89 [vs ((files.getD 0 ([],[])).1),.bool true,vs ((files.getD 0 ([],[])).2),.bool true,vs ((files.getD 0 ([],[])).2),.slice none 0 0]:=hB13
    have k13:=k11.go hg8 (Dj.new k4.lt' hge1)
    exact z8 (zi (za (zb (yp (h:=(zg rfl (qX (v:=.int .i64 (1:Int)) (Yld.add rfl rfl (by simp only [In]; omega)) rfl) (yp (h:=(zf (WX.unr (WCL.one (zd (zd (zb (yp (h:=(yp (h:=(yp (h:=(yp (h:=(zf (za (zp rfl (fun h=>by cases h) (fun _=>zD (zj (zj (zm (za (zd (zd (zb (yp (h:=(yp (h:=(yp (h:=(zf (za (zp rfl (fun h=>by cases h) (fun _=>zo (za (zd (zb (yp (h:=(yp (h:=(yp (h:=(zf (za (zq (qg rfl rfl rfl ⟨(jk (jk (jk (jk (jC gr4 hgl1 (apC (Ge.le (Ge.box hl1) (Nat.le_refl _)) apN)) hg5 (Ge.le hge1 (qZ gr4))) hg6 (Ge.le hge1 (qZ gr4))) hg7 (Ge.le hge1 (qZ gr4))) hg8 (Ge.le hge1 (qZ gr4))),Or.inr ⟨g1,g3,(files.getD 0 ([],[])).1,true,(files.getD 0 ([],[])).2,true,(files.getD 0 ([],[])).2,[],none,0,(0:Int),(-1:Int),false,(0:Int),rfl,(OwnK.nil enc127_ok w9 w.heap.size 127),hB12,(Ge.le hge1 (qZ gr4)),(k10.go hg8 (Dj.new k3.lt' hge1)),(Ge.le (Ge.box hl1) (Nat.le_refl _)),Dj.nl,Dj.nl,(Dj.new k3.lt' hge1).symm,H⟩⟩))))))))))))))))))))))))))))))))))))))))))))))))))))))))
  ·clear H
   rcases Bool.eq_false_or_eq_true (q1) with b2 | b2
   ·exact gn b2 (h:=(gn b2 (h:=(gn b2 (h:=(gn b2 (h:=(zg rfl (zt (okb b2) rfl) (wk (hQ _ _ ⟨true,rfl,by rw [b2] <;> rfl,rfl⟩))))))))))
   ·exact gp b2 (h:=(ze rfl rfl (okb b2) rfl (zk qY k4 rfl rfl rfl) (gp b2 (h:=(gp b2 (h:=(zg rfl (zr (okb b2) rfl) (wk (hQ _ _ ⟨decide ((65536:Int)<(((files.getD 0 ([],[])).2).length:Int)),rfl,by rw [b2] <;> rfl,rfl⟩)))))))))
 ·clear hJ1
  rcases Bool.eq_false_or_eq_true (!t22) with b3 | b3
  ·replace H:=H.1 b3
   exact gn b3 (h:=(gn b3 (h:=(gn b3 (h:=(gn b3 (h:=(gn b3 (h:=(zg rfl (zt (okb b3) rfl) (wk (hQ _ _ ⟨true,rfl,H,rfl⟩))))))))))))
  ·replace H:=H.2 b3
   refine gp b3 (h:=(gp b3 (h:=(ze rfl rfl (okb b3) rfl (zk qY k4 rfl rfl rfl) (qN (jb rfl rfl (okb b3)) rfl rfl (find0_fn k3) ?_)))))
   rintro _ _ ⟨rfl,rfl⟩
   exact gp b3 (h:=(zg rfl (zr (okb b3) rfl) (wk (hQ _ _ ⟨false,rfl,H,rfl⟩))))
set_option maxHeartbeats 8000000 in
theorem ZA {w:World} {g_c:Nat} {v_c_D:Value} {c0:List UInt8} {c_L:List (List UInt8 × List UInt8)} {b0:Option Addr} {d7:Nat} {e_Key:List UInt8} {e_Out:List UInt8} {g8:Nat} {K:(List UInt8)->(List (List UInt8 × List UInt8))->Prop} (one_c_D:v_c_D.oneCell'=true) (hc_L:OwnK 64 jv w 0 104 b0 d7 c_L) (h0:g8=c_L.length) (hc:Bl w g_c 66 [v_c_D,vs c0,.slice b0 g8 d7]) (hdj0_1:Dj (some g_c) (blk b0)) (H:jE c0 c_L e_Key e_Out K):Fn Tryz.prog 46 ⟨[.pointer (some ⟨g_c,0,none⟩),.agg ⟨(a32 e_Key++a32 e_Out)⟩]⟩ w (fun v w'=>GrL [(some g_c),(blk b0)] w w'/\∃ (i2:List UInt8),∃ (n5:List (List UInt8 × List UInt8)),∃ (e5:Option Addr),∃ (m2:Nat),v=.tuple #[]/\Bl w' g_c 66 [v_c_D,vs i2,.slice e5 n5.length m2]/\OwnK 64 jv w' 0 104 e5 m2 n5/\InP [(some g_c),(blk b0)] w.heap.size (blk e5)/\Dj (some g_c) (blk e5)/\K i2 n5):=by
 subst h0
 unfold jE at H
 refine Fn.enter (by kernel_rfl) Tryz.func46 rfl Tryz.ntmps46 rfl ?_
 replace H:=H (Nat.le_trans hc_L.rd.cap hc_L.rd.max)
 have hNoAt:AllP (NoAt w) [(some g_c),(blk b0)]:=(apC (NoAt.bl hc rfl) (apC (NoAt.ownK hc_L rfl) apN))
 refine zd (zb (qm (us:=(a32 e_Key++a32 e_Out)) rfl rfl rfl (fun g1 w1 hB1 hg1 hl1=>zf (za (zd (zd (zb (yp (h:=(zf (za (WC.block ?_))))))))))))
 obtain ⟨I1,mu1,e1,HR1⟩:=H
 refine zW (fun n' L' w'=>∃ (i:Int),∃ (c2:List (List UInt8 × List UInt8)),∃ (f1:Option Addr),∃ (i3:Nat),∃ (n6:Nat),n'=mu1 i c2/\L'=[(0,.pointer (some ⟨g_c,0,none⟩)),(3,.pointer (some ⟨g1,0,none⟩)),(4,.int .i64 i)]/\I1 i c2/\n6=c2.length/\GrL [(some g_c),(blk b0)] w w'/\Bl w' g_c 66 [v_c_D,vs c0,.slice f1 n6 i3]/\Bl w' g1 104 (a32 e_Key++a32 e_Out)/\OwnK 64 jv w' 0 104 f1 i3 c2/\Dj (some g_c) (blk f1)/\Dj (some g1) (blk f1)/\InP [(some g_c),(blk b0)] w.heap.size (blk f1)) _ _ ⟨(0:Int),c_L,b0,d7,c_L.length,rfl,rfl,e1,rfl,((GrL.of0 (ps:=[(some g_c),(blk b0)]) hg1)),(hc.g0 hg1),hB1,(hc_L.grown hg1),hdj0_1,(Dj.new hc_L.lt' (Ge.box hl1)).symm,(InP.mem (List.Mem.tail _ (List.Mem.head _)))⟩ sb ?_
 clear e1
 rintro _ _ w2 ⟨i,c2,f1,i3,n6,rfl,rfl,hI1,rfl,gr2,k3,k4,k5,dj1,dj2,hi1⟩
 have H:=HR1 i c2 hI1
 refine zd (zd (zb (yp (h:=(yp (h:=(yp (h:=(yp (h:=(zg rfl (zk qY k3 rfl rfl rfl) (yp (h:=(yp (h:=(zf (za (zp rfl (fun b1=>?_) (fun b1=>?_)))))))))))))))))))
 ·replace H:=H.1 (of_decide_eq_true b1)
  refine zo (za (zd (WC.block (zd (zO (fun k => !(Nat.beq k 10)) (LD [3,7,9] (fun w'=>Bl w' g_c 66 [v_c_D,vs c0,.slice f1 c2.length i3]/\RdK 64 jv w' f1 i3 c2/\Bl w' g1 104 (a32 e_Key++a32 e_Out))) mixed (by kernel_rfl) (fun k w' h _=>⟨(ji h k3),(RdK.eqv h k5.rd),(ji h k4)⟩) (zl rfl rfl (fun w' hw'=>zc qY rfl) (zl rfl rfl (fun w' hw'=>zc qY rfl) (zl rfl rfl (fun w' hw'=>zc qY rfl) (zl rfl rfl (fun w' hw'=>zk qY (hw' rfl).1 rfl rfl rfl) (zl rfl rfl (fun w' hw'=>zc qY rfl) ?_))))))))))
  obtain ⟨h1,H⟩:=H
  refine zl rfl rfl (fun w' hw'=>qa qY k5.rd rfl rfl rfl rfl h1.1 h1.2) (zl rfl rfl (fun w' hw'=>qk qY k5.rd (iltN h1 rfl) rfl rfl rfl) (zl rfl rfl (fun w' hw'=>qA (vs:=(a32 ((c2.getD i.toNat ([],[])).1))) ([],[]) qY (hw' rfl).2.1 rfl rfl (iltN h1 rfl) rfl rfl) (zl rfl rfl (fun w' hw'=>zc qY rfl) (zl rfl rfl (fun w' hw'=>zQ (vs:=(a32 e_Key)) qY (hw' rfl).2.2 rfl rfl rfl rfl) (WJ.call rfl (je) rfl rfl (jN H) (fun v w' h w2 e=>DD.keep (⟨(Bl.g0 k3 (jg h.1 e)),(RdK.grown k5.rd (jg h.1 e)),(Bl.g0 k4 (jg h.1 e))⟩)) ?_)))))
  rintro _ w3 ⟨hg2,t24,rfl,H⟩
  have gr3:=GrL.add0 gr2 hg2
  have k6:=k3.g0 hg2
  have k7:=k4.g0 hg2
  have k8:=k5.grown hg2
  refine z8 (za (zp rfl (fun b2=>?_) (fun b2=>?_)))
  ·replace H:=H.1 (b2)
   refine zd (zO (fun k => !(Nat.beq k 9)) (LD [3,6] (fun w'=>Bl w' g_c 66 [v_c_D,vs c0,.slice f1 c2.length i3]/\Bl w' g1 104 (a32 e_Key++a32 e_Out))) mixed (by kernel_rfl) (fun k w' h _=>⟨(ji h k6),(ji h k7)⟩) (zl rfl rfl (fun w' hw'=>zc qY rfl) (zl rfl rfl (fun w' hw'=>zc qY rfl) (zl rfl rfl (fun w' hw'=>zc qY rfl) (zl rfl rfl (fun w' hw'=>zk qY (hw' rfl).1 rfl rfl rfl) (zl rfl rfl (fun w' hw'=>zc qY rfl) (zl rfl rfl (fun w' hw'=>zc qY rfl) (zl rfl rfl (fun w' hw'=>zQ (vs:=(a32 e_Out)) qY (hw' rfl).2 rfl rfl rfl rfl) ?_))))))))
   obtain ⟨h2,H⟩:=H
   refine zl rfl rfl (fun w' hw'=>qa qY k8.rd rfl rfl rfl rfl h2.1 h2.2) (zl rfl rfl (fun w' hw'=>qk qY k8.rd (iltN h2 rfl) rfl rfl rfl) (qh rfl (Ef0.ostoreP (v:=((c2.getD i.toNat ([],[])).1,e_Out)) ([],[]) qY rfl k8 rfl rfl (iltN h2 rfl) rfl (by omega) rfl) (fun w' h=>DD.keep (⟨(Bl.go k6 (jg h.2 (Eqv.refl _)) dj1),(Bl.go k7 (jg h.2 (Eqv.refl _)) dj2)⟩)) ?_))
   rintro w4 ⟨hO1,hg3⟩
   have gr4:GrL [(some g_c),(blk b0)] w w4:=GrL.mod gr3 hg3 hi1
   have k10:=k7.go hg3 dj2
   exact z8 (za (zq (zn (zh (zh (zn (zh (WX.ret0 rfl ⟨gr4,c0,(c2.set i.toNat ((c2.getD i.toNat ([],[])).1,e_Out)),f1,i3,rfl,(Bl.cast (by rw [List.length_set]) (k6.go hg3 dj1)),hO1,hi1,dj1,H⟩))))))))
  ·replace H:=H.2 (b2)
   refine zo (zi (za (zb (yp (h:=?_)))))
   obtain ⟨h3,H⟩:=H
   exact zg rfl (Yld.add rfl rfl h3) (yp (h:=(zf (zS _ ⟨i+(1:Int),c2,f1,i3,c2.length,rfl,rfl,H.1,rfl,gr3,k6,k7,k8,dj1,dj2,hi1⟩ sb H.2))))
 ·replace H:=H.2 (of_decide_eq_false b1)
  refine zD (zj (zj (zm (za (zO (fun k => !(Nat.beq k 6 || Nat.beq k 7 || Nat.beq k 10)) (LD [4,5] (fun w'=>Bl w' g_c 66 [v_c_D,vs c0,.slice f1 c2.length i3]/\Bl w' g1 104 (a32 e_Key++a32 e_Out))) mixed (by kernel_rfl) (fun k w' h _=>⟨(ji h k3),(ji h k4)⟩) (zl rfl rfl (fun w' hw'=>zc qY rfl) (zl rfl rfl (fun w' hw'=>zc qY rfl) (zl rfl rfl (fun w' hw'=>zc qY rfl) (zl rfl rfl (fun w' hw'=>zc qY rfl) (zl rfl rfl (fun w' hw'=>zk qY (hw' rfl).1 rfl rfl rfl) (zl rfl rfl (fun w' hw'=>zQ (vs:=(a32 e_Key++a32 e_Out)) qY (hw' rfl).2 rfl rfl rfl rfl) (qr rfl (je) rfl (Eff.litK (f:=jv) (xs:=([(e_Key,e_Out)]:List (List UInt8 × List UInt8))) Zi ow64 rfl rfl rfl) (fun v w' ⟨_,_,h⟩=>DD.keep (⟨(Bl.g0 k3 (jg h (Eqv.refl _))),(Bl.g0 k4 (jg h (Eqv.refl _)))⟩)) ?_))))))))))))
  rintro _ w5 ⟨rfl,hB2,hg4⟩
  obtain ⟨p0,hl2⟩:∃ g,g=w2.heap.size:=⟨_,rfl⟩
  rw [<-hl2] at hB2
  rw [<-hl2]
  have hO2:OwnK 64 jv w5 w.heap.size 104 (some ⟨p0,0,none⟩) 1 ([(e_Key,e_Out)]:List (List UInt8 × List UInt8)):=OwnK.ofBl Zi hB2 (Nat.le_trans (GrL.sizeL gr2) (Nat.le_of_eq hl2.symm)) (by simp [maxLen]) rfl
  have gr5:=GrL.add0 gr2 hg4
  have k11:=k3.g0 hg4
  have k12:=k4.g0 hg4
  obtain ⟨h4,H⟩:=H
  refine qr rfl (je) rfl (qJ ow64 (k5.grown hg4) rfl rfl hO2.rd rfl rfl h4 (kF h4) (Nat.zero_le _)) (fun v w' ⟨_,_,_,_,h,_⟩=>DD.keep (⟨(Bl.go k11 (jg h (Eqv.refl _)) dj1),(Bl.go k12 (jg h (Eqv.refl _)) dj2)⟩)) ?_
  rintro _ w6 ⟨p6,p7,rfl,hO3,hg5,hk1⟩
  have gr6:GrL [(some g_c),(blk b0)] w w6:=GrL.mod gr5 hg5 hi1
  refine zl rfl rfl (fun w' hw'=>zc qY rfl) (zl rfl rfl (fun w' hw'=>zc qY rfl) (qh rfl (qc one64 rfl rfl rfl (k11.go hg5 dj1) (by simp)) (fun w' h=>qf (by kernel_rfl)) ?_))
  rintro w7 ⟨hB4,hg6⟩
  have hB3:Bl w7 g_c 66 [v_c_D,vs c0,.slice p6 ((c2++([(e_Key,e_Out)]:List (List UInt8 × List UInt8))).length) p7]:=hB4
  have gr7:GrL [(some g_c),(blk b0)] w w7:=GrL.mod gr6 hg6 (InP.mem (List.Mem.head _))
  have k16:=(k12.go hg5 dj2).go hg6 ((Dj.new hc.lt' (Ge.box hl1)).symm)
  exact z8 (qM rfl ⟨gr7,c0,(c2++([(e_Key,e_Out)]:List (List UInt8 × List UInt8))),p6,p7,rfl,hB3,(hO3.go hg6 (Dj.app dj1.symm k11.lt' hk1)),(InP.app hi1 hk1 (GrL.sizeL gr5)),(Dj.app dj1.symm k11.lt' hk1).symm,H⟩)
set_option maxHeartbeats 8000000 in
theorem Zh {w:World} {g_d:Nat} {a1:Nat} {d_L_Path:List UInt8} {d_L_There:Bool} {d_L_Text:List UInt8} {d_L_Synced:Bool} {d_L_SyncedText:List UInt8} {d_L_Changes:List (Bool × List UInt8 × Int)} {a0:Option Addr} {a3:Nat} {d_Ops:Int} {d_Armed:Int} {d_Down:Bool} {p:List UInt8} {a4:Nat} {K0:Int->Int->Int->Bool->(List UInt8)->Bool->(List UInt8)->Bool->(List UInt8)->(List (Bool × List UInt8 × Int))->Prop} {K:(List UInt8)->(List (List UInt8 × List UInt8))->Int->Int->Int->Bool->(List UInt8)->Bool->(List UInt8)->Bool->(List UInt8)->(List (Bool × List UInt8 × Int))->Prop} (hd_L_Changes:OwnK 3 jw w 0 127 a0 a3 d_L_Changes) (a7:a4=d_L_Changes.length) (hd_L:Bl w a1 89 [vs d_L_Path,.bool d_L_There,vs d_L_Text,.bool d_L_Synced,vs d_L_SyncedText,.slice a0 a4 a3]) (hd:Bl w g_d 73 [.slice (some ⟨a1,0,none⟩) 1 1,.int .i64 d_Ops,.int .i64 d_Armed,.bool d_Down]) (hdj0_1:Dj (some g_d) (some a1)) (hdj0_2:Dj (some g_d) (blk a0)) (hdj1_2:Dj (some a1) (blk a0)) (H:jo d_L_Path d_L_There d_L_Text d_L_Synced d_L_SyncedText d_L_Changes d_Ops d_Armed d_Down p K0 K):Fn Tryz.prog 8 ⟨[.pointer (some ⟨g_d,0,none⟩),vs p]⟩ w (fun v w'=>GrL [(some g_d),(some a1),(blk a0)] w w'/\((∃ (r12:Int),∃ (d_Ops2:Int),∃ (d_Armed2:Int),∃ (d_Down2:Bool),∃ (d_L_Path2:List UInt8),∃ (d_L_There2:Bool),∃ (d_L_Text2:List UInt8),∃ (d_L_Synced2:Bool),∃ (d_L_SyncedText2:List UInt8),∃ (d_L_Changes2:List (Bool × List UInt8 × Int)),∃ (a2:Option Addr),∃ (a6:Nat),v=.tuple #[.pointer none,.int .i64 r12]/\Bl w' g_d 73 [.slice (some ⟨a1,0,none⟩) 1 1,.int .i64 d_Ops2,.int .i64 d_Armed2,.bool d_Down2]/\Bl w' a1 89 [vs d_L_Path2,.bool d_L_There2,vs d_L_Text2,.bool d_L_Synced2,vs d_L_SyncedText2,.slice a2 d_L_Changes2.length a6]/\OwnK 3 jw w' 0 127 a2 a6 d_L_Changes2/\InP [(some g_d),(some a1),(blk a0)] w.heap.size (blk a2)/\Dj (some g_d) (some a1)/\Dj (some g_d) (blk a2)/\Dj (some a1) (blk a2)/\K0 r12 d_Ops2 d_Armed2 d_Down2 d_L_Path2 d_L_There2 d_L_Text2 d_L_Synced2 d_L_SyncedText2 d_L_Changes2)∨(∃ (i9:Nat),∃ (o5:List UInt8),∃ (r6:List (List UInt8 × List UInt8)),∃ (i6:Option Addr),∃ (o8:Nat),∃ (r1:Int),∃ (d_Ops2:Int),∃ (d_Armed2:Int),∃ (d_Down2:Bool),∃ (d_L_Path2:List UInt8),∃ (d_L_There2:Bool),∃ (d_L_Text2:List UInt8),∃ (d_L_Synced2:Bool),∃ (d_L_SyncedText2:List UInt8),∃ (d_L_Changes2:List (Bool × List UInt8 × Int)),∃ (a2:Option Addr),∃ (a6:Nat),v=.tuple #[.pointer (some ⟨i9,0,none⟩),.int .i64 r1]/\OwnK 64 jv w' w.heap.size 104 i6 o8 r6/\Bl w' i9 66 [.pointer (some ⟨g_d,0,none⟩),vs o5,.slice i6 r6.length o8]/\Ge (some i9) w.heap.size/\Dj (blk i6) (some i9)/\Bl w' g_d 73 [.slice (some ⟨a1,0,none⟩) 1 1,.int .i64 d_Ops2,.int .i64 d_Armed2,.bool d_Down2]/\Bl w' a1 89 [vs d_L_Path2,.bool d_L_There2,vs d_L_Text2,.bool d_L_Synced2,vs d_L_SyncedText2,.slice a2 d_L_Changes2.length a6]/\OwnK 3 jw w' 0 127 a2 a6 d_L_Changes2/\InP [(some g_d),(some a1),(blk a0)] w.heap.size (blk a2)/\Dj (some g_d) (some a1)/\Dj (some g_d) (blk a2)/\Dj (some a1) (blk a2)/\Dj (blk i6) (some g_d)/\Dj (blk i6) (some a1)/\Dj (blk i6) (blk a2)/\Dj (some i9) (some g_d)/\Dj (some i9) (some a1)/\Dj (some i9) (blk a2)/\K o5 r6 r1 d_Ops2 d_Armed2 d_Down2 d_L_Path2 d_L_There2 d_L_Text2 d_L_Synced2 d_L_SyncedText2 d_L_Changes2))):=by
 subst a7
 unfold jo at H
 refine Fn.enter (by kernel_rfl) Tryz.func8 rfl Tryz.ntmps8 rfl ?_
 replace H:=H (Nat.le_trans hd_L_Changes.rd.cap hd_L_Changes.rd.max)
 have hNoAt:AllP (NoAt w) [(some g_d),(some a1),(blk a0)]:=(apC (NoAt.bl hd rfl) (apC (NoAt.bl hd_L rfl) (apC (NoAt.ownK hd_L_Changes rfl) apN)))
 refine zd (zb (yp (h:=(yp (h:=(zf (za (zd (zb (yp (h:=(yp (h:=(zg rfl (z6 (us:=[.pointer (some ⟨g_d,0,none⟩),vs p,.slice none 0 0]) zero66 places66 rfl rfl) (qm (us:=[.pointer (some ⟨g_d,0,none⟩),vs p,.slice none 0 0]) rfl rfl rfl (fun g1 w1 hB1 hg1 hl1=>?_))))))))))))))))
 have gr1:=(GrL.of0 (ps:=[(some g_d),(some a1),(blk a0)]) hg1)
 refine yp (h:=(zf (za (zd (zb (yp (h:=(yp (h:=(WL.call rfl rfl (W_psmithyref3_Disk_Read (hd_L_Changes.grown hg1) rfl (hd_L.g0 hg1) (hd.g0 hg1) hdj0_1 hdj0_2 hdj1_2 H) ?_))))))))))
 rintro _ w2 ⟨hgl1,t200,t201,t202,d_,d_2,d_3,d_L_,d_L_2,d_L_3,d_L_4,d_L_5,d_L_6,c5,d0,rfl,hB2,hB3,hO1,hi1,dj1,dj2,dj3,H⟩
 have hi2:InP [(some g_d),(some a1),(blk a0)] w.heap.size (blk c5):=InP.trans hi1 (apC (InP.mem (List.Mem.head _)) (apC (InP.mem (List.Mem.tail _ (List.Mem.head _))) (apC (InP.mem (List.Mem.tail _ (List.Mem.tail _ (List.Mem.head _)))) apN))) (GrL.sizeL gr1)
 have gr2:GrL [(some g_d),(some a1),(blk a0)] w w2:=GrL.modL gr1 hgl1 (apC (InP.mem (List.Mem.head _)) (apC (InP.mem (List.Mem.tail _ (List.Mem.head _))) (apC (InP.mem (List.Mem.tail _ (List.Mem.tail _ (List.Mem.head _)))) apN)))
 have k4:=hB1.goL hgl1 (apC (Dj.new hd.lt' (Ge.box hl1)).symm (apC (Dj.new hd_L.lt' (Ge.box hl1)).symm (apC (Dj.new hd_L_Changes.lt' (Ge.box hl1)).symm apN)))
 refine yp (h:=(yp (h:=(yp (h:=(yp (h:=(yp (h:=(yp (h:=(yp (h:=(zf (za (zd (zd (zb (yp (h:=(yp (h:=(zf (za (zp rfl (fun b1=>?_) (fun b1=>?_))))))))))))))))))))))))))
 ·replace H:=H.1 (Zp b1)
  exact zd (zb (yp (h:=(yp (h:=(yp (h:=(zf (za (zq (zh (qg rfl rfl rfl ⟨gr2,Or.inl ⟨t202,d_,d_2,d_3,d_L_,d_L_2,d_L_3,d_L_4,d_L_5,d_L_6,c5,d0,rfl,hB2,hB3,hO1,hi2,dj1,dj2,dj3,H⟩⟩))))))))))))
 ·replace H:=H.2 (kL b1)
  refine zo (za (zd (zb (yp (h:=(WL.call rfl rfl (W_smithyref17_ReadJournal H) ?_))))))
  rintro _ w3 ⟨hg2,t290,f3,i8,t291,rfl,ht290,H⟩
  have hb1:=ht290.ge'
  have k5:=ht290.base (fun g hg=>Nat.le_trans (GrL.sizeL gr2) (hb1 g hg))
  have gr3:=GrL.add0 gr2 hg2
  have k6:=hB3.g0 hg2
  have k7:=hB2.g0 hg2
  have k8:=k4.g0 hg2
  have k9:=hO1.grown hg2
  refine yp (h:=(yp (h:=(yp (h:=(yp (h:=(yp (h:=(zf (za (zd ?_))))))))))))
  obtain ⟨J1,H,hJ1⟩:=H
  refine qd (fun L' w'=>∃ (d_L0:List UInt8),∃ (d_L1:Bool),∃ (d_L2:List UInt8),∃ (d_L3:Bool),∃ (d_L4:List UInt8),∃ (d_L5:List (Bool × List UInt8 × Int)),∃ (a8:Option Addr),∃ (c7:Nat),∃ (f0:Nat),∃ (d1:Int),∃ (d2:Int),∃ (d3:Bool),L'=[(6,.pointer (some ⟨g1,0,none⟩)),(10,.slice f3 t290.length i8)]/\J1 d_L0 d_L1 d_L2 d_L3 d_L4 d_L5 d1 d2 d3/\f0=d_L5.length/\GrL [(some g_d),(some a1),(blk a0)] w w'/\Bl w' a1 89 [vs d_L0,.bool d_L1,vs d_L2,.bool d_L3,vs d_L4,.slice a8 f0 c7]/\Bl w' g_d 73 [.slice (some ⟨a1,0,none⟩) 1 1,.int .i64 d1,.int .i64 d2,.bool d3]/\Bl w' g1 66 [.pointer (some ⟨g_d,0,none⟩),vs p,.slice none 0 0]/\OwnK 64 jv w' w.heap.size 104 f3 i8 t290/\OwnK 3 jw w' 0 127 a8 c7 d_L5/\Dj (some a1) (blk a8)/\Dj (some g_d) (blk a8)/\Dj (some g1) (blk a8)/\Dj (blk f3) (blk a8)/\InP [(some g_d),(some a1),(blk a0)] w.heap.size (blk a8)) ?_ (fun hQ=>?_)
  ·clear H
   rintro _ w4 ⟨d_L0,d_L1,d_L2,d_L3,d_L4,d_L5,a8,c7,f0,d1,d2,d3,rfl,H,rfl,gr4,k10,k11,k12,k13,k14,dj4,dj5,dj6,dj7,hi3⟩
   replace H:=hJ1 d_L0 d_L1 d_L2 d_L3 d_L4 d_L5 d1 d2 d3 H
   refine za (zd (zd (zb (yp (h:=(zf (za (WC.block ?_))))))))
   obtain ⟨I1,mu1,e1,HR1⟩:=H
   refine zW (fun n' L' w'=>∃ (i:Int),∃ (t161:List UInt8),∃ (t162:List (List UInt8 × List UInt8)),∃ (f5:Option Addr),∃ (n0:Nat),∃ (n8:Nat),∃ (d12:Int),∃ (d22:Int),∃ (d32:Bool),∃ (d_L02:List UInt8),∃ (d_L12:Bool),∃ (d_L22:List UInt8),∃ (d_L32:Bool),∃ (d_L42:List UInt8),∃ (d_L52:List (Bool × List UInt8 × Int)),∃ (c8:Option Addr),∃ (e4:Nat),∃ (f7:Nat),n'=mu1 i t161 t162 d12 d22 d32 d_L02 d_L12 d_L22 d_L32 d_L42 d_L52/\L'=[(6,.pointer (some ⟨g1,0,none⟩)),(10,.slice f3 t290.length i8),(12,.int .i64 i)]/\I1 i t161 t162 d12 d22 d32 d_L02 d_L12 d_L22 d_L32 d_L42 d_L52/\n8=t162.length/\f7=d_L52.length/\GrL [(some g_d),(some a1),(blk a0)] w w'/\Bl w' a1 89 [vs d_L02,.bool d_L12,vs d_L22,.bool d_L32,vs d_L42,.slice c8 f7 e4]/\Bl w' g_d 73 [.slice (some ⟨a1,0,none⟩) 1 1,.int .i64 d12,.int .i64 d22,.bool d32]/\Bl w' g1 66 [.pointer (some ⟨g_d,0,none⟩),vs t161,.slice f5 n8 n0]/\OwnK 64 jv w' w.heap.size 104 f3 i8 t290/\OwnK 64 jv w' w.heap.size 104 f5 n0 t162/\OwnK 3 jw w' 0 127 c8 e4 d_L52/\Dj (some a1) (blk f5)/\Dj (some a1) (blk c8)/\Dj (some g_d) (blk f5)/\Dj (some g_d) (blk c8)/\Dj (some g1) (blk f5)/\Dj (some g1) (blk c8)/\Dj (blk f3) (blk f5)/\Dj (blk f3) (blk c8)/\Dj (blk f5) (blk c8)/\InP [(some g_d),(some a1),(blk a0)] w.heap.size (blk c8)) _ _ ⟨(0:Int),p,[],none,0,0,d1,d2,d3,d_L0,d_L1,d_L2,d_L3,d_L4,d_L5,a8,c7,d_L5.length,rfl,rfl,e1,rfl,rfl,gr4,k10,k11,k12,k13,(OwnK.nil Zi w4 w.heap.size 104),k14,Dj.nr,dj4,Dj.nr,dj5,Dj.nr,dj6,Dj.nr,dj7,Dj.nl,hi3⟩ sb ?_
   clear e1
   rintro _ _ w5 ⟨i,t161,t162,f5,n0,n8,d12,d22,d32,d_L02,d_L12,d_L22,d_L32,d_L42,d_L52,c8,e4,f7,rfl,rfl,hI1,rfl,rfl,gr5,k15,k16,k17,k18,k19,k20,dj8,dj9,dj10,dj11,dj12,dj13,dj14,dj15,dj16,hi4⟩
   have H:=HR1 i t161 t162 d12 d22 d32 d_L02 d_L12 d_L22 d_L32 d_L42 d_L52 hI1
   refine zd (zd (zb (yp (h:=(yp (h:=(yp (h:=(yp (h:=(zf (za (zp rfl (fun b2=>?_) (fun b2=>?_))))))))))))))
   ·replace H:=H.1 (of_decide_eq_true b2)
    refine zo (za (zd (WC.block (zb (yp (h:=(yp (h:=(yp (h:=?_))))))))))
    obtain ⟨h1,H⟩:=H
    refine zg rfl (qa qY k18.rd rfl rfl rfl rfl h1.1 h1.2) (zg rfl (qt ([],[]) qY k18.rd rfl rfl (iltN h1 rfl)) (WL.call rfl rfl (ZA rfl (k19.base (fun _ _=>Nat.zero_le _)) rfl k17 dj12 H) ?_))
    rintro _ w6 ⟨hgl2,t16_,o6,p9,r4,rfl,hB4,hO2,hi5,dj17,H⟩
    have hO3:=hO2.base (InP.toGe hi5 (apC (Ge.le (Ge.box hl1) (Nat.le_refl _)) (apC k19.ge' apN)) (GrL.sizeL gr5))
    have gr6:GrL [(some g_d),(some a1),(blk a0)] w w6:=GrL.modL gr5 hgl2 (apC (InP.ge (Ge.le (Ge.box hl1) (Nat.le_refl _))) (apC (InP.ge k19.ge') apN))
    refine zf (zi (za (zb (yp (h:=?_)))))
    obtain ⟨h2,H⟩:=H
    exact zg rfl (Yld.add rfl rfl h2) (yp (h:=(zf (zS _ ⟨i+(1:Int),t16_,o6,p9,r4,o6.length,d12,d22,d32,d_L02,d_L12,d_L22,d_L32,d_L42,d_L52,c8,e4,d_L52.length,rfl,rfl,H.1,rfl,rfl,gr6,(k15.goL hgl2 (apC (Dj.new hd_L.lt' (Ge.box hl1)) (apC dj8 apN))),(k16.goL hgl2 (apC (Dj.new hd.lt' (Ge.box hl1)) (apC dj10 apN))),hB4,(k18.goL hgl2 (apC (Dj.new k4.lt' hb1).symm (apC dj14 apN))),hO3,(k20.goL hgl2 (apC dj13.symm (apC dj16.symm apN))),(InP.dj hi5 k15.lt' (apC (Dj.new hd_L.lt' (Ge.box hl1)) (apC dj8 apN))).symm,dj9,(InP.dj hi5 k16.lt' (apC (Dj.new hd.lt' (Ge.box hl1)) (apC dj10 apN))).symm,dj11,dj17,dj13,(InP.dj hi5 k18.lt' (apC (Dj.new k4.lt' hb1).symm (apC dj14 apN))).symm,dj15,(InP.dj hi5 k20.lt' (apC dj13.symm (apC dj16.symm apN))),hi4⟩ sb H.2))))
   ·replace H:=H.2 (of_decide_eq_false b2)
    exact zD (zj (zj (zm (za (zd (zb (yp (h:=(yp (h:=(yp (h:=(zf (za (zq (qg rfl rfl rfl ⟨gr5,Or.inr ⟨g1,t161,t162,f5,n0,(0:Int),d12,d22,d32,d_L02,d_L12,d_L22,d_L32,d_L42,d_L52,c8,e4,rfl,k19,k17,(Ge.le (Ge.box hl1) (Nat.le_refl _)),dj12.symm,k16,k15,k20,hi4,dj1,dj11,dj9,dj10.symm,dj8.symm,dj16,(Dj.new hd.lt' (Ge.box hl1)).symm,(Dj.new hd_L.lt' (Ge.box hl1)).symm,dj13,H⟩⟩))))))))))))))))
  ·clear hJ1
   refine zd (zb (yp (h:=(yp (h:=(yp (h:=(yp (h:=(zf (za (zp rfl (fun b3=>?_) (fun b3=>?_)))))))))))))
   ·replace H:=H.1 (of_decide_eq_true b3)
    refine zd (zb (yp (h:=(yp (h:=(yp (h:=(yp (h:=?_)))))))))
    obtain ⟨h3,H⟩:=H
    refine zg rfl (qB qY rfl rfl rfl rfl (Int.le_refl 0) h3.1 h3.2) (WL.call rfl rfl (Zg k9 rfl k6 k7 dj1 dj2 dj3 H) ?_)
    rintro _ w7 ⟨hgl3,bad,d_4,d_5,d_6,d_L_7,d_L_8,d_L_9,d_L_10,d_L_11,d_L_12,n9,p4,rfl,hB5,hB6,hO4,hi6,dj18,dj19,dj20,H⟩
    have hi7:InP [(some g_d),(some a1),(blk a0)] w.heap.size (blk n9):=InP.trans hi6 (apC (InP.mem (List.Mem.head _)) (apC (InP.mem (List.Mem.tail _ (List.Mem.head _))) (apC hi2 apN))) (GrL.sizeL gr3)
    have gr7:GrL [(some g_d),(some a1),(blk a0)] w w7:=GrL.modL gr3 hgl3 (apC (InP.mem (List.Mem.head _)) (apC (InP.mem (List.Mem.tail _ (List.Mem.head _))) (apC hi2 apN)))
    have k25:=k8.goL hgl3 (apC (Dj.new hd.lt' (Ge.box hl1)).symm (apC (Dj.new hd_L.lt' (Ge.box hl1)).symm (apC (InP.dj hi1 hB1.lt' (apC (Dj.new hd.lt' (Ge.box hl1)).symm (apC (Dj.new hd_L.lt' (Ge.box hl1)).symm (apC (Dj.new hd_L_Changes.lt' (Ge.box hl1)).symm apN)))).symm apN)))
    have k26:=k5.goL hgl3 (apC (Dj.new hB2.lt' hb1).symm (apC (Dj.new hB3.lt' hb1).symm (apC (Dj.new hO1.lt' hb1).symm apN)))
    refine yp (h:=(zf (za (zd ?_))))
    obtain ⟨J2,H,hJ2⟩:=H
    refine qd (fun L' w'=>∃ (bad2:Int),∃ (d_L03:List UInt8),∃ (d_L13:Bool),∃ (d_L23:List UInt8),∃ (d_L33:Bool),∃ (d_L43:List UInt8),∃ (d_L53:List (Bool × List UInt8 × Int)),∃ (e3:Option Addr),∃ (i4:Nat),∃ (n1:Nat),∃ (d13:Int),∃ (d23:Int),∃ (d33:Bool),L'=[(6,.pointer (some ⟨g1,0,none⟩)),(9,.int .i64 bad2),(10,.slice f3 t290.length i8)]/\J2 bad2 d_L03 d_L13 d_L23 d_L33 d_L43 d_L53 d13 d23 d33/\n1=d_L53.length/\GrL [(some g_d),(some a1),(blk a0)] w w'/\Bl w' a1 89 [vs d_L03,.bool d_L13,vs d_L23,.bool d_L33,vs d_L43,.slice e3 n1 i4]/\Bl w' g_d 73 [.slice (some ⟨a1,0,none⟩) 1 1,.int .i64 d13,.int .i64 d23,.bool d33]/\Bl w' g1 66 [.pointer (some ⟨g_d,0,none⟩),vs p,.slice none 0 0]/\OwnK 64 jv w' w.heap.size 104 f3 i8 t290/\OwnK 3 jw w' 0 127 e3 i4 d_L53/\Dj (some a1) (blk e3)/\Dj (some g_d) (blk e3)/\Dj (some g1) (blk e3)/\Dj (blk f3) (blk e3)/\InP [(some g_d),(some a1),(blk a0)] w.heap.size (blk e3)) ?_ (fun hQ1=>?_)
    ·clear H
     rintro _ w8 ⟨bad2,d_L03,d_L13,d_L23,d_L33,d_L43,d_L53,e3,i4,n1,d13,d23,d33,rfl,H,rfl,gr8,k27,k28,k29,k30,k31,dj21,dj22,dj23,dj24,hi8⟩
     replace H:=hJ2 bad2 d_L03 d_L13 d_L23 d_L33 d_L43 d_L53 d13 d23 d33 H
     refine za (zd (zb (yp (h:=(yp (h:=(zf (za (zp rfl (fun b4=>?_) (fun b4=>?_))))))))))
     ·replace H:=H.1 (Zp b4)
      exact zd (zb (yp (h:=(yp (h:=(yp (h:=(zf (za (zq (zh (qg rfl rfl rfl ⟨gr8,Or.inl ⟨bad2,d13,d23,d33,d_L03,d_L13,d_L23,d_L33,d_L43,d_L53,e3,i4,rfl,k28,k27,k31,hi8,dj18,dj22,dj21,H⟩⟩))))))))))))
     ·replace H:=H.2 (kL b4)
      exact zo (WX.weaken sb (hQ _ _ ⟨d_L03,d_L13,d_L23,d_L33,d_L43,d_L53,e3,i4,d_L53.length,d13,d23,d33,rfl,H,rfl,gr8,k27,k28,k29,k30,k31,dj21,dj22,dj23,dj24,hi8⟩))
    ·clear hJ2
     refine zd (zb (yp (h:=(yp (h:=(zf (za (zp rfl (fun b5=>?_) (fun b5=>?_)))))))))
     ·replace H:=H.1 (of_decide_eq_true b5)
      refine zb (yp (h:=(yp (h:=(WL.call rfl rfl (ZG hO4 rfl hB6 hB5 dj18 dj19 dj20 H) ?_)))))
      rintro _ w9 ⟨hgl4,bad3,d_7,d_8,d_9,d_L_13,d_L_14,d_L_15,d_L_16,d_L_17,d_L_18,o0,p5,rfl,hB7,hB8,hO5,hi9,dj25,dj26,dj27,H⟩
      have hi10:InP [(some g_d),(some a1),(blk a0)] w.heap.size (blk o0):=InP.trans hi9 (apC (InP.mem (List.Mem.head _)) (apC (InP.mem (List.Mem.tail _ (List.Mem.head _))) (apC hi7 apN))) (GrL.sizeL gr7)
      have gr9:GrL [(some g_d),(some a1),(blk a0)] w w9:=GrL.modL gr7 hgl4 (apC (InP.mem (List.Mem.head _)) (apC (InP.mem (List.Mem.tail _ (List.Mem.head _))) (apC hi7 apN)))
      refine yp (h:=(zf ?_))
      exact WX.weaken sb (hQ1 _ _ ⟨bad3,d_L_13,d_L_14,d_L_15,d_L_16,d_L_17,d_L_18,o0,p5,d_L_18.length,d_7,d_8,d_9,rfl,H,rfl,gr9,hB8,hB7,(k25.goL hgl4 (apC (Dj.new hd.lt' (Ge.box hl1)).symm (apC (Dj.new hd_L.lt' (Ge.box hl1)).symm (apC (InP.dj hi6 k8.lt' (apC (Dj.new hd.lt' (Ge.box hl1)).symm (apC (Dj.new hd_L.lt' (Ge.box hl1)).symm (apC (InP.dj hi1 hB1.lt' (apC (Dj.new hd.lt' (Ge.box hl1)).symm (apC (Dj.new hd_L.lt' (Ge.box hl1)).symm (apC (Dj.new hd_L_Changes.lt' (Ge.box hl1)).symm apN)))).symm apN)))).symm apN)))),(k26.goL hgl4 (apC (Dj.new hB2.lt' hb1).symm (apC (Dj.new hB3.lt' hb1).symm (apC (InP.dj hi6 k5.lt' (apC (Dj.new hB2.lt' hb1).symm (apC (Dj.new hB3.lt' hb1).symm (apC (Dj.new hO1.lt' hb1).symm apN)))).symm apN)))),hO5,dj27,dj26,(InP.dj hi9 k25.lt' (apC (Dj.new hd.lt' (Ge.box hl1)).symm (apC (Dj.new hd_L.lt' (Ge.box hl1)).symm (apC (InP.dj hi6 k8.lt' (apC (Dj.new hd.lt' (Ge.box hl1)).symm (apC (Dj.new hd_L.lt' (Ge.box hl1)).symm (apC (InP.dj hi1 hB1.lt' (apC (Dj.new hd.lt' (Ge.box hl1)).symm (apC (Dj.new hd_L.lt' (Ge.box hl1)).symm (apC (Dj.new hd_L_Changes.lt' (Ge.box hl1)).symm apN)))).symm apN)))).symm apN)))).symm,(InP.dj hi9 k26.lt' (apC (Dj.new hB2.lt' hb1).symm (apC (Dj.new hB3.lt' hb1).symm (apC (InP.dj hi6 k5.lt' (apC (Dj.new hB2.lt' hb1).symm (apC (Dj.new hB3.lt' hb1).symm (apC (Dj.new hO1.lt' hb1).symm apN)))).symm apN)))).symm,hi10⟩)
     ·replace H:=H.2 (of_decide_eq_false b5)
      exact zo (WX.weaken sb (hQ1 _ _ ⟨bad,d_L_7,d_L_8,d_L_9,d_L_10,d_L_11,d_L_12,n9,p4,d_L_12.length,d_4,d_5,d_6,rfl,H,rfl,gr7,hB6,hB5,k25,k26,hO4,dj20,dj19,(InP.dj hi6 k8.lt' (apC (Dj.new hd.lt' (Ge.box hl1)).symm (apC (Dj.new hd_L.lt' (Ge.box hl1)).symm (apC (InP.dj hi1 hB1.lt' (apC (Dj.new hd.lt' (Ge.box hl1)).symm (apC (Dj.new hd_L.lt' (Ge.box hl1)).symm (apC (Dj.new hd_L_Changes.lt' (Ge.box hl1)).symm apN)))).symm apN)))).symm,(InP.dj hi6 k5.lt' (apC (Dj.new hB2.lt' hb1).symm (apC (Dj.new hB3.lt' hb1).symm (apC (Dj.new hO1.lt' hb1).symm apN)))).symm,hi7⟩))
   ·replace H:=H.2 (of_decide_eq_false b3)
    exact zo (WX.weaken sb (hQ _ _ ⟨d_L_,d_L_2,d_L_3,d_L_4,d_L_5,d_L_6,c5,d0,d_L_6.length,d_,d_2,d_3,rfl,H,rfl,gr3,k6,k7,k8,k5,k9,dj3,dj2,(InP.dj hi1 hB1.lt' (apC (Dj.new hd.lt' (Ge.box hl1)).symm (apC (Dj.new hd_L.lt' (Ge.box hl1)).symm (apC (Dj.new hd_L_Changes.lt' (Ge.box hl1)).symm apN)))).symm,(Dj.new hO1.lt' hb1).symm,hi2⟩))
set_option maxHeartbeats 8000000 in
theorem Zz {w:World} {g_c:Nat} {v_c_D:Value} {c0:List UInt8} {c_L:List (List UInt8 × List UInt8)} {b0:Option Addr} {d7:Nat} {k:List UInt8} {g8:Nat} {K:(List UInt8)->Bool->Prop} (one_c_D:v_c_D.oneCell'=true) (hc_L:RdK 64 jv w b0 d7 c_L) (h0:g8=c_L.length) (hc:Bl w g_c 66 [v_c_D,vs c0,.slice b0 g8 d7]) (H:jD c0 c_L k K):Fn Tryz.prog 18 ⟨[.pointer (some ⟨g_c,0,none⟩),.agg ⟨a32 k⟩]⟩ w (fun v w'=>w.grownBy w' none/\∃ (r0:List UInt8),∃ (r1:Bool),v=.tuple #[.agg ⟨a32 r0⟩,.bool r1]/\K r0 r1):=by
 subst h0
 unfold jD at H
 refine Fn.enter (by kernel_rfl) Tryz.func18 rfl Tryz.ntmps18 rfl ?_
 replace H:=H (Nat.le_trans hc_L.cap hc_L.max)
 refine zd (zb (qm (us:=(a32 k)) rfl rfl rfl (fun g1 w1 hB1 hg1 hl1=>?_)))
 have gr1:=hg1
 refine WL.alloc rfl zero44 (fun g2 w2 hB2 hg2 hl2=>?_)
 rw [kc] at hB2
 refine yp (h:=(zf (za (zd (zd (zb (yp (h:=(zf (za (WC.block ?_)))))))))))
 obtain ⟨I1,mu1,e1,HR1⟩:=H
 refine zW (fun n' L' w'=>∃ (i:Int),∃ (t40:List UInt8),n'=mu1 i t40/\L'=[(0,.pointer (some ⟨g_c,0,none⟩)),(3,.pointer (some ⟨g1,0,none⟩)),(4,.pointer (some ⟨g2,0,none⟩)),(6,.int .i64 i)]/\I1 i t40/\w.grownBy w' none/\Bl w' g1 44 (a32 k)/\Bl w' g2 44 (a32 t40)) _ _ ⟨(0:Int),(List.replicate 32 0:List UInt8),rfl,rfl,e1,(ja gr1 hg2),(hB1.g0 hg2),hB2⟩ sb ?_
 clear e1
 rintro _ _ w3 ⟨i,t40,rfl,rfl,hI1,gr3,k2,k3⟩
 have H:=HR1 i t40 hI1
 refine zd (zd (zb (yp (h:=(yp (h:=(yp (h:=(yp (h:=(zg rfl (zk qY (hc.g0 gr3) rfl rfl rfl) (yp (h:=(yp (h:=(zf (za (zp rfl (fun b1=>?_) (fun b1=>?_)))))))))))))))))))
 ·replace H:=H.1 (of_decide_eq_true b1)
  refine zo (za (zd (WC.block (zd (zO (fun k => !(Nat.beq k 9)) (LD [3,7,8] (fun w'=>Bl w' g_c 66 [v_c_D,vs c0,.slice b0 c_L.length d7]/\RdK 64 jv w' b0 d7 c_L/\Bl w' g1 44 (a32 k))) mixed (by kernel_rfl) (fun k w' h _=>⟨(ji h (hc.g0 gr3)),(RdK.eqv h (hc_L.grown gr3)),(ji h k2)⟩) (zl rfl rfl (fun w' hw'=>zc qY rfl) (zl rfl rfl (fun w' hw'=>zc qY rfl) (zl rfl rfl (fun w' hw'=>zc qY rfl) (zl rfl rfl (fun w' hw'=>zk qY (hw' rfl).1 rfl rfl rfl) (zl rfl rfl (fun w' hw'=>zc qY rfl) ?_))))))))))
  obtain ⟨h1,H⟩:=H
  refine zl rfl rfl (fun w' hw'=>qa qY (hc_L.grown gr3) rfl rfl rfl rfl h1.1 h1.2) (zl rfl rfl (fun w' hw'=>qk qY (hc_L.grown gr3) (iltN h1 rfl) rfl rfl rfl) (zl rfl rfl (fun w' hw'=>qA (vs:=(a32 ((c_L.getD i.toNat ([],[])).1))) ([],[]) qY (hw' rfl).2.1 rfl rfl (iltN h1 rfl) rfl rfl) (zl rfl rfl (fun w' hw'=>zQ (vs:=(a32 k)) qY (hw' rfl).2.2 rfl rfl rfl rfl) (WJ.call rfl (je) rfl rfl (jN H) (fun v w' h w2 e=>DD.keep (⟨(Bl.g0 (hc.g0 gr3) (jg h.1 e)),(RdK.grown (hc_L.grown gr3) (jg h.1 e)),(Bl.g0 k2 (jg h.1 e))⟩)) ?_))))
  rintro _ w4 ⟨hg3,t25,rfl,H⟩
  have gr4:=ja gr3 hg3
  have k5:=k3.g0 hg3
  refine z8 (za (zp rfl (fun b2=>?_) (fun b2=>?_)))
  ·replace H:=H.1 (b2)
   refine zd (zb (yp (h:=(yp (h:=(yp (h:=(zg rfl (zk qY (hc.g0 gr4) rfl rfl rfl) (yp (h:=?_))))))))))
   obtain ⟨h2,H⟩:=H
   exact zg rfl (qa qY (hc_L.grown gr4) rfl rfl rfl rfl h2.1 h2.2) (zg rfl (qk qY (hc_L.grown gr4) (iltN h2 rfl) rfl rfl rfl) (zg rfl (qA (vs:=(a32 ((c_L.getD i.toNat ([],[])).2))) ([],[]) qY (hc_L.grown gr4) rfl rfl (iltN h2 rfl) rfl rfl) (zP (vs:=(a32 ((c_L.getD i.toNat ([],[])).2))) qY rfl rfl rfl (jq _) k5 rfl rfl (fun w5 hB3 hg4=>yp (h:=(zf (za (zq (zn (zh (zh (zn (zh (qE qY rfl rfl rfl hB3 rfl rfl ⟨(jk gr4 hg4 (Ge.le (Ge.box hl2) (qZ gr1))),(c_L.getD i.toNat ([],[])).2,true,rfl,H⟩))))))))))))))
  ·replace H:=H.2 (b2)
   refine zo (zi (za (zb (yp (h:=?_)))))
   obtain ⟨h3,H⟩:=H
   exact zg rfl (Yld.add rfl rfl h3) (yp (h:=(zf (zS _ ⟨i+(1:Int),t40,rfl,rfl,H.1,gr4,(k2.g0 hg3),k5⟩ sb H.2))))
 ·replace H:=H.2 (of_decide_eq_false b1)
  exact zD (zj (zj (zm (za (zd (zb (zg rfl (Yld.zarr qY rfl zero44) (zP (vs:=(a32 (List.replicate 32 0:List UInt8))) qY rfl rfl rfl (jq _) k3 rfl rfl (fun w6 hB4 hg5=>yp (h:=(zf (za (zq (qE qY rfl rfl rfl hB4 rfl rfl ⟨(jk gr3 hg5 (Ge.le (Ge.box hl2) (qZ gr1))),(List.replicate 32 0:List UInt8),false,rfl,H⟩))))))))))))))
set_option maxHeartbeats 8000000 in
theorem W_psmithyref17_Cache_Put {w:World} {g_c:Nat} {c9:Nat} {a9:Nat} {d8:List UInt8} {d6:Bool} {d9:List UInt8} {d4:Bool} {c6:List UInt8} {c3:List (Bool × List UInt8 × Int)} {a5:Option Addr} {d5:Nat} {f6:Int} {e2:Int} {e7:Bool} {c0:List UInt8} {c_L:List (List UInt8 × List UInt8)} {b0:Option Addr} {d7:Nat} {k:List UInt8} {out:List UInt8} {f9:Nat} {g8:Nat} {K:Int->(List UInt8)->(List (List UInt8 × List UInt8))->Int->Int->Bool->(List UInt8)->Bool->(List UInt8)->Bool->(List UInt8)->(List (Bool × List UInt8 × Int))->Prop} (hc_D_L_Changes:OwnK 3 jw w 0 127 a5 d5 c3) (l0:f9=c3.length) (hc_D_L:Bl w a9 89 [vs d8,.bool d6,vs d9,.bool d4,vs c6,.slice a5 f9 d5]) (hc_D:Bl w c9 73 [.slice (some ⟨a9,0,none⟩) 1 1,.int .i64 f6,.int .i64 e2,.bool e7]) (hc_L:OwnK 64 jv w 0 104 b0 d7 c_L) (h0:g8=c_L.length) (hc:Bl w g_c 66 [.pointer (some ⟨c9,0,none⟩),vs c0,.slice b0 g8 d7]) (hdj0_1:Dj (some g_c) (blk b0)) (hdj0_2:Dj (some g_c) (some c9)) (hdj0_3:Dj (some g_c) (some a9)) (hdj0_4:Dj (some g_c) (blk a5)) (hdj1_2:Dj (blk b0) (some c9)) (hdj1_3:Dj (blk b0) (some a9)) (hdj1_4:Dj (blk b0) (blk a5)) (hdj2_3:Dj (some c9) (some a9)) (hdj2_4:Dj (some c9) (blk a5)) (hdj3_4:Dj (some a9) (blk a5)) (H:jO d8 d6 d9 d4 c6 c3 f6 e2 e7 c0 c_L k out K):Fn Tryz.prog 13 ⟨[.pointer (some ⟨g_c,0,none⟩),.agg ⟨a32 k⟩,.agg ⟨a32 out⟩]⟩ w (fun v w'=>GrL [(some g_c),(blk b0),(some c9),(some a9),(blk a5)] w w'/\∃ (r:Int),∃ (i2:List UInt8),∃ (n5:List (List UInt8 × List UInt8)),∃ (e5:Option Addr),∃ (m2:Nat),∃ (n3:Int),∃ (m0:Int),∃ (m6:Bool),∃ (l1:List UInt8),∃ (i1:Bool),∃ (l2:List UInt8),∃ (g9:Bool),∃ (f2:List UInt8),∃ (e8:List (Bool × List UInt8 × Int)),∃ (c4:Option Addr),∃ (f4:Nat),v=.int .i64 r/\Bl w' g_c 66 [.pointer (some ⟨c9,0,none⟩),vs i2,.slice e5 n5.length m2]/\OwnK 64 jv w' 0 104 e5 m2 n5/\InP [(some g_c),(blk b0),(some c9),(some a9),(blk a5)] w.heap.size (blk e5)/\Bl w' c9 73 [.slice (some ⟨a9,0,none⟩) 1 1,.int .i64 n3,.int .i64 m0,.bool m6]/\Bl w' a9 89 [vs l1,.bool i1,vs l2,.bool g9,vs f2,.slice c4 e8.length f4]/\OwnK 3 jw w' 0 127 c4 f4 e8/\InP [(some g_c),(blk b0),(some c9),(some a9),(blk a5)] w.heap.size (blk c4)/\Dj (some g_c) (blk e5)/\Dj (some g_c) (some c9)/\Dj (some g_c) (some a9)/\Dj (some g_c) (blk c4)/\Dj (blk e5) (some c9)/\Dj (blk e5) (some a9)/\Dj (blk e5) (blk c4)/\Dj (some c9) (some a9)/\Dj (some c9) (blk c4)/\Dj (some a9) (blk c4)/\K r i2 n5 n3 m0 m6 l1 i1 l2 g9 f2 e8):=by
 subst l0
 subst h0
 unfold jO at H
 refine Fn.enter (by kernel_rfl) Tryz.func13 rfl Tryz.ntmps13 rfl ?_
 replace H:=H (Nat.le_trans hc_D_L_Changes.rd.cap hc_D_L_Changes.rd.max)
 replace H:=H (Nat.le_trans hc_L.rd.cap hc_L.rd.max)
 have hNoAt:AllP (NoAt w) [(some g_c),(blk b0),(some c9),(some a9),(blk a5)]:=(apC (NoAt.bl hc rfl) (apC (NoAt.ownK hc_L rfl) (apC (NoAt.bl hc_D rfl) (apC (NoAt.bl hc_D_L rfl) (apC (NoAt.ownK hc_D_L_Changes rfl) apN)))))
 refine zd (zb (qm (us:=(a32 k)) rfl rfl rfl (fun g1 w1 hB1 hg1 hl1=>qm (us:=(a32 out)) rfl rfl rfl (fun g2 w2 hB2 hg2 hl2=>?_))))
 have k9:=(hc_L.grown hg1).grown hg2
 have k10:=(hc.g0 hg1).g0 hg2
 have k11:=hB1.g0 hg2
 refine yp (h:=(zf (za (zd (zb (yp (h:=(zg rfl (zQ (vs:=(a32 k)) qY k11 rfl rfl rfl rfl) (WL.call rfl rfl (Zz rfl k9.rd rfl k10 H) ?_)))))))))
 rintro _ w3 ⟨hg3,t140,t141,rfl,H⟩
 have gr3:=GrL.add0 (GrL.add0 ((GrL.of0 (ps:=[(some g_c),(blk b0),(some c9),(some a9),(blk a5)]) hg1)) hg2) hg3
 have k12:=((hc_D_L_Changes.grown hg1).grown hg2).grown hg3
 have k13:=((hc_D_L.g0 hg1).g0 hg2).g0 hg3
 have k14:=((hc_D.g0 hg1).g0 hg2).g0 hg3
 have k15:=k9.grown hg3
 have k16:=k10.g0 hg3
 have k17:=k11.g0 hg3
 have k18:=hB2.g0 hg3
 refine yp (h:=(yp (h:=(yp (h:=(WL.alloc rfl zero44 (fun g3 w4 hB3 hg4 hl3=>?_)))))))
 rw [kc] at hB3
 refine zP (vs:=(a32 t140)) qY rfl rfl rfl (jq _) hB3 rfl rfl (fun w5 hB4 hg5=>?_)
 have gr5:GrL [(some g_c),(blk b0),(some c9),(some a9),(blk a5)] w w5:=GrL.mod (GrL.add0 gr3 hg4) hg5 (InP.ge (Ge.le (Ge.box hl3) (GrL.sizeL gr3)))
 have k26:=(k12.grown hg4).go hg5 (Dj.new k12.lt' (Ge.box hl3))
 have k27:=(k13.g0 hg4).go hg5 (Dj.new k13.lt' (Ge.box hl3))
 have k28:=(k14.g0 hg4).go hg5 (Dj.new k14.lt' (Ge.box hl3))
 have k29:=(k15.grown hg4).go hg5 (Dj.new k15.lt' (Ge.box hl3))
 have k30:=(k16.g0 hg4).go hg5 (Dj.new k16.lt' (Ge.box hl3))
 have k31:=(k17.g0 hg4).go hg5 (Dj.new k17.lt' (Ge.box hl3))
 have k32:=(k18.g0 hg4).go hg5 (Dj.new k18.lt' (Ge.box hl3))
 refine yp (h:=(zf (za (zd (zd (zb (yp (h:=(yp (h:=?_))))))))))
 obtain ⟨J1,H,hJ1⟩:=H
 refine zL 4 (fun L' w'=>∃ q1:Bool,L'=[(22,.bool q1),(0,.pointer (some ⟨g_c,0,none⟩)),(4,.pointer (some ⟨g1,0,none⟩)),(5,.pointer (some ⟨g2,0,none⟩))]/\J1 q1/\GrL [(some g_c),(blk b0),(some c9),(some a9),(blk a5)] w w'/\OwnK 3 jw w' 0 127 a5 d5 c3/\Bl w' a9 89 [vs d8,.bool d6,vs d9,.bool d4,vs c6,.slice a5 c3.length d5]/\Bl w' c9 73 [.slice (some ⟨a9,0,none⟩) 1 1,.int .i64 f6,.int .i64 e2,.bool e7]/\OwnK 64 jv w' 0 104 b0 d7 c_L/\Bl w' g_c 66 [.pointer (some ⟨c9,0,none⟩),vs c0,.slice b0 c_L.length d7]/\Bl w' g1 44 (a32 k)/\Bl w' g2 44 (a32 out)) ?_ (fun hQ=>?_)
 ·clear H
  rintro _ w6 ⟨q1,rfl,H,gr6,k33,k34,k35,k36,k37,k38,k39⟩
  replace H:=hJ1 q1 H
  refine zf (za (zp rfl (fun b1=>?_) (fun b1=>?_)))
  ·replace H:=H.1 (b1)
   exact zd (zb (yp (h:=(zf (za (zq (zh (zw rfl rfl ⟨gr6,(0:Int),c0,c_L,b0,d7,f6,e2,e7,d8,d6,d9,d4,c6,c3,a5,d5,rfl,k37,k36,(InP.mem (List.Mem.tail _ (List.Mem.head _))),k35,k34,k33,(InP.mem (List.Mem.tail _ (List.Mem.tail _ (List.Mem.tail _ (List.Mem.tail _ (List.Mem.head _)))))),hdj0_1,hdj0_2,hdj0_3,hdj0_4,hdj1_2,hdj1_3,hdj1_4,hdj2_3,hdj2_4,hdj3_4,H⟩))))))))
  ·replace H:=H.2 (b1)
   refine zo (za (zd (zb (zg rfl (zQ (vs:=(a32 k)) qY k38 rfl rfl rfl rfl) (zg rfl (zQ (vs:=(a32 out)) qY k39 rfl rfl rfl rfl) (zg rfl (z6 (us:=(a32 k++a32 out)) zero104 places104 rfl rfl) (WL.alloc rfl zero104 (fun g4 w7 hB5 hg6 hl4=>zP (vs:=(a32 k++a32 out)) qY rfl rfl rfl (all1a (jq _) (jq _)) hB5 rfl rfl (fun w8 hB6 hg7=>?_)))))))))
   have gr8:GrL [(some g_c),(blk b0),(some c9),(some a9),(blk a5)] w w8:=GrL.mod (GrL.add0 gr6 hg6) hg7 (InP.ge (Ge.le (Ge.box hl4) (GrL.sizeL gr6)))
   have k49:=(k37.g0 hg6).go hg7 (Dj.new k37.lt' (Ge.box hl4))
   refine zf (za (zd (zO (fun k => !(Nat.beq k 9 || Nat.beq k 10)) (LD [3,7,8] (fun w'=>Bl w' g_c 66 [.pointer (some ⟨c9,0,none⟩),vs c0,.slice b0 c_L.length d7]/\Bl w' g4 104 (a32 k++a32 out))) mixed (by kernel_rfl) (fun k w' h _=>⟨(ji h k49),(ji h hB6)⟩) (zl rfl rfl (fun w' hw'=>zc qY rfl) (zl rfl rfl (fun w' hw'=>zc qY rfl) (zl rfl rfl (fun w' hw'=>zc qY rfl) (zl rfl rfl (fun w' hw'=>zk qY (hw' rfl).1 rfl rfl rfl) (zl rfl rfl (fun w' hw'=>zc qY rfl) (zl rfl rfl (fun w' hw'=>zc qY rfl) (zl rfl rfl (fun w' hw'=>zc qY rfl) (zl rfl rfl (fun w' hw'=>zk qY (hw' rfl).1 rfl rfl rfl) (zl rfl rfl (fun w' hw'=>zQ (vs:=(a32 k++a32 out)) qY (hw' rfl).2 rfl rfl rfl rfl) (WJ.call rfl (je) rfl rfl (W_smithyref17_Record H) (fun v w' h w2 e=>DD.keep (⟨(Bl.g0 k49 (jg h.1 e)),(Bl.g0 hB6 (jg h.1 e))⟩)) ?_)))))))))))))
   rintro _ w9 ⟨hg8,t35,rfl,H⟩
   have gr9:=GrL.add0 gr8 hg8
   have k53:=((k36.grown hg6).go hg7 (Dj.new k36.lt' (Ge.box hl4))).grown hg8
   have k54:=k49.g0 hg8
   refine WJ.call rfl je rfl rfl (Zg (((k33.grown hg6).go hg7 (Dj.new k33.lt' (Ge.box hl4))).grown hg8) rfl (((k34.g0 hg6).go hg7 (Dj.new k34.lt' (Ge.box hl4))).g0 hg8) (((k35.g0 hg6).go hg7 (Dj.new k35.lt' (Ge.box hl4))).g0 hg8) hdj2_3 hdj2_4 hdj3_4 H) (fun v w' h w2 e=>qf (by kernel_rfl)) ?_
   rintro _ w10 ⟨hgl1,bad,p3,o1,o2,m9,l5,l6,l7,l8,i0,g6,m1,rfl,hB7,hB8,hO1,hi1,dj1,dj2,dj3,H⟩
   have hi2:InP [(some g_c),(blk b0),(some c9),(some a9),(blk a5)] w.heap.size (blk g6):=InP.trans hi1 (apC (InP.mem (List.Mem.tail _ (List.Mem.tail _ (List.Mem.head _)))) (apC (InP.mem (List.Mem.tail _ (List.Mem.tail _ (List.Mem.tail _ (List.Mem.head _))))) (apC (InP.mem (List.Mem.tail _ (List.Mem.tail _ (List.Mem.tail _ (List.Mem.tail _ (List.Mem.head _)))))) apN))) (GrL.sizeL gr9)
   have gr10:GrL [(some g_c),(blk b0),(some c9),(some a9),(blk a5)] w w10:=GrL.modL gr9 hgl1 (apC (InP.mem (List.Mem.tail _ (List.Mem.tail _ (List.Mem.head _)))) (apC (InP.mem (List.Mem.tail _ (List.Mem.tail _ (List.Mem.tail _ (List.Mem.head _))))) (apC (InP.mem (List.Mem.tail _ (List.Mem.tail _ (List.Mem.tail _ (List.Mem.tail _ (List.Mem.head _)))))) apN)))
   have k56:=k53.goL hgl1 (apC hdj1_2 (apC hdj1_3 (apC hdj1_4 apN)))
   have k57:=k54.goL hgl1 (apC hdj0_2 (apC hdj0_3 (apC hdj0_4 apN)))
   refine zl rfl rfl (fun w' hw'=>zc qY rfl) (z8 (za (zd ?_)))
   obtain ⟨J2,H,hJ2⟩:=H
   refine qd (fun L' w'=>∃ (c1:List UInt8),∃ (c2:List (List UInt8 × List UInt8)),∃ (f1:Option Addr),∃ (i3:Nat),∃ (n6:Nat),L'=[(10,.int .i64 bad)]/\J2 c1 c2/\n6=c2.length/\GrL [(some g_c),(blk b0),(some c9),(some a9),(blk a5)] w w'/\Bl w' a9 89 [vs m9,.bool l5,vs l6,.bool l7,vs l8,.slice g6 i0.length m1]/\Bl w' c9 73 [.slice (some ⟨a9,0,none⟩) 1 1,.int .i64 p3,.int .i64 o1,.bool o2]/\Bl w' g_c 66 [.pointer (some ⟨c9,0,none⟩),vs c1,.slice f1 n6 i3]/\OwnK 3 jw w' 0 127 g6 m1 i0/\OwnK 64 jv w' 0 104 f1 i3 c2/\Dj (some a9) (blk f1)/\Dj (some c9) (blk f1)/\Dj (some g_c) (blk f1)/\Dj (blk g6) (blk f1)/\InP [(some g_c),(blk b0),(some c9),(some a9),(blk a5)] w.heap.size (blk f1)) ?_ (fun hQ=>?_)
   ·clear H
    rintro _ w11 ⟨c1,c2,f1,i3,n6,rfl,H,rfl,gr11,k59,k60,k61,k62,k63,dj4,dj5,dj6,dj7,hi3⟩
    replace H:=hJ2 c1 c2 H
    exact za (zd (zb (yp (h:=(yp (h:=(zf (za (zq (zw rfl rfl ⟨gr11,bad,c1,c2,f1,i3,p3,o1,o2,m9,l5,l6,l7,l8,i0,g6,m1,rfl,k61,k63,hi3,k60,k59,k62,hi2,dj6,hdj0_2,hdj0_3,(InP.dj hi1 k54.lt' (apC hdj0_2 (apC hdj0_3 (apC hdj0_4 apN)))).symm,dj5.symm,dj4.symm,dj7.symm,dj1,dj2,dj3,H⟩))))))))))
   ·clear hJ2
    refine zd (zb (yp (h:=(yp (h:=(zf (za (zp rfl (fun b2=>?_) (fun b2=>?_)))))))))
    ·replace H:=H.1 (of_decide_eq_true b2)
     refine zb (yp (h:=(zg rfl (zQ (vs:=(a32 k++a32 out)) qY ((hB6.g0 hg8).goL hgl1 (apC (Dj.new k35.lt' (Ge.box hl4)).symm (apC (Dj.new k34.lt' (Ge.box hl4)).symm (apC (Dj.new k33.lt' (Ge.box hl4)).symm apN)))) rfl rfl rfl rfl) (WL.call rfl rfl (ZA rfl k56 rfl k57 hdj0_1 H) ?_))))
     rintro _ w12 ⟨hgl2,c_,c_2,r7,s3,rfl,hB9,hO2,hi4,dj8,H⟩
     have hi5:InP [(some g_c),(blk b0),(some c9),(some a9),(blk a5)] w.heap.size (blk r7):=InP.trans hi4 (apC (InP.mem (List.Mem.head _)) (apC (InP.mem (List.Mem.tail _ (List.Mem.head _))) apN)) (GrL.sizeL gr10)
     have gr12:GrL [(some g_c),(blk b0),(some c9),(some a9),(blk a5)] w w12:=GrL.modL gr10 hgl2 (apC (InP.mem (List.Mem.head _)) (apC (InP.mem (List.Mem.tail _ (List.Mem.head _))) apN))
     exact zf (WX.weaken sb (hQ _ _ ⟨c_,c_2,r7,s3,c_2.length,rfl,H,rfl,gr12,(hB8.goL hgl2 (apC hdj0_3.symm (apC hdj1_3.symm apN))),(hB7.goL hgl2 (apC hdj0_2.symm (apC hdj1_2.symm apN))),hB9,(hO1.goL hgl2 (apC (InP.dj hi1 k54.lt' (apC hdj0_2 (apC hdj0_3 (apC hdj0_4 apN)))) (apC (InP.dj hi1 k53.lt' (apC hdj1_2 (apC hdj1_3 (apC hdj1_4 apN)))) apN))),hO2,(InP.dj hi4 hB8.lt' (apC hdj0_3.symm (apC hdj1_3.symm apN))).symm,(InP.dj hi4 hB7.lt' (apC hdj0_2.symm (apC hdj1_2.symm apN))).symm,dj8,(InP.dj hi4 hO1.lt' (apC (InP.dj hi1 k54.lt' (apC hdj0_2 (apC hdj0_3 (apC hdj0_4 apN)))) (apC (InP.dj hi1 k53.lt' (apC hdj1_2 (apC hdj1_3 (apC hdj1_4 apN)))) apN))).symm,hi5⟩))
    ·replace H:=H.2 (of_decide_eq_false b2)
     exact zo (WX.weaken sb (hQ _ _ ⟨c0,c_L,b0,d7,c_L.length,rfl,H,rfl,gr10,hB8,hB7,k57,hO1,k56,hdj1_3.symm,hdj1_2.symm,hdj0_1,(InP.dj hi1 k53.lt' (apC hdj1_2 (apC hdj1_3 (apC hdj1_4 apN)))),(InP.mem (List.Mem.tail _ (List.Mem.head _)))⟩))
 ·clear hJ1
  rcases Bool.eq_false_or_eq_true (t141) with b3 | b3
  ·replace H:=H.1 b3
   refine ze rfl rfl (okb b3) rfl (zQ (vs:=(a32 t140)) qY hB4 rfl rfl rfl rfl) (ze rfl rfl (okb b3) rfl (zQ (vs:=(a32 out)) qY k32 rfl rfl rfl rfl) (qN (jb rfl rfl (okb b3)) rfl rfl (jN H) ?_))
   rintro _ w13 ⟨hg9,t21,rfl,H⟩
   exact zg rfl (zt (okb b3) rfl) (wk (hQ _ _ ⟨t21,rfl,H,(GrL.add0 gr5 hg9),(k26.grown hg9),(k27.g0 hg9),(k28.g0 hg9),(k29.grown hg9),(k30.g0 hg9),(k31.g0 hg9),(k32.g0 hg9)⟩))
  ·replace H:=H.2 b3
   exact gn b3 (h:=(gn b3 (h:=(gn b3 (h:=(zg rfl (zr (okb b3) rfl) (wk (hQ _ _ ⟨false,rfl,H,gr5,k26,k27,k28,k29,k30,k31,k32⟩))))))))
set_option maxHeartbeats 8000000 in
theorem W_psmithyref17_Cache_Entries {w:World} {g_c:Nat} {v_c_D:Value} {c0:List UInt8} {c_L:List (List UInt8 × List UInt8)} {b0:Option Addr} {d7:Nat} {g8:Nat} {K:(List (List UInt8 × List UInt8))->Prop} (one_c_D:v_c_D.oneCell'=true) (hc_L:RdK 64 jv w b0 d7 c_L) (h0:g8=c_L.length) (hc:Bl w g_c 66 [v_c_D,vs c0,.slice b0 g8 d7]) (H:jP c0 c_L K):Fn Tryz.prog 30 ⟨[.pointer (some ⟨g_c,0,none⟩)]⟩ w (fun v w'=>w.grownBy w' none/\∃ (r:List (List UInt8 × List UInt8)),∃ (A_r:Option Addr),∃ (c_r:Nat),v=.slice A_r r.length c_r/\OwnK 64 jv w' w.heap.size 104 A_r c_r r/\K r):=by
 subst h0
 unfold jP at H
 refine Fn.enter (by kernel_rfl) Tryz.func30 rfl Tryz.ntmps30 rfl ?_
 replace H:=H (Nat.le_trans hc_L.cap hc_L.max)
 refine zd (zb (yp (h:=(zf (za (zd (zb (yp (h:=(zf (za (zd (zd (zb (yp (h:=(zf (za (WC.block ?_)))))))))))))))))))
 obtain ⟨I1,mu1,e1,HR1⟩:=H
 refine zW (fun n' L' w'=>∃ (out:List (List UInt8 × List UInt8)),∃ (e6:Option Addr),∃ (e9:Nat),∃ (m4:Nat),∃ (i:Int),n'=mu1 out i/\L'=[(0,.pointer (some ⟨g_c,0,none⟩)),(3,.slice e6 m4 e9),(4,.int .i64 i)]/\I1 out i/\m4=out.length/\w.grownBy w' none/\OwnK 64 jv w' w.heap.size 104 e6 e9 out) _ _ ⟨[],none,0,0,(0:Int),rfl,rfl,e1,rfl,(jr _ _),(OwnK.nil Zi w w.heap.size 104)⟩ sb ?_
 clear e1
 rintro _ _ w1 ⟨out,e6,e9,m4,i,rfl,rfl,hI1,rfl,gr1,k1⟩
 have H:=HR1 out i hI1
 refine zd (zd (zb (yp (h:=(yp (h:=(yp (h:=(yp (h:=(zg rfl (zk qY (hc.g0 gr1) rfl rfl rfl) (yp (h:=(yp (h:=(zf (za (zp rfl (fun b1=>?_) (fun b1=>?_)))))))))))))))))))
 ·replace H:=H.1 (of_decide_eq_true b1)
  refine zo (za (zd (WC.block (zd (zb (yp (h:=(zf (za (zd (WC.block ?_)))))))))))
  obtain ⟨I2,mu2,r9,HR2⟩:=H
  refine zW (fun n' L' w'=>∃ (k:Int),n'=mu2 k/\L'=[(0,.pointer (some ⟨g_c,0,none⟩)),(3,.slice e6 out.length e9),(4,.int .i64 i),(5,.int .i64 k)]/\I2 k/\w.grownBy w' none/\OwnK 64 jv w' w.heap.size 104 e6 e9 out) _ _ ⟨(0:Int),rfl,rfl,r9,gr1,k1⟩ sb ?_
  clear r9
  rintro _ _ w2 ⟨k,rfl,rfl,hI2,gr2,k2⟩
  have H:=HR2 k hI2
  refine zd (zd (zO (fun k => !(Nat.beq k 10 || Nat.beq k 19)) (LD [9,14,18] (fun w'=>RdK 64 jv w' e6 e9 out/\Bl w' g_c 66 [v_c_D,vs c0,.slice b0 c_L.length d7]/\RdK 64 jv w' b0 d7 c_L)) mixed (by kernel_rfl) (fun k w' h _=>⟨(RdK.eqv h k2.rd),(ji h (hc.g0 gr2)),(RdK.eqv h (hc_L.grown gr2))⟩) (zl rfl rfl (fun w' hw'=>zc qY rfl) (zl rfl rfl (fun w' hw'=>zc qY rfl) (zl rfl rfl (fun w' hw'=>zc qY rfl) (zl rfl rfl (fun w' hw'=>zc qY rfl) (zl rfl rfl (fun w' hw'=>zc qY rfl) ?_)))))))
  obtain ⟨J1,H,hJ1⟩:=H
  refine qH 17 (fun L' w'=>∃ q1:Bool,L'=[(37,.bool q1),(0,.pointer (some ⟨g_c,0,none⟩)),(3,.slice e6 out.length e9),(4,.int .i64 i),(5,.int .i64 k)]/\J1 q1/\w.grownBy w' none/\OwnK 64 jv w' w.heap.size 104 e6 e9 out) ?_ (fun hQ=>?_)
  ·clear H
   rintro _ w3 ⟨q1,rfl,H,gr3,k3⟩
   replace H:=hJ1 q1 H
   refine z8 (za (zp rfl (fun b2=>?_) (fun b2=>?_)))
   ·replace H:=H.1 (b2)
    refine zo (za (WC.block (zb (yp (h:=?_)))))
    obtain ⟨h1,H⟩:=H
    exact zg rfl (Yld.add rfl rfl h1) (yp (h:=(zf (zi (zS _ ⟨k+(1:Int),rfl,rfl,H.1,gr3,k3⟩ sb H.2)))))
   ·replace H:=H.2 (b2)
    refine zD (zj (zj (zm (za (zd (zO (fun k => !(Nat.beq k 3 || Nat.beq k 7)) (LD [] (fun w'=>True)) mixed (by kernel_rfl) (fun k w' h _=>trivial) (zl rfl rfl (fun w' hw'=>zc qY rfl) (zl rfl rfl (fun w' hw'=>zc qY rfl) ?_))))))))
    obtain ⟨h2,H⟩:=H
    refine zl rfl rfl (fun w' hw'=>Yld.add rfl rfl h2) ?_
    obtain ⟨h3,H⟩:=H
    refine qr rfl (je) rfl (Eff.makeCK (f:=jv) (B:=w.heap.size) Zi ow64 rfl rfl h3.1 h3.2.1 h3.2.2 (qZ gr3)) (fun v w' ⟨_,_,h⟩=>DD.keep trivial) ?_
    rintro _ w4 ⟨rfl,hB1,hg1⟩
    obtain ⟨r8,hl1⟩:∃ g,g=w3.heap.size:=⟨_,rfl⟩
    rw [<-hl1] at hB1
    rw [<-hl1]
    have hO1:OwnK 64 jv w4 w.heap.size 104 (some ⟨r8,0,none⟩) (((out.length:Int)+(1:Int)).toNat) ([]:List (List UInt8 × List UInt8)):=hB1.base (fun g hg=>by cases hg; exact Nat.le_trans (qZ gr3) (Nat.le_of_eq hl1.symm))
    have gr4:=ja gr3 hg1
    have k4:=k3.grown hg1
    refine zl rfl rfl (fun w' hw'=>zc qY rfl) (zl rfl rfl (fun w' hw'=>zc qY rfl) ?_)
    obtain ⟨h4,H⟩:=H
    refine zl rfl rfl (fun w' hw'=>Yld.ocutYK qY k4.rd rfl rfl rfl rfl rfl h4.1 h4.2) ?_
    obtain ⟨h5,H⟩:=H
    refine qr rfl (je) rfl (qJ ow64 hO1 rfl rfl (k4.rd.take k.toNat) rfl rfl h5 (kF h5) (qZ gr4)) (fun v w' ⟨_,_,_,_,h,_⟩=>DD.keep trivial) ?_
    rintro _ w5 ⟨s2,s4,rfl,hO2,hg2,hk1⟩
    have gr5:=jk gr4 hg2 hO1.ge'
    refine zl rfl rfl (fun w' hw'=>zc qY rfl) (z8 (za (zd (zb (yp (h:=(yp (h:=(yp (h:=(yp (h:=(zg rfl (zk qY (hc.g0 gr5) rfl rfl rfl) (yp (h:=?_)))))))))))))))
    obtain ⟨h6,H⟩:=H
    refine zg rfl (qa qY (hc_L.grown gr5) rfl rfl rfl rfl h6.1 h6.2) (zg rfl (qt ([],[]) qY (hc_L.grown gr5) rfl rfl (iltN h6 rfl)) (qO (f:=jv) ([((c_L.getD i.toNat ([],[])).1,(c_L.getD i.toNat ([],[])).2)]:List (List UInt8 × List UInt8)) Zi rfl ow64 rfl rfl rfl (fun g1 w6 hB2 hg3 hl2=>?_)))
    have hO3:OwnK 64 jv w6 w.heap.size 104 (some ⟨g1,0,none⟩) 1 ([((c_L.getD i.toNat ([],[])).1,(c_L.getD i.toNat ([],[])).2)]:List (List UInt8 × List UInt8)):=OwnK.ofBl Zi hB2 (Nat.le_trans (qZ gr5) hl2) (by simp [maxLen]) rfl
    have gr6:=ja gr5 hg3
    have k7:=hO2.grown hg3
    obtain ⟨h7,H⟩:=H
    refine qL rfl ow64 k7 rfl rfl hO3.rd rfl rfl h7 (kF h7) (qZ gr6) (fun s0 s1 w7 hO4 hg4 hk2=>?_)
    have gr7:=jk gr6 hg4 k7.ge'
    refine yp (h:=(zf (za (zb (yp (h:=(yp (h:=(yp (h:=?_))))))))))
    obtain ⟨h8,H⟩:=H
    refine WL.cutFK qY (((k4.go hg2 (Dj.new k3.lt' (Ge.box (Nat.le_of_eq hl1.symm)))).grown hg3).go hg4 ((Dj.app (Dj.new k3.lt' (Ge.box (Nat.le_of_eq hl1.symm))).symm k4.lt' hk1).symm)).rd rfl rfl rfl rfl rfl h8.1 h8.2.1 (fun s7 s8 hR1 hb1=>?_)
    obtain ⟨h9,H⟩:=H
    refine qL rfl ow64 hO4 rfl rfl hR1 rfl rfl h9 (kF h9) (qZ gr7) (fun i5 i7 w8 hO5 hg5 hk3=>yp (h:=(zf (zi (za (zb (yp (h:=?_))))))))
    obtain ⟨h10,H⟩:=H
    exact zg rfl (Yld.add rfl rfl h10) (yp (h:=(zf (zS _ ⟨((([]:List (List UInt8 × List UInt8))++(out.take k.toNat))++([((c_L.getD i.toNat ([],[])).1,(c_L.getD i.toNat ([],[])).2)]:List (List UInt8 × List UInt8)))++(out.drop k.toNat),i5,i7,(((([]:List (List UInt8 × List UInt8))++(out.take k.toNat))++([((c_L.getD i.toNat ([],[])).1,(c_L.getD i.toNat ([],[])).2)]:List (List UInt8 × List UInt8)))++(out.drop k.toNat)).length,i+(1:Int),rfl,rfl,H.1,rfl,(jk gr7 hg5 hO4.ge'),hO5⟩ sb H.2))))
  ·clear hJ1
   rcases Bool.eq_false_or_eq_true (decide (k<(out.length:Int))) with b3 | b3
   ·replace H:=H.1 b3
    refine zY rfl (jb rfl rfl (okb b3)) rfl (fun w' hw'=>zc qY rfl) (zY rfl (jb rfl rfl (okb b3)) rfl (fun w' hw'=>zc qY rfl) ?_)
    obtain ⟨h11,H⟩:=H
    refine zY rfl (jb rfl rfl (okb b3)) rfl (fun w' hw'=>qa qY k2.rd rfl rfl rfl rfl h11.1 h11.2) (zY rfl (jb rfl rfl (okb b3)) rfl (fun w' hw'=>qk qY k2.rd (iltN h11 rfl) rfl rfl rfl) (zY rfl (jb rfl rfl (okb b3)) rfl (fun w' hw'=>qA (vs:=(a32 ((out.getD k.toNat ([],[])).1))) ([],[]) qY (hw' rfl).1 rfl rfl (iltN h11 rfl) rfl rfl) (WJ.call rfl (jb rfl rfl (okb b3)) rfl rfl (j7 H) (fun v w' h w2 e=>DD.keep (⟨(RdK.grown k2.rd (jg h.1 e)),(Bl.g0 (hc.g0 gr2) (jg h.1 e)),(RdK.grown (hc_L.grown gr2) (jg h.1 e))⟩)) ?_)))
    rintro _ w9 ⟨hg6,t26,rfl,H⟩
    have gr9:=ja gr2 hg6
    have k9:=k2.grown hg6
    refine zY rfl (jb rfl rfl (okb b3)) rfl (fun w' hw'=>zc qY rfl) (zY rfl (jb rfl rfl (okb b3)) rfl (fun w' hw'=>zc qY rfl) (zY rfl (jb rfl rfl (okb b3)) rfl (fun w' hw'=>zc qY rfl) (zY rfl (jb rfl rfl (okb b3)) rfl (fun w' hw'=>zk qY (hw' rfl).2.1 rfl rfl rfl) (zY rfl (jb rfl rfl (okb b3)) rfl (fun w' hw'=>zc qY rfl) ?_))))
    obtain ⟨h12,H⟩:=H
    refine zY rfl (jb rfl rfl (okb b3)) rfl (fun w' hw'=>qa qY (hc_L.grown gr9) rfl rfl rfl rfl h12.1 h12.2) (zY rfl (jb rfl rfl (okb b3)) rfl (fun w' hw'=>qk qY (hc_L.grown gr9) (iltN h12 rfl) rfl rfl rfl) (zY rfl (jb rfl rfl (okb b3)) rfl (fun w' hw'=>qA (vs:=(a32 ((c_L.getD i.toNat ([],[])).1))) ([],[]) qY (hw' rfl).2.2 rfl rfl (iltN h12 rfl) rfl rfl) (WJ.call rfl (jb rfl rfl (okb b3)) rfl rfl (j7 H) (fun v w' h w2 e=>DD.keep (⟨(RdK.grown k9.rd (jg h.1 e)),(Bl.g0 (hc.g0 gr9) (jg h.1 e)),(RdK.grown (hc_L.grown gr9) (jg h.1 e))⟩)) ?_)))
    rintro _ w10 ⟨hg7,t35,rfl,H⟩
    exact zY rfl (jb rfl rfl (okb b3)) rfl (fun w' hw'=>zc qY rfl) (zl rfl rfl (fun w' hw'=>zt (okb b3) rfl) (WJ.weaken sb (hQ _ _ ⟨Op.bytesLess t26 t35,rfl,H,(ja gr9 hg7),(k9.grown hg7)⟩)))
   ·replace H:=H.2 b3
    exact zX rfl rfl (okb b3) rfl (zX rfl rfl (okb b3) rfl (zX rfl rfl (okb b3) rfl (zX rfl rfl (okb b3) rfl (zX rfl rfl (okb b3) rfl (zX rfl rfl (okb b3) rfl (zX rfl rfl (okb b3) rfl (zX rfl rfl (okb b3) rfl (zX rfl rfl (okb b3) rfl (zX rfl rfl (okb b3) rfl (zX rfl rfl (okb b3) rfl (zX rfl rfl (okb b3) rfl (zX rfl rfl (okb b3) rfl (zX rfl rfl (okb b3) rfl (zX rfl rfl (okb b3) rfl (zX rfl rfl (okb b3) rfl (zl rfl rfl (fun w' hw'=>zr (okb b3) rfl) (WJ.weaken sb (hQ _ _ ⟨false,rfl,H,gr2,k2⟩))))))))))))))))))
 ·replace H:=H.2 (of_decide_eq_false b1)
  exact zD (zj (zj (zm (za (zd (zb (yp (h:=(yp (h:=(zf (za (zq (zw rfl rfl ⟨gr1,out,e6,e9,rfl,k1,H⟩))))))))))))))
set_option maxHeartbeats 8000000 in
theorem W_smithyref_SameFile {w:World} {a_Path:List UInt8} {a_Text:List UInt8} {b_Path:List UInt8} {b_Text:List UInt8} {K:Bool->Prop} (H:kJ a_Path a_Text b_Path b_Text K):Fn Tryz.prog 65 ⟨[.agg ⟨[vs a_Path,vs a_Text]⟩,.agg ⟨[vs b_Path,vs b_Text]⟩]⟩ w (fun v w'=>w.grownBy w' none/\∃ (r:Bool),v=.bool r/\K r):=by
 unfold kJ at H
 refine Fn.enter (by kernel_rfl) Tryz.func65 rfl Tryz.ntmps65 rfl ?_
 refine zd (zb (qm (us:=[vs a_Path,vs a_Text]) rfl rfl rfl (fun g1 w1 hB1 hg1 hl1=>qm (us:=[vs b_Path,vs b_Text]) rfl rfl rfl (fun g2 w2 hB2 hg2 hl2=>?_))))
 have k1:=hB1.g0 hg2
 refine yp (h:=(zf (za (zd (zb (yp (h:=(zg rfl (zk qY k1 rfl rfl rfl) (yp (h:=(zg rfl (zk qY hB2 rfl rfl rfl) (yp (h:=(yp (h:=(zL 6 (fun L' w'=>∃ q1:Bool,L'=[(16,.bool q1)]/\((decide (a_Path=b_Path)) && (decide (a_Text=b_Text)))=q1/\w2=w') ?_ (fun hQ=>?_)))))))))))))))))
 ·rintro _ _ ⟨q1,rfl,rfl,rfl⟩
  exact yp (h:=(zf (za (zq (zw rfl rfl ⟨(ja hg1 hg2),(decide (a_Path=b_Path)) && (decide (a_Text=b_Text)),rfl,H⟩)))))
 ·clear H
  rcases Bool.eq_false_or_eq_true (decide (a_Path=b_Path)) with b1 | b1
  ·exact gp b1 (h:=(ze rfl rfl (okb b1) rfl (zk qY k1 rfl rfl rfl) (gp b1 (h:=(ze rfl rfl (okb b1) rfl (zk qY hB2 rfl rfl rfl) (gp b1 (h:=(zg rfl (zt (okb b1) rfl) (wk (hQ _ _ ⟨decide (a_Text=b_Text),rfl,by rw [b1] <;> rfl,rfl⟩))))))))))
  ·exact gn b1 (h:=(gn b1 (h:=(gn b1 (h:=(gn b1 (h:=(gn b1 (h:=(zg rfl (zr (okb b1) rfl) (wk (hQ _ _ ⟨false,rfl,by rw [b1] <;> rfl,rfl⟩))))))))))))
set_option maxHeartbeats 8000000 in
theorem W_smithyref_SameFiles {w:World} {a:List (List UInt8 × List UInt8)} {A_a:Option Addr} {c_a:Nat} {b:List (List UInt8 × List UInt8)} {A_b:Option Addr} {c_b:Nat} {n_a:Nat} {n_b:Nat} {K:Bool->Prop} (ha:RdK 2 enc30 w A_a c_a a) (s5:n_a=a.length) (hb:RdK 2 enc30 w A_b c_b b) (s6:n_b=b.length) (H:kC a b K):Fn Tryz.prog 33 ⟨[.slice A_a n_a c_a,.slice A_b n_b c_b]⟩ w (fun v w'=>w.grownBy w' none/\∃ (r:Bool),v=.bool r/\K r):=by
 subst s5
 subst s6
 unfold kC at H
 refine Fn.enter (by kernel_rfl) Tryz.func33 rfl Tryz.ntmps33 rfl ?_
 replace H:=H (Nat.le_trans ha.cap ha.max)
 replace H:=H (Nat.le_trans hb.cap hb.max)
 refine zd (zb (yp (h:=(zf (za (zd (zd (zb (yp (h:=(yp (h:=(yp (h:=(yp (h:=(yp (h:=(zf (za (zp rfl (fun b1=>?_) (fun b1=>?_))))))))))))))))))))))
 ·replace H:=H.1 (Zp b1)
  exact zd (zb (yp (h:=(zf (za (zq (zh (zw rfl rfl ⟨(jr _ _),false,rfl,H⟩))))))))
 ·replace H:=H.2 (kL b1)
  refine zo (za (zd (zd (zb (yp (h:=(zf (za (WC.block ?_)))))))))
  obtain ⟨I1,mu1,e1,HR1⟩:=H
  refine zW (fun n' L' w'=>∃ (i:Int),n'=mu1 i/\L'=[(0,.slice A_a a.length c_a),(1,.slice A_b b.length c_b),(5,.int .i64 i)]/\I1 i/\w.grownBy w' none) _ _ ⟨(0:Int),rfl,rfl,e1,(jr _ _)⟩ sb ?_
  clear e1
  rintro _ _ w1 ⟨i,rfl,rfl,hI1,gr1⟩
  have H:=HR1 i hI1
  refine zd (zd (zb (yp (h:=(yp (h:=(yp (h:=(yp (h:=(zf (za (zp rfl (fun b2=>?_) (fun b2=>?_))))))))))))))
  ·replace H:=H.1 (of_decide_eq_true b2)
   refine zo (za (zd (WC.block (zd (zO (fun k => !(Nat.beq k 8)) (LD [3,7] (fun w'=>RdK 2 enc30 w' A_a c_a a/\RdK 2 enc30 w' A_b c_b b)) mixed (by kernel_rfl) (fun k w' h _=>⟨(RdK.eqv h (ha.grown gr1)),(RdK.eqv h (hb.grown gr1))⟩) (zl rfl rfl (fun w' hw'=>zc qY rfl) (zl rfl rfl (fun w' hw'=>zc qY rfl) ?_)))))))
   obtain ⟨h1,H⟩:=H
   refine zl rfl rfl (fun w' hw'=>qa qY (ha.grown gr1) rfl rfl rfl rfl h1.1 h1.2) (zl rfl rfl (fun w' hw'=>qt ([],[]) qY (hw' rfl).1 rfl rfl (iltN h1 rfl)) (zl rfl rfl (fun w' hw'=>zc qY rfl) (zl rfl rfl (fun w' hw'=>zc qY rfl) ?_)))
   obtain ⟨h2,H⟩:=H
   refine zl rfl rfl (fun w' hw'=>qa qY (hb.grown gr1) rfl rfl rfl rfl h2.1 h2.2) (zl rfl rfl (fun w' hw'=>qt ([],[]) qY (hw' rfl).2 rfl rfl (iltN h2 rfl)) (WJ.call rfl (je) rfl rfl (W_smithyref_SameFile H) (fun v w' h w2 e=>DD.keep (⟨(RdK.grown (ha.grown gr1) (jg h.1 e)),(RdK.grown (hb.grown gr1) (jg h.1 e))⟩)) ?_))
   rintro _ w2 ⟨hg1,same,rfl,H⟩
   have gr2:=ja gr1 hg1
   refine zl rfl rfl (fun w' hw'=>zc qY rfl) (z8 (za (zd (zb (yp (h:=(yp (h:=(zf (za (zp rfl (fun b3=>?_) (fun b3=>?_))))))))))))
   ·replace H:=H.1 (b3)
    exact zd (zb (yp (h:=(zf (za (zq (zn (zh (zh (zn (zh (zw rfl rfl ⟨gr2,false,rfl,H⟩))))))))))))
   ·replace H:=H.2 (b3)
    refine zo (zi (za (zb (yp (h:=?_)))))
    obtain ⟨h3,H⟩:=H
    exact zg rfl (Yld.add rfl rfl h3) (yp (h:=(zf (zS _ ⟨i+(1:Int),rfl,rfl,H.1,gr2⟩ sb H.2))))
  ·replace H:=H.2 (of_decide_eq_false b2)
   exact zD (zj (zj (zm (za (zd (zb (yp (h:=(zf (za (zq (zw rfl rfl ⟨gr1,true,rfl,H⟩))))))))))))
end
 
section
open Go Go.RowKit
attribute [local irreducible] shaS manyS hexS recP
abbrev LCh:=List Ch
theorem rvalidC_M {p:List UInt8} {K:Bool->Prop} (hp:p.length<=3999999999) (h:K (jY p)):j4 p K :=
 rclean_M (by omega) (kr (by rw [valid_is]; exact h))
def jB (ro ra:Int) (rd:Bool):Bool × Int × Int × Bool :=
 if rd then (false,ro,ra,true) else if ra=0 then (false,ro+1,ra,true) else (true,ro+1,if 0<ra then ra - 1 else ra,false)
section
variable {p tx sx:List UInt8} {th sy:Bool} {q:LCh} {ro ra:Int} {rd:Bool}
theorem rcall_M {K:Bool->Int->Int->Bool->List UInt8->Bool->List UInt8->Bool->List UInt8->LCh->Prop} (h0:0<=ro) (h1:ro<=1000000) (h2 : -1<=ra) (h3:ra<=1000)
  (h:K (jB ro ra rd).1 (jB ro ra rd).2.1 (jB ro ra rd).2.2.1 (jB ro ra rd).2.2.2 p th tx sy sx q):jG p th tx sy sx q ro ra rd K:=by
 intro _
 unfold jB at h
 refine ⟨fun hd=>?_,fun hd=>⟨by simp only [In]; omega,fun ha=>?_,fun ha=>⟨fun a=>a=if 0<ra then ra - 1 else ra,⟨fun hp=>⟨by simp only [In]; omega,by rw [if_pos hp]⟩,fun hp=>by rw [if_neg hp]⟩,fun a e=>?_⟩⟩⟩
 ·rw [if_pos hd] at h; rw [hd]; exact h
 ·rw [if_neg (by rw [hd]; simp),if_pos ha] at h; exact h
 ·rw [if_neg (by rw [hd]; simp),if_neg ha] at h
  rw [e,hd]; exact h
theorem find_M {K:Int->Prop} (h:K 0):jH p th tx sy sx q ro ra rd p K:=fun _ =>
 ⟨fun i=>i=0,fun _=>0,rfl,fun i e=>by
  subst e
  exact ⟨fun _=>⟨rfl,fun _=>h,fun hne=>absurd rfl hne⟩,fun hge=>absurd (by omega:(0:Int)<1) hge⟩⟩
theorem entry_M {K:Int->Prop} (h:K 0):j8 p th tx sy sx q ro ra rd p K:=fun _ =>
 ⟨fun i=>i=0,fun _=>0,rfl,fun i e=>by
  subst e
  refine ⟨fun _=>rfl,fun hb=>?_,fun _=>⟨fun _=>rfl,fun _=>h,fun hb=>?_⟩⟩
  ·rw [Bool.and_eq_true,bytesLess_lt,decide_eq_true_eq] at hb
   exact absurd (of_decide_eq_true hb.2:p<p) (List.lt_irrefl _)
  ·simp at hb⟩
theorem rread_M {K:List UInt8->Bool->Int->Int->Int->Bool->List UInt8->Bool->List UInt8->Bool->List UInt8->LCh->Prop} (h0:0<=ro) (h1:ro<=1000000) (h2 : -1<=ra) (h3:ra<=1000)
  (hno:(jB ro ra rd).1=false->K [] false 116 (jB ro ra rd).2.1 (jB ro ra rd).2.2.1 (jB ro ra rd).2.2.2 p true tx sy sx q)
  (hok:(jB ro ra rd).1=true->K tx true 0 (jB ro ra rd).2.1 (jB ro ra rd).2.2.1 (jB ro ra rd).2.2.2 p true tx sy sx q):kf p true tx sy sx q ro ra rd p K:=by
 intro _
 refine rcall_M h0 h1 h2 h3 ⟨fun h=>hno (by simpa using h),fun h=>find_M ⟨fun _=>rfl,fun hb=>(by simp at hb),fun _=>⟨rfl,hok (by simpa using h)⟩⟩⟩
def rold (b:Bool) (tx:List UInt8):List UInt8:=if b then tx else []
theorem rlay_M {text:List UInt8} {b:Bool} {K:Int->Int->Int->Bool->List UInt8->Bool->List UInt8->Bool->List UInt8->LCh->Prop} (hp:p.length<=1000) (hv:jY p=true) (h0:0<=ro) (h1:ro<=1000000) (h2 : -1<=ra) (h3:ra<=1000) (hl:(rold b tx).length+text.length<=65536) (hq:q.length<=10000)
  (hno:(jB ro ra rd).1=false->K 116 (jB ro ra rd).2.1 (jB ro ra rd).2.2.1 (jB ro ra rd).2.2.2 p true tx sy sx q)
  (hok:(jB ro ra rd).1=true->K 0 (jB ro ra rd).2.1 (jB ro ra rd).2.2.1 (jB ro ra rd).2.2.2 p true (rold b tx++text) sy sx (q++[(true,rold b tx++text,if b then (text.length:Int) else -1)])):jt p true tx sy sx q ro ra rd p text b K:=by
 intro _
 refine rcall_M h0 h1 h2 h3 ⟨fun h=>hno (by simpa using h),fun h=>find_M ⟨fun _=>rfl,fun old=>old=rold b tx,⟨fun hb=>⟨rfl,?_⟩,fun hb=>?_⟩,fun old e=>?_⟩⟩
 ·have:b=true:=by simpa using hb
  rw [this]; rfl
 ·have:b=false:=by simpa using hb
  rw [this]; rfl
 ·subst e
  refine rvalidC_M (by omega) ?_
  rw [hv]
  refine ⟨fun _=>by simp only [In]; omega,fun hb=>?_,fun _=>?_⟩
  ·rw [Bool.not_true,Bool.false_or,decide_eq_true_eq] at hb
   omega
  ·refine ⟨fun x=>x=false,⟨fun hb=>(by simp at hb),fun _=>rfl⟩,fun x e=>⟨fun hx=>(by rw [e] at hx; cases hx),fun _=>entry_M ⟨by omega,fun c=>c=if b then (text.length:Int) else -1,⟨fun hb=>by rw [hb]; rfl,fun hb=>by rw [hb]; rfl⟩,fun c e=>⟨rfl,rfl,rfl,?_,rfl,?_⟩⟩⟩⟩
   ·simp only [List.length_cons,List.length_nil]; omega
   ·rw [e]
    exact hok (by simpa using h)
theorem rsync_M {K:Int->Int->Int->Bool->List UInt8->Bool->List UInt8->Bool->List UInt8->LCh->Prop} (hp:p.length<=1000) (hv:jY p=true) (h0:0<=ro) (h1:ro<=1000000) (h2 : -1<=ra) (h3:ra<=1000)
  (hno:(jB ro ra rd).1=false->K 116 (jB ro ra rd).2.1 (jB ro ra rd).2.2.1 (jB ro ra rd).2.2.2 p true tx sy sx q)
  (hok:(jB ro ra rd).1=true->K 0 (jB ro ra rd).2.1 (jB ro ra rd).2.2.1 (jB ro ra rd).2.2.2 p true tx true tx []):jx p true tx sy sx q ro ra rd p K:=by
 intro _
 refine rcall_M h0 h1 h2 h3 ⟨fun h=>hno (by simpa using h),fun h=>rvalidC_M (by omega) (by
  rw [hv]
  exact ⟨fun hb=>(by simp at hb),fun _=>find_M ⟨fun a b c=>a=true/\b=tx/\c=[],⟨fun _=>⟨rfl,rfl,rfl,rfl,rfl,rfl,rfl,rfl⟩,fun hn=>absurd (Int.le_refl 0) hn⟩,fun a b c ⟨e1,e2,e3⟩=>by
   rw [e1,e2,e3]
   exact hok (by simpa using h)⟩⟩)⟩
theorem rdump_M {K:List (List UInt8 × List UInt8)->Prop} (h:K [(p,tx)]):ke p true tx sy sx q ro ra rd K:=fun _ =>
 ⟨fun o i=>i=0/\o=[]∨i=1/\o=[(p,tx)],fun _ i=>(1 - i).toNat,.inl ⟨rfl,rfl⟩,fun o i hi=>by
  rcases hi with ⟨rfl,rfl⟩ | ⟨rfl,rfl⟩
  ·refine ⟨fun _=>⟨fun m=>m=[(p,tx)],⟨rfl,fun _=>⟨rfl,rfl,by simp,rfl⟩,fun hb=>(by cases hb)⟩,fun m e=>⟨by simp only [In]; omega,.inr ⟨rfl,e⟩,by (try dsimp only); omega⟩⟩,fun hge=>absurd (by omega:(0:Int)<1) hge⟩
  ·exact ⟨fun hlt=>absurd hlt (by omega),fun _=>h⟩⟩
end
end
 
section
open Go Go.RowKit
attribute [local irreducible] shaS manyS hexS recP
theorem ChgR.mem:∀ {t0 s q t},ChgR t0 s q t->∀ r∈q,r.1=true /\ -1<=r.2.2/\r.2.2<=r.2.1.length
 | _,[],[],_,_,r,hr=>by cases hr
 | _,c :: s,r0 :: q,_,h,r,hr=>by
  rcases List.mem_cons.1 hr with rfl | hr
  ·rcases h.1 with ⟨_,h2⟩ | ⟨_,h2⟩
   ·rw [h2]
    refine ⟨rfl,?_,?_⟩
    ·dsimp only; omega
    ·dsimp only; rw [List.length_append]; omega
   ·rw [h2]
    refine ⟨rfl,?_,?_⟩
    ·dsimp only; omega
    ·dsimp only; omega
  ·exact ChgR.mem h.2 r hr
 | _,[],_ :: _,_,h,_,_=>h.elim
 | _,_ :: _,[],_,h,_,_=>h.elim
def rrX (cut keep:Int) (sx:List UInt8) (q:LCh):List UInt8:=rrC (max0 cut) q (min (max0 keep % 4).toNat q.length) (rrB sx q (min (max0 keep % 4).toNat q.length))
theorem max0_in {n:Int} (h:In .i64 n):0<=max0 n/\In .i64 (max0 n):=by
 unfold max0
 simp only [In] at *
 split <;> omega
theorem rrise_M {p tx sx:List UInt8} {s:List (Int × List UInt8)} {q:LCh} {ro ra:Int} {rd:Bool} {keep cut:Int} {K:Int->Int->Bool->List UInt8->Bool->List UInt8->Bool->List UInt8->LCh->Prop} (hc:ChgR sx s q tx) (hq:q.length<=10000) (hx:∀ r∈q,r.2.1.length<=1000000) (hk:In .i64 keep) (hcut:In .i64 cut)
  (h0:rd=false->K ro ra false p true tx true sx q) (h1:rd=true->K ro (-1) false p true (rrX cut keep sx q) true (rrX cut keep sx q) []):jR p true tx true sx q ro ra rd keep cut K:=by
 intro _
 refine ⟨fun hd=>?_,fun hd=>?_⟩
 ·have:rd=false:=by simpa using hd
  subst this
  exact h0 rfl
 ·have:rd=true:=by simpa using hd
  subst this
  have h1:=h1 rfl
  have hmem:=hc.mem
  obtain ⟨k0,k1⟩:=max0_in hk
  obtain ⟨c0,c1⟩:=max0_in hcut
  refine ⟨fun k=>k=max0 keep,⟨fun h=>by unfold max0; rw [if_pos h],fun h=>by unfold max0; rw [if_neg h]⟩,fun k e=>?_⟩
  subst e
  refine ⟨fun k=>k=max0 cut,⟨fun h=>by unfold max0; rw [if_pos h],fun h=>by unfold max0; rw [if_neg h]⟩,fun k e=>?_⟩
  subst e
  refine ⟨fun kp i a b c d e f=>i=0/\kp=max0 keep/\a=p/\b=true/\c=tx/\d=true/\e=sx/\f=q∨i=1/\a=p/\b=true/\c=rrX cut keep sx q/\d=true/\e=rrX cut keep sx q/\f=[],fun _ i _ _ _ _ _ _=>(1 - i).toNat,.inl ⟨rfl,rfl,rfl,rfl,rfl,rfl,rfl,rfl⟩,fun kp i a b c d e f hi=>?_⟩
  rcases hi with ⟨rfl,rfl,rfl,rfl,rfl,rfl,rfl,rfl⟩ | ⟨rfl,rfl,rfl,rfl,rfl,rfl,rfl⟩
  ·refine ⟨fun _=>?_,fun hge=>absurd (by omega:(0:Int)<1) hge⟩
   have hN:(if (f.length:Int)<(max0 keep % 4) then (f.length:Int) else max0 keep % 4)=((min (max0 keep % 4).toNat f.length:Nat):Int):=by split <;> omega
   have hX:rrX cut keep e f=rrC (max0 cut) f (min (max0 keep % 4).toNat f.length) (rrB e f (min (max0 keep % 4).toNat f.length)):=rfl
   have hnl:min (max0 keep % 4).toNat f.length<=f.length:=Nat.min_le_right _ _
   simp only [hN]
   generalize min (max0 keep % 4).toNat f.length=n at hX hnl |-
   have hmx:∀ m:Nat,m<f.length->(f.getD m (false,[],0)).1=true /\ -1<=(f.getD m (false,[],0)).2.2/\(f.getD m (false,[],0)).2.2<=(f.getD m (false,[],0)).2.1.length/\(f.getD m (false,[],0)).2.1.length<=1000000:=fun m hm=>by
    have hin:f.getD m (false,[],0)∈f:=getD_memH hm
    obtain ⟨g1,g2,g3⟩:=hmem _ hin
    exact ⟨g1,g2,g3,hx _ hin⟩
   refine ⟨fun _ b c d e' g=>b=true/\c=rrX cut keep e f/\d=true/\e'=rrX cut keep e f/\g=[],⟨(by trivial),fun hz=>?_,fun hz=>?_⟩,fun kp b' c' d' e' g ⟨h1',h2',h3',h4',h5'⟩=>⟨by simp only [In]; omega,.inr ⟨(by trivial),(by trivial),h1',h2',h3',h4',h5'⟩,by (try dsimp only); omega⟩⟩
   ·have hf:f=[]:=List.eq_nil_of_length_eq_zero (by omega)
    subst hf
    have e0:rrX cut keep e []=e:=by simp [rrX,rrC,rrB]
    rw [e0]
    cases s with
    | nil=>have hc:c=e:=hc; exact ⟨rfl,hc,rfl,rfl,rfl⟩
    | cons _ _=>exact hc.elim
   ·refine ⟨⟨k0,by omega⟩,⟨k0,by omega,k1⟩,fun b c=>b=true/\c=rrB e f n,⟨fun hp=>?_,fun hp=>⟨rfl,by unfold rrB; rw [if_neg (by omega)]⟩⟩,fun b c ⟨eb,ec⟩=>?_⟩
    ·have hm:=hmx (n - 1) (by omega)
     rw [show ((n:Int) - 1).toNat=n - 1 by omega]
     exact ⟨by simp only [In]; omega,⟨by omega,by omega⟩,by simp only [In]; omega,⟨by omega,by omega⟩,hm.1,by unfold rrB; rw [if_pos (by omega)]⟩
    ·subst eb; subst ec
     rw [Int.toNat_natCast]
     refine ⟨fun b c=>b=true/\c=rrX cut keep e f,⟨fun hb=>?_,fun hb=>?_,fun hb=>?_⟩,fun b c ⟨e1,e2⟩=>⟨e1,e2,e1,e2,rfl⟩⟩
     ·have hb:=of_decide_eq_true hb
      exact ⟨by omega,hb⟩
     ·rw [Bool.and_eq_true,decide_eq_true_eq,decide_eq_true_eq] at hb
      obtain ⟨m1,m2,m3,m4⟩:=hmx n (by omega)
      have hS:(if ((f.getD n (false,[],0)).2.2 - 1)<max0 cut then (f.getD n (false,[],0)).2.2 - 1 else max0 cut)=(if max0 cut<(f.getD n (false,[],0)).2.2 - 1 then max0 cut else (f.getD n (false,[],0)).2.2 - 1):=by split <;> split <;> omega
      rw [hS]
      generalize hSm:(if max0 cut<(f.getD n (false,[],0)).2.2 - 1 then max0 cut else (f.getD n (false,[],0)).2.2 - 1)=sm
      have hs1:sm<=(f.getD n (false,[],0)).2.2 - 1:=by rw [<-hSm]; split <;> omega
      refine ⟨⟨by omega,hb.1⟩,by simp only [In]; omega,fun hp=>⟨by simp only [In]; omega,by simp only [In]; omega,⟨by omega,by omega⟩,rfl,?_⟩,fun hp=>⟨rfl,?_⟩⟩
      ·rw [hX]; unfold rrC
       rw [hSm,if_pos ⟨by omega,hb.2,hp⟩]
      ·rw [hX]; unfold rrC
       rw [hSm,if_neg (by rintro ⟨_,_,g⟩; exact hp g)]
     ·refine ⟨rfl,?_⟩
      rw [hX]; unfold rrC
      rw [if_neg]
      rintro ⟨g1,g2,_⟩
      rw [Bool.and_eq_false_iff,decide_eq_false_iff_not,decide_eq_false_iff_not] at hb
      omega
  ·exact ⟨fun hlt=>absurd hlt (by omega),fun _=>h1⟩
theorem hexS_inj {a b:List UInt8} (ha:a.length=32) (hb:b.length=32) (h:hexS a=hexS b):a=b:=by
 have h1:=parS_hex a ha
 have h2:=parS_hex b hb
 rw [h,h2] at h1
 exact (Option.some.inj h1).symm
theorem sameK_M {a b:List UInt8} {K:Bool->Prop} (ha:a.length=32) (hb:b.length=32) (h:K (decide (a=b))):jl a b K:=by
 refine sameSum_M ha hb ?_
 have:decide (hexS a=hexS b)=decide (a=b):=by
  rw [Bool.eq_iff_iff,decide_eq_true_eq,decide_eq_true_eq]
  exact ⟨hexS_inj ha hb,fun e=>by rw [e]⟩
 rw [this]
 exact h
section
variable {p k o:List UInt8} {L:List Ent}
theorem mget_at {L:List Ent} {k:List UInt8} {j:Nat} (hu:Uq L) (hj:j<L.length) (e:(L.getD j ([],[])).1=k):mget L k=some (L.getD j ([],[])).2/\L[j]? = some (k,(L.getD j ([],[])).2):=by
 have e1:L.getD j ([],[])=L[j]:=by simp [List.getD,hj]
 rw [e1] at e |-
 have e2:L[j]=(k,L[j].2):=by rw [<-e]
 have hm:(k,L[j].2)∈L:=by rw [<-e2]; exact List.getElem_mem hj
 exact ⟨(mget_mem hu).2 hm,by rw [List.getElem?_eq_getElem hj,e2]⟩
theorem mget_nowhere {L:List Ent} {k:List UInt8} (h:∀ j,j<L.length->(L.getD j ([],[])).1≠k):mget L k=none:=mget_none.2 fun x hx e=>by
 obtain ⟨j,hj,rfl⟩:=List.getElem_of_mem hx
 exact h j hj (by simpa [List.getD,hj] using e)
theorem rset_M {K:List UInt8->List Ent->Prop} (ho:∀ e∈L,Ok32 e) (hu:Uq L) (hk:k.length=32) (hl:L.length<=1000000) (h:K p (mput L k o)):jE p L k o K:=by
 intro _
 refine ⟨fun i c=>c=L/\0<=i/\i<=L.length/\∀ j,j<i.toNat->(L.getD j ([],[])).1≠k,fun i _=>L.length - i.toNat,⟨rfl,by omega,by omega,fun j hj=>by simp at hj⟩,fun i c ⟨e,a0,a1,a2⟩=>?_⟩
 subst e
 refine ⟨fun hlt=>⟨⟨a0,hlt⟩,?_⟩,fun hge=>?_⟩
 ·have hi:i.toNat<c.length:=by omega
  have e1:c.getD i.toNat ([],[])=c[i.toNat]:=by simp [List.getD,hi]
  refine sameK_M (by rw [e1]; exact (ho _ (List.getElem_mem hi)).1) hk ⟨fun he=>⟨⟨a0,hlt⟩,?_⟩,fun hn=>⟨by simp only [In]; omega,⟨rfl,by omega,by omega,fun j hj=>?_⟩,by (try dsimp only); omega⟩⟩
  ·have he:=of_decide_eq_true he
   obtain ⟨_,h2⟩:=mget_at hu hi he
   rw [he,<-mput_set hu h2]
   exact h
  ·by_cases ej:j=i.toNat
   ·rw [ej]; exact of_decide_eq_false hn
   ·exact a2 j (by omega)
 ·refine ⟨by simp only [List.length_cons,List.length_nil]; omega,?_⟩
  rw [<-mput_new (mget_nowhere fun j hj=>a2 j (by omega))]
  exact h
theorem rget_M {K:List UInt8->Bool->Prop} (ho:∀ e∈L,Ok32 e) (hu:Uq L) (hk:k.length=32) (hl:L.length<=1000000) (h:K ((mget L k).getD (List.replicate 32 0)) (mget L k).isSome):jD p L k K:=by
 intro _
 refine ⟨fun i _=>0<=i/\i<=L.length/\∀ j,j<i.toNat->(L.getD j ([],[])).1≠k,fun i _=>L.length - i.toNat,⟨by omega,by omega,fun j hj=>by simp at hj⟩,fun i c ⟨a0,a1,a2⟩=>?_⟩
 refine ⟨fun hlt=>⟨⟨a0,hlt⟩,?_⟩,fun hge=>?_⟩
 ·have hi:i.toNat<L.length:=by omega
  have e1:L.getD i.toNat ([],[])=L[i.toNat]:=by simp [List.getD,hi]
  refine sameK_M (by rw [e1]; exact (ho _ (List.getElem_mem hi)).1) hk ⟨fun he=>⟨⟨a0,hlt⟩,?_⟩,fun hn=>⟨by simp only [In]; omega,⟨by omega,by omega,fun j hj=>?_⟩,by (try dsimp only); omega⟩⟩
  ·have he:=of_decide_eq_true he
   obtain ⟨h1,_⟩:=mget_at hu hi he
   rw [h1] at h
   exact h
  ·by_cases ej:j=i.toNat
   ·rw [ej]; exact of_decide_eq_false hn
   ·exact a2 j (by omega)
 ·rw [mget_nowhere fun j hj=>a2 j (by omega)] at h
  exact h
end
end
 
section
open Go Go.RowKit
set_option maxRecDepth 10000
attribute [local irreducible] shaS manyS hexS recP
abbrev JJ:List UInt8:=[106]
theorem jL:JJ.length<=1000000:=by simp
theorem jL2:JJ.length<=1000:=by simp
theorem vJ:jY JJ=true:=by decide +kernel
def f1 (tx sx:List UInt8) (s:List (Int × List UInt8)):DF:=[(JJ,(tx,true,sx,true,s))]
structure DR (n m:Nat) (fs:DF) (ops left:Int) (down:Bool) (pa:List UInt8) (th:Bool) (tx:List UInt8) (sy:Bool) (sx:List UInt8) (q:LCh) (ro ra:Int) (rd:Bool):Prop where
 ex:∃ s,fs=f1 tx sx s/\ChgR sx s q tx/\s.length<=m/\∀ c∈s,c.2.length<=2000+300*n
 ht:th=true
 hs:sy=true
 hp:pa=JJ
 or:ops=ro
 dr:down=rd
 lf:down=false->left=ra+1
 a0 : -1<=ra
 a1:ra<=100
 l0:0<=left
 l1:left<=101
 o0:0<=ops
 o1:ops<=m
 tl:tx.length<=2000+300*n
 sl:sx.length<=2000+300*n
 qx:∀ r∈q,r.2.1.length<=2000+300*n
section
variable {n m:Nat} {fs:DF} {ops left:Int} {down:Bool} {pa:List UInt8} {th:Bool} {tx:List UInt8} {sy:Bool} {sx:List UInt8} {q:LCh} {ro ra:Int} {rd:Bool}
theorem DR.mono (h:DR n m fs ops left down pa th tx sy sx q ro ra rd) {n' m':Nat} (hn:n<=n') (hm:m<=m'):DR n' m' fs ops left down pa th tx sy sx q ro ra rd:=by
 obtain ⟨s,e1,e2,e3,e4⟩:=h.ex
 exact { h with ex:=⟨s,e1,e2,by omega,fun c hc=>by have:=e4 c hc; omega⟩,o1:=by have:=h.o1; omega,tl:=by have:=h.tl; omega,sl:=by have:=h.sl; omega,qx:=fun r hr=>by have:=h.qx r hr; omega }
theorem DR.call (h:DR n m fs ops left down pa th tx sy sx q ro ra rd):((jB ro ra rd).1=true↔(jW ops left down).1=.ok)/\((jW ops left down).1=.ok∨(jW ops left down).1=.e 15) /\
  DR n (m+1) fs (jW ops left down).2.1 (jW ops left down).2.2.1 (jW ops left down).2.2.2 pa th tx sy sx q (jB ro ra rd).2.1 (jB ro ra rd).2.2.1 (jB ro ra rd).2.2.2:=by
 obtain ⟨s,e1,e2,e3,e4⟩:=h.ex
 have a0:=h.a0
 have a1:=h.a1
 have l0:=h.l0
 have l1:=h.l1
 have o0:=h.o0
 have o1:=h.o1
 have hor:=h.or
 have hdr:=h.dr
 have hlf:=h.lf
 have ex':∃ s,fs=f1 tx sx s/\ChgR sx s q tx/\s.length<=m+1/\∀ c∈s,c.2.length<=2000+300*n:=⟨s,e1,e2,by omega,e4⟩
 subst hdr
 unfold jW jB
 cases down with
 | true=>exact ⟨by simp,by simp,{ h with ex:=ex',o1:=by simp; omega,lf:=by simp }⟩
 | false =>
  have hl:=hlf rfl
  by_cases h0:ra=0
  ·have e:left=1:=by omega
   rw [e,h0]
   exact ⟨by simp,by simp,{ h with ex:=ex',or:=by simp [hor],dr:=rfl,lf:=by simp,a0:=by simp,a1:=by simp,l0:=by simp,l1:=by simp,o0:=by simp; omega,o1:=by simp; omega }⟩
  ·by_cases h1:0<ra
   ·have hg:0<left:=by omega
    have hne:left≠1:=by omega
    simp only [Bool.false_eq_true,if_false,h0,hg,if_true,hne,h1]
    exact ⟨by simp,by simp,{ h with ex:=ex',or:=by simp [hor],dr:=rfl,lf:=fun _=>by omega,a0:=by omega,a1:=by omega,l0:=by omega,l1:=by omega,o0:=by omega,o1:=by omega }⟩
   ·have hg:¬ 0<left:=by omega
    simp only [Bool.false_eq_true,if_false,h0,hg,h1]
    exact ⟨by simp,by simp,{ h with ex:=ex',or:=by simp [hor],dr:=rfl,lf:=fun _=>by omega,o0:=by omega,o1:=by omega }⟩
theorem f1_fil {s:List (Int × List UInt8)}:fil (f1 tx sx s) JJ=(tx,true,sx,true,s):=by simp [f1,fil,mget]
theorem f1_there {s:List (Int × List UInt8)}:ju (f1 tx sx s) JJ=true:=by unfold ju; rw [f1_fil]
theorem f1_text {s:List (Int × List UInt8)}:kE (f1 tx sx s) JJ=tx:=by unfold kE; rw [f1_there,f1_fil]; rfl
theorem f1_put {s:List (Int × List UInt8)} (x:Fil):mput (f1 tx sx s) JJ x=[(JJ,x)]:=by simp [f1,mput]
theorem f1_len {s:List (Int × List UInt8)}:(f1 tx sx s).length=1:=rfl
theorem Zq (h1:ra = -1) (h2:rd=false):jB ro ra rd=(true,ro+1,-1,false):=by
 subst h1; subst h2
 unfold jB
 simp
theorem lay2 (h:DR n m fs ops left down pa th tx sy sx q ro ra rd) {text:List UInt8} {b:Bool} {K:Er->DF->Int->Int->Bool->Prop} (hn:n<=100) (hm:m<=1000) (ht:(rold b tx).length+text.length<=2000+300*(n+1)) (ht2:text.length<=2000+300*(n+1))
  (hK:∀ e code fs' o l d tx' q' ro' ra' rd',DR (n+1) (m+1) fs' o l d JJ true tx' true sx q' ro' ra' rd'->isB e code=true->(e=.ok/\code=0∨e=.e 15/\code=116)->(ra = -1/\rd=false->code=0/\ra' = -1/\rd'=false)->(e=.ok->tx'=rold b tx++text) ->
   (∀ K':Int->Int->Int->Bool->List UInt8->Bool->List UInt8->Bool->List UInt8->LCh->Prop,K' code ro' ra' rd' JJ true tx' true sx q'->jt pa th tx sy sx q ro ra rd JJ text b K')->K e fs' o l d) :
  j0 fs ops left down JJ text (if b then 1 else 0) text K:=by
 obtain ⟨c1,c2,c3⟩:=h.call
 obtain ⟨s,rfl,e2,e3,e4⟩:=h.ex
 obtain ⟨_,rfl,rfl,rfl,hor,hdr,hlf,a0,a1,l0,l1,o0,o1,tl,sl,qx⟩:=h
 have hql:=e2.len
 have hv:=vJ
 have hkind:((if b then 1 else 0:Int)=1/\ju (f1 tx sx s) JJ=true)↔b=true:=by
  rw [f1_there]; cases b <;> simp
 have hT:(if (if b then 1 else 0:Int)=1/\ju (f1 tx sx s) JJ=true then (fil (f1 tx sx s) JJ).1++text else text)=rold b tx++text:=by
  rw [f1_fil]
  cases b with
  | true=>rw [if_pos (hkind.2 rfl)]; rfl
  | false=>rw [if_neg (fun g=>by have:=hkind.1 g; cases this)]; rfl
 refine put_M jL o0 (by omega) (by omega) (by rw [f1_len]; omega) (by omega) (by rw [f1_fil]; dsimp only; omega) (by rw [f1_fil]; dsimp only; omega) fun o l d=>⟨fun e he hne=>?_,fun he=>?_⟩
 ·rw [he] at c1 c2 c3
  dsimp only at c1 c2 c3
  have hee:e=.e 15:=c2.resolve_left hne
  subst hee
  refine hK (.e 15) 116 _ o l d tx q _ _ _ (c3.mono (by omega) (by omega)) rfl (.inr ⟨rfl,rfl⟩) (fun hf=>absurd (c1.1 (by rw [Zq hf.1 hf.2])) (by simp)) (by simp) fun K' hk=>?_
  refine rlay_M jL2 hv (by omega) (by omega) a0 (by omega) (by omega) (by omega) (fun _=>hk) (fun g=>?_)
  exact absurd (c1.1 g) (by simp)
 ·rw [he] at c1 c2 c3
  dsimp only at c1 c2 c3
  have hg:=c1.2 rfl
  rw [dlay_ok hv (by rw [f1_len]; omega) (by rw [hT,List.length_append]; omega),hT,f1_fil,f1_put]
  have hch:ChgR sx (s++[((if b then 1 else 0:Int),text)]) (q++[(true,rold b tx++text,if b then (text.length:Int) else -1)]) (rold b tx++text) :=
   e2.snoc (x:=((if b then 1 else 0:Int),text)) (y:=(true,rold b tx++text,if b then (text.length:Int) else -1)) (by cases b with
    | true=>exact .inl ⟨rfl,rfl⟩
    | false=>exact .inr ⟨rfl,rfl⟩)
  refine hK .ok 0 _ o l d (rold b tx++text) _ _ _ _ { c3 with ex:=⟨_,rfl,hch,?_,fun c hc=>?_⟩,o1:=?_,tl:=?_,sl:=?_,qx:=fun r hr=>?_ } rfl (.inl ⟨rfl,rfl⟩) (fun hf=>⟨rfl,by rw [Zq hf.1 hf.2],by rw [Zq hf.1 hf.2]⟩) (fun _=>rfl) fun K' hk=>rlay_M jL2 hv (by omega) (by omega) a0 (by omega) (by omega) (by omega) (fun g=>by rw [hg] at g; cases g) (fun _=>hk)
  ·show (s++[_]).length<=_
   rw [List.length_append,List.length_singleton]; omega
  ·rcases List.mem_append.1 hc with hc | hc
   ·have:=e4 c hc; omega
   ·rw [List.mem_singleton.1 hc]; exact ht2
  ·have:=c3.o1; omega
  ·rw [List.length_append]; omega
  ·omega
  ·rcases List.mem_append.1 hr with hr | hr
   ·have:=qx r hr; omega
   ·rw [List.mem_singleton.1 hr]
    show (rold b tx++text).length<=_
    rw [List.length_append]; omega
theorem sync2 (h:DR n m fs ops left down pa th tx sy sx q ro ra rd) {K:Er->DF->Int->Int->Bool->Prop} (hm:m<=1000)
  (hK:∀ e code fs' o l d sx' q' ro' ra' rd',DR n (m+1) fs' o l d JJ true tx true sx' q' ro' ra' rd'->isB e code=true->(e=.ok/\code=0∨e=.e 15/\code=116)->(ra = -1/\rd=false->code=0/\ra' = -1/\rd'=false) ->
   (∀ K':Int->Int->Int->Bool->List UInt8->Bool->List UInt8->Bool->List UInt8->LCh->Prop,K' code ro' ra' rd' JJ true tx true sx' q'->jx pa th tx sy sx q ro ra rd JJ K')->K e fs' o l d) :
  jV fs ops left down JJ K:=by
 obtain ⟨c1,c2,c3⟩:=h.call
 obtain ⟨s,rfl,e2,e3,e4⟩:=h.ex
 obtain ⟨_,rfl,rfl,rfl,hor,hdr,hlf,a0,a1,l0,l1,o0,o1,tl,sl,qx⟩:=h
 have hv:=vJ
 refine sync_M jL o0 (by omega) (by omega) fun o l d=>⟨fun e he hne=>?_,fun he=>?_⟩
 ·rw [he] at c1 c2 c3
  dsimp only at c1 c2 c3
  have hee:e=.e 15:=c2.resolve_left hne
  subst hee
  refine hK (.e 15) 116 _ o l d sx q _ _ _ c3 rfl (.inr ⟨rfl,rfl⟩) (fun hf=>absurd (c1.1 (by rw [Zq hf.1 hf.2])) (by simp)) fun K' hk=>?_
  exact rsync_M jL2 hv (by omega) (by omega) a0 (by omega) (fun _=>hk) (fun g=>absurd (c1.1 g) (by simp))
 ·rw [he] at c1 c2 c3
  dsimp only at c1 c2 c3
  have hg:=c1.2 rfl
  have e1:dsync (f1 tx sx s) JJ=(.ok,f1 tx tx []):=by
   unfold dsync
   rw [if_neg (by rw [hv]; simp),f1_fil,if_pos (by simp [f1,mget]),f1_put]
   rfl
  rw [e1]
  exact hK .ok 0 _ o l d tx [] _ _ _ { c3 with ex:=⟨[],rfl,rfl,by simp,fun c hc=>(by cases hc)⟩,sl:=tl,qx:=fun r hr=>(by cases hr) } rfl (.inl ⟨rfl,rfl⟩) (fun hf=>⟨rfl,by rw [Zq hf.1 hf.2],by rw [Zq hf.1 hf.2]⟩) fun K' hk=>rsync_M jL2 hv (by omega) (by omega) a0 (by omega) (fun g=>by rw [hg] at g; cases g) (fun _=>hk)
theorem arm2 (h:DR n m fs ops left down pa th tx sy sx q ro ra rd) {k:Int} (k0:0<=k) (k1:k<=100) {K:DF->Int->Int->Bool->Prop}
  (hK:∀ l ra',DR n m fs ops l down JJ true tx true sx q ro ra' rd->(∀ K':Int->Int->Bool->List UInt8->Bool->List UInt8->Bool->List UInt8->LCh->Prop,K' ro ra' rd JJ true tx true sx q->ko pa th tx sy sx q ro ra rd k K')->K fs ops l down):Zr fs ops left down k K:=by
 obtain ⟨hex,rfl,rfl,rfl,hor,hdr,hlf,a0,a1,l0,l1,o0,o1,tl,sl,qx⟩:=h
 show K fs ops (if k<0 then 0 else k) down
 rw [if_neg (by omega)]
 by_cases h1:1<=k
 ·exact hK k (k - 1) ⟨hex,rfl,rfl,rfl,hor,hdr,fun _=>by omega,by omega,by omega,by omega,by omega,o0,o1,tl,sl,qx⟩ fun K' hk _=>⟨fun _=>⟨by simp only [In]; omega,hk⟩,fun g=>absurd h1 g⟩
 ·exact hK k (-1) ⟨hex,rfl,rfl,rfl,hor,hdr,fun _=>by omega,by omega,by omega,by omega,by omega,o0,o1,tl,sl,qx⟩ fun K' hk _=>⟨fun g=>absurd g h1,fun _=>hk⟩
theorem rise2 (h:DR n m fs ops left down pa th tx sy sx q ro ra rd) {keep cut:Int} (hk:In .i64 keep) (hcut:In .i64 cut) (hn:n<=100) (hm:m<=1000) {K:DF->Int->Int->Bool->Prop}
  (hK:∀ fs' l d tx' sx' q' ra' rd',DR n m fs' ops l d JJ true tx' true sx' q' ro ra' rd'->(∀ K':Int->Int->Bool->List UInt8->Bool->List UInt8->Bool->List UInt8->LCh->Prop,K' ro ra' rd' JJ true tx' true sx' q'->jR pa th tx sy sx q ro ra rd keep cut K')->K fs' ops l d):kH fs ops left down keep cut K:=by
 have h0:=h
 obtain ⟨s,rfl,e2,e3,e4⟩:=h.ex
 obtain ⟨_,rfl,rfl,rfl,hor,rfl,hlf,a0,a1,l0,l1,o0,o1,tl,sl,qx⟩:=h
 have hql:=e2.len
 obtain ⟨k0,k1⟩:=max0_in hk
 have hX:(rrX cut keep sx q).length<=2000+300*n:=by
  have hg:∀ j,(q.getD j (false,[],0)).2.1.length<=2000+300*n:=fun j=>by
   by_cases hj:j<q.length
   ·exact qx _ (getD_memH hj)
   ·rw [show q.getD j (false,[],0)=(false,[],0) by simp [List.getD,Nat.le_of_not_lt hj]]
    simp
  have ite_le:∀ (c:Prop) [Decidable c] (x y:List UInt8),x.length<=2000+300*n->y.length<=2000+300*n->(if c then x else y).length<=2000+300*n:=fun c _ x y h1 h2=>by split <;> assumption
  unfold rrX rrC rrB
  refine ite_le _ _ _ ?_ (ite_le _ _ _ (hg _) sl)
  rw [List.length_take]
  have:=hg (min (max0 keep % 4).toNat q.length)
  omega
 refine rise_M (by rw [f1_len]; omega) (fun p hp=>by rw [List.mem_singleton.1 hp]; simp [maxLen]) hk (fun k=>?_) ?_
 ·by_cases e:JJ=k
  ·subst e
   rw [f1_fil]
   exact ⟨by dsimp only; omega,by dsimp only; omega,fun c hc=>by have:=e4 c hc; omega⟩
  ·have:fil (f1 tx sx s) k=fz:=by
    unfold fil f1 mget
    rw [if_neg e]; rfl
   rw [this]
   exact ⟨by simp [fz],by simp [fz],by simp [fz]⟩
 ·cases down with
  | false =>
   rw [if_neg (by simp)]
   exact hK _ _ _ tx sx q ra false h0 fun K' hk'=>rrise_M e2 (by omega) (fun r hr=>by have:=qx r hr; omega) hk hcut (fun _=>hk') (fun g=>by cases g)
  | true =>
   rw [if_pos rfl]
   have hs:sortB ((f1 tx sx s).map (·.1))=[JJ]:=sort1 JJ
   have hR:kD (max0 cut) [JJ] (max0 keep) (f1 tx sx s)=f1 (rrX cut keep sx q) (rrX cut keep sx q) []:=by
    rw [riseAll_cons,f1_fil]
    dsimp only
    by_cases hz:s=[]
    ·subst hz
     rw [if_pos rfl,f1_put]
     cases q with
     | nil =>
      have e0:tx=sx:=e2
      have e1:rrX cut keep sx []=sx:=by simp [rrX,rrC,rrB]
      rw [e1,e0]; rfl
     | cons _ _=>exact e2.elim
    ·rw [if_neg hz,f1_put,rise_one _ _ e2]
     rfl
   rw [hs,hR]
   refine hK _ _ _ (rrX cut keep sx q) (rrX cut keep sx q) [] (-1) false ⟨⟨[],rfl,rfl,by simp,fun c hc=>(by cases hc)⟩,rfl,rfl,rfl,hor,rfl,fun _=>rfl,by omega,by omega,by omega,by omega,o0,o1,hX,hX,fun r hr=>(by cases hr)⟩ fun K' hk'=>rrise_M e2 (by omega) (fun r hr=>by have:=qx r hr; omega) hk hcut (fun g=>by cases g) (fun _=>hk')
end
end
 
section
open Go Go.RowKit
set_option maxRecDepth 10000
attribute [local irreducible] shaS manyS hexS recP
structure CL (cl:List Ent) (n:Nat):Prop where
 ok:∀ e∈cl,Ok32 e
 uq:Uq cl
 len:cl.length<=n
theorem CL.put {cl:List Ent} {n:Nat} (h:CL cl n) {k o:List UInt8} (hk:k.length=32) (ho:o.length=32):CL (mput cl k o) (n+1):=by
 refine ⟨fun e he=>?_,h.uq.put _ _,?_⟩
 ·rcases mput_mem he with rfl | he
  ·exact ⟨hk,ho⟩
  ·exact h.ok e he
 ·have:=mput_len_le cl k o
  have:=h.len
  omega
theorem CL.lay:∀ (es:List Ent) {cl:List Ent} {n:Nat},CL cl n->(∀ e∈es,Ok32 e)->CL (layE es cl) (n+es.length)
 | [],_,_,h,_=>h
 | e :: es,cl,n,h,ho=>by
  have he:=ho e List.mem_cons_self
  have ih:=CL.lay es (h.put he.1 he.2) fun x hx=>ho x (List.mem_cons_of_mem _ hx)
  rw [List.length_cons,show n+(es.length+1)=n+1+es.length by omega]
  exact ih
theorem CL.nil:CL [] 0:=⟨fun _ h=>(by cases h),List.nodup_nil,Nat.le_refl _⟩
section
variable {n m:Nat} {fs:DF} {ops left:Int} {down:Bool} {pa:List UInt8} {th:Bool} {tx:List UInt8} {sy:Bool} {sx:List UInt8} {q:LCh} {ro ra:Int} {rd:Bool}
theorem DR.ql (h:DR n m fs ops left down pa th tx sy sx q ro ra rd):q.length<=m:=by
 obtain ⟨s,_,e2,e3,_⟩:=h.ex
 have:=e2.len
 omega
theorem put2 (h:DR n m fs ops left down pa th tx sy sx q ro ra rd) {cl:List Ent} {N:Nat} (hc:CL cl N) {k o:List UInt8} (hk:k.length=32) (ho:o.length=32) (hN:N<=1000) (hn:n<=100) (hm:m<=1000) {K:Er->List UInt8->List Ent->DF->Int->Int->Bool->Prop}
  (hK:∀ e code cl' fs' o' l d tx' q' ro' ra' rd',DR (n+1) (m+1) fs' o' l d JJ true tx' true sx q' ro' ra' rd'->isB e code=true->CL cl' (N+1) ->
   (∀ K':Int->List UInt8->List Ent->Int->Int->Bool->List UInt8->Bool->List UInt8->Bool->List UInt8->LCh->Prop,K' code JJ cl' ro' ra' rd' JJ true tx' true sx q'->jO pa th tx sy sx q ro ra rd JJ cl k o K')->K e JJ cl' fs' o' l d) :
  jQ fs ops left down JJ cl k o K:=by
 have hll:=hc.len
 have hql:=h.ql
 have hcl1:cl.length<=maxLen:=by unfold maxLen; omega
 have hq1:q.length<=maxLen:=by unfold maxLen; omega
 have hrl:=recP_len (e:=(k,o)) ⟨hk,ho⟩
 have htl:=h.tl
 have hth:=h.ht
 have hpa:=h.hp
 have hsy:=h.hs
 have hlook:∀ {R:Bool->Prop},R (decide (mget cl k=some o))->jD JJ cl k (fun t140 t141=>∃ J1:Bool->Prop,((t141=true->jl t140 o fun t21=>J1 t21)/\(t141=false->J1 false))/\∀ q1,J1 q1->R q1):=fun {R} hR=>by
  refine rget_M hc.ok hc.uq hk (by omega) ⟨fun b=>b=decide (mget cl k=some o),⟨fun hs=>?_,fun hs=>?_⟩,fun b e=>by rw [e]; exact hR⟩
  ·obtain ⟨v,hv⟩:=Option.isSome_iff_exists.1 hs
   rw [hv]
   refine sameK_M (hc.ok _ (mget_in hv)).2 ho ?_
   simp
  ·have hnone:mget cl k=none:=by simpa using hs
   rw [hnone]
   simp
 refine ⟨hk,fun hi=>⟨?_,ho⟩,fun hb=>?_,fun hb=>?_⟩
 ·obtain ⟨v,hv⟩:=Option.isSome_iff_exists.1 hi
  rw [hv]; exact (hc.ok (k,v) (mget_in hv)).2
 ·rw [Bool.and_eq_true,decide_eq_true_eq] at hb
  obtain ⟨v,hv⟩:=Option.isSome_iff_exists.1 hb.1
  have hvo:mget cl k=some o:=by rw [hv] at hb |-; simpa using hb.2
  have h':=h.mono (Nat.le_succ n) (Nat.le_succ m)
  rw [hth,hpa,hsy] at h'
  refine hK .ok 0 cl fs ops left down tx q ro ra rd h' rfl ⟨hc.ok,hc.uq,by omega⟩ fun K' hk'=>?_
  rw [hth,hpa,hsy]
  intro _ _
  refine hlook ⟨fun _=>hk',fun hf=>?_⟩
  rw [hvo] at hf
  simp at hf
 ·have hno:¬ mget cl k=some o:=fun e=>by rw [e] at hb; simp at hb
  refine record_M ⟨hk,ho⟩ ?_
  refine lay2 (b:=true) (text:=recP (k,o)) h (by omega) hm ?_ (by omega) fun e code fs' o' l d tx' q' ro' ra' rd' hD hB hE' _ _ hR=>?_
  ·show tx.length+_<=_
   omega
  have hE:e=.ok↔code=0:=by
   rcases hE' with ⟨g1,g2⟩ | ⟨g1,g2⟩
   ·rw [g1,g2]; simp
   ·rw [g1,g2]; simp
  rw [hth,hpa,hsy] at hR
  have href:∀ (cl':List Ent),(code=0->cl'=mput cl k o)->(¬ code=0->cl'=cl)->∀ K':Int->List UInt8->List Ent->Int->Int->Bool->List UInt8->Bool->List UInt8->Bool->List UInt8->LCh->Prop,K' code JJ cl' ro' ra' rd' JJ true tx' true sx q'->jO pa th tx sy sx q ro ra rd JJ cl k o K':=fun cl' g1 g2 K' hk'=>by
   rw [hth,hpa,hsy]
   intro _ _
   refine hlook ⟨fun ht=>absurd (of_decide_eq_true ht) hno,fun _=>rrecord_M ⟨hk,ho⟩ (hR _ ⟨fun p c=>p=JJ/\c=cl',⟨fun h0=>rset_M hc.ok hc.uq hk (by omega) ⟨rfl,(g1 h0).symm⟩,fun h0=>⟨rfl,(g2 h0).symm⟩⟩,fun p c ⟨e1,e2⟩=>?_⟩)⟩
   rw [e1,e2]
   exact hk'
  refine ⟨fun hne=>?_,fun he=>⟨⟨hk,by unfold maxLen; omega⟩,?_⟩⟩
  ·exact hK e code cl fs' o' l d tx' q' ro' ra' rd' hD hB ⟨hc.ok,hc.uq,by omega⟩ (href cl (fun h0=>absurd (hE.2 h0) hne) (fun _=>rfl))
  ·subst he
   exact hK .ok code (mput cl k o) fs' o' l d tx' q' ro' ra' rd' hD hB (hc.put hk ho) (href _ (fun _=>rfl) (fun h0=>absurd (hE.1 rfl) h0))
end
end
 
section
open Go Go.RowKit
set_option maxRecDepth 10000
attribute [local irreducible] shaS manyS hexS recP
section
variable {n m:Nat} {fs:DF} {ops left:Int} {down:Bool} {pa:List UInt8} {th:Bool} {tx:List UInt8} {sy:Bool} {sx:List UInt8} {q:LCh} {ro ra:Int} {rd:Bool}
theorem rlay_loop {es:List Ent} {p:List UInt8} {K:List UInt8->List Ent->Int->Int->Int->Bool->List UInt8->Bool->List UInt8->Bool->List UInt8->LCh->Prop} (ho:∀ e∈es,Ok32 e) (hl:es.length<=100000) (h:K p (layE es []) 0 ro ra rd pa th tx sy sx q) :
  Lp12 (fun (i:Int) (t161:List UInt8) (t162:List Ent) (d12:Int) (d22:Int) (d32:Bool) (d_L02:List UInt8) (d_L12:Bool) (d_L22:List UInt8) (d_L32:Bool) (d_L42:List UInt8) (d_L52:LCh) kont1=>((i<(es.length:Int)->(0<=i/\i<(es.length:Nat)) /\
   jE t161 t162 ((es.getD i.toNat ([],[])).1) ((es.getD i.toNat ([],[])).2) (fun (t16_:List UInt8) (t16_2:List Ent) =>
    (In .i64 (i+(1:Int)))/\kont1 (i+(1:Int)) t16_ t16_2 d12 d22 d32 d_L02 d_L12 d_L22 d_L32 d_L42 d_L52)) /\
   (¬ (i<(es.length:Int))->K t161 t162 (0:Int) d12 d22 d32 d_L02 d_L12 d_L22 d_L32 d_L42 d_L52))) (0:Int) p [] ro ra rd pa th tx sy sx q:=by
 refine ⟨fun i a L b c d e f g x y z=>0<=i/\i<=es.length/\a=p/\L=layE (es.take i.toNat) []/\b=ro/\c=ra/\d=rd/\e=pa/\f=th/\g=tx/\x=sy/\y=sx/\z=q,fun i _ _ _ _ _ _ _ _ _ _ _=>es.length - i.toNat,⟨by omega,by omega,rfl,rfl,rfl,rfl,rfl,rfl,rfl,rfl,rfl,rfl,rfl⟩,fun i a L b c d e f g x y z hi=>?_⟩
 obtain ⟨a0,a1,rfl,rfl,rfl,rfl,rfl,rfl,rfl,rfl,rfl,rfl,rfl⟩:=hi
 refine ⟨fun hlt=>⟨⟨a0,hlt⟩,?_⟩,fun hge=>?_⟩
 ·have hi:i.toNat<es.length:=by omega
  have e:es.getD i.toNat ([],[])=es[i.toNat]:=by simp [List.getD,hi]
  have hcl:=CL.nil.lay (es.take i.toNat) fun x hx=>ho x (List.mem_of_mem_take hx)
  have hll:=hcl.len
  rw [List.length_take] at hll
  have he:=ho _ (List.getElem_mem hi)
  rw [e]
  refine rset_M hcl.ok hcl.uq he.1 (by omega) ⟨by simp only [In]; omega,⟨by omega,by omega,rfl,?_,rfl,rfl,rfl,rfl,rfl,rfl,rfl,rfl,rfl⟩,by (try dsimp only); omega⟩
  rw [show (i+1).toNat=i.toNat+1 by omega,List.take_succ_eq_append_getElem hi,layE_app]
  rfl
 ·obtain rfl:i=es.length:=by omega
  rw [show ((es.length:Nat):Int).toNat=es.length by omega,List.take_length]
  exact h
abbrev K0T:=Int->Int->Int->Bool->List UInt8->Bool->List UInt8->Bool->List UInt8->LCh->Prop
abbrev K1T:=List UInt8->List Ent->Int->Int->Int->Bool->List UInt8->Bool->List UInt8->Bool->List UInt8->LCh->Prop
theorem ropen_short {K0':K0T} {K':K1T} (g1:(jB ro ra rd).1=true) (h0:0<=ro) (h1:ro<=100000) (h2 : -1<=ra) (h3:ra<=1000) (ht:tx.length<=100000) (hge:¬ 195*(jI tx).length<tx.length)
  (h:K' JJ (layE (jI tx) []) 0 (jB ro ra rd).2.1 (jB ro ra rd).2.2.1 (jB ro ra rd).2.2.2 JJ true tx true sx q):jo JJ true tx true sx q ro ra rd JJ K0' K':=by
 have hr:=readP_ok _ tx (Nat.le_refl _)
 intro _
 refine rread_M h0 (by omega) h2 h3 (fun g=>by rw [g1] at g; cases g) fun _=>⟨fun hne=>absurd rfl hne,fun _=>rj_M (by omega) ?_⟩
 refine ⟨fun p t x y z w o a d=>p=JJ/\t=true/\x=tx/\y=true/\z=sx/\w=q/\o=(jB ro ra rd).2.1/\a=(jB ro ra rd).2.2.1/\d=(jB ro ra rd).2.2.2,⟨fun hlt=>absurd hlt (by omega),fun _=>⟨rfl,rfl,rfl,rfl,rfl,rfl,rfl,rfl,rfl⟩⟩,fun p t x y z w o a d ⟨e1,e2,e3,e4,e5,e6,e7,e8,e9⟩=>?_⟩
 rw [e1,e2,e3,e4,e5,e6,e7,e8,e9]
 exact rlay_loop hr.1 (by omega) h
theorem ropen_long {K0':K0T} {K':K1T} (g1:(jB ro ra rd).1=true) (h0:0<=ro) (h1:ro<=100000) (h2 : -1<=ra) (h3:ra<=1000) (ht:tx.length<=100000) (hlt:195*(jI tx).length<tx.length)
  {code ro1 ra1:Int} {rd1:Bool} {tx1:List UInt8} {q1:LCh} (hR1:∀ K1:K0T,K1 code ro1 ra1 rd1 JJ true tx1 true sx q1->jt JJ true tx true sx q (jB ro ra rd).2.1 (jB ro ra rd).2.2.1 (jB ro ra rd).2.2.2 JJ (tx.take (195*(jI tx).length)) false K1)
  (hf:¬ code=0->K0' code ro1 ra1 rd1 JJ true tx1 true sx q1)
  (hs:code=0->∃ code2 ro2 ra2 rd2 sx2 q2,(∀ K2:K0T,K2 code2 ro2 ra2 rd2 JJ true tx1 true sx2 q2->jx JJ true tx1 true sx q1 ro1 ra1 rd1 JJ K2)/\(¬ code2=0->K0' code2 ro2 ra2 rd2 JJ true tx1 true sx2 q2)/\(code2=0->K' JJ (layE (jI tx) []) 0 ro2 ra2 rd2 JJ true tx1 true sx2 q2)) :
  jo JJ true tx true sx q ro ra rd JJ K0' K':=by
 have hr:=readP_ok _ tx (Nat.le_refl _)
 intro _
 refine rread_M h0 (by omega) h2 h3 (fun g=>by rw [g1] at g; cases g) fun _=>⟨fun hne=>absurd rfl hne,fun _=>rj_M (by omega) ?_⟩
 refine ⟨fun p t x y z w o a d=>K' JJ (layE (jI tx) []) 0 o a d p t x y z w,⟨fun _=>⟨⟨by omega,by omega⟩,?_⟩,fun hge=>absurd (by omega) hge⟩,fun p t x y z w o a d hk=>rlay_loop hr.1 (by omega) hk⟩
 rw [Int.toNat_natCast]
 refine hR1 _ ⟨fun b p t x y z w o a d=>(¬ b=0->K0' b o a d p t x y z w)/\(b=0->K' JJ (layE (jI tx) []) 0 o a d p t x y z w),⟨fun hz=>?_,fun hz=>⟨fun _=>hf hz,fun h=>absurd h hz⟩⟩,fun b p t x y z w o a d hk=>hk⟩
 obtain ⟨code2,ro2,ra2,rd2,sx2,q2,g2,g3,g4⟩:=hs hz
 exact g2 _ ⟨g3,g4⟩
theorem open2 (h:DR n m fs ops left down pa th tx sy sx q ro ra rd) (hn:n<=100) (hm:m<=900) {K0:Er->DF->Int->Int->Bool->Prop} {K:List UInt8->List Ent->Er->DF->Int->Int->Bool->Prop}
  (hno:∀ fs' o l d tx' sx' q' ro' ra' rd',¬ (ra = -1/\rd=false)->DR (n+1) (m+3) fs' o l d JJ true tx' true sx' q' ro' ra' rd' ->
   (∀ (K0':Int->Int->Int->Bool->List UInt8->Bool->List UInt8->Bool->List UInt8->LCh->Prop) (K':List UInt8->List Ent->Int->Int->Int->Bool->List UInt8->Bool->List UInt8->Bool->List UInt8->LCh->Prop),K0' 116 ro' ra' rd' JJ true tx' true sx' q'->jo pa th tx sy sx q ro ra rd JJ K0' K')->K0 (.e 15) fs' o l d)
  (hok:∀ cl fs' o l d tx' sx' q' ro' ra' rd',DR (n+1) (m+3) fs' o l d JJ true tx' true sx' q' ro' ra' rd'->CL cl 500 ->
   (∀ (K0':Int->Int->Int->Bool->List UInt8->Bool->List UInt8->Bool->List UInt8->LCh->Prop) (K':List UInt8->List Ent->Int->Int->Int->Bool->List UInt8->Bool->List UInt8->Bool->List UInt8->LCh->Prop),K' JJ cl 0 ro' ra' rd' JJ true tx' true sx' q'->jo pa th tx sy sx q ro ra rd JJ K0' K')->K JJ cl .ok fs' o l d) :
  km fs ops left down JJ K0 K:=by
 obtain ⟨c1,c2,c3⟩:=h.call
 have hth:=h.ht
 have hpa:=h.hp
 have hsy:=h.hs
 have htl:=h.tl
 have hql:=h.ql
 have ho0:=h.o0
 have ho1:=h.o1
 have hl1:=h.l1
 have ha0:=h.a0
 have ha1:=h.a1
 have hor:=h.or
 have hdt:kE fs JJ=tx:=by
  obtain ⟨s,rfl,_⟩:=h.ex
  exact f1_text
 have hr:=readP_ok _ tx (Nat.le_refl _)
 have hq1:q.length<=maxLen:=by unfold maxLen; omega
 have hcl:CL (layE (jI tx) []) 500:=by
  have:=CL.nil.lay (jI tx) hr.1
  exact ⟨this.ok,this.uq,by have:=this.len; omega⟩
 have hfree:ra = -1/\rd=false->(jB ro ra rd).2.2.1 = -1/\(jB ro ra rd).2.2.2=false:=fun hf=>by rw [Zq hf.1 hf.2]; exact ⟨rfl,rfl⟩
 refine dreadC_M (by simp [maxLen]) ho0 (by omega) (by omega) ?_
 rw [hdt]
 rcases c2 with c2 | c2
 ·
  have g1:=c1.2 c2
  rw [c2,if_pos rfl]
  refine ⟨fun hne=>absurd rfl hne,fun _=>cread_M (by omega) ?_⟩
  refine ⟨fun fs' o l d=>∃ tx' sx' q' ro' ra' rd',DR (n+1) (m+3) fs' o l d JJ true tx' true sx' q' ro' ra' rd'/\∀ (K0':K0T) (K':K1T),K' JJ (layE (jI tx) []) 0 ro' ra' rd' JJ true tx' true sx' q'->jo pa th tx sy sx q ro ra rd JJ K0' K',⟨fun hlt=>⟨⟨by omega,by omega⟩,?_⟩,fun hge=>?_⟩,fun fs' o l d ⟨tx',sx',q',ro',ra',rd',hD,hR⟩=>lay_loop hr.1 (by omega) (hok _ fs' o l d tx' sx' q' ro' ra' rd' hD hcl hR)⟩
  ·rw [Int.toNat_natCast]
   have hlt':195*(jI tx).length<tx.length:=by omega
   refine lay2 (b:=false) (text:=tx.take (195*(jI tx).length)) c3 hn (by omega) ?_ ?_ fun e code fs1 o1 l1 d1 tx1 q1 ro1 ra1 rd1 hD1 hB1 hE1 hF1 _ hR1=>?_
   ·rw [List.length_take]
    show 0+_<=_
    omega
   ·rw [List.length_take]; omega
   rw [hth,hpa,hsy] at hR1
   rcases hE1 with ⟨rfl,rfl⟩ | ⟨rfl,rfl⟩
   ·refine ⟨fun hne=>absurd rfl hne,fun _=>sync2 hD1 (by omega) fun e2 code2 fs2 o2 l2 d2 sx2 q2 ro2 ra2 rd2 hD2 hB2 hE2 hF2 hR2=>?_⟩
    rcases hE2 with ⟨rfl,rfl⟩ | ⟨rfl,rfl⟩
    ·refine ⟨fun hne=>absurd rfl hne,fun _=>⟨tx1,sx2,q2,ro2,ra2,rd2,hD2,fun K0' K' hk=>?_⟩⟩
     rw [hth,hpa,hsy]
     exact ropen_long g1 (by omega) (by omega) ha0 (by omega) (by omega) hlt' hR1 (fun h=>absurd rfl h) fun _=>⟨0,ro2,ra2,rd2,sx2,q2,hR2,fun h=>absurd rfl h,fun _=>hk⟩
    ·refine ⟨fun _=>hno _ _ _ _ tx1 sx2 q2 ro2 ra2 rd2 (fun hf=>absurd (hF2 ⟨(hF1 (hfree hf)).2.1,(hF1 (hfree hf)).2.2⟩).1 (by decide)) hD2 fun K0' K' hk=>?_,fun h=>(by cases h)⟩
     rw [hth,hpa,hsy]
     exact ropen_long g1 (by omega) (by omega) ha0 (by omega) (by omega) hlt' hR1 (fun h=>absurd rfl h) fun _=>⟨116,ro2,ra2,rd2,sx2,q2,hR2,fun _=>hk,fun h=>absurd h (by decide)⟩
   ·refine ⟨fun _=>hno _ _ _ _ tx1 sx q1 ro1 ra1 rd1 (fun hf=>absurd (hF1 (hfree hf)).1 (by decide)) (hD1.mono (Nat.le_refl _) (by omega)) fun K0' K' hk=>?_,fun h=>(by cases h)⟩
    rw [hth,hpa,hsy]
    exact ropen_long g1 (by omega) (by omega) ha0 (by omega) (by omega) hlt' hR1 (fun _=>hk) fun h=>absurd h (by decide)
  ·have c3':=c3.mono (Nat.le_succ n) (show m+1<=m+3 by omega)
   rw [hth,hpa,hsy] at c3'
   refine ⟨tx,sx,q,_,_,_,c3',fun K0' K' hk=>?_⟩
   rw [hth,hpa,hsy]
   exact ropen_short g1 (by omega) (by omega) ha0 (by omega) (by omega) (by omega) hk
 ·have g1:(jB ro ra rd).1=false:=by
   cases hg:(jB ro ra rd).1 with
   | false=>rfl
   | true=>have:=c1.1 hg; rw [c2] at this; cases this
  rw [c2]
  refine ⟨fun _=>?_,fun he=>(by cases he)⟩
  have c3':=c3.mono (Nat.le_succ n) (show m+1<=m+3 by omega)
  rw [hth,hpa,hsy] at c3'
  refine hno _ _ _ _ tx sx q _ _ _ (fun hf=>by rw [Zq hf.1 hf.2] at g1; cases g1) c3' fun K0' K' hk=>?_
  rw [hth,hpa,hsy]
  intro _
  exact rread_M (by omega) (by omega) ha0 (by omega) (fun _=>⟨fun _=>hk,fun hz=>absurd hz (by decide)⟩) (fun g=>by rw [g1] at g; cases g)
end
end
 
section
open Go Go.RowKit
section
variable {P:Program} {T:Tab} {N:Nat} {ops:Array Oper} {Q:Post} {L:jj} {w:World} {rest:List Oper} {ty:TypeId} {pos:String} {af:Array Edge} {t:TypeId} {x y:Operand} {e:TypeId}
end
end
 
section
open Go
structure LtT {α:Type} (lt:α->α->Bool):Prop where
 irrefl:∀ x,lt x x=false
 trans:∀ x y z,lt x y=true->lt y z=true->lt x z=true
 tot:∀ x y,lt x y=false->lt y x=false->x=y
section
variable {α:Type} {lt:α->α->Bool}
theorem LtT.ntrans (T:LtT lt) (x y z:α) (h:lt x y=false) (k:lt y z=false):lt x z=false:=by
 cases e:lt x z with
 | false=>rfl
 | true =>
  cases f:lt z y with
  | true=>rw [T.trans x z y e f] at h; cases h
  | false=>have:=T.tot y z k f; subst this; rw [e] at h; cases h
end
theorem cB_neg:∀ a b:List UInt8,Lib.compareBytes a b<0↔a<b
 | [],[]=>by simp [Lib.compareBytes]
 | [],_ :: _=>by simp [Lib.compareBytes]
 | _ :: _,[]=>by simp [Lib.compareBytes]
 | a :: l,b :: r=>by
  unfold Lib.compareBytes
  rw [List.cons_lt_cons_iff]
  split
  ·rename_i h; simp [h]
  ·split
   ·rename_i h k
    constructor
    ·intro e; omega
    ·rintro (e | ⟨rfl,_⟩)
     ·exact absurd e h
     ·exact absurd k h
   ·rename_i h k
    have e:a=b:=UInt8.le_antisymm (UInt8.not_lt.1 k) (UInt8.not_lt.1 h)
    subst e
    rw [cB_neg l r]
    simp [h]
end
 
section
open Go Go.Proofs Go.RowKit Go.Sort
section
variable {α:Type} [Inhabited α] {k:Nat} {f:α->List Value} {w:World} {g:Nat} {cur:Array Value} {e:TypeId}
theorem flatK_list (h:OneK k f) (xs:List α):flatK f k xs.toArray=(xs.flatMap f).toArray:=by
 have hl:=h.flen xs
 apply Array.ext
 ·simp [flatK,hl]
 ·intro t h1 h2
  have ht:t<xs.length*k:=by simpa [flatK] using h1
  have hq:t / k<xs.length:=Nat.div_lt_of_lt_mul (by rw [Nat.mul_comm]; exact ht)
  have hr:t % k<k:=Nat.mod_lt _ h.pos
  have e:=h.fget xs (t / k) xs[t / k] (t % k) (List.getElem?_eq_getElem hq) hr
  rw [Nat.div_add_mod'] at e
  have hx:=h.len xs[t / k]
  simp only [flatK,Array.getElem_map,Array.getElem_range]
  rw [getElem!_pos xs.toArray (t / k) (by simpa using hq)]
  simp only [List.getElem_toArray]
  rw [getElem!_pos (f xs[t / k]) (t % k) (by omega)]
  rw [List.getElem?_eq_getElem (by rw [hl]; exact ht),List.getElem?_eq_getElem (by omega)] at e
  exact (Option.some.inj e).symm
theorem holds_of_blockV {us:List Value} (hb:w.heap[g]? = some (.cells cur e (0,0))) (ht:cur.toList.take us.length=us):Holds id w g 0 us.toArray:=by
 intro j hj
 have hj':j<us.length:=by simpa using hj
 refine ⟨?_,by simp [World.frozen?,hb]⟩
 have h1:(cur.toList.take us.length)[j]? = us[j]? := by rw [ht]
 rw [List.getElem?_take_of_lt hj'] at h1
 simp only [World.cell?,hb,Nat.zero_add]
 simp only [Option.isSome_none,Bool.false_eq_true,if_false]
 rw [<-Array.getElem?_toList,h1]
 simp [hj']
theorem heap_sortedV {n:Nat} {os:Array Obj} {fr:Nat × Nat} (d:Array Value) (hb:w.heap[g]? = some (.cells cur e fr)) :
  (grow (putRow id (Sort.ahead w n) g 0 d) os).heap[g]? = some (.cells (putCells id 0 d cur) e fr):=by
 have hg:g<w.heap.size:=(Array.getElem?_eq_some_iff.1 hb).1
 rw [heap_grow_old _ _ (by simpa using hg)]
 simp [putRow,mapBlock,Sort.ahead,Array.getElem?_modify,hb,onCells]
theorem grownBy_sortedV {n:Nat} {os:Array Obj} (d:Array Value):w.grownBy (grow (putRow id (Sort.ahead w n) g 0 d) os) (some g):=by
 refine ⟨rfl,rfl,rfl,by simp,fun k hk hne=>?_⟩
 rw [heap_grow_old _ _ (by simpa using hk)]
 have:g≠k:=fun e=>hne (by rw [e])
 simp [putRow,mapBlock,Sort.ahead,Array.getElem?_modify,this]
theorem take_putCellsV (cur:Array Value) (ts:List Value) (h:ts.length<=cur.size):(putCells id 0 ts.toArray cur).toList.take ts.length=ts:=by
 apply List.ext_getElem?
 intro j
 by_cases hj:j<ts.length
 ·rw [List.getElem?_take_of_lt hj,Array.getElem?_toList]
  simp [putCells,hj,show j<cur.size by omega]
 ·rw [List.getElem?_take_eq_none (by omega),List.getElem?_eq_none (by omega)]
theorem ownK_sorted {B cap n:Nat} {os:Array Obj} {ss ts:List α} (h:OneK k f) (hl:ts.length=ss.length) (hbase:B<=g) (hb:w.heap[g]? = some (.cells cur e (0,0))) (h1:ss.length<=cap) (h2:cap<=maxLen) (h3:cur.size=cap*k) :
  OwnK k f (grow (putRowK f k (Sort.ahead w n) g 0 ts.toArray) os) B e (some ⟨g,0,none⟩) cap ts:=by
 unfold putRowK
 rw [flatK_list h]
 have hf:=h.flen ts
 have hle:ts.length*k<=cur.size:=by rw [h3]; exact Nat.mul_le_mul_right k (by omega)
 refine ⟨h,hf,.inr ⟨g,cap,_,rfl,hbase,heap_sortedV _ hb,by omega,h2,by simp [putCells,h3],?_⟩⟩
 rw [<-hf]
 exact take_putCellsV cur _ (by omega)
end
end
 end Go.Proofs.YtafpeckmdjplnaaGreatDoor

namespace Go.Proofs
open Go.Shelf
def Tryz.sortf62_ren:Go.Shelf.Ren:=⟨fun | 6=>62 | 15=>88 | 14=>87 | 28=>112 | 29=>113 | 20=>104 | 21=>105 | 22=>106 | 23=>107 | 24=>108 | 25=>109 | 26=>110 | 27=>111 | 46=>134 | 47=>135 | 48=>136 | 49=>137 | 50=>138 | 57=>151 | n=>n,fun | 22=>68 | 24=>97 | 25=>133 | 3=>3 | 39=>117 | 0=>0 | 53=>115 | 55=>116 | 4=>4 | 46=>176 | 45=>175 | 50=>180 | 5=>5 | 9=>9 | 66=>206 | 70=>210 | 76=>219 | 77=>220 | n=>n,fun | n=>n⟩
theorem Tryz.sortf62:Go.Proofs.SlLaysF0.n6 Tryz.prog Tryz.sortf62_ren:={
 mixed:=by kernel_rfl
 f6:=⟨Tryz.f62.name,by decide,Tryz.func62.trans (congrArg some (by kernel_rfl))⟩
 f14:=⟨Tryz.f87.name,by decide,Tryz.func87.trans (congrArg some (by kernel_rfl))⟩
 f15:=Tryz.func88.trans (congrArg some (by kernel_rfl))
 f20:=⟨Tryz.f104.name,by decide,Tryz.func104.trans (congrArg some (by kernel_rfl))⟩
 f21:=⟨Tryz.f105.name,by decide,Tryz.func105.trans (congrArg some (by kernel_rfl))⟩
 f22:=⟨Tryz.f106.name,by decide,Tryz.func106.trans (congrArg some (by kernel_rfl))⟩
 f23:=⟨Tryz.f107.name,by decide,Tryz.func107.trans (congrArg some (by kernel_rfl))⟩
 f24:=⟨Tryz.f108.name,by decide,Tryz.func108.trans (congrArg some (by kernel_rfl))⟩
 f25:=⟨Tryz.f109.name,by decide,Tryz.func109.trans (congrArg some (by kernel_rfl))⟩
 f26:=⟨Tryz.f110.name,by decide,Tryz.func110.trans (congrArg some (by kernel_rfl))⟩
 f27:=⟨Tryz.f111.name,by decide,Tryz.func111.trans (congrArg some (by kernel_rfl))⟩
 f28:=Tryz.func112.trans (congrArg some (by kernel_rfl))
 f29:=Tryz.func113.trans (congrArg some (by kernel_rfl))
 f46:=⟨Tryz.f134.name,by decide,Tryz.func134.trans (congrArg some (by kernel_rfl))⟩
 f47:=Tryz.func135.trans (congrArg some (by kernel_rfl))
 f48:=Tryz.func136.trans (congrArg some (by kernel_rfl))
 f49:=⟨Tryz.f137.name,by decide,Tryz.func137.trans (congrArg some (by kernel_rfl))⟩
 f50:=⟨Tryz.f138.name,by decide,Tryz.func138.trans (congrArg some (by kernel_rfl))⟩
 f57:=⟨Tryz.f151.name,by decide,Tryz.func151.trans (congrArg some (by kernel_rfl))⟩
 t0:=Tryz.underlying0
 a0:=Tryz.isAgg0
 z0:=Tryz.sizeOf0
 v0:=Tryz.zeroValue0
 t3:=Tryz.underlying3
 a3:=Tryz.isAgg3
 z3:=Tryz.sizeOf3
 v3:=Tryz.zeroValue3
 t4:=Tryz.underlying4
 a4:=Tryz.isAgg4
 z4:=Tryz.sizeOf4
 v4:=Tryz.zeroValue4
 t5:=Tryz.underlying5
 a5:=Tryz.isAgg5
 z5:=Tryz.sizeOf5
 v5:=Tryz.zeroValue5
 t9:=Tryz.underlying9
 a9:=Tryz.isAgg9
 z9:=Tryz.sizeOf9
 v9:=Tryz.zeroValue9
 t22:=Tryz.underlying68
 a22:=Tryz.isAgg68
 z22:=Tryz.sizeOf68
 v22:=Tryz.zeroValue68
 t25:=Tryz.underlying133
 a25:=Tryz.isAgg133
 z25:=Tryz.sizeOf133
 v25:=Tryz.zeroValue133
 t39:=Tryz.underlying117
 a39:=Tryz.isAgg117
 z39:=Tryz.sizeOf117
 v39:=Tryz.zeroValue117
 t45:=Tryz.underlying175
 a45:=Tryz.isAgg175
 z45:=Tryz.sizeOf175
 v45:=Tryz.zeroValue175
 t46:=Tryz.underlying176
 a46:=Tryz.isAgg176
 z46:=Tryz.sizeOf176
 v46:=Tryz.zeroValue176
 t50:=Tryz.underlying180
 a50:=Tryz.isAgg180
 z50:=Tryz.sizeOf180
 v50:=Tryz.zeroValue180
 t53:=Tryz.underlying115
 a53:=Tryz.isAgg115
 z53:=Tryz.sizeOf115
 v53:=Tryz.zeroValue115
 t55:=Tryz.underlying116
 a55:=Tryz.isAgg116
 z55:=Tryz.sizeOf116
 v55:=Tryz.zeroValue116
 t66:=Tryz.underlying206
 a66:=Tryz.isAgg206
 z66:=Tryz.sizeOf206
 v66:=Tryz.zeroValue206
 t70:=Tryz.underlying210
 a70:=Tryz.isAgg210
 z70:=Tryz.sizeOf210
 v70:=Tryz.zeroValue210
 t76:=Tryz.underlying219
 a76:=Tryz.isAgg219
 z76:=Tryz.sizeOf219
 v76:=Tryz.zeroValue219
 t77:=Tryz.underlying220
 a77:=Tryz.isAgg220
 z77:=Tryz.sizeOf220
 v77:=Tryz.zeroValue220 }
end Go.Proofs
 
namespace Go.Proofs.YtafpeckmdjplnaaGreatDoor

section
open Go Go.Proofs Go.Shelf Go.RowKit Go.Lib Go.Sort
abbrev EE:=List UInt8 × List UInt8
def k32 (x:List UInt8):List UInt8:=(List.range 32).map fun i=>x.getD i 0
def cmpEE (x y:EE):Int:=compareBytes (k32 x.1) (k32 y.1)
theorem k32_len (x:List UInt8):(k32 x).length=32:=by simp [k32]
theorem k32_id {x:List UInt8} (h:x.length=32):k32 x=x:=by
 apply List.ext_getElem (by rw [k32_len,h])
 intro i h1 h2
 simp [k32,List.getD,h2]
theorem k32_cell (x:List UInt8) (j:Nat) (b:UInt8) (h:(k32 x)[j]? = some b):(a32 x)[j]? = some (Value.int .u8 b.toNat):=by
 have hj:j<32:=by
  have:=(List.getElem?_eq_some_iff.1 h).1
  rwa [k32_len] at this
 rw [a32_get x j hj]
 have e:(k32 x)[j]? = some (x.getD j 0):=by simp [k32,hj]
 rw [e] at h
 injection h with h
 rw [h]; rfl
theorem run_lb {P:Program} (w:World) (l:List UInt8) (a:Addr) (h:∀ (j:Nat) (x:UInt8),l[j]? = some x->w.cell? (a.add j)=some (Value.int .u8 x.toNat)):(Extern.Bytes.loadBytes a l.length .empty).run P w=.ok ⟨l.toArray⟩ w:=by
 have e:=run_loadBytesX (P:=P) w (l.map fun b=>(b.toNat:Int)) a .empty (fun j x hx=>by
  rw [List.getElem?_map,Option.map_eq_some_iff] at hx
  obtain ⟨b,hb,rfl⟩:=hx
  exact h j b hb)
 rw [List.length_map] at e
 rw [e]
 congr 1
 apply ByteArray.ext
 simp [Lib.bytesOf,Function.comp_def]
theorem run_cmpB {P:Program} (a b:Addr) (xs ys:List UInt8) (c1 c2:Nat) (w:World) (h1:∀ j x,xs[j]? = some x->w.cell? (a.add j)=some (Value.int .u8 x.toNat)) (h2:∀ j x,ys[j]? = some x->w.cell? (b.add j)=some (Value.int .u8 x.toNat)) :
  (Extern.BytealgCompare.compare #[.slice (some a) xs.length c1,.slice (some b) ys.length c2]).run P w=.ok (.int .i64 (compareBytes xs ys)) w:=by
 change Sem.run P (do pure (goInt (Extern.BytealgCompare.cmp (<-Extern.Bytes.bytesOf (.slice (some a) xs.length c1)) (<-Extern.Bytes.bytesOf (.slice (some b) ys.length c2))))) w=_
 simp only [Extern.Bytes.bytesOf,Sem.run_bind,run_lb w xs a h1,run_lb w ys b h2,Sem.run_pure,Result.andThen]
 rw [cmp_eq]
 simp [goInt]
set_option maxHeartbeats 4000000 in
set_option maxRecDepth 100000 in
theorem compareB (g1 g2:Nat) (x y:EE) (w:World) (h1:∀ (j:Nat) (b:UInt8),(k32 x.1)[j]? = some b->w.cell? (Addr.add ⟨g1,0,none⟩ j)=some (Value.int .u8 b.toNat)) (h2:∀ (j:Nat) (b:UInt8),(k32 y.1)[j]? = some b->w.cell? (Addr.add ⟨g2,0,none⟩ j)=some (Value.int .u8 b.toNat)) :
  Calls Tryz.prog 64 #[.slice (some ⟨g1,0,none⟩) 32 32,.slice (some ⟨g2,0,none⟩) 32 32] w fun e w'=>e=.returned (.int .i64 (cmpEE x y))/\w'=w:=by
 have hr:=run_cmpB (P:=Tryz.prog) ⟨g1,0,none⟩ ⟨g2,0,none⟩ (k32 x.1) (k32 y.1) 32 32 w h1 h2
 rw [k32_len,k32_len] at hr
 change _=Result.ok (Value.int .i64 (cmpEE x y)) w at hr
 go_enter Tryz.func64,Tryz.ntmps64
 go_wp2
 rw [run_callFunc_extern Tryz.func89 (by kernel_rfl) (by kernel_rfl) (by kernel_rfl) (e:=Extern.BytealgCompare.compare) (by kernel_rfl),hr]
 simp only [Result.andThen]
 rw [Oper.upon_value]
 go_wp2
 go_ret
 exact ⟨rfl,rfl⟩
set_option maxHeartbeats 4000000 in
set_option maxRecDepth 100000 in
theorem compare_EE (x y:EE) (W:World):Calls Tryz.prog 63 #[.agg ⟨enc97 x⟩,.agg ⟨enc97 y⟩] W fun e w'=>e=.returned (.int .i64 (cmpEE x y))/\∃ q os,w'=grow (W.drewN q) os:=by
 have mixed:Tryz.prog.follows .mixedOrders=true:=by kernel_rfl
 have hX:∀ (j:Nat) (b:UInt8),(k32 x.1)[j]? = some b->(⟨enc97 x⟩:Array Value)[j]? = some (Value.int .u8 b.toNat):=fun j b h=>by
  have hj:=(List.getElem?_eq_some_iff.1 h).1
  rw [k32_len] at hj
  have e:(⟨enc97 x⟩:Array Value)[j]? = (a32 x.1++a32 x.2)[j]? := by simp [enc97]
  rw [e]
  rw [List.getElem?_append_left (by rw [a32_len]; exact hj)]
  exact k32_cell _ _ _ h
 have hY:∀ (j:Nat) (b:UInt8),(k32 y.1)[j]? = some b->(⟨enc97 y⟩:Array Value)[j]? = some (Value.int .u8 b.toNat):=fun j b h=>by
  have hj:=(List.getElem?_eq_some_iff.1 h).1
  rw [k32_len] at hj
  have e:(⟨enc97 y⟩:Array Value)[j]? = (a32 y.1++a32 y.2)[j]? := by simp [enc97]
  rw [e]
  rw [List.getElem?_append_left (by rw [a32_len]; exact hj)]
  exact k32_cell _ _ _ h
 generalize (⟨enc97 x⟩:Array Value)=ax at hX |-
 generalize (⟨enc97 y⟩:Array Value)=ay at hY |-
 go_enter Tryz.func63,Tryz.ntmps63
 go_wp2
 generalize ho1:Obj.cells ax 97=o1
 generalize ho2:Obj.cells ay 97=o2
 have hg:(W.alloc o1).alloc o2=grow W #[o1,o2]:=by rw [alloc_eq_grow,alloc_eq_grow,grow_grow]; rfl
 generalize hW2:(W.alloc o1).alloc o2=W2 at hg |-
 have hh:W2.heap=(W.heap.push o1).push o2:=by rw [<-hW2]; rfl
 have e1:W2.heap[W.heap.size]? = some o1:=by rw [hh,Array.getElem?_push,if_neg (by rw [Array.size_push]; omega),Array.getElem?_push,if_pos rfl]
 have e2:W2.heap[W.heap.size+1]? = some o2:=by rw [hh,Array.getElem?_push,if_pos (by rw [Array.size_push])]
 have a1:∀ (j:Nat) (b:UInt8),(k32 x.1)[j]? = some b->W2.drew.cell? (Addr.add ⟨W.heap.size,0,none⟩ j)=some (Value.int .u8 b.toNat):=fun j b h=>by
  rw [show W2.drew.cell? (Addr.add ⟨W.heap.size,0,none⟩ j)=W2.cell? ⟨W.heap.size,j,none⟩ by rw [Addr.add_lit,Nat.zero_add]; rfl]
  unfold World.cell?
  rw [e1,<-ho1]
  exact hX j b h
 have b1:∀ (j:Nat) (b:UInt8),(k32 y.1)[j]? = some b->W2.drew.cell? (Addr.add ⟨W.heap.size+1,0,none⟩ j)=some (Value.int .u8 b.toNat):=fun j b h=>by
  rw [show W2.drew.cell? (Addr.add ⟨W.heap.size+1,0,none⟩ j)=W2.cell? ⟨W.heap.size+1,j,none⟩ by rw [Addr.add_lit,Nat.zero_add]; rfl]
  unfold World.cell?
  rw [e2,<-ho2]
  exact hY j b h
 have HG:Aside (W2=grow W #[o1,o2]):=hg
 have hc:=compareB W.heap.size (W.heap.size+1) x y W2.drew a1 b1
 clear hg hh hW2 ho1 ho2 e1 e2 a1 b1 hX hY
 generalize hs:W.heap.size=sz at hc |-
 clear hs
 refine wp_region_still_tail 4 (by kernel_rfl) (by kernel_rfl) ?_
 simp only [List.take_succ_cons,List.take_zero,List.drop_succ_cons,List.drop_zero]
 still_step
 still_step
 still_step
 still_step
 refine wpStill_nil ?_
 change wpList _ _ _ _ _ W2.drew
 go_wp2_with (go_at_call 64; refine hc.mono ?_; rintro e w' ⟨rfl,rfl⟩)
 go_ret
 refine ⟨rfl,1,#[o1,o2],?_⟩
 rw [HG.out]
 rfl
section
variable {α:Type} [Inhabited α] {k:Nat} {f:α->List Value} {w:World} {e:TypeId}
theorem sortE_fn {P:Program} {F:FuncId} {fv:Value} {R:List α->Prop} {A:Option Addr} {c n B:Nat} {xs:List α} (hE:goesIn P F=true)
  (hS:∀ (b cap:Nat) (w1:World),HoldsK f k w1 b 0 xs.toArray->b<w1.heap.size->Calls P F #[.slice (some ⟨b,0,none⟩) xs.length cap,fv] w1 fun e w'=>e=.returned (.tuple #[])/\∃ (ys:List α) (n:Nat) (os:Array Obj),ys.length=xs.length/\R ys/\w'=sortWorldK f k w1 b 0 n ys.toArray os)
  (hN:∀ (p:Option Addr) (cap:Nat) (w1:World),Calls P F #[.slice p 0 cap,fv] w1 fun e w'=>e=.returned (.tuple #[])/\w'=w1) (hR:xs=[]->R [])
  (hO:OwnK k f w B e A c xs) (hn:n=xs.length) :
  Fn P F ⟨[.slice A n c,fv]⟩ w (fun v w'=>∃ ys:List α,v=.tuple #[]/\OwnK k f w' B e A c ys/\w.grownBy w' (blk A)/\ys.length=xs.length/\R ys):=by
 subst hn
 refine ⟨hE,fun w1 e1=>?_⟩
 have hO1:=hO.eqv e1
 rcases hO1.2.2 with ⟨hv,hn⟩ | ⟨b,cap,cur,hv,hb,hg,hnc,hcm,hcs,htake⟩
 ·simp only [Value.slice.injEq] at hv
  obtain ⟨rfl,_,rfl⟩:=hv
  have:xs=[]:=List.eq_nil_of_length_eq_zero hn
  subst this
  exact (hN none 0 w1).mono fun _ w' ⟨he,hw⟩=>⟨_,w,he,by rw [hw]; exact e1,[],rfl,hO,jr _ _,rfl,hR rfl⟩
 ·simp only [Value.slice.injEq] at hv
  obtain ⟨rfl,_,rfl⟩:=hv
  have hH:HoldsK f k w1 b 0 xs.toArray:=by
   unfold HoldsK
   rw [flatK_list hO.1]
   exact holds_of_blockV hg (by rw [hO.1.flen xs]; exact htake)
  refine (hS b c w1 hH (Array.getElem?_eq_some_iff.1 hg).1).mono fun _ w' ⟨he,ys,q,os,hl,hr,hw⟩=>?_
  have h1:=ownK_sorted (n:=q) (os:=os) hO.1 hl hb hg hnc hcm hcs
  have h2:=grownBy_sortedV (w:=w1) (g:=b) (n:=q) (os:=os) (flatK f k ys.toArray)
  unfold sortWorldK at hw
  rw [<-hw] at h1
  unfold putRowK at hw
  rw [<-hw] at h2
  exact ⟨_,w',he,Eqv.refl _,_,rfl,h1,kh e1 h2,hl,hr⟩
end
theorem ltEE_iff (x y:EE):ltOf cmpEE x y=true↔k32 x.1<k32 y.1:=by
 unfold ltOf cmpEE
 rw [decide_eq_true_iff,cB_neg]
theorem ltEE_no (x y:EE):ltOf cmpEE x y=false↔¬ k32 x.1<k32 y.1:=by rw [<-ltEE_iff,Bool.not_eq_true]
theorem ltEE_swo:SWO (ltOf cmpEE) where
 irrefl x:=(ltEE_no x x).2 (List.lt_irrefl _)
 trans x y z h k:=(ltEE_iff x z).2 (List.lt_trans ((ltEE_iff x y).1 h) ((ltEE_iff y z).1 k))
 ntrans x y z h k:=by
  rw [ltEE_no] at *
  exact List.not_lt.2 (List.le_trans (List.not_lt.1 k) (List.not_lt.1 h))
def SortedE (ys:List EE):Prop:=∀ i j,i<j->j<ys.length->¬ k32 (ys.getD j ([],[])).1<k32 (ys.getD i ([],[])).1
def jp (xs:List EE) (K:List EE->Prop):Prop:=xs.length<4611686018427387904/\∀ ys:List EE,ys.Perm xs->SortedE ys->K ys
theorem jS {w:World} {xs:List EE} {A:Option Addr} {c n B:Nat} {e:TypeId} {K:List EE->Prop} (hO:OwnK 64 enc97 w B e A c xs) (hn:n=xs.length) (H:jp xs K) :
  Fn Tryz.prog 62 ⟨[.slice A n c,.func (.func 63) #[] #[]]⟩ w (fun v w'=>∃ ys:List EE,v=.tuple #[]/\OwnK 64 enc97 w' B e A c ys/\w.grownBy w' (blk A)/\ys.length=xs.length/\K ys):=by
 refine sortE_fn (by kernel_rfl) (fun b cap w1 hH hb=>?_) (fun p cap w1=>AnyF.slices_SortFunc_none Tryz.sortf62 p cap _ w1) (fun h=>H.2 _ (by rw [h]) fun i j _ hj=>by simp at hj) hO hn
 have hsz:xs.toArray.size<4611686018427387904:=H.1
 refine (AnyQ.slices_SortFunc Tryz.sortf62 64 Tryz.isAgg97 Tryz.sizeOf97 enc97 (fun _=>rfl) (fun x v hv=>enc97_ok.one x v hv) cmpEE ltEE_swo 63 #[] b 0 cap xs.toArray w1 (fun _ _=>by kernel_rfl) (fun _ _ _ _ x y=>compare_EE x y _) hH hb hsz).mono fun _ w' ⟨he,d,q,os,⟨p1,p2,p3⟩,hs,hw⟩=>?_
 have hd:d.toList.length=xs.length:=by simpa using p1
 refine ⟨he,d.toList,q,os,hd,H.2 _ ?_ fun i j hij hj=>?_,hw⟩
 ·have e1:d.extract 0 xs.toArray.size=d:=by rw [<-p1]; exact Array.extract_size
  rw [e1,Array.extract_size] at p3
  simpa using p3
 ·have:=hs i j (Nat.zero_le _) hij (by rw [<-p1]; simpa using hj)
  rw [ltEE_no] at this
  have h1:i<d.size:=by simp at hj; omega
  have h2:j<d.size:=by simpa using hj
  simpa [List.getD,h1,h2] using this
end
 end Go.Proofs.YtafpeckmdjplnaaGreatDoor
