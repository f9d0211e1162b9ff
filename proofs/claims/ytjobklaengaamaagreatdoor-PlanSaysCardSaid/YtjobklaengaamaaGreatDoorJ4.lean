/- Texts of this claim, joined by a program: GTo, Ord, GPl, PathD, PathE, PathF, GPr, See, PathG, Srt, PathH, SrtG, GrA, GrB, GrC, GrO. -/
import Derived.Test.YtjobklaengaamaaGreatDoorJ3
import Derived.Lib.SlicesCompact
import Derived.Sort.Walk0
import Derived.Lib.Bytealg
import Derived.Shelf.SlSortCmp.Insertion
namespace Go.Proofs.YtjobklaengaamaaGreatDoor

section
open Go Go.RowKit
attribute [local irreducible] WL WC WX WQ WK WJ Yld Eff Ef0 Fn
def js (s:List UInt8) (suffix:List UInt8) (K:Bool->Prop):Prop :=
 ((decide ((suffix.length:Int)<=(s.length:Int)))=true->(In .i64 ((s.length:Int) - (suffix.length:Int)))) /\
 ((decide ((suffix.length:Int)<=(s.length:Int)))=true->(0<=(s.length:Int) - (suffix.length:Int)/\(s.length:Int) - (suffix.length:Int)<=s.length)) /\
 K ((decide ((suffix.length:Int)<=(s.length:Int))) && (decide ((s.drop ((s.length:Int) - (suffix.length:Int)).toNat)=suffix)))
def jq (s:List UInt8) (suffix:List UInt8) (K:(List UInt8)->Prop):Prop :=
 js s suffix (fun (t7:Bool) =>
 ((t7=true->(In .i64 ((s.length:Int) - (suffix.length:Int))) /\
 (0<=(s.length:Int) - (suffix.length:Int)/\(s.length:Int) - (suffix.length:Int)<=s.length) /\
 K (s.take ((s.length:Int) - (suffix.length:Int)).toNat)) /\
 (t7=false->K s)))
def ks (s:List UInt8) (suffix:List UInt8) (K:(List UInt8)->Prop):Prop :=
 jq s suffix (fun (t4:List UInt8) =>
 K t4)
def jJ (s:List (List UInt8)) (v:List UInt8) (K:Int->Prop):Prop :=
 (s.length<=maxLen ->
 Lp1 (fun (t8:Int) kont1=>((t8<(s.length:Int)->(0<=t8/\t8<(s.length:Nat)) /\
 ((v=(s.getD t8.toNat [])->K t8) /\
 (¬ (v=(s.getD t8.toNat []))->(In .i64 (t8+(1:Int))) /\
 kont1 (t8+(1:Int))))) /\
 (¬ (t8<(s.length:Int))->K (-1:Int)))) (0:Int))
def qY (s:List (List UInt8)) (v:List UInt8) (K:Bool->Prop):Prop :=
 (s.length<=maxLen ->
 jJ s v (fun (t7:Int) =>
 K (decide ((0:Int)<=t7))))
def M_tool_Lines (s:List UInt8) (K:(List (List UInt8))->Prop):Prop :=
 ((s=([]:List UInt8)->K []) /\
 (¬ (s=([]:List UInt8))->ks s ([10]:List UInt8) (fun (t6:List UInt8) =>
 Zs t6 ([10]:List UInt8) (fun (t2:List (List UInt8)) =>
 K t2))))
def M_tool_lines (inputs:List (List UInt8)) (K:(List (List UInt8))->Prop):Prop :=
 (inputs.length<=maxLen ->
 Lp2 (fun (l:List (List UInt8)) (t8:Int) kont1=>((t8<(inputs.length:Int)->(0<=t8/\t8<(inputs.length:Nat)) /\
 M_tool_Lines (inputs.getD t8.toNat []) (fun (t14:List (List UInt8)) =>
 ((l.length+t14.length)*16<=140737488355328) /\
 (In .i64 (t8+(1:Int))) /\
 kont1 (l++t14) (t8+(1:Int)))) /\
 (¬ (t8<(inputs.length:Int))->K l))) [] (0:Int))
def M_tool_filter (args:List (List UInt8)) (l:List (List UInt8)) (K:(List (List UInt8))->Bool->Prop):Prop :=
 (args.length<=maxLen ->
 (l.length<=maxLen ->
 (((decide ((args.length:Int)<(1:Int))) || (decide ((2:Int)<(args.length:Int))))=false->(decide ((args.length:Int)=(2:Int)))=true->(0<=(1:Int)/\(1:Int)<(args.length:Nat))) /\
 (((((decide ((args.length:Int)<(1:Int))) || (decide ((2:Int)<(args.length:Int)))) || ((decide ((args.length:Int)=(2:Int))) && (!decide ((args.getD 1 [])=([110,111,116]:List UInt8)))))=true->K [] false) /\
 ((((decide ((args.length:Int)<(1:Int))) || (decide ((2:Int)<(args.length:Int)))) || ((decide ((args.length:Int)=(2:Int))) && (!decide ((args.getD 1 [])=([110,111,116]:List UInt8)))))=false->Lp2 (fun (out:List (List UInt8)) (t30:Int) kont1=>((t30<(l.length:Int)->∃ J1:(List (List UInt8))->Prop,((0<=t30/\t30<(l.length:Nat)) /\
 (0<=(0:Int)/\(0:Int)<(args.length:Nat)) /\
 M_strings_Contains (l.getD t30.toNat []) (args.getD 0 []) (fun (t38:Bool) =>
 (((t38 == (decide ((args.length:Int)=(1:Int))))=true->((out.length+(([l.getD t30.toNat []]:List (List UInt8))).length)*16<=140737488355328) /\
 J1 (out++([l.getD t30.toNat []]:List (List UInt8)))) /\
 ((t38 == (decide ((args.length:Int)=(1:Int))))=false->J1 out)))) /\
 (∀ out2:List (List UInt8),J1 out2->(In .i64 (t30+(1:Int))) /\
 kont1 out2 (t30+(1:Int)))) /\
 (¬ (t30<(l.length:Int))->K out true))) [] (0:Int)))))
def M_tool_sorted (args:List (List UInt8)) (l:List (List UInt8)) (K:(List (List UInt8))->Bool->Prop):Prop :=
 (args.length<=maxLen ->
 (l.length<=maxLen ->
 qY args ([114,101,118,101,114,115,101]:List UInt8) (fun (reverse:Bool) =>
 qY args ([117,110,105,113,117,101]:List UInt8) (fun (unique:Bool) =>
 ∃ J1:Int->Prop,(((reverse=true->(In .i64 ((0:Int)+(1:Int))) /\
 J1 ((0:Int)+(1:Int))) /\
 (reverse=false->J1 (0:Int)))) /\
 (∀ n:Int,J1 n->∃ J2:Int->Prop,(((unique=true->(In .i64 (n+(1:Int))) /\
 J2 (n+(1:Int))) /\
 (unique=false->J2 n))) /\
 (∀ n2:Int,J2 n2->((¬ (n2=(args.length:Int))->K [] false) /\
 (n2=(args.length:Int)->je l (fun (out:List (List UInt8)) =>
 ∃ J3:(List (List UInt8))->Prop,(((unique=true->kC out (fun (out4:List (List UInt8)) =>
 J3 out4)) /\
 (unique=false->J3 out))) /\
 (∀ out2:List (List UInt8),J3 out2->∃ J4:(List (List UInt8))->Prop,(((reverse=true->kD out2 (fun (ys:List (List UInt8)) =>
 J4 ys)) /\
 (reverse=false->J4 out2))) /\
 (∀ out3:List (List UInt8),J4 out3->K out3 true)))))))))))
def M_tool_listed (tool:Int) (args:List (List UInt8)) (inputs:List (List UInt8)) (K:(List (List UInt8))->Bool->Prop):Prop :=
 (args.length<=maxLen ->
 (inputs.length<=maxLen ->
 ((tool=(2:Int)->M_tool_lines inputs (fun (t16:List (List UInt8)) =>
 M_tool_filter args t16 (fun (t170:List (List UInt8)) (t171:Bool) =>
 K t170 t171))) /\
 (¬ (tool=(2:Int))->((tool=(4:Int)->M_tool_lines inputs (fun (t24:List (List UInt8)) =>
 M_tool_sorted args t24 (fun (t250:List (List UInt8)) (t251:Bool) =>
 K t250 t251))) /\
 (¬ (tool=(4:Int))->Lp2 (fun (l:List (List UInt8)) (t30:Int) kont1=>((t30<(inputs.length:Int)->(0<=t30/\t30<(inputs.length:Nat)) /\
 ((inputs.getD t30.toNat []).length<=maxLen) /\
 M_sha_Of (inputs.getD t30.toNat []) (fun (t37:List UInt8) =>
 M_sha_Text t37 (fun (t38:List UInt8) =>
 ((l.length+(([t38]:List (List UInt8))).length)*16<=140737488355328) /\
 (In .i64 (t30+(1:Int))) /\
 kont1 (l++([t38]:List (List UInt8))) (t30+(1:Int))))) /\
 (¬ (t30<(inputs.length:Int))->K l (decide ((args.length:Int)=(0:Int)))))) [] (0:Int)))))))
def kX (args:List (List UInt8)) (inputs:List (List UInt8)) (K:(List UInt8)->Er->Prop):Prop :=
 (args.length<=maxLen ->
 (inputs.length<=maxLen ->
 (0<=(args.length:Int)/\0<(2:Int)) /\
 ((¬ (((args.length:Int) % (2:Int))=(0:Int))->K ([]:List UInt8) (Er.e 16)) /\
 (((args.length:Int) % (2:Int))=(0:Int)->kR inputs ([]:List UInt8) ([]:List UInt8) (fun (t180:List UInt8) (t181:Er) =>
 ((¬ (t181=Er.ok)->K ([]:List UInt8) t181) /\
 (t181=Er.ok->Lp2 (fun (s:List UInt8) (i:Int) kont1=>((i<(args.length:Int)->(0<=i/\i<(args.length:Nat)) /\
 (((args.getD i.toNat [])=([]:List UInt8)->K ([]:List UInt8) (Er.e 16)) /\
 (¬ ((args.getD i.toNat [])=([]:List UInt8))->(0<=i/\i<(args.length:Nat)) /\
 M_strings_Count s (args.getD i.toNat []) (fun (n:Int) =>
 (In .i64 (i+(1:Int))) /\
 (0<=i+(1:Int)/\i+(1:Int)<(args.length:Nat)) /\
 (0<=i/\i<(args.length:Nat)) /\
 (In .i64 (((args.getD ((i+(1:Int)).toNat) []).length:Int) - ((args.getD i.toNat []).length:Int))) /\
 ((decide ((0:Int)<(((args.getD ((i+(1:Int)).toNat) []).length:Int) - ((args.getD i.toNat []).length:Int))))=true->(In .i64 ((65536:Int) - (s.length:Int)))) /\
 ((decide ((0:Int)<(((args.getD ((i+(1:Int)).toNat) []).length:Int) - ((args.getD i.toNat []).length:Int))))=true->(0<=(65536:Int) - (s.length:Int)/\0<((args.getD ((i+(1:Int)).toNat) []).length:Int) - ((args.getD i.toNat []).length:Int)/\In .i64 ((65536:Int) - (s.length:Int)))) /\
 ((((decide ((0:Int)<(((args.getD ((i+(1:Int)).toNat) []).length:Int) - ((args.getD i.toNat []).length:Int)))) && (decide ((((65536:Int) - (s.length:Int)) / (((args.getD ((i+(1:Int)).toNat) []).length:Int) - ((args.getD i.toNat []).length:Int)))<n)))=true->K ([]:List UInt8) (Er.e 16)) /\
 (((decide ((0:Int)<(((args.getD ((i+(1:Int)).toNat) []).length:Int) - ((args.getD i.toNat []).length:Int)))) && (decide ((((65536:Int) - (s.length:Int)) / (((args.getD ((i+(1:Int)).toNat) []).length:Int) - ((args.getD i.toNat []).length:Int)))<n)))=false->(0<=i/\i<(args.length:Nat)) /\
 (In .i64 (i+(1:Int))) /\
 (0<=i+(1:Int)/\i+(1:Int)<(args.length:Nat)) /\
 M_strings_ReplaceAll s (args.getD i.toNat []) (args.getD ((i+(1:Int)).toNat) []) (fun (s2:List UInt8) =>
 (In .i64 (i+(2:Int))) /\
 kont1 s2 (i+(2:Int))))))))) /\
 (¬ (i<(args.length:Int))->K s Er.ok))) t180 (0:Int))))))))
def M_tool_Do (tool:Int) (args:List (List UInt8)) (inputs:List (List UInt8)) (K:(List UInt8)->Er->Prop):Prop :=
 (args.length<=maxLen ->
 (inputs.length<=maxLen ->
 ∃ J1:(List (List UInt8))->(List (List UInt8))->(List UInt8)->Bool->Prop,(((tool=(3:Int)->kX args inputs (fun (t220:List UInt8) (t221:Er) =>
 K t220 t221)) /\
 (¬ (tool=(3:Int))->∃ J3:Bool->Prop,(((tool=(2:Int)->J3 (decide (tool=(2:Int)))) /\
 (¬ (tool=(2:Int))->((tool=(4:Int)->J3 (decide (tool=(4:Int)))) /\
 (¬ (tool=(4:Int))->J3 (decide (tool=(5:Int)))))))) /\
 (∀ t14:Bool,J3 t14->((t14=true->M_tool_listed tool args inputs (fun (t290:List (List UInt8)) (t291:Bool) =>
 J1 [] t290 ([10]:List UInt8) t291)) /\
 (t14=false->((tool=(1:Int)->J1 args inputs ([]:List UInt8) true) /\
 (¬ (tool=(1:Int))->K ([]:List UInt8) (Er.e 10))))))))) /\
 (∀ args2:List (List UInt8),∀ inputs2:List (List UInt8),∀ end_:List UInt8,∀ is:Bool,J1 args2 inputs2 end_ is->((((!is) || (decide ((1:Int)<(args2.length:Int))))=true->K ([]:List UInt8) (Er.e 16)) /\
 (((!is) || (decide ((1:Int)<(args2.length:Int))))=false->∃ J2:(List UInt8)->Prop,((((args2.length:Int)=(1:Int)->(0<=(0:Int)/\(0:Int)<(args2.length:Nat)) /\
 J2 (args2.getD 0 [])) /\
 (¬ ((args2.length:Int)=(1:Int))->J2 ([]:List UInt8)))) /\
 (∀ by_:List UInt8,J2 by_->kR inputs2 by_ end_ (fun (t490:List UInt8) (t491:Er) =>
 K t490 t491)))))))
def M_key_Parts (tool:Int) (args:List (List UInt8)) (inputs:List (List UInt8)) (K:(List (List UInt8))->Prop):Prop :=
 (args.length<=maxLen ->
 (inputs.length<=maxLen ->
 Zc tool (fun (t11:List UInt8) =>
 Zc (args.length:Int) (fun (t14:List UInt8) =>
 (((([([115,109,105,116,104,121]:List UInt8),t11,t14]:List (List UInt8))).length+args.length)*16<=140737488355328) /\
 Lp2 (fun (l:List (List UInt8)) (t21:Int) kont1=>((t21<(inputs.length:Int)->(0<=t21/\t21<(inputs.length:Nat)) /\
 M_sha_Text (inputs.getD t21.toNat []) (fun (t27:List UInt8) =>
 ((l.length+(([t27]:List (List UInt8))).length)*16<=140737488355328) /\
 (In .i64 (t21+(1:Int))) /\
 kont1 (l++([t27]:List (List UInt8))) (t21+(1:Int)))) /\
 (¬ (t21<(inputs.length:Int))->K l))) (([([115,109,105,116,104,121]:List UInt8),t11,t14]:List (List UInt8))++args) (0:Int)))))
def M_key_Source (text:List UInt8) (K:(List UInt8)->Prop):Prop :=
 (text.length<=maxLen) /\
 M_sha_Of text (fun (t5:List UInt8) =>
 K t5)
def M_key_Of (tool:Int) (args:List (List UInt8)) (inputs:List (List UInt8)) (K:(List UInt8)->Prop):Prop :=
 (args.length<=maxLen ->
 (inputs.length<=maxLen ->
 M_key_Parts tool args inputs (fun (t10:List (List UInt8)) =>
 M_sha_Many t10 (fun (t11:List UInt8) =>
 K t11))))
set_option maxHeartbeats 8000000 in
theorem W_internal_stringslite_HasSuffix {w:World} {s:List UInt8} {suffix:List UInt8} {K:Bool->Prop} (H:js s suffix K):Fn Tryz.prog 199 ⟨[vs s,vs suffix]⟩ w (fun v w'=>w=w'/\∃ (r:Bool),v=.bool r/\K r):=by
 unfold js at H
 refine Fn.enter (by kernel_rfl) Tryz.func199 rfl Tryz.ntmps199 rfl ?_
 refine zc (zb (yp (h:=(zd (za (zc (zb (yp (h:=(yp (h:=(yp (h:=(yp (h:=(yp (h:=(yp (h:=?_)))))))))))))))))))
 obtain ⟨h1,H⟩:=H
 obtain ⟨h2,H⟩:=H
 refine zD 10 (fun L' w'=>∃ q1:Bool,L'=[(20,.bool q1)]/\((decide ((suffix.length:Int)<=(s.length:Int))) && (decide ((s.drop ((s.length:Int) - (suffix.length:Int)).toNat)=suffix)))=q1/\w=w') ?_ (fun hQ=>?_)
 ·rintro _ _ ⟨q1,rfl,rfl,rfl⟩
  exact yp (h:=(zd (za (zq (zx rfl rfl ⟨rfl,(decide ((suffix.length:Int)<=(s.length:Int))) && (decide ((s.drop ((s.length:Int) - (suffix.length:Int)).toNat)=suffix)),rfl,H⟩)))))
 ·clear H
  rcases Bool.eq_false_or_eq_true (decide ((suffix.length:Int)<=(s.length:Int))) with b1 | b1
  ·exact gp b1 (h:=(gp b1 (h:=(gp b1 (h:=(gp b1 (h:=(gp b1 (h:=(zC rfl rfl (okb b1) rfl (Yld.sub rfl rfl (h1 b1)) (zC rfl rfl (okb b1) rfl (Yld.scutF qD rfl rfl rfl (h2 b1).1 (h2 b1).2) (gp b1 (h:=(gp b1 (h:=(zi rfl (zy (okb b1) rfl) (wk (hQ _ _ ⟨decide ((s.drop ((s.length:Int) - (suffix.length:Int)).toNat)=suffix),rfl,by rw [b1] <;> rfl,rfl⟩))))))))))))))))))
  ·exact gn b1 (h:=(gn b1 (h:=(gn b1 (h:=(gn b1 (h:=(gn b1 (h:=(gn b1 (h:=(gn b1 (h:=(gn b1 (h:=(gn b1 (h:=(zi rfl (zv (okb b1) rfl) (wk (hQ _ _ ⟨false,rfl,by rw [b1] <;> rfl,rfl⟩))))))))))))))))))))
set_option maxHeartbeats 8000000 in
theorem Zu {w:World} {s:List UInt8} {suffix:List UInt8} {K:(List UInt8)->Prop} (H:jq s suffix K):Fn Tryz.prog 190 ⟨[vs s,vs suffix]⟩ w (fun v w'=>w=w'/\∃ (r:List UInt8),v=vs r/\K r):=by
 unfold jq at H
 refine Fn.enter (by kernel_rfl) Tryz.func190 rfl Tryz.ntmps190 rfl ?_
 refine zc (zb (yp (h:=(zd (za (zc (zc (zb (yp (h:=(yp (h:=(zr rfl rfl (W_internal_stringslite_HasSuffix H) ?_)))))))))))))
 rintro _ _ ⟨rfl,t7,rfl,H⟩
 refine zd (za (zk rfl (fun b1=>?_) (fun b1=>?_)))
 ·replace H:=H.1 (b1)
  refine zc (zb (yp (h:=(yp (h:=(yp (h:=(yp (h:=(yp (h:=?_)))))))))))
  obtain ⟨h1,H⟩:=H
  refine zi rfl (Yld.sub rfl rfl h1) ?_
  obtain ⟨h2,H⟩:=H
  exact zi rfl (qu qD rfl rfl rfl rfl (Int.le_refl 0) h2.1 h2.2) (yp (h:=(zd (za (zq (zh (zx rfl rfl ⟨rfl,s.take ((s.length:Int) - (suffix.length:Int)).toNat,rfl,H⟩)))))))
 ·replace H:=H.2 (b1)
  exact zm (za (zc (zb (yp (h:=(yp (h:=(zd (za (zq (zx rfl rfl ⟨rfl,s,rfl,H⟩)))))))))))
set_option maxHeartbeats 8000000 in
theorem W_strings_TrimSuffix {w:World} {s:List UInt8} {suffix:List UInt8} {K:(List UInt8)->Prop} (H:ks s suffix K):Fn Tryz.prog 173 ⟨[vs s,vs suffix]⟩ w (fun v w'=>w=w'/\∃ (r:List UInt8),v=vs r/\K r):=by
 unfold ks at H
 refine Fn.enter (by kernel_rfl) Tryz.func173 rfl Tryz.ntmps173 rfl ?_
 refine zc (zb (yp (h:=(zd (za (zc (zb (yp (h:=(yp (h:=(zr rfl rfl (Zu H) ?_))))))))))))
 rintro _ _ ⟨rfl,t4,rfl,H⟩
 exact yp (h:=(zd (za (zq (zx rfl rfl ⟨rfl,t4,rfl,H⟩)))))
set_option maxHeartbeats 8000000 in
theorem W_slices_Index_string_string {w:World} {s:List (List UInt8)} {A_s:Option Addr} {c_s:Nat} {v:List UInt8} {n_s:Nat} {K:Int->Prop} (hs:Rd vs w A_s c_s s) (e0:n_s=s.length) (H:jJ s v K):Fn Tryz.prog 174 ⟨[.slice A_s n_s c_s,vs v]⟩ w (fun v w'=>w=w'/\∃ (r:Int),v=.int .i64 r/\K r):=by
 subst e0
 unfold jJ at H
 refine Fn.enter (by kernel_rfl) Tryz.func174 rfl Tryz.ntmps174 rfl ?_
 replace H:=H (Nat.le_trans hs.cap hs.max)
 refine zc (zb (yp (h:=(zd (za (zc (zc (zb (yp (h:=(yp (h:=(yp (h:=(zd (za (WC.block ?_)))))))))))))))))
 obtain ⟨I1,mu1,c0,HR1⟩:=H
 refine zA (fun n' L' w'=>∃ (t8:Int),n'=mu1 t8/\L'=[(0,.slice A_s s.length c_s),(1,vs v),(7,.int .i64 (s.length:Int)),(8,.int .i64 t8)]/\I1 t8/\w=w') _ _ ⟨(0:Int),rfl,rfl,c0,rfl⟩ sb ?_
 clear c0
 rintro _ _ _ ⟨t8,rfl,rfl,hI1,rfl⟩
 have H:=HR1 t8 hI1
 refine zc (zb (yp (h:=(zd (za (zc (zk rfl (fun b1=>?_) (fun b1=>?_))))))))
 ·replace H:=H.1 (of_decide_eq_true b1)
  refine zm (za (zc (WC.block (zc (zb (yp (h:=(yp (h:=(zd (za (zc (zb (yp (h:=(yp (h:=(yp (h:=?_)))))))))))))))))))
  obtain ⟨h1,H⟩:=H
  refine zi rfl (zn qD hs rfl rfl rfl rfl h1.1 h1.2) (zi rfl (zo [] qD hs rfl rfl (iltN h1 rfl)) (yp (h:=(zd (za (zk rfl (fun b2=>?_) (fun b2=>?_)))))))
  ·replace H:=H.1 (of_decide_eq_true b2)
   exact zc (zb (yp (h:=(yp (h:=(zd (za (zq (zp (zh (zh (zp (zh (zx rfl rfl ⟨rfl,t8,rfl,H⟩))))))))))))))
  ·replace H:=H.2 (of_decide_eq_false b2)
   refine zm (zg (za (zb ?_)))
   obtain ⟨h2,H⟩:=H
   exact zi rfl (Yld.add rfl rfl h2) (yp (h:=(zd (zw _ ⟨t8+(1:Int),rfl,rfl,H.1,rfl⟩ sb H.2))))
 ·replace H:=H.2 (of_decide_eq_false b1)
  exact zz (zf (zf (zj (za (zc (zb (yp (h:=(zd (za (zq (zx rfl rfl ⟨rfl,(-1:Int),rfl,H⟩))))))))))))
set_option maxHeartbeats 8000000 in
theorem kv {w:World} {s:List (List UInt8)} {A_s:Option Addr} {c_s:Nat} {v:List UInt8} {n_s:Nat} {K:Bool->Prop} (hs:Rd vs w A_s c_s s) (e0:n_s=s.length) (H:qY s v K):Fn Tryz.prog 157 ⟨[.slice A_s n_s c_s,vs v]⟩ w (fun v w'=>w=w'/\∃ (r:Bool),v=.bool r/\K r):=by
 subst e0
 unfold qY at H
 refine Fn.enter (by kernel_rfl) Tryz.func157 rfl Tryz.ntmps157 rfl ?_
 replace H:=H (Nat.le_trans hs.cap hs.max)
 refine zc (zb (yp (h:=(zd (za (zc (zb (yp (h:=(yp (h:=(zr rfl rfl (W_slices_Index_string_string hs rfl H) ?_))))))))))))
 rintro _ _ ⟨rfl,t7,rfl,H⟩
 exact yp (h:=(yp (h:=(zd (za (zq (zx rfl rfl ⟨rfl,decide ((0:Int)<=t7),rfl,H⟩)))))))
set_option maxHeartbeats 8000000 in
theorem W_tool_Lines {S:List Nat} {w:World} {s:List UInt8} {K:(List (List UInt8))->Prop} (hG:GOK S w) (hS100:100∈S) (H:M_tool_Lines s K):Fn Tryz.prog 156 ⟨[vs s]⟩ w (fun v w'=>w.grownBy w' none/\∃ (r:List (List UInt8)),∃ (A_r:Option Addr),∃ (c_r:Nat),v=.slice A_r r.length c_r/\Own vs w' w.heap.size 9 A_r c_r r/\K r):=by
 unfold M_tool_Lines at H
 refine Fn.enter (by kernel_rfl) Tryz.func156 rfl Tryz.ntmps156 rfl ?_
 refine zc (zb (yp (h:=(zd (za (zc (zc (zb (yp (h:=(yp (h:=(zd (za (zk rfl (fun b1=>?_) (fun b1=>?_))))))))))))))))
 ·replace H:=H.1 (of_decide_eq_true b1)
  exact zc (zb (yp (h:=(zd (za (zq (zh (zx rfl rfl ⟨(qK _ _),[],none,0,rfl,(Own.nil vs w w.heap.size 9),H⟩))))))))
 ·replace H:=H.2 (of_decide_eq_false b1)
  refine zm (za (zc (zb (yp (h:=(zr rfl rfl (W_strings_TrimSuffix H) ?_))))))
  rintro _ _ ⟨rfl,t6,rfl,H⟩
  refine zr rfl rfl (W_strings_Split hG hS100 H) ?_
  rintro _ w1 ⟨hg1,t2,e2,e4,rfl,ht2,H⟩
  have hb1:=ht2.ge'
  exact yp (h:=(zd (za (zq (zx rfl rfl ⟨hg1,t2,e2,e4,rfl,(ht2.base (fun g hg=>Nat.le_trans (Nat.le_refl _) (hb1 g hg))),H⟩)))))
set_option maxHeartbeats 8000000 in
theorem W_tool_lines {S:List Nat} {w:World} {inputs:List (List UInt8)} {a0:Option Addr} {a2:Nat} {a4:Nat} {K:(List (List UInt8))->Prop} (hG:GOK S w) (hS100:100∈S) (hinputs:Rd vs w a0 a2 inputs) (a6:a4=inputs.length) (H:M_tool_lines inputs K):Fn Tryz.prog 134 ⟨[.slice a0 a4 a2]⟩ w (fun v w'=>w.grownBy w' none/\∃ (r:List (List UInt8)),∃ (A_r:Option Addr),∃ (c_r:Nat),v=.slice A_r r.length c_r/\Own vs w' w.heap.size 9 A_r c_r r/\K r):=by
 subst a6
 unfold M_tool_lines at H
 refine Fn.enter (by kernel_rfl) Tryz.func134 rfl Tryz.ntmps134 rfl ?_
 replace H:=H (Nat.le_trans hinputs.cap hinputs.max)
 refine zc (zb (yp (h:=(zd (za (zc (zb (yp (h:=(zd (za (zc (zc (zb (yp (h:=(yp (h:=(yp (h:=(zd (za (WC.block ?_)))))))))))))))))))))))
 obtain ⟨I1,mu1,c0,HR1⟩:=H
 refine zA (fun n' L' w'=>∃ (l:List (List UInt8)),∃ (A_l:Option Addr),∃ (c_l:Nat),∃ (n_l:Nat),∃ (t8:Int),n'=mu1 l t8/\L'=[(3,.slice A_l n_l c_l),(6,.slice a0 inputs.length a2),(7,.int .i64 (inputs.length:Int)),(8,.int .i64 t8)]/\I1 l t8/\n_l=l.length/\w.grownBy w' none/\Own vs w' w.heap.size 9 A_l c_l l) _ _ ⟨[],none,0,0,(0:Int),rfl,rfl,c0,rfl,(qK _ _),(Own.nil vs w w.heap.size 9)⟩ sb ?_
 clear c0
 rintro _ _ w1 ⟨l,A_l,c_l,n_l,t8,rfl,rfl,hI1,rfl,gr1,k1⟩
 have H:=HR1 l t8 hI1
 refine zc (zb (yp (h:=(zd (za (zc (zk rfl (fun b1=>?_) (fun b1=>?_))))))))
 ·replace H:=H.1 (of_decide_eq_true b1)
  refine zm (za (zc (WC.block (zc (zb ?_)))))
  obtain ⟨h1,H⟩:=H
  refine zi rfl (zn qD (hinputs.grown gr1) rfl rfl rfl rfl h1.1 h1.2) (zi rfl (zo [] qD (hinputs.grown gr1) rfl rfl (iltN h1 rfl)) (yp (h:=(zd (za (zb (yp (h:=(yp (h:=(zr rfl rfl (W_tool_Lines (hG.grown gr1) hS100 H) ?_)))))))))))
  rintro _ w2 ⟨hg1,t14,e6,f1,rfl,ht14,H⟩
  have hb1:=ht14.ge'
  have gr2:=qE gr1 hg1
  have k3:=k1.grown hg1
  obtain ⟨h2,H⟩:=H
  refine zG qD rfl rfl One.s k3 rfl rfl (ht14.base (fun g hg=>Nat.le_trans (qF gr1) (hb1 g hg))).rd rfl rfl h2 (qN h2) (qF gr2) (fun c9 d1 w3 hO1 hg2 hk1=>yp (h:=(zd (zg (za (zb ?_))))))
  obtain ⟨h3,H⟩:=H
  exact zi rfl (Yld.add rfl rfl h3) (yp (h:=(zd (zw _ ⟨l++t14,c9,d1,(l++t14).length,t8+(1:Int),rfl,rfl,H.1,rfl,(qH gr2 hg2 k3.ge'),hO1⟩ sb H.2))))
 ·replace H:=H.2 (of_decide_eq_false b1)
  exact zz (zf (zf (zj (za (zc (zb (yp (h:=(yp (h:=(zd (za (zq (zx rfl rfl ⟨gr1,l,A_l,c_l,rfl,k1,H⟩))))))))))))))
set_option maxHeartbeats 8000000 in
theorem W_tool_filter {S:List Nat} {w:World} {args:List (List UInt8)} {a1:Option Addr} {a3:Nat} {l:List (List UInt8)} {A_l:Option Addr} {c_l:Nat} {a5:Nat} {n_l:Nat} {K:(List (List UInt8))->Bool->Prop} (hG:GOK S w) (hS100:100∈S) (hargs:Rd vs w a1 a3 args) (a7:a5=args.length) (hl:Rd vs w A_l c_l l) (d9:n_l=l.length) (H:M_tool_filter args l K):Fn Tryz.prog 133 ⟨[.slice a1 a5 a3,.slice A_l n_l c_l]⟩ w (fun v w'=>w.grownBy w' none/\∃ (r0:List (List UInt8)),∃ (d0:Option Addr),∃ (d2:Nat),∃ (r1:Bool),v=.tuple #[.slice d0 r0.length d2,.bool r1]/\Own vs w' w.heap.size 9 d0 d2 r0/\K r0 r1):=by
 subst a7
 subst d9
 unfold M_tool_filter at H
 refine Fn.enter (by kernel_rfl) Tryz.func133 rfl Tryz.ntmps133 rfl ?_
 replace H:=H (Nat.le_trans hargs.cap hargs.max)
 replace H:=H (Nat.le_trans hl.cap hl.max)
 refine zc (zb (yp (h:=(yp (h:=(zd (za (zc (zc (zb (yp (h:=(yp (h:=(yp (h:=(yp (h:=(zD 4 (fun L' w'=>∃ q1:Bool,L'=[(16,.bool q1),(0,.slice a1 args.length a3),(1,.slice A_l l.length c_l)]/\((decide ((args.length:Int)<(1:Int))) || (decide ((2:Int)<(args.length:Int))))=q1/\w=w') ?_ (fun hQ=>?_))))))))))))))))))))
 ·rintro _ _ ⟨q1,rfl,rfl,rfl⟩
  refine yp (h:=?_)
  obtain ⟨h1,H⟩:=H
  refine zD 10 (fun L' w'=>∃ q2:Bool,L'=[(27,.bool q2),(0,.slice a1 args.length a3),(1,.slice A_l l.length c_l)]/\(((decide ((args.length:Int)<(1:Int))) || (decide ((2:Int)<(args.length:Int)))) || ((decide ((args.length:Int)=(2:Int))) && (!decide ((args.getD 1 [])=([110,111,116]:List UInt8)))))=q2/\w=w') ?_ (fun hQ=>?_)
  ·rintro _ _ ⟨q2,rfl,rfl,rfl⟩
   refine zd (za (zk rfl (fun b1=>?_) (fun b1=>?_)))
   ·replace H:=H.1 (b1)
    exact zc (zb (yp (h:=(yp (h:=(zd (za (zq (zh (zM rfl rfl rfl ⟨(qK _ _),[],none,0,false,rfl,(Own.nil vs w w.heap.size 9),H⟩))))))))))
   ·replace H:=H.2 (b1)
    refine zm (za (zc (zb (yp (h:=(zd (za (zc (zc (zb (yp (h:=(yp (h:=(yp (h:=(zd (za (WC.block ?_)))))))))))))))))))
    obtain ⟨I1,mu1,c0,HR1⟩:=H
    refine zA (fun n' L' w'=>∃ (out:List (List UInt8)),∃ (c5:Option Addr),∃ (c6:Nat),∃ (c8:Nat),∃ (t30:Int),n'=mu1 out t30/\L'=[(0,.slice a1 args.length a3),(6,.slice c5 c8 c6),(28,.slice A_l l.length c_l),(29,.int .i64 (l.length:Int)),(30,.int .i64 t30)]/\I1 out t30/\c8=out.length/\w.grownBy w' none/\Own vs w' w.heap.size 9 c5 c6 out) _ _ ⟨[],none,0,0,(0:Int),rfl,rfl,c0,rfl,(qK _ _),(Own.nil vs w w.heap.size 9)⟩ sb ?_
    clear c0
    rintro _ _ w1 ⟨out,c5,c6,c8,t30,rfl,rfl,hI1,rfl,gr1,k1⟩
    have H:=HR1 out t30 hI1
    refine zc (zb (yp (h:=(zd (za (zc (zk rfl (fun b2=>?_) (fun b2=>?_))))))))
    ·replace H:=H.1 (of_decide_eq_true b2)
     refine zm (za (zc ?_))
     obtain ⟨J1,H,hJ1⟩:=H
     refine zL (fun L' w'=>∃ (out2:List (List UInt8)),∃ (a9:Option Addr),∃ (b0:Nat),∃ (c1:Nat),L'=[(0,.slice a1 args.length a3),(6,.slice a9 c1 b0),(28,.slice A_l l.length c_l),(29,.int .i64 (l.length:Int)),(30,.int .i64 t30)]/\J1 out2/\c1=out2.length/\w.grownBy w' none/\Own vs w' w.heap.size 9 a9 b0 out2) ?_ (fun hQ=>?_)
     ·clear H
      rintro _ w2 ⟨out2,a9,b0,c1,rfl,H,rfl,gr2,k2⟩
      replace H:=hJ1 out2 H
      refine za (zb ?_)
      obtain ⟨h2,H⟩:=H
      exact zi rfl (Yld.add rfl rfl h2) (yp (h:=(zd (zw _ ⟨out2,a9,b0,out2.length,t30+(1:Int),rfl,rfl,H.1,rfl,gr2,k2⟩ sb H.2))))
     ·clear hJ1
      refine WC.block (zc (zb ?_))
      obtain ⟨h3,H⟩:=H
      refine zi rfl (zn qD (hl.grown gr1) rfl rfl rfl rfl h3.1 h3.2) (zi rfl (zo [] qD (hl.grown gr1) rfl rfl (iltN h3 rfl)) (yp (h:=(zd (za (zc (zb (yp (h:=(yp (h:=?_)))))))))))
      obtain ⟨h4,H⟩:=H
      refine zi rfl (zn qD (hargs.grown gr1) rfl rfl rfl rfl h4.1 h4.2) (zi rfl (zo [] qD (hargs.grown gr1) rfl rfl (iltN h4 rfl)) (zr rfl rfl (W_strings_Contains (hG.grown gr1) hS100 H) ?_))
      rintro _ _ ⟨rfl,t38,rfl,H⟩
      refine yp (h:=(yp (h:=(yp (h:=(zi rfl (qr Tryz.underlying4 rfl rfl) (zd (za (zk rfl (fun b3=>?_) (fun b3=>?_))))))))))
      ·replace H:=H.1 (b3)
       refine zb (yp (h:=(yp (h:=(zP qD rfl rfl rfl (qG rfl qR) rfl (by omega) (fun g1 w3 hB1 hg1 hl1=>?_))))))
       have hO1:Own vs w3 w.heap.size 9 (some ⟨g1,0,none⟩) 1 ([l.getD t30.toNat []]:List (List UInt8)):=Own.ofBl hB1 (Nat.le_trans (qF gr1) hl1) (by simp [maxLen]) rfl
       have gr3:=qE gr1 hg1
       have k3:=k1.grown hg1
       obtain ⟨h5,H⟩:=H
       exact zG qD rfl rfl One.s k3 rfl rfl hO1.rd rfl rfl h5 (qN h5) (qF gr3) (fun c3 c4 w4 hO2 hg2 hk1=>yp (h:=(zd (zg (WX.weaken sb (hQ _ _ ⟨out++([l.getD t30.toNat []]:List (List UInt8)),c3,c4,(out++([l.getD t30.toNat []]:List (List UInt8))).length,rfl,H,rfl,(qH gr3 hg2 k3.ge'),hO2⟩))))))
      ·replace H:=H.2 (b3)
       exact zm (zg (WX.weaken sb (hQ _ _ ⟨out,c5,c6,out.length,rfl,H,rfl,gr1,k1⟩)))
    ·replace H:=H.2 (of_decide_eq_false b2)
     exact zz (zf (zf (zj (za (zc (zb (yp (h:=(yp (h:=(yp (h:=(zd (za (zq (zM rfl rfl rfl ⟨gr1,out,c5,c6,true,rfl,k1,H⟩))))))))))))))))
  ·clear H
   rcases Bool.eq_false_or_eq_true ((decide ((args.length:Int)<(1:Int))) || (decide ((2:Int)<(args.length:Int)))) with b4 | b4
   ·exact gn b4 (h:=(gn b4 (h:=(gn b4 (h:=(gn b4 (h:=(z8 rfl rfl rfl rfl (z8 rfl rfl rfl rfl (z8 rfl rfl rfl rfl (z8 rfl rfl rfl rfl (gn b4 (h:=(zi rfl (zy (okb b4) rfl) (wk (hQ _ _ ⟨true,rfl,by rw [b4] <;> rfl,rfl⟩))))))))))))))))
   ·refine gp b4 (h:=(gp b4 (h:=(gp b4 (h:=(gp b4 (h:=?_)))))))
    rcases Bool.eq_false_or_eq_true (decide ((args.length:Int)=(2:Int))) with b5 | b5
    ·exact gp b5 (h:=(zC rfl rfl (okb b5) rfl (zn qD hargs rfl rfl rfl rfl (h1 b4 b5).1 (h1 b4 b5).2) (zC rfl rfl (okb b5) rfl (zo [] qD hargs rfl rfl (iltN (h1 b4 b5) rfl)) (gp b5 (h:=(zC rfl rfl (okb b4) rfl (zy (okb b5) rfl) (zi rfl (zv (okb b4) rfl) (wk (hQ _ _ ⟨!decide ((args.getD 1 [])=([110,111,116]:List UInt8)),rfl,by rw [b4,b5] <;> rfl,rfl⟩)))))))))
    ·exact gn b5 (h:=(gn b5 (h:=(gn b5 (h:=(gn b5 (h:=(zC rfl rfl (okb b4) rfl (zv (okb b5) rfl) (zi rfl (zv (okb b4) rfl) (wk (hQ _ _ ⟨false,rfl,by rw [b4,b5] <;> rfl,rfl⟩)))))))))))
 ·clear H
  rcases Bool.eq_false_or_eq_true (decide ((args.length:Int)<(1:Int))) with b6 | b6
  ·exact gn b6 (h:=(gn b6 (h:=(gn b6 (h:=(zi rfl (zy (okb b6) rfl) (wk (hQ _ _ ⟨true,rfl,by rw [b6] <;> rfl,rfl⟩))))))))
  ·exact gp b6 (h:=(gp b6 (h:=(gp b6 (h:=(zi rfl (zv (okb b6) rfl) (wk (hQ _ _ ⟨decide ((2:Int)<(args.length:Int)),rfl,by rw [b6] <;> rfl,rfl⟩))))))))
set_option maxHeartbeats 8000000 in
theorem W_tool_sorted {w:World} {args:List (List UInt8)} {a1:Option Addr} {a3:Nat} {l:List (List UInt8)} {A_l:Option Addr} {c_l:Nat} {a5:Nat} {n_l:Nat} {K:(List (List UInt8))->Bool->Prop} (hargs:Rd vs w a1 a3 args) (a7:a5=args.length) (hl:Rd vs w A_l c_l l) (d9:n_l=l.length) (H:M_tool_sorted args l K):Fn Tryz.prog 135 ⟨[.slice a1 a5 a3,.slice A_l n_l c_l]⟩ w (fun v w'=>w.grownBy w' none/\∃ (r0:List (List UInt8)),∃ (d0:Option Addr),∃ (d2:Nat),∃ (r1:Bool),v=.tuple #[.slice d0 r0.length d2,.bool r1]/\Own vs w' w.heap.size 9 d0 d2 r0/\K r0 r1):=by
 subst a7
 subst d9
 unfold M_tool_sorted at H
 refine Fn.enter (by kernel_rfl) Tryz.func135 rfl Tryz.ntmps135 rfl ?_
 replace H:=H (Nat.le_trans hargs.cap hargs.max)
 replace H:=H (Nat.le_trans hl.cap hl.max)
 refine zc (zb (yp (h:=(yp (h:=(zd (za (zc (zb (yp (h:=(zr rfl rfl (kv hargs rfl H) ?_))))))))))))
 rintro _ _ ⟨rfl,reverse,rfl,H⟩
 refine yp (h:=(zr rfl rfl (kv hargs rfl H) ?_))
 rintro _ _ ⟨rfl,unique,rfl,H⟩
 refine yp (h:=(yp (h:=(zd (za (zc (zb (yp (h:=(zd (za (zc ?_))))))))))))
 obtain ⟨J1,H,hJ1⟩:=H
 refine zL (fun L' w'=>∃ (n:Int),L'=[(0,.slice a1 args.length a3),(1,.slice A_l l.length c_l),(6,.bool reverse),(7,.bool unique),(8,.int .i64 n)]/\J1 n/\w=w') ?_ (fun hQ=>?_)
 ·clear H
  rintro _ _ ⟨n,rfl,H,rfl⟩
  replace H:=hJ1 n H
  refine za (zc ?_)
  obtain ⟨J2,H,hJ2⟩:=H
  refine zL (fun L' w'=>∃ (n2:Int),L'=[(0,.slice a1 args.length a3),(1,.slice A_l l.length c_l),(6,.bool reverse),(7,.bool unique),(8,.int .i64 n2)]/\J2 n2/\w=w') ?_ (fun hQ=>?_)
  ·clear H
   rintro _ _ ⟨n2,rfl,H,rfl⟩
   replace H:=hJ2 n2 H
   refine za (zc (zc (zb (yp (h:=(yp (h:=(yp (h:=(yp (h:=(zd (za (zk rfl (fun b1=>?_) (fun b1=>?_)))))))))))))))
   ·replace H:=H.1 (kN b1)
    exact zc (zb (yp (h:=(yp (h:=(zd (za (zq (zh (zM rfl rfl rfl ⟨(qK _ _),[],none,0,false,rfl,(Own.nil vs w w.heap.size 9),H⟩))))))))))
   ·replace H:=H.2 (j9 b1)
    refine zm (za (zc (zb (yp (h:=(zr rfl rfl valuesBox_fn ?_))))))
    rintro _ w1 ⟨g1,rfl,hB1,hg1,hl1⟩
    have gr1:=hg1
    refine zr rfl rfl (jT (hl.grown gr1) rfl hB1 H) ?_
    rintro _ w2 ⟨hg2,out,c5,c6,rfl,hout,H⟩
    have hb1:=hout.ge'
    have k1:=hout.base (fun g hg=>Nat.le_trans (qF gr1) (hb1 g hg))
    have gr2:=qE gr1 hg2
    refine yp (h:=(zd (za (zc ?_))))
    obtain ⟨J3,H,hJ3⟩:=H
    refine zL (fun L' w'=>∃ (out2:List (List UInt8)),∃ (a9:Option Addr),∃ (b0:Nat),∃ (c8:Nat),L'=[(6,.bool reverse),(9,.slice a9 c8 b0)]/\J3 out2/\c8=out2.length/\w.grownBy w' none/\Own vs w' w.heap.size 9 a9 b0 out2) ?_ (fun hQ=>?_)
    ·clear H
     rintro _ w3 ⟨out2,a9,b0,c8,rfl,H,rfl,gr3,k2⟩
     replace H:=hJ3 out2 H
     refine za (zc ?_)
     obtain ⟨J4,H,hJ4⟩:=H
     refine zL (fun L' w'=>∃ (out3:List (List UInt8)),∃ (c3:Option Addr),∃ (c4:Nat),∃ (c1:Nat),L'=[(9,.slice c3 c1 c4)]/\J4 out3/\c1=out3.length/\w.grownBy w' none/\Own vs w' w.heap.size 9 c3 c4 out3) ?_ (fun hQ=>?_)
     ·clear H
      rintro _ w4 ⟨out3,c3,c4,c1,rfl,H,rfl,gr4,k3⟩
      replace H:=hJ4 out3 H
      exact za (zc (zb (yp (h:=(yp (h:=(yp (h:=(zd (za (zq (zM rfl rfl rfl ⟨gr4,out3,c3,c4,true,rfl,k3,H⟩))))))))))))
     ·clear hJ4
      refine zc (zb (yp (h:=(zd (za (zk rfl (fun b2=>?_) (fun b2=>?_)))))))
      ·replace H:=H.1 (b2)
       refine zb (yp (h:=(zr rfl rfl (W_slices_Reverse_string_string k2 rfl H) ?_)))
       rintro _ w5 ⟨ys,rfl,hO1,hg3,hl2,H⟩
       exact zd (WX.weaken sb (hQ _ _ ⟨ys,a9,b0,out2.length,rfl,H,((rfl:out2.length=out2.length).trans hl2.symm),(qH gr3 hg3 k2.ge'),hO1⟩))
      ·replace H:=H.2 (b2)
       exact zm (WX.weaken sb (hQ _ _ ⟨out2,a9,b0,out2.length,rfl,H,rfl,gr3,k2⟩))
    ·clear hJ3
     refine zc (zb (yp (h:=(zd (za (zk rfl (fun b3=>?_) (fun b3=>?_)))))))
     ·replace H:=H.1 (b3)
      refine zb (yp (h:=(zr rfl rfl (W_slices_Compact_string_string k1 rfl H) ?_)))
      rintro _ w6 ⟨out4,rfl,hO2,hg4,H⟩
      exact yp (h:=(zd (WX.weaken sb (hQ _ _ ⟨out4,c5,c6,out4.length,rfl,H,rfl,(qH gr2 hg4 k1.ge'),hO2⟩))))
     ·replace H:=H.2 (b3)
      exact zm (WX.weaken sb (hQ _ _ ⟨out,c5,c6,out.length,rfl,H,rfl,gr2,k1⟩))
  ·clear hJ2
   refine zc (zb (yp (h:=(zd (za (zk rfl (fun b4=>?_) (fun b4=>?_)))))))
   ·replace H:=H.1 (b4)
    refine zb (yp (h:=?_))
    obtain ⟨h1,H⟩:=H
    exact zi rfl (Yld.add rfl rfl h1) (yp (h:=(zd (WX.weaken sb (hQ _ _ ⟨n+(1:Int),rfl,H,rfl⟩)))))
   ·replace H:=H.2 (b4)
    exact zm (WX.weaken sb (hQ _ _ ⟨n,rfl,H,rfl⟩))
 ·clear hJ1
  refine zc (zb (yp (h:=(zd (za (zk rfl (fun b5=>?_) (fun b5=>?_)))))))
  ·replace H:=H.1 (b5)
   refine zb (yp (h:=?_))
   obtain ⟨h2,H⟩:=H
   exact zi rfl (Yld.add rfl rfl h2) (yp (h:=(zd (WX.weaken sb (hQ _ _ ⟨(0:Int)+(1:Int),rfl,H,rfl⟩)))))
  ·replace H:=H.2 (b5)
   exact zm (WX.weaken sb (hQ _ _ ⟨(0:Int),rfl,H,rfl⟩))
set_option maxHeartbeats 8000000 in
theorem W_tool_listed {S:List Nat} {w:World} {tool:Int} {args:List (List UInt8)} {a1:Option Addr} {a3:Nat} {inputs:List (List UInt8)} {a0:Option Addr} {a2:Nat} {a5:Nat} {a4:Nat} {K:(List (List UInt8))->Bool->Prop} (hG:GOK S w) (hS100:100∈S) (hargs:Rd vs w a1 a3 args) (a7:a5=args.length) (hinputs:Rd vs w a0 a2 inputs) (a6:a4=inputs.length) (H:M_tool_listed tool args inputs K):Fn Tryz.prog 100 ⟨[.int .i64 tool,.slice a1 a5 a3,.slice a0 a4 a2]⟩ w (fun v w'=>w.grownBy w' none/\∃ (r0:List (List UInt8)),∃ (d0:Option Addr),∃ (d2:Nat),∃ (r1:Bool),v=.tuple #[.slice d0 r0.length d2,.bool r1]/\Own vs w' w.heap.size 9 d0 d2 r0/\K r0 r1):=by
 subst a7
 subst a6
 unfold M_tool_listed at H
 refine Fn.enter (by kernel_rfl) Tryz.func100 rfl Tryz.ntmps100 rfl ?_
 replace H:=H (Nat.le_trans hargs.cap hargs.max)
 replace H:=H (Nat.le_trans hinputs.cap hinputs.max)
 refine zc (zb (yp (h:=(yp (h:=(zd (za (zc (zc (zb (yp (h:=(zd (za (WC.block (zc (zb (yp (h:=(yp (h:=(zd (za (zk rfl (fun b1=>?_) (fun b1=>?_)))))))))))))))))))))))))
 ·replace H:=H.1 (of_decide_eq_true b1)
  refine zc (zb (yp (h:=(yp (h:=(zr rfl rfl (W_tool_lines hG hS100 hinputs rfl H) ?_))))))
  rintro _ w1 ⟨hg1,t16,e7,f2,rfl,ht16,H⟩
  have hb1:=ht16.ge'
  have gr1:=hg1
  refine zr rfl rfl (W_tool_filter (hG.grown gr1) hS100 (hargs.grown gr1) rfl (ht16.base (fun g hg=>Nat.le_trans (Nat.le_refl _) (hb1 g hg))).rd rfl H) ?_
  rintro _ w2 ⟨hg2,t170,d3,d6,t171,rfl,ht170,H⟩
  have hb2:=ht170.ge'
  exact yp (h:=(yp (h:=(yp (h:=(yp (h:=(zd (za (zq (zp (zh (zM rfl rfl rfl ⟨(qE gr1 hg2),t170,d3,d6,t171,rfl,(ht170.base (fun g hg=>Nat.le_trans (qF gr1) (hb2 g hg))),H⟩)))))))))))))
 ·replace H:=H.2 (of_decide_eq_false b1)
  refine zc (zb (yp (h:=(yp (h:=(zd (za (zk rfl (fun b2=>?_) (fun b2=>?_)))))))))
  ·replace H:=H.1 (of_decide_eq_true b2)
   refine zc (zb (yp (h:=(yp (h:=(zr rfl rfl (W_tool_lines hG hS100 hinputs rfl H) ?_))))))
   rintro _ w3 ⟨hg3,t24,e8,f3,rfl,ht24,H⟩
   have hb3:=ht24.ge'
   have gr3:=hg3
   refine zr rfl rfl (W_tool_sorted (hargs.grown gr3) rfl (ht24.base (fun g hg=>Nat.le_trans (Nat.le_refl _) (hb3 g hg))).rd rfl H) ?_
   rintro _ w4 ⟨hg4,t250,d4,d7,t251,rfl,ht250,H⟩
   have hb4:=ht250.ge'
   exact yp (h:=(yp (h:=(yp (h:=(yp (h:=(zd (za (zq (zp (zh (zM rfl rfl rfl ⟨(qE gr3 hg4),t250,d4,d7,t251,rfl,(ht250.base (fun g hg=>Nat.le_trans (qF gr3) (hb4 g hg))),H⟩)))))))))))))
  ·replace H:=H.2 (of_decide_eq_false b2)
   refine zm (zg (za (zc (zb (yp (h:=(zd (za (zc (zc (zb (yp (h:=(yp (h:=(yp (h:=(zd (za (WC.block ?_))))))))))))))))))))
   obtain ⟨I1,mu1,c0,HR1⟩:=H
   refine zA (fun n' L' w'=>∃ (l:List (List UInt8)),∃ (A_l:Option Addr),∃ (c_l:Nat),∃ (n_l:Nat),∃ (t30:Int),n'=mu1 l t30/\L'=[(1,.slice a1 args.length a3),(8,.slice A_l n_l c_l),(28,.slice a0 inputs.length a2),(29,.int .i64 (inputs.length:Int)),(30,.int .i64 t30)]/\I1 l t30/\n_l=l.length/\w.grownBy w' none/\Own vs w' w.heap.size 9 A_l c_l l) _ _ ⟨[],none,0,0,(0:Int),rfl,rfl,c0,rfl,(qK _ _),(Own.nil vs w w.heap.size 9)⟩ sb ?_
   clear c0
   rintro _ _ w5 ⟨l,A_l,c_l,n_l,t30,rfl,rfl,hI1,rfl,gr5,k5⟩
   have H:=HR1 l t30 hI1
   refine zc (zb (yp (h:=(zd (za (zc (zk rfl (fun b3=>?_) (fun b3=>?_))))))))
   ·replace H:=H.1 (of_decide_eq_true b3)
    refine zm (za (zc (WC.block (zc (zb ?_)))))
    obtain ⟨h1,H⟩:=H
    refine zi rfl (zn qD (hinputs.grown gr5) rfl rfl rfl rfl h1.1 h1.2) (zi rfl (zo [] qD (hinputs.grown gr5) rfl rfl (iltN h1 rfl)) (yp (h:=(zd (za (zb (yp (h:=(yp (h:=?_))))))))))
    obtain ⟨h2,H⟩:=H
    refine WL.s2b qD rfl rfl rfl rfl rfl h2 (fun e9 f4 w6 hR1 hg5 hge1=>zr rfl rfl (W_sha_Of hR1 rfl H) ?_)
    rintro _ w7 ⟨hg6,t37,rfl,H⟩
    refine zr rfl rfl (W_sha_Text H) ?_
    rintro _ w8 ⟨hg7,t38,rfl,H⟩
    have gr8:=qE (qE (qE gr5 hg5) hg6) hg7
    refine zP qD rfl rfl rfl (qG rfl qR) rfl (by omega) (fun g1 w9 hB1 hg8 hl1=>?_)
    have hO1:Own vs w9 w.heap.size 9 (some ⟨g1,0,none⟩) 1 ([t38]:List (List UInt8)):=Own.ofBl hB1 (Nat.le_trans (qF gr8) hl1) (by simp [maxLen]) rfl
    have gr9:=qE gr8 hg8
    have k9:=(((k5.grown hg5).grown hg6).grown hg7).grown hg8
    obtain ⟨h3,H⟩:=H
    refine zG qD rfl rfl One.s k9 rfl rfl hO1.rd rfl rfl h3 (qN h3) (qF gr9) (fun c9 d1 w10 hO2 hg9 hk1=>yp (h:=(zd (zg (za (zb ?_))))))
    obtain ⟨h4,H⟩:=H
    exact zi rfl (Yld.add rfl rfl h4) (yp (h:=(zd (zw _ ⟨l++([t38]:List (List UInt8)),c9,d1,(l++([t38]:List (List UInt8))).length,t30+(1:Int),rfl,rfl,H.1,rfl,(qH gr9 hg9 k9.ge'),hO2⟩ sb H.2))))
   ·replace H:=H.2 (of_decide_eq_false b3)
    exact zz (zf (zf (zj (za (zc (zb (yp (h:=(yp (h:=(yp (h:=(yp (h:=(yp (h:=(yp (h:=(zd (za (zq (zM rfl rfl rfl ⟨gr5,l,A_l,c_l,decide ((args.length:Int)=(0:Int)),rfl,k5,H⟩))))))))))))))))))))))
set_option maxHeartbeats 8000000 in
theorem W_tool_substitute {S:List Nat} {w:World} {args:List (List UInt8)} {a1:Option Addr} {a3:Nat} {inputs:List (List UInt8)} {a0:Option Addr} {a2:Nat} {a5:Nat} {a4:Nat} {K:(List UInt8)->Er->Prop} (hG:GOK S w) (hS16:16∈S) (hS100:100∈S) (hargs:Rd vs w a1 a3 args) (a7:a5=args.length) (hinputs:Rd vs w a0 a2 inputs) (a6:a4=inputs.length) (H:kX args inputs K):Fn Tryz.prog 99 ⟨[.slice a1 a5 a3,.slice a0 a4 a2]⟩ w (fun v w'=>w.grownBy w' none/\∃ (r0:List UInt8),∃ (v_r1:Value),∃ (r1:Er),v=.tuple #[vs r0,v_r1]/\ErrR S w' v_r1 r1/\K r0 r1):=by
 subst a7
 subst a6
 unfold kX at H
 refine Fn.enter (by kernel_rfl) Tryz.func99 rfl Tryz.ntmps99 rfl ?_
 replace H:=H (Nat.le_trans hargs.cap hargs.max)
 replace H:=H (Nat.le_trans hinputs.cap hinputs.max)
 refine zc (zb (yp (h:=(yp (h:=(zd (za (zc (zc (zb (yp (h:=(yp (h:=?_))))))))))))))
 obtain ⟨h1,H⟩:=H
 refine zi rfl (Yld.rem rfl rfl h1.1 h1.2) (yp (h:=(zd (za (zk rfl (fun b1=>?_) (fun b1=>?_))))))
 ·replace H:=H.1 (kN b1)
  refine zc (zQ mixed (by kernel_rfl) ?_)
  obtain ⟨vE1,_,hE1⟩:=GOK.get hG 16 5 hS16 rfl rfl
  exact zB rfl (Yld.cell qD (ErrR.cell hE1 rfl) rfl rfl) (zB rfl (ze qD rfl) (zB rfl (ze qD rfl) (zW (za (zq (zh (zM rfl rfl rfl ⟨(qK _ _),([]:List UInt8),vE1,(Er.e 16),rfl,hE1,H⟩)))))))
 ·replace H:=H.2 (j9 b1)
  refine zm (za (zc (zb (yp (h:=(zr rfl rfl (W_tool_joined hG hS16 hinputs rfl H) ?_))))))
  rintro _ w1 ⟨hg1,t180,v_t181,t181,rfl,ht181,H⟩
  have gr1:=hg1
  refine yp (h:=(yp (h:=(yp (h:=(yp (h:=(yp (h:=(zd (za (zc (zc (zb (yp (h:=(zi rfl (qf Tryz.underlying30 ht181 rfl) (zd (za (zk rfl (fun b2=>?_) (fun b2=>?_)))))))))))))))))))))
  ·replace H:=H.1 (kN b2)
   exact zc (zb (yp (h:=(yp (h:=(yp (h:=(zd (za (zq (zh (zM rfl rfl rfl ⟨gr1,([]:List UInt8),v_t181,t181,rfl,ht181,H⟩))))))))))))
  ·replace H:=H.2 (j9 b2)
   refine zm (za (zc (zc (zb (yp (h:=(zd (za (WC.block ?_)))))))))
   obtain ⟨I1,mu1,c0,HR1⟩:=H
   refine zA (fun n' L' w'=>∃ (s:List UInt8),∃ (i:Int),n'=mu1 s i/\L'=[(0,.slice a1 args.length a3),(6,vs s),(8,.int .i64 i)]/\I1 s i/\w.grownBy w' none) _ _ ⟨t180,(0:Int),rfl,rfl,c0,gr1⟩ sb ?_
   clear c0
   rintro _ _ w2 ⟨s,i,rfl,rfl,hI1,gr2⟩
   have H:=HR1 s i hI1
   refine zc (zc (zb (yp (h:=(yp (h:=(yp (h:=(yp (h:=(zd (za (zk rfl (fun b3=>?_) (fun b3=>?_))))))))))))))
   ·replace H:=H.1 (of_decide_eq_true b3)
    refine zm (za (zc (WC.block (zc (zc (zb (yp (h:=(yp (h:=?_))))))))))
    obtain ⟨h2,H⟩:=H
    refine zi rfl (zn qD (hargs.grown gr2) rfl rfl rfl rfl h2.1 h2.2) (zi rfl (zo [] qD (hargs.grown gr2) rfl rfl (iltN h2 rfl)) (yp (h:=(zd (za (zk rfl (fun b4=>?_) (fun b4=>?_)))))))
    ·replace H:=H.1 (of_decide_eq_true b4)
     refine zc (zQ mixed (by kernel_rfl) ?_)
     obtain ⟨vE2,_,hE2⟩:=GOK.get (hG.grown gr2) 16 5 hS16 rfl rfl
     exact zB rfl (Yld.cell qD (ErrR.cell hE2 rfl) rfl rfl) (zB rfl (ze qD rfl) (zB rfl (ze qD rfl) (zW (za (zq (zh (zp (zh (zh (zp (zh (zM rfl rfl rfl ⟨gr2,([]:List UInt8),vE2,(Er.e 16),rfl,hE2,H⟩))))))))))))
    ·replace H:=H.2 (of_decide_eq_false b4)
     refine zm (za (zc (zb (yp (h:=(yp (h:=(yp (h:=?_)))))))))
     obtain ⟨h3,H⟩:=H
     refine zi rfl (zn qD (hargs.grown gr2) rfl rfl rfl rfl h3.1 h3.2) (zi rfl (zo [] qD (hargs.grown gr2) rfl rfl (iltN h3 rfl)) (zr rfl rfl (W_strings_Count (hG.grown gr2) hS100 H) ?_))
     rintro _ _ ⟨rfl,n,rfl,H⟩
     refine yp (h:=(zd (za (zc (zc (zQ mixed (by kernel_rfl) (zB rfl (ze qD rfl) (zB rfl (ze qD rfl) ?_))))))))
     obtain ⟨h4,H⟩:=H
     refine zB rfl (Yld.add rfl rfl h4) ?_
     obtain ⟨h5,H⟩:=H
     refine zB rfl (zn qD (hargs.grown gr2) rfl rfl rfl rfl h5.1 h5.2) (zB rfl (zo [] qD (hargs.grown gr2) rfl rfl (iltN h5 rfl)) (zB rfl (ze qD rfl) (zB rfl (ze qD rfl) (zB rfl (ze qD rfl) ?_))))
     obtain ⟨h6,H⟩:=H
     refine zB rfl (zn qD (hargs.grown gr2) rfl rfl rfl rfl h6.1 h6.2) (zB rfl (zo [] qD (hargs.grown gr2) rfl rfl (iltN h6 rfl)) (zB rfl (ze qD rfl) ?_))
     obtain ⟨h7,H⟩:=H
     refine zB rfl (Yld.sub rfl rfl h7) (zB rfl (ze qD rfl) (zW (za (zc (zb (yp (h:=(yp (h:=(yp (h:=?_)))))))))))
     obtain ⟨h8,H⟩:=H
     obtain ⟨h9,H⟩:=H
     refine zD 8 (fun L' w'=>∃ q1:Bool,L'=[(64,.bool q1),(0,.slice a1 args.length a3),(6,vs s),(8,.int .i64 i)]/\((decide ((0:Int)<(((args.getD ((i+(1:Int)).toNat) []).length:Int) - ((args.getD i.toNat []).length:Int)))) && (decide ((((65536:Int) - (s.length:Int)) / (((args.getD ((i+(1:Int)).toNat) []).length:Int) - ((args.getD i.toNat []).length:Int)))<n)))=q1/\w2=w') ?_ (fun hQ=>?_)
     ·rintro _ _ ⟨q1,rfl,rfl,rfl⟩
      refine zd (za (zk rfl (fun b5=>?_) (fun b5=>?_)))
      ·replace H:=H.1 (b5)
       refine zc (zQ mixed (by kernel_rfl) ?_)
       obtain ⟨vE3,_,hE3⟩:=GOK.get (hG.grown gr2) 16 5 hS16 rfl rfl
       exact zB rfl (Yld.cell qD (ErrR.cell hE3 rfl) rfl rfl) (zB rfl (ze qD rfl) (zB rfl (ze qD rfl) (zW (za (zq (zh (zp (zh (zh (zp (zh (zM rfl rfl rfl ⟨gr2,([]:List UInt8),vE3,(Er.e 16),rfl,hE3,H⟩))))))))))))
      ·replace H:=H.2 (b5)
       refine zm (za (zO (fun k => !(Nat.beq k 10)) (LD [4,9] (fun w'=>Rd vs w' a1 a3 args)) mixed (by kernel_rfl) (fun k w' h _=>(jA h (hargs.grown gr2))) (zu rfl rfl (fun w' hw'=>ze qD rfl) (zu rfl rfl (fun w' hw'=>ze qD rfl) (zu rfl rfl (fun w' hw'=>ze qD rfl) ?_)))))
       obtain ⟨h10,H⟩:=H
       refine zu rfl rfl (fun w' hw'=>zn qD (hargs.grown gr2) rfl rfl rfl rfl h10.1 h10.2) (zu rfl rfl (fun w' hw'=>zo [] qD (hw' rfl) rfl rfl (iltN h10 rfl)) (zu rfl rfl (fun w' hw'=>ze qD rfl) (zu rfl rfl (fun w' hw'=>ze qD rfl) ?_)))
       obtain ⟨h11,H⟩:=H
       refine zu rfl rfl (fun w' hw'=>Yld.add rfl rfl h11) ?_
       obtain ⟨h12,H⟩:=H
       refine zu rfl rfl (fun w' hw'=>zn qD (hargs.grown gr2) rfl rfl rfl rfl h12.1 h12.2) (zu rfl rfl (fun w' hw'=>zo [] qD (hw' rfl) rfl rfl (iltN h12 rfl)) (zT rfl (qI) rfl rfl (W_strings_ReplaceAll (hG.grown gr2) hS100 H) (fun v w' h w2 e=>DD.keep (Rd.grown (hargs.grown gr2) (qQ h.1 e))) ?_))
       rintro _ w3 ⟨hg2,s2,rfl,H⟩
       refine zu rfl rfl (fun w' hw'=>ze qD rfl) (zX (zg (za (zb (yp (h:=?_))))))
       obtain ⟨h13,H⟩:=H
       exact zi rfl (Yld.add rfl rfl h13) (yp (h:=(zd (zw _ ⟨s2,i+(2:Int),rfl,rfl,H.1,(qE gr2 hg2)⟩ sb H.2))))
     ·clear H
      rcases Bool.eq_false_or_eq_true (decide ((0:Int)<(((args.getD ((i+(1:Int)).toNat) []).length:Int) - ((args.getD i.toNat []).length:Int)))) with b6 | b6
      ·exact gp b6 (h:=(gp b6 (h:=(gp b6 (h:=(zC rfl rfl (okb b6) rfl (Yld.sub rfl rfl (h8 b6)) (gp b6 (h:=(zC rfl rfl (okb b6) rfl (Yld.quo rfl rfl (h9 b6).1 (h9 b6).2.1 (h9 b6).2.2) (gp b6 (h:=(zi rfl (zy (okb b6) rfl) (wk (hQ _ _ ⟨decide ((((65536:Int) - (s.length:Int)) / (((args.getD ((i+(1:Int)).toNat) []).length:Int) - ((args.getD i.toNat []).length:Int)))<n),rfl,by rw [b6] <;> rfl,rfl⟩))))))))))))))
      ·exact gn b6 (h:=(gn b6 (h:=(gn b6 (h:=(gn b6 (h:=(gn b6 (h:=(gn b6 (h:=(gn b6 (h:=(zi rfl (zv (okb b6) rfl) (wk (hQ _ _ ⟨false,rfl,by rw [b6] <;> rfl,rfl⟩))))))))))))))))
   ·replace H:=H.2 (of_decide_eq_false b3)
    exact zz (zf (zf (zj (za (zc (zb (yp (h:=(yp (h:=(yp (h:=(zd (za (zq (zM rfl rfl rfl ⟨gr2,s,.nilIface,Er.ok,rfl,(ErrR.okR (S:=S) (w:=w2)),H⟩))))))))))))))))
set_option maxHeartbeats 8000000 in
theorem W_tool_Do {S:List Nat} {w:World} {tool:Int} {args:List (List UInt8)} {a1:Option Addr} {a3:Nat} {inputs:List (List UInt8)} {a0:Option Addr} {a2:Nat} {a5:Nat} {a4:Nat} {K:(List UInt8)->Er->Prop} (hG:GOK S w) (hS10:10∈S) (hS16:16∈S) (hS100:100∈S) (hargs:Rd vs w a1 a3 args) (a7:a5=args.length) (hinputs:Rd vs w a0 a2 inputs) (a6:a4=inputs.length) (H:M_tool_Do tool args inputs K):Fn Tryz.prog 70 ⟨[.int .i64 tool,.slice a1 a5 a3,.slice a0 a4 a2]⟩ w (fun v w'=>w.grownBy w' none/\∃ (r0:List UInt8),∃ (v_r1:Value),∃ (r1:Er),v=.tuple #[vs r0,v_r1]/\ErrR S w' v_r1 r1/\K r0 r1):=by
 subst a7
 subst a6
 unfold M_tool_Do at H
 refine Fn.enter (by kernel_rfl) Tryz.func70 rfl Tryz.ntmps70 rfl ?_
 replace H:=H (Nat.le_trans hargs.cap hargs.max)
 replace H:=H (Nat.le_trans hinputs.cap hinputs.max)
 refine zc (zb (yp (h:=(yp (h:=(zd (za (zc (zb (yp (h:=(yp (h:=(zd (za (zc (zb (yp (h:=(zd (za (zc (zc (zb (yp (h:=(zd (za (WC.block (zc ?_))))))))))))))))))))))))))))))
 obtain ⟨J1,H,hJ1⟩:=H
 refine zL (fun L' w'=>∃ (args2:List (List UInt8)),∃ (c2:Option Addr),∃ (c7:Nat),∃ (a5:Nat),∃ (inputs2:List (List UInt8)),∃ (a8:Option Addr),∃ (b9:Nat),∃ (a4:Nat),∃ (end_:List UInt8),∃ (is:Bool),L'=[(1,.slice c2 a5 c7),(2,.slice a8 a4 b9),(8,vs ([]:List UInt8)),(9,vs end_),(10,.bool is)]/\J1 args2 inputs2 end_ is/\a5=args2.length/\a4=inputs2.length/\w.grownBy w' none/\Rd vs w' c2 c7 args2/\Rd vs w' a8 b9 inputs2/\Orig (args2≠[]) (blk c2) w.heap.size [(args≠[],blk a1),(inputs≠[],blk a0)]/\Orig (inputs2≠[]) (blk a8) w.heap.size [(args≠[],blk a1),(inputs≠[],blk a0)]) ?_ (fun hQ=>?_)
 ·clear H
  rintro _ w1 ⟨args2,c2,c7,a5,inputs2,a8,b9,a4,end_,is,rfl,H,rfl,rfl,gr1,k1,k2,or1,or2⟩
  replace H:=hJ1 args2 inputs2 end_ is H
  refine za (zc (zc (zc (zb (yp (h:=(yp (h:=(yp (h:=(zD 4 (fun L' w'=>∃ q1:Bool,L'=[(38,.bool q1),(1,.slice c2 args2.length c7),(2,.slice a8 inputs2.length b9),(8,vs ([]:List UInt8)),(9,vs end_)]/\((!is) || (decide ((1:Int)<(args2.length:Int))))=q1/\w1=w') ?_ (fun hQ=>?_))))))))))))
  ·rintro _ _ ⟨q1,rfl,rfl,rfl⟩
   refine zd (za (zk rfl (fun b1=>?_) (fun b1=>?_)))
   ·replace H:=H.1 (b1)
    refine zc (zQ mixed (by kernel_rfl) ?_)
    obtain ⟨vE1,_,hE1⟩:=GOK.get (hG.grown gr1) 16 5 hS16 rfl rfl
    exact zB rfl (Yld.cell qD (ErrR.cell hE1 rfl) rfl rfl) (zB rfl (ze qD rfl) (zB rfl (ze qD rfl) (zW (za (zq (zh (zh (zp (zh (zM rfl rfl rfl ⟨gr1,([]:List UInt8),vE1,(Er.e 16),rfl,hE1,H⟩))))))))))
   ·replace H:=H.2 (b1)
    refine zm (za (zc ?_))
    obtain ⟨J2,H,hJ2⟩:=H
    refine zL (fun L' w'=>∃ (by_:List UInt8),L'=[(2,.slice a8 inputs2.length b9),(8,vs by_),(9,vs end_)]/\J2 by_/\w1=w') ?_ (fun hQ=>?_)
    ·clear H
     rintro _ _ ⟨by_,rfl,H,rfl⟩
     replace H:=hJ2 by_ H
     refine za (zc (zb (yp (h:=(yp (h:=(yp (h:=(zr rfl rfl (W_tool_joined (hG.grown gr1) hS16 k2 rfl H) ?_)))))))))
     rintro _ w2 ⟨hg1,t490,v_t491,t491,rfl,ht491,H⟩
     exact yp (h:=(yp (h:=(yp (h:=(yp (h:=(zd (za (zq (zh (zp (zh (zM rfl rfl rfl ⟨(qE gr1 hg1),t490,v_t491,t491,rfl,ht491,H⟩))))))))))))))
    ·clear hJ2
     refine zc (zb (yp (h:=(yp (h:=(yp (h:=(zd (za (zk rfl (fun b2=>?_) (fun b2=>?_)))))))))))
     ·replace H:=H.1 (of_decide_eq_true b2)
      refine zb (yp (h:=?_))
      obtain ⟨h1,H⟩:=H
      exact zi rfl (zn qD k1 rfl rfl rfl rfl h1.1 h1.2) (zi rfl (zo [] qD k1 rfl rfl (iltN h1 rfl)) (yp (h:=(zd (WX.weaken sb (hQ _ _ ⟨args2.getD 0 [],rfl,H,rfl⟩))))))
     ·replace H:=H.2 (of_decide_eq_false b2)
      exact zm (WX.weaken sb (hQ _ _ ⟨([]:List UInt8),rfl,H,rfl⟩))
  ·clear H
   rcases Bool.eq_false_or_eq_true (!is) with b3 | b3
   ·exact gn b3 (h:=(gn b3 (h:=(gn b3 (h:=(zi rfl (zy (okb b3) rfl) (wk (hQ _ _ ⟨true,rfl,by rw [b3] <;> rfl,rfl⟩))))))))
   ·exact gp b3 (h:=(gp b3 (h:=(gp b3 (h:=(zi rfl (zv (okb b3) rfl) (wk (hQ _ _ ⟨decide ((1:Int)<(args2.length:Int)),rfl,by rw [b3] <;> rfl,rfl⟩))))))))
 ·clear hJ1
  refine WC.block (zc (WC.block (zc (WC.block (zc (zc (zc (zb (yp (h:=(yp (h:=(zd (za (zk rfl (fun b4=>?_) (fun b4=>?_))))))))))))))))
  ·replace H:=H.1 (of_decide_eq_true b4)
   refine zz (zf (zf (zj (za (zc (zc (zb (yp (h:=(yp (h:=(zr rfl rfl (W_tool_substitute hG hS16 hS100 hargs rfl hinputs rfl H) ?_))))))))))))
   rintro _ w3 ⟨hg2,t220,v_t221,t221,rfl,ht221,H⟩
   exact yp (h:=(yp (h:=(yp (h:=(yp (h:=(zd (za (zq (zh (zp (zh (zp (zh (zp (zh (zM rfl rfl rfl ⟨hg2,t220,v_t221,t221,rfl,ht221,H⟩))))))))))))))))))
  ·replace H:=H.2 (of_decide_eq_false b4)
   refine zm (za (zc (zc ?_)))
   obtain ⟨J3,H,hJ3⟩:=H
   refine zL (fun L' w'=>∃ (t14:Bool),L'=[(0,.int .i64 tool),(1,.slice a1 args.length a3),(2,.slice a0 inputs.length a2),(8,vs ([]:List UInt8)),(9,vs ([]:List UInt8)),(10,.bool true),(11,.int .i64 tool),(14,.bool t14)]/\J3 t14/\w=w') ?_ (fun hQ1=>?_)
   ·clear H
    rintro _ _ ⟨t14,rfl,H,rfl⟩
    replace H:=hJ3 t14 H
    refine za (zk rfl (fun b5=>?_) (fun b5=>?_))
    ·replace H:=H.1 (b5)
     refine zz (zf (zf (qa rfl (zf (zj (za (zc (zb (yp (h:=(yp (h:=(yp (h:=(zr rfl rfl (W_tool_listed hG hS100 hargs rfl hinputs rfl H) ?_)))))))))))))))
     rintro _ w4 ⟨hg3,t290,d5,d8,t291,rfl,ht290,H⟩
     have hb1:=ht290.ge'
     have k3:=ht290.base (fun g hg=>Nat.le_trans (Nat.le_refl _) (hb1 g hg))
     exact yp (h:=(yp (h:=(yp (h:=(yp (h:=(yp (h:=(zd (za (zb (yp (h:=(yp (h:=(zd (zg (WX.weaken sb (hQ _ _ ⟨[],none,0,0,t290,d5,d8,t290.length,([10]:List UInt8),t291,rfl,H,rfl,rfl,hg3,(Own.nil vs w4 w.heap.size 9).rd,k3.rd,(Orig.new Ge.none),(Orig.new k3.ge')⟩))))))))))))))))))))
    ·replace H:=H.2 (b5)
     refine zm (za (zc (zb (yp (h:=(yp (h:=(zd (za (zk rfl (fun b6=>?_) (fun b6=>?_)))))))))))
     ·replace H:=H.1 (of_decide_eq_true b6)
      exact zz (zf (qa rfl (zf (qa rfl (zf (zj (WX.weaken sb (hQ _ _ ⟨args,a1,a3,args.length,inputs,a0,a2,inputs.length,([]:List UInt8),true,rfl,H,rfl,rfl,(qK _ _),hargs,hinputs,(Orig.par (List.Mem.head _)),(Orig.par (List.Mem.tail _ (List.Mem.head _)))⟩))))))))
     ·replace H:=H.2 (of_decide_eq_false b6)
      refine zm (za (zz (qa rfl (zf (qa rfl (zf (qa rfl (zf (zj (za (zc (zQ mixed (by kernel_rfl) ?_))))))))))))
      obtain ⟨vE2,_,hE2⟩:=GOK.get hG 10 2 hS10 rfl rfl
      exact zB rfl (Yld.cell qD (ErrR.cell hE2 rfl) rfl rfl) (zB rfl (ze qD rfl) (zB rfl (ze qD rfl) (zW (za (zq (zM rfl rfl rfl ⟨(qK _ _),([]:List UInt8),vE2,(Er.e 10),rfl,hE2,H⟩))))))
   ·clear hJ3
    refine zc (zb (yp (h:=(yp (h:=(zd (za (zk rfl (fun b7=>?_) (fun b7=>?_)))))))))
    ·replace H:=H.1 (of_decide_eq_true b7)
     exact zm (WX.weaken sb (hQ1 _ _ ⟨decide (tool=(2:Int)),rfl,H,rfl⟩))
    ·replace H:=H.2 (of_decide_eq_false b7)
     refine zc (zb (yp (h:=(yp (h:=(zd (za (zk rfl (fun b8=>?_) (fun b8=>?_)))))))))
     ·replace H:=H.1 (of_decide_eq_true b8)
      exact zm (WX.weaken sb (hQ1 _ _ ⟨decide (tool=(4:Int)),rfl,H,rfl⟩))
     ·replace H:=H.2 (of_decide_eq_false b8)
      exact zb (yp (h:=(yp (h:=(zd (WX.weaken sb (hQ1 _ _ ⟨decide (tool=(5:Int)),rfl,H,rfl⟩)))))))
set_option maxHeartbeats 8000000 in
theorem W_key_Parts {S:List Nat} {w:World} {tool:Int} {args:List (List UInt8)} {a1:Option Addr} {a3:Nat} {inputs:List (List UInt8)} {a0:Option Addr} {a2:Nat} {a5:Nat} {a4:Nat} {K:(List (List UInt8))->Prop} (hG:GOK S w) (hS101:101∈S) (hargs:Rd vs w a1 a3 args) (a7:a5=args.length) (hinputs:RdK 32 a32 w a0 a2 inputs) (a6:a4=inputs.length) (H:M_key_Parts tool args inputs K):Fn Tryz.prog 98 ⟨[.int .i64 tool,.slice a1 a5 a3,.slice a0 a4 a2]⟩ w (fun v w'=>w.grownBy w' none/\∃ (r:List (List UInt8)),∃ (A_r:Option Addr),∃ (c_r:Nat),v=.slice A_r r.length c_r/\Own vs w' w.heap.size 9 A_r c_r r/\K r):=by
 subst a7
 subst a6
 unfold M_key_Parts at H
 refine Fn.enter (by kernel_rfl) Tryz.func98 rfl Tryz.ntmps98 rfl ?_
 replace H:=H (Nat.le_trans hargs.cap hargs.max)
 replace H:=H (Nat.le_trans hinputs.cap hinputs.max)
 refine zc (zb (yp (h:=(zd (za (zc (zb (yp (h:=(zr rfl rfl (W_strconv_Itoa hG hS101 H) ?_))))))))))
 rintro _ w1 ⟨hg1,t11,rfl,H⟩
 have gr1:=hg1
 refine yp (h:=(yp (h:=(zr rfl rfl (W_strconv_Itoa (hG.grown gr1) hS101 H) ?_))))
 rintro _ w2 ⟨hg2,t14,rfl,H⟩
 have gr2:=qE gr1 hg2
 refine zP qD rfl rfl rfl (qG rfl (qG rfl (qG rfl qR))) rfl (by omega) (fun g1 w3 hB1 hg3 hl1=>?_)
 have hO1:Own vs w3 w.heap.size 9 (some ⟨g1,0,none⟩) 3 ([([115,109,105,116,104,121]:List UInt8),t11,t14]:List (List UInt8)):=Own.ofBl hB1 (Nat.le_trans (qF gr2) hl1) (by simp [maxLen]) rfl
 have gr3:=qE gr2 hg3
 refine yp (h:=(zd (za (zc (zb (yp (h:=(yp (h:=?_)))))))))
 obtain ⟨h1,H⟩:=H
 refine zG qD rfl rfl One.s hO1 rfl rfl (hargs.grown gr3) rfl rfl h1 (qN h1) (qF gr3) (fun A_l c_l w4 hO2 hg4 hk1=>yp (h:=(zd (za (zc (zc (zb (yp (h:=(yp (h:=(yp (h:=(zd (za (WC.block ?_))))))))))))))))
 obtain ⟨I1,mu1,c0,HR1⟩:=H
 refine zA (fun n' L' w'=>∃ (l:List (List UInt8)),∃ (c9:Option Addr),∃ (d1:Nat),∃ (n_l:Nat),∃ (t21:Int),n'=mu1 l t21/\L'=[(7,.slice c9 n_l d1),(19,.slice a0 inputs.length a2),(20,.int .i64 (inputs.length:Int)),(21,.int .i64 t21)]/\I1 l t21/\n_l=l.length/\w.grownBy w' none/\Own vs w' w.heap.size 9 c9 d1 l) _ _ ⟨([([115,109,105,116,104,121]:List UInt8),t11,t14]:List (List UInt8))++args,A_l,c_l,(([([115,109,105,116,104,121]:List UInt8),t11,t14]:List (List UInt8))++args).length,(0:Int),rfl,rfl,c0,rfl,(qH gr3 hg4 hO1.ge'),hO2⟩ sb ?_
 clear c0
 rintro _ _ w5 ⟨l,c9,d1,n_l,t21,rfl,rfl,hI1,rfl,gr5,k1⟩
 have H:=HR1 l t21 hI1
 refine zc (zb (yp (h:=(zd (za (zc (zk rfl (fun b1=>?_) (fun b1=>?_))))))))
 ·replace H:=H.1 (of_decide_eq_true b1)
  refine zm (za (zc (WC.block (zc (zb ?_)))))
  obtain ⟨h2,H⟩:=H
  refine zi rfl (zE qD (hinputs.grown gr5) rfl rfl rfl rfl h2.1 h2.2) (zi rfl (zU [] qD (hinputs.grown gr5) rfl rfl (iltN h2 rfl)) (WL.alloc rfl zero45 (fun g2 w6 hB2 hg5 hl2=>?_)))
  rw [a32_zero] at hB2
  refine zH (vs:=(a32 (inputs.getD t21.toNat []))) qD rfl rfl rfl (kt _) hB2 rfl rfl (fun w7 hB3 hg6=>zd (za (zb (yp (h:=(zi rfl (zY (vs:=(a32 (inputs.getD t21.toNat []))) qD hB3 rfl rfl rfl rfl) (zr rfl rfl (W_sha_Text H) ?_)))))))
  rintro _ w8 ⟨hg7,t27,rfl,H⟩
  have gr8:=qE (qH (qE gr5 hg5) hg6 (Ge.le (Ge.box hl2) (qF gr5))) hg7
  refine zP qD rfl rfl rfl (qG rfl qR) rfl (by omega) (fun g3 w9 hB4 hg8 hl3=>?_)
  have hO3:Own vs w9 w.heap.size 9 (some ⟨g3,0,none⟩) 1 ([t27]:List (List UInt8)):=Own.ofBl hB4 (Nat.le_trans (qF gr8) hl3) (by simp [maxLen]) rfl
  have gr9:=qE gr8 hg8
  have k5:=(((k1.grown hg5).go hg6 (Dj.new k1.lt' (Ge.box hl2))).grown hg7).grown hg8
  obtain ⟨h3,H⟩:=H
  refine zG qD rfl rfl One.s k5 rfl rfl hO3.rd rfl rfl h3 (qN h3) (qF gr9) (fun e1 e3 w10 hO4 hg9 hk2=>yp (h:=(zd (zg (za (zb ?_))))))
  obtain ⟨h4,H⟩:=H
  exact zi rfl (Yld.add rfl rfl h4) (yp (h:=(zd (zw _ ⟨l++([t27]:List (List UInt8)),e1,e3,(l++([t27]:List (List UInt8))).length,t21+(1:Int),rfl,rfl,H.1,rfl,(qH gr9 hg9 k5.ge'),hO4⟩ sb H.2))))
 ·replace H:=H.2 (of_decide_eq_false b1)
  exact zz (zf (zf (zj (za (zc (zb (yp (h:=(yp (h:=(zd (za (zq (zx rfl rfl ⟨gr5,l,c9,d1,rfl,k1,H⟩))))))))))))))
set_option maxHeartbeats 8000000 in
theorem W_key_Source {w:World} {text:List UInt8} {K:(List UInt8)->Prop} (H:M_key_Source text K):Fn Tryz.prog 68 ⟨[vs text]⟩ w (fun v w'=>w.grownBy w' none/\∃ (r:List UInt8),v=.agg ⟨a32 r⟩/\K r):=by
 unfold M_key_Source at H
 refine Fn.enter (by kernel_rfl) Tryz.func68 rfl Tryz.ntmps68 rfl ?_
 refine zc (zb (WL.alloc rfl zero45 (fun g1 w1 hB1 hg1 hl1=>?_)))
 rw [a32_zero] at hB1
 refine zd (za (zc (zb (yp (h:=?_)))))
 obtain ⟨h1,H⟩:=H
 refine WL.s2b qD rfl rfl rfl rfl rfl h1 (fun f5 f6 w2 hR1 hg2 hge1=>zr rfl rfl (W_sha_Of hR1 rfl H) ?_)
 rintro _ w3 ⟨hg3,t5,rfl,H⟩
 exact zH (vs:=(a32 t5)) qD rfl rfl rfl (kt _) ((hB1.g0 hg2).g0 hg3) rfl rfl (fun w4 hB2 hg4=>zd (za (zq (z7 qD rfl rfl rfl hB2 rfl ⟨(qH (qE (qE hg1 hg2) hg3) hg4 (Ge.le (Ge.box hl1) (Nat.le_refl _))),t5,rfl,H⟩))))
set_option maxHeartbeats 8000000 in
theorem W_key_Of {S:List Nat} {w:World} {tool:Int} {args:List (List UInt8)} {a1:Option Addr} {a3:Nat} {inputs:List (List UInt8)} {a0:Option Addr} {a2:Nat} {a5:Nat} {a4:Nat} {K:(List UInt8)->Prop} (hG:GOK S w) (hS101:101∈S) (hargs:Rd vs w a1 a3 args) (a7:a5=args.length) (hinputs:RdK 32 a32 w a0 a2 inputs) (a6:a4=inputs.length) (H:M_key_Of tool args inputs K):Fn Tryz.prog 69 ⟨[.int .i64 tool,.slice a1 a5 a3,.slice a0 a4 a2]⟩ w (fun v w'=>w.grownBy w' none/\∃ (r:List UInt8),v=.agg ⟨a32 r⟩/\K r):=by
 subst a7
 subst a6
 unfold M_key_Of at H
 refine Fn.enter (by kernel_rfl) Tryz.func69 rfl Tryz.ntmps69 rfl ?_
 replace H:=H (Nat.le_trans hargs.cap hargs.max)
 replace H:=H (Nat.le_trans hinputs.cap hinputs.max)
 refine zc (zb (WL.alloc rfl zero45 (fun g1 w1 hB1 hg1 hl1=>?_)))
 rw [a32_zero] at hB1
 have gr1:=hg1
 refine zd (za (zc (zb (yp (h:=(yp (h:=(yp (h:=(zr rfl rfl (W_key_Parts (hG.grown gr1) hS101 (hargs.grown gr1) rfl (hinputs.grown gr1) rfl H) ?_))))))))))
 rintro _ w2 ⟨hg2,t10,e5,f0,rfl,ht10,H⟩
 have hb1:=ht10.ge'
 refine zr rfl rfl (W_sha_Many (ht10.base (fun g hg=>Nat.le_trans (qF gr1) (hb1 g hg))).rd rfl H) ?_
 rintro _ w3 ⟨hg3,t11,rfl,H⟩
 exact zH (vs:=(a32 t11)) qD rfl rfl rfl (kt _) ((hB1.g0 hg2).g0 hg3) rfl rfl (fun w4 hB2 hg4=>zd (za (zq (z7 qD rfl rfl rfl hB2 rfl ⟨(qH (qE (qE gr1 hg2) hg3) hg4 (Ge.le (Ge.box hl1) (Nat.le_refl _))),t11,rfl,H⟩))))
end
 
section
open Go Go.RowKit
section
variable {P:Program} {N:Nat} {ops:Array Oper} {fl:Nat->Bool} {D:World->Prop} {n g:Nat} {K:Act->World->Prop} {Q:Post} {L:qJ} {w:World} {f:Nat} {listed:Array Bool} {d:Nat} {op:Op} {ty:TypeId} {pos:String} {af:Array Edge} {gd:Option (Nat × Bool)}
structure HeadOk (ops:Array Oper) (n:Nat):Prop where
 sel:Region.noSelect ops=true
 sink:Region.sinkB .any ops n=true
 chain:Region.chainB .any ops n=true
 lt:n<ops.size
def WA (P:Program) (N:Nat) (ops:Array Oper) (fl:Nat->Bool) (D:World->Prop) (n g:Nat) (K:Act->World->Prop) (f:Nat) (listed:Array Bool) (L:qJ) (w:World):Prop :=
 HeadOk ops n->HeadInv .any ops n listed->∀ a w1,Eqv w w1->D w1->Has N L a->anyT P .any ops fl D n (fun l' a' w'=>Region.seqB .any ops g n l'=true/\K a' w') f listed a w1
def WI (P:Program) (N:Nat) (ops:Array Oper) (fl:Nat->Bool) (D:World->Prop) (n g:Nat) (K:Act->World->Prop) (f:Nat) (listed:Array Bool) (L:qJ) (w:World) (i:Nat):Prop :=
 HeadOk ops n->HeadInv .any ops n (listed.setIfInBounds i true)->∀ a w1,Eqv w w1->D w1->Has N L a->∃ o,ops[i]? = some o/\fl i=false/\sRun P ops D o a w1 fun a' w'=>anyT P .any ops fl D n (fun l' a' w'=>Region.seqB .any ops g n l'=true/\K a' w') f (listed.setIfInBounds i true) a' w'
theorem WA.y {v:Value} (k:Nat) (ho:ops[k]? = some ⟨some d,op,ty,pos,af,none⟩) (hf:(fl k && ((Region.ready .any ops listed).contains k && (Region.free .any ops listed k && Nat.blt k n)))=true) (hd:Nat.blt d N=true) (hy:∀ w',D w'->Yld P N w' ⟨some d,op,ty,pos,af,none⟩ L v)
  (h:WA P N ops fl D n g K f (listed.setIfInBounds k true) ((d,v) :: L) w):WA P N ops fl D n g K (f+1) listed L w:=fun ok inv a w1 e hw ha=>by
 simp only [Bool.and_eq_true] at hf
 obtain ⟨hfl,hr,hfr,hkn⟩:=hf
 have hr':k∈Region.ready .any ops listed:=by simpa using hr
 have hkn':k<n:=by simpa [Nat.blt_eq] using hkn
 exact float_firstT ho hfl (Region.noSelect_spec ok.sel) ok.sink ok.chain ok.lt hkn' (fun _ _ _ hL=>seqB_ready hL.1) f listed a w1 hw inv (Region.free_spec ho hfr) hr'
  (.inl ⟨by simp [Region.wanted],fun w' hw'=>hy w' hw' a w' (Eqv.refl _) ha⟩) (h ok (inv.set hr' hkn') _ _ e hw (ha.put hd v))
def AllL {α:Type} (p:α->Prop):List α->Prop
 | []=>True
 | [x]=>p x
 | x :: y :: l=>p x/\AllL p (y :: l)
theorem AllL.mem {α:Type} {p:α->Prop}:∀ {l:List α},AllL p l->∀ x∈l,p x
 | [],_,x,h=>by simp at h
 | [y],h,x,hx=>by simp at hx; subst hx; exact h
 | y :: z :: l,h,x,hx=>by
  rcases List.mem_cons.1 hx with rfl | hx
  ·exact h.1
  ·exact AllL.mem h.2 x hx
theorem WA.split (is:List Nat) (hr:Region.ready .any ops listed=is) (hc:(!is.isEmpty && is.all fun i=>Nat.blt i n)=true) (h:AllL (WI P N ops fl D n g K f listed L w) is):WA P N ops fl D n g K (f+1) listed L w:=fun ok inv a w1 e hw ha=>by
 simp only [Bool.and_eq_true] at hc
 refine ⟨fun h0=>?_,fun i hi=>?_⟩
 ·rw [hr] at h0; subst h0; simp at hc
 ·have hi':=hi
  rw [hr] at hi'
  have hin:i<n:=by have:=List.all_eq_true.1 hc.2 i hi'; simpa [Nat.blt_eq] using this
  obtain ⟨o,ho,hfl,hs⟩:=h.mem i hi' ok (inv.set hi hin) a w1 e hw ha
  exact ⟨hin,o,ho,.inr ⟨hfl,hs⟩⟩
theorem WI.put {i:Nat} {R:Value->World->Prop} (ho:ops[i]? = some ⟨some d,op,ty,pos,af,none⟩) (hf:fl i=false) (hd:Nat.blt d N=true) (hr:Eff P N w ⟨some d,op,ty,pos,af,none⟩ L R) (hD:∀ v w',R v w'->D w')
  (hk:∀ v w',R v w'->WA P N ops fl D n g K f (listed.setIfInBounds i true) ((d,v) :: L) w'):WI P N ops fl D n g K f listed L w i:=fun ok inv a w1 e hw ha=>by
 refine ⟨_,ho,hf,?_⟩
 unfold sRun
 rw [if_pos (by simp [Region.wanted])]
 obtain ⟨v,w',h,hR⟩:=hr a w1 e ha
 rw [h]
 exact ⟨hD v w' hR,hk v w' hR ok inv _ w' (Eqv.refl _) (hD v w' hR) (ha.put hd v)⟩
theorem WI.eff {i:Nat} {R:World->Prop} (ho:ops[i]? = some ⟨none,op,ty,pos,af,none⟩) (hf:fl i=false) (hr:Ef0 P N w ⟨none,op,ty,pos,af,none⟩ L R) (hD:∀ w',R w'->D w')
  (hk:∀ w',R w'->WA P N ops fl D n g K f (listed.setIfInBounds i true) L w'):WI P N ops fl D n g K f listed L w i:=fun ok inv a w1 e hw ha=>by
 refine ⟨_,ho,hf,?_⟩
 unfold sRun
 rw [if_pos (by simp [Region.wanted])]
 obtain ⟨w',h,hR⟩:=hr a w1 e ha
 rw [h]
 exact ⟨hD w' hR,hk w' hR ok inv _ w' (Eqv.refl _) (hD w' hR) ha⟩
theorem WI.call {i:Nat} {R:Value->World->Prop} {fn:FuncId} {as_:List Operand} {ts:Array TypeId} {vs:List Value} (ho:ops[i]? = some ⟨some d,.call ⟨.value (.func fn),⟨as_⟩,ts⟩,ty,pos,af,gd⟩) (hf:fl i=false) (hg:Wants N ops L gd) (hd:Nat.blt d N=true) (hv:opvs L as_=some vs) (hc:Fn P fn ⟨vs⟩ w R) (hD:∀ v w',R v w'->∀ w2,Eqv w' w2->D w2)
  (hk:∀ v w',R v w'->WA P N ops fl D n g K f (listed.setIfInBounds i true) ((d,v) :: L) w'):WI P N ops fl D n g K f listed L w i:=fun ok inv a w1 e hw ha=>by
 refine ⟨_,ho,hf,?_⟩
 unfold sRun
 rw [if_pos (Wants.wanted (o:=⟨some d,.call ⟨.value (.func fn),⟨as_⟩,ts⟩,ty,pos,af,gd⟩) hg ha),run_enter ha hv hc.1]
 refine (hc.2 w1 e).mono ?_
 rintro en w' ⟨v,w0,rfl,h0,hR⟩
 exact ⟨v,rfl,hD v w0 hR w' h0,hk v w0 hR ok inv _ w' h0 (hD v w0 hR w' h0) (ha.put hd v)⟩
end
end
 
section
open Go Go.RowKit
attribute [local irreducible] WL WC WX WQ WK WJ Yld Eff Ef0 Fn
def M_plan_fate (g_l:List (Int × List (List UInt8) × List (List UInt8) × List UInt8)) (a4:List (List UInt8 × Int)) (a1:List (List Int)) (a2:List (List Int)) (i:Int) (known:List (Int × List UInt8 × List UInt8)) (texts:List (List UInt8 × List UInt8)) (K:Int->(List UInt8)->(List UInt8)->Prop):Prop :=
 (g_l.length<=maxLen ->
 (a1.length<=maxLen ->
 (a2.length<=maxLen ->
 (known.length<=maxLen ->
 ka g_l a4 a1 a2 i (fun (t23:List Int) =>
 Lp4 (fun (t25:Int) (t80:Int) (t81:List UInt8) (t82:List UInt8) kont1=>((t25<(t23.length:Int)->(0<=t25/\t25<(t23.length:Nat)) /\
 (0<=t23.getD t25.toNat 0/\t23.getD t25.toNat 0<(known.length:Nat)) /\
 ((¬ (((known.getD ((t23.getD t25.toNat 0).toNat) (0,[],[])).1)=(1:Int))->K (3:Int) ([]:List UInt8) (List.replicate 32 0:List UInt8)) /\
 (((known.getD ((t23.getD t25.toNat 0).toNat) (0,[],[])).1)=(1:Int)->(In .i64 (t25+(1:Int))) /\
 kont1 (t25+(1:Int)) t80 t81 t82))) /\
 (¬ (t25<(t23.length:Int))->jl g_l a4 a1 a2 i (fun (d6:Int) (d4:List (List UInt8)) (a0:List (List UInt8)) (e0:List UInt8) (t401:Bool) =>
 Lp6 (fun (inputs:List (List UInt8)) (sums:List (List UInt8)) (t46:Int) (t802:Int) (t812:List UInt8) (t822:List UInt8) kont2=>((t46<(a0.length:Int)->(0<=t46/\t46<(a0.length:Nat)) /\
 ((a0.getD t46.toNat []).length<=maxLen) /\
 (((!((mget texts (a0.getD t46.toNat [])).isSome))=true->K (2:Int) ([]:List UInt8) (List.replicate 32 0:List UInt8)) /\
 ((!((mget texts (a0.getD t46.toNat [])).isSome))=false->((inputs.length+(([(mget texts (a0.getD t46.toNat [])).getD []]:List (List UInt8))).length)*16<=140737488355328) /\
 M_key_Source ((mget texts (a0.getD t46.toNat [])).getD []) (fun (t65:List UInt8) =>
 ((sums.length+(([t65]:List (List UInt8))).length)*32<=140737488355328) /\
 (In .i64 (t46+(1:Int))) /\
 kont2 (inputs++([(mget texts (a0.getD t46.toNat [])).getD []]:List (List UInt8))) (sums++([t65]:List (List UInt8))) (t46+(1:Int)) t802 t812 t822)))) /\
 (¬ (t46<(a0.length:Int))->M_key_Of d6 d4 sums (fun (t74:List UInt8) =>
 ∃ J1:Int->(List UInt8)->Prop,(M_tool_Do d6 d4 inputs (fun (t820:List UInt8) (t821:Er) =>
 ((¬ (t821=Er.ok)->J1 (2:Int) t820) /\
 (t821=Er.ok->J1 (1:Int) t820)))) /\
 (∀ f0:Int,∀ f1:List UInt8,J1 f0 f1->K f0 f1 t74))))) [] [] (0:Int) t80 t81 t82)))) (0:Int) (0:Int) ([]:List UInt8) (List.replicate 32 0:List UInt8))))))
def kj (g_l:List (Int × List (List UInt8) × List (List UInt8) × List UInt8)) (a4:List (List UInt8 × Int)) (a1:List (List Int)) (a2:List (List Int)) (files:List (List UInt8 × List UInt8)) (K:(List (Int × List UInt8 × List UInt8))->Prop):Prop :=
 (g_l.length<=maxLen ->
 (a1.length<=maxLen ->
 (a2.length<=maxLen ->
 (files.length<=maxLen ->
 Lp2 (fun (t16:Int) (texts:List (List UInt8 × List UInt8)) kont1=>((t16<(files.length:Int)->∃ J1:(List (List UInt8 × List UInt8))->Prop,((0<=t16/\t16<(files.length:Nat)) /\
 kg g_l a4 a1 a2 ((files.getD t16.toNat ([],[])).1) (fun (t23:Int) =>
 ((t23<(0:Int)->(((files.getD t16.toNat ([],[])).1).length<=maxLen/\texts.length<maxLen) /\
 J1 (mput texts ((files.getD t16.toNat ([],[])).1) ((files.getD t16.toNat ([],[])).2))) /\
 (¬ (t23<(0:Int))->J1 texts)))) /\
 (∀ m:List (List UInt8 × List UInt8),J1 m->(In .i64 (t16+(1:Int))) /\
 kont1 (t16+(1:Int)) m)) /\
 (¬ (t16<(files.length:Int))->kF g_l a4 a1 a2 (fun (t32:Int) =>
 (0<=t32/\t32*56<=140737488355328/\t32<=140737488355328) /\
 kh g_l a4 a1 a2 (fun (t35:List Int) =>
 Lp3 (fun (t37:Int) (texts2:List (List UInt8 × List UInt8)) (out:List (Int × List UInt8 × List UInt8)) kont2=>t32.toNat=out.length->((t37<(t35.length:Int)->∃ J2:(List (List UInt8 × List UInt8))->(List (Int × List UInt8 × List UInt8))->Prop,((0<=t37/\t37<(t35.length:Nat)) /\
 M_plan_fate g_l a4 a1 a2 (t35.getD t37.toNat 0) out texts2 (fun (a8:Int) (c7:List UInt8) (c6:List UInt8) =>
 (0<=t35.getD t37.toNat 0/\t35.getD t37.toNat 0<(t32.toNat:Nat)) /\
 (0<=t35.getD t37.toNat 0/\t35.getD t37.toNat 0<(t32.toNat:Nat)) /\
 (((((out.set ((t35.getD t37.toNat 0).toNat) (a8,c7,c6)).getD ((t35.getD t37.toNat 0).toNat) (0,[],[])).1)=(1:Int)->jl g_l a4 a1 a2 (t35.getD t37.toNat 0) (fun (e6:Int) (e5:List (List UInt8)) (e1:List (List UInt8)) (c5:List UInt8) (t581:Bool) =>
 (0<=t35.getD t37.toNat 0/\t35.getD t37.toNat 0<(t32.toNat:Nat)) /\
 (c5.length<=maxLen/\texts2.length<maxLen) /\
 J2 (mput texts2 c5 (((out.set ((t35.getD t37.toNat 0).toNat) (a8,c7,c6)).getD ((t35.getD t37.toNat 0).toNat) (0,[],[])).2.1)) (out.set ((t35.getD t37.toNat 0).toNat) (a8,c7,c6)))) /\
 (¬ ((((out.set ((t35.getD t37.toNat 0).toNat) (a8,c7,c6)).getD ((t35.getD t37.toNat 0).toNat) (0,[],[])).1)=(1:Int))->J2 texts2 (out.set ((t35.getD t37.toNat 0).toNat) (a8,c7,c6)))))) /\
 (∀ m2:List (List UInt8 × List UInt8),∀ xs:List (Int × List UInt8 × List UInt8),J2 m2 xs->t32.toNat=xs.length->(In .i64 (t37+(1:Int))) /\
 kont2 (t37+(1:Int)) m2 xs)) /\
 (¬ (t37<(t35.length:Int))->K out))) (0:Int) texts (List.replicate t32.toNat (0,[],[]))))))) (0:Int) ([]:List (List UInt8 × List UInt8))))))
def M_plan_Steps (g_l:List (Int × List (List UInt8) × List (List UInt8) × List UInt8)) (a4:List (List UInt8 × Int)) (a1:List (List Int)) (a2:List (List Int)) (K:Int->Prop):Prop :=
 (g_l.length<=maxLen ->
 (a1.length<=maxLen ->
 (a2.length<=maxLen ->
 kF g_l a4 a1 a2 (fun (t4:Int) =>
 (In .i64 ((4:Int)*t4)) /\
 (In .i64 (((4:Int)*t4)+(1:Int))) /\
 K (((4:Int)*t4)+(1:Int))))))
set_option maxHeartbeats 8000000 in
theorem W_plan_fate {S:List Nat} {w:World} {g_g:Nat} {g_l:List (Int × List (List UInt8) × List (List UInt8) × List UInt8)} {e7:Option Addr} {e9:Nat} {d9:List (Int × Hdr × Hdr × List UInt8)} {b9:Nat} {a4:List (List UInt8 × Int)} {a1:List (List Int)} {b7:Option Addr} {b8:Nat} {a9:List Hdr} {a2:List (List Int)} {c2:Option Addr} {c3:Nat} {c0:List Hdr} {i:Int} {known:List (Int × List UInt8 × List UInt8)} {g6:Option Addr} {g7:Nat} {f6:Nat} {texts:List (List UInt8 × List UInt8)} {f3:Nat} {c1:Nat} {c4:Nat} {i2:Nat} {K:Int->(List UInt8)->(List UInt8)->Prop} (hG:GOK S w) (hS10:10∈S) (hS16:16∈S) (hS100:100∈S) (hS101:101∈S) (e2:RdK 4 qP w e7 e9 d9) (f8:f3=g_l.length) (c9:RelD de64 w d9 g_l) (b6:MapB vs okS vi w b9 a4) (a5:Rd vh w b7 b8 a9) (d3:c1=a1.length) (a3:RelD de24 w a9 a1) (a7:Rd vh w c2 c3 c0) (d5:c4=a2.length) (a6:RelD de24 w c0 a2) (hg:Bl w g_g 71 [.slice e7 f3 e9,.map (some b9),.slice b7 c1 b8,.slice c2 c4 c3]) (hknown:RdK 34 enc47 w g6 g7 known) (i8:i2=known.length) (htexts:MapB vs okS vs w f6 texts) (H:M_plan_fate g_l a4 a1 a2 i known texts K):Fn Tryz.prog 42 ⟨[.pointer (some ⟨g_g,0,none⟩),.int .i64 i,.slice g6 i2 g7,.map (some f6)]⟩ w (fun v w'=>w.grownBy w' none/\∃ (r_State:Int),∃ (r_Out:List UInt8),∃ (r_Key:List UInt8),v=.agg ⟨([.int .i64 r_State,vs r_Out]++a32 r_Key)⟩/\K r_State r_Out r_Key):=by
 subst f8
 subst d3
 subst d5
 subst i8
 unfold M_plan_fate at H
 refine Fn.enter (by kernel_rfl) Tryz.func42 rfl Tryz.ntmps42 rfl ?_
 replace H:=H (by rw [<-c9.1]; exact Nat.le_trans e2.cap e2.max)
 replace H:=H (by rw [<-a3.1]; exact Nat.le_trans a5.cap a5.max)
 replace H:=H (by rw [<-a6.1]; exact Nat.le_trans a7.cap a7.max)
 replace H:=H (Nat.le_trans hknown.cap hknown.max)
 refine zc (zb (WL.alloc rfl zero47 (fun g1 w1 hB1 hg1 hl1=>?_)))
 have gr1:=hg1
 refine zd (za (zc (zc (zb (yp (h:=(yp (h:=(zr rfl rfl (W_pgraph_Graph_Before (e2.grown gr1) rfl (c9.grown gr1) (b6.g0 gr1) (a5.grown gr1) rfl (a3.grown gr1) (a7.grown gr1) rfl (a6.grown gr1) (hg.g0 gr1) H) ?_)))))))))
 rintro _ w2 ⟨hg2,t23,l1,l2,rfl,ht23,H⟩
 have hb1:=ht23.ge'
 refine yp (h:=(yp (h:=(zd (za (WC.block ?_))))))
 obtain ⟨I1,mu1,i5,HR1⟩:=H
 refine zA (fun n' L' w'=>∃ (t25:Int),∃ (t80:Int),∃ (t81:List UInt8),∃ (t82:List UInt8),n'=mu1 t25 t80 t81 t82/\L'=[(0,.pointer (some ⟨g_g,0,none⟩)),(1,.int .i64 i),(2,.slice g6 known.length g7),(3,.map (some f6)),(8,.pointer (some ⟨g1,0,none⟩)),(23,.slice l1 t23.length l2),(24,.int .i64 (t23.length:Int)),(25,.int .i64 t25)]/\I1 t25 t80 t81 t82/\w.grownBy w' none/\Bl w' g1 47 ([.int .i64 t80,vs t81]++a32 t82)/\Own vi w' w.heap.size 3 l1 l2 t23) _ _ ⟨(0:Int),(0:Int),([]:List UInt8),(List.replicate 32 0:List UInt8),rfl,rfl,i5,(qE gr1 hg2),(hB1.g0 hg2),(ht23.base (fun g hg=>Nat.le_trans (qF gr1) (hb1 g hg)))⟩ sb ?_
 clear i5
 rintro _ _ w3 ⟨t25,t80,t81,t82,rfl,rfl,hI1,gr3,k3,k4⟩
 have H:=HR1 t25 t80 t81 t82 hI1
 refine zc (zb (yp (h:=(zd (za (zc (zk rfl (fun b1=>?_) (fun b1=>?_))))))))
 ·replace H:=H.1 (of_decide_eq_true b1)
  refine zm (za (zc (WC.block (zc (zb ?_)))))
  obtain ⟨h1,H⟩:=H
  refine zi rfl (zn qD k4.rd rfl rfl rfl rfl h1.1 h1.2) (zi rfl (zo 0 qD k4.rd rfl rfl (iltN h1 rfl)) (yp (h:=(zd (za (zc (zb (yp (h:=(yp (h:=?_)))))))))))
  obtain ⟨h2,H⟩:=H
  refine zi rfl (zE qD (hknown.grown gr3) rfl rfl rfl rfl h2.1 h2.2) (zi rfl (zK qD (hknown.grown gr3) (iltN h2 rfl) rfl rfl rfl) (zi rfl (zN (0,[],[]) qD (hknown.grown gr3) rfl rfl (iltN h2 rfl) rfl) (yp (h:=(zd (za (zk rfl (fun b2=>?_) (fun b2=>?_))))))))
  ·replace H:=H.1 (kN b2)
   exact zc (zb (zi rfl (zS (us:=([.int .i64 (3:Int),vs ([]:List UInt8)]++a32 (List.replicate 32 0:List UInt8))) zero47 places47 rfl rfl) (zH (vs:=([.int .i64 (3:Int),vs ([]:List UInt8)]++a32 (List.replicate 32 0:List UInt8))) qD rfl rfl rfl (qG rfl (qG rfl (kt _))) k3 rfl rfl (fun w4 hB2 hg3=>zd (za (zq (zp (zh (zh (zp (zh (z7 qD rfl rfl rfl hB2 rfl ⟨(qH gr3 hg3 (Ge.le (Ge.box hl1) (Nat.le_refl _))),(3:Int),([]:List UInt8),(List.replicate 32 0:List UInt8),rfl,H⟩))))))))))))
  ·replace H:=H.2 (j9 b2)
   refine zm (zg (za (zb ?_)))
   obtain ⟨h3,H⟩:=H
   exact zi rfl (Yld.add rfl rfl h3) (yp (h:=(zd (zw _ ⟨t25+(1:Int),t80,t81,t82,rfl,rfl,H.1,gr3,k3,k4⟩ sb H.2))))
 ·replace H:=H.2 (of_decide_eq_false b1)
  refine zz (zf (zf (zj (za (zc (zb (yp (h:=(yp (h:=(zr rfl rfl (kT (e2.grown gr3) rfl (c9.grown gr3) (b6.g0 gr3) (a5.grown gr3) rfl (a3.grown gr3) (a7.grown gr3) rfl (a6.grown gr3) (hg.g0 gr3) H) ?_)))))))))))
  rintro _ w5 ⟨hg4,d6,d4,d2,d8,a0,b0,d0,e0,t401,rfl,ht400_Args,ht400_Inputs,dj1,H⟩
  have hb2:=ht400_Args.ge'
  have k5:=ht400_Args.base (fun g hg=>Nat.le_trans (qF gr3) (hb2 g hg))
  have hb3:=ht400_Inputs.ge'
  have k6:=ht400_Inputs.base (fun g hg=>Nat.le_trans (qF gr3) (hb3 g hg))
  have gr5:=qE gr3 hg4
  have k7:=k3.g0 hg4
  refine yp (h:=(yp (h:=(yp (h:=(WL.alloc rfl zero64 (fun g2 w6 hB3 hg5 hl2=>zH (vs:=[.int .i64 d6,.slice d2 d4.length d8,.slice b0 a0.length d0,vs e0]) qD rfl rfl rfl (qG rfl (qG rfl (qG rfl (qG rfl qR)))) hB3 rfl rfl (fun w7 hB4 hg6=>yp (h:=(zd (za (zc (zb (yp (h:=(zd (za (zc (zb (yp (h:=(zd (za (zc (zc (zb (yp (h:=(zi rfl (zt qD hB4 rfl rfl rfl) (yp (h:=(yp (h:=(zd (za (WC.block ?_))))))))))))))))))))))))))))))))))))
  obtain ⟨I2,mu2,i6,HR2⟩:=H
  refine zA (fun n' L' w'=>∃ (inputs:List (List UInt8)),∃ (d1:Option Addr),∃ (f7:Nat),∃ (f9:Nat),∃ (sums:List (List UInt8)),∃ (d7:Option Addr),∃ (g8:Nat),∃ (g9:Nat),∃ (t46:Int),∃ (t802:Int),∃ (t812:List UInt8),∃ (t822:List UInt8),n'=mu2 inputs sums t46 t802 t812 t822/\L'=[(3,.map (some f6)),(8,.pointer (some ⟨g1,0,none⟩)),(11,.pointer (some ⟨g2,0,none⟩)),(13,.slice d1 f9 f7),(14,.slice d7 g9 g8),(44,.slice b0 a0.length d0),(45,.int .i64 (a0.length:Int)),(46,.int .i64 t46)]/\I2 inputs sums t46 t802 t812 t822/\f9=inputs.length/\g9=sums.length/\w.grownBy w' none/\Bl w' g1 47 ([.int .i64 t802,vs t812]++a32 t822)/\Own vs w' w.heap.size 9 d2 d8 d4/\Own vs w' w.heap.size 9 b0 d0 a0/\Bl w' g2 64 [.int .i64 d6,.slice d2 d4.length d8,.slice b0 a0.length d0,vs e0]/\Own vs w' w.heap.size 9 d1 f7 inputs/\OwnK 32 a32 w' w.heap.size 45 d7 g8 sums/\Dj (some g1) (blk d1)/\Dj (some g1) (blk d7)/\Dj (blk d2) (blk d1)/\Dj (blk d2) (blk d7)/\Dj (blk b0) (blk d1)/\Dj (blk b0) (blk d7)/\Dj (some g2) (blk d1)/\Dj (some g2) (blk d7)/\Dj (blk d1) (blk d7)) _ _ ⟨[],none,0,0,[],none,0,0,(0:Int),t80,t81,t82,rfl,rfl,i6,rfl,rfl,(qH (qE gr5 hg5) hg6 (Ge.le (Ge.box hl2) (qF gr5))),((k7.g0 hg5).go hg6 (Dj.new k7.lt' (Ge.box hl2))),((k5.grown hg5).go hg6 (Dj.new k5.lt' (Ge.box hl2))),((k6.grown hg5).go hg6 (Dj.new k6.lt' (Ge.box hl2))),hB4,(Own.nil vs w7 w.heap.size 9),(OwnK.nil a32_ok w7 w.heap.size 45),Dj.nr,Dj.nr,Dj.nr,Dj.nr,Dj.nr,Dj.nr,Dj.nr,Dj.nr,Dj.nl⟩ sb ?_
  clear i6
  rintro _ _ w8 ⟨inputs,d1,f7,f9,sums,d7,g8,g9,t46,t802,t812,t822,rfl,rfl,hI2,rfl,rfl,gr8,k14,k15,k16,k17,k18,k19,dj2,dj3,dj4,dj5,dj6,dj7,dj8,dj9,dj10⟩
  have H:=HR2 inputs sums t46 t802 t812 t822 hI2
  refine zc (zb (yp (h:=(zd (za (zc (zk rfl (fun b3=>?_) (fun b3=>?_))))))))
  ·replace H:=H.1 (of_decide_eq_true b3)
   refine zm (za (zc (WC.block (zc (zb ?_)))))
   obtain ⟨h4,H⟩:=H
   refine zi rfl (zn qD k16.rd rfl rfl rfl rfl h4.1 h4.2) (zi rfl (zo [] qD k16.rd rfl rfl (iltN h4 rfl)) (yp (h:=(zd (za (zc (zb (yp (h:=(yp (h:=?_)))))))))))
   obtain ⟨h5,H⟩:=H
   refine zi rfl (qC (z:=[]) (keyF_s Tryz.underlying9) Tryz.underlying92 (fun _=>by kernel_rfl) (htexts.g0 gr8) rfl rfl h5) (yp (h:=(yp (h:=(yp (h:=(yp (h:=(yp (h:=(zd (za (zc (zc (zb (yp (h:=(yp (h:=(zd (za (zk rfl (fun b4=>?_) (fun b4=>?_)))))))))))))))))))))))
   ·replace H:=H.1 (b4)
    exact zc (zb (zi rfl (zS (us:=([.int .i64 (2:Int),vs ([]:List UInt8)]++a32 (List.replicate 32 0:List UInt8))) zero47 places47 rfl rfl) (zH (vs:=([.int .i64 (2:Int),vs ([]:List UInt8)]++a32 (List.replicate 32 0:List UInt8))) qD rfl rfl rfl (qG rfl (qG rfl (kt _))) k14 rfl rfl (fun w9 hB5 hg7=>zd (za (zq (zh (zp (zh (zh (zp (zh (z7 qD rfl rfl rfl hB5 rfl ⟨(qH gr8 hg7 (Ge.le (Ge.box hl1) (Nat.le_refl _))),(2:Int),([]:List UInt8),(List.replicate 32 0:List UInt8),rfl,H⟩)))))))))))))
   ·replace H:=H.2 (b4)
    refine zm (za (zb (yp (h:=(yp (h:=(zP qD rfl rfl rfl (qG rfl qR) rfl (by omega) (fun g3 w10 hB6 hg8 hl3=>?_))))))))
    have hO1:Own vs w10 w.heap.size 9 (some ⟨g3,0,none⟩) 1 ([(mget texts (a0.getD t46.toNat [])).getD []]:List (List UInt8)):=Own.ofBl hB6 (Nat.le_trans (qF gr8) hl3) (by simp [maxLen]) rfl
    have gr10:=qE gr8 hg8
    have k20:=k14.g0 hg8
    have k21:=k15.grown hg8
    have k22:=k16.grown hg8
    have k23:=k17.g0 hg8
    have k24:=k18.grown hg8
    have k25:=k19.grown hg8
    obtain ⟨h6,H⟩:=H
    refine zG qD rfl rfl One.s k24 rfl rfl hO1.rd rfl rfl h6 (qN h6) (qF gr10) (fun i3 i4 w11 hO2 hg9 hk1=>yp (h:=(yp (h:=(zr rfl rfl (W_key_Source H) ?_)))))
    rintro _ w12 ⟨hg10,t65,rfl,H⟩
    have gr12:=qE (qH gr10 hg9 k24.ge') hg10
    refine WL.litK (f:=a32) ([t65]:List (List UInt8)) a32_ok rfl ow119 rfl rfl rfl (fun g4 w13 hB7 hg11 hl4=>?_)
    have hO3:OwnK 32 a32 w13 w.heap.size 45 (some ⟨g4,0,none⟩) 1 ([t65]:List (List UInt8)):=OwnK.ofBl a32_ok hB7 (Nat.le_trans (qF gr12) hl4) (by simp [maxLen]) rfl
    have gr13:=qE gr12 hg11
    have k37:=((k20.go hg9 dj2).g0 hg10).g0 hg11
    have k38:=((k21.go hg9 dj4).grown hg10).grown hg11
    have k39:=((k22.go hg9 dj6).grown hg10).grown hg11
    have k40:=((k23.go hg9 dj8).g0 hg10).g0 hg11
    have k41:=((k25.go hg9 dj10.symm).grown hg10).grown hg11
    have k42:=(hO2.grown hg10).grown hg11
    obtain ⟨h7,H⟩:=H
    refine qy rfl ow119 k41 rfl rfl hO3.rd rfl rfl h7 (qN h7) (qF gr13) (fun i9 l0 w14 hO4 hg12 hk2=>yp (h:=(yp (h:=(zd (zg (za (zb ?_))))))))
    obtain ⟨h8,H⟩:=H
    exact zi rfl (Yld.add rfl rfl h8) (yp (h:=(zd (zw _ ⟨inputs++([(mget texts (a0.getD t46.toNat [])).getD []]:List (List UInt8)),i3,i4,(inputs++([(mget texts (a0.getD t46.toNat [])).getD []]:List (List UInt8))).length,sums++([t65]:List (List UInt8)),i9,l0,(sums++([t65]:List (List UInt8))).length,t46+(1:Int),t802,t812,t822,rfl,rfl,H.1,rfl,rfl,(qH gr13 hg12 k41.ge'),(k37.go hg12 dj3),(k38.go hg12 dj5),(k39.go hg12 dj7),(k40.go hg12 dj9),(k42.go hg12 (Dj.app dj10 k25.lt' hk1)),hO4,(Dj.app dj2.symm k20.lt' hk1).symm,(Dj.app dj3.symm k37.lt' hk2).symm,(Dj.app dj4.symm k21.lt' hk1).symm,(Dj.app dj5.symm k38.lt' hk2).symm,(Dj.app dj6.symm k22.lt' hk1).symm,(Dj.app dj7.symm k39.lt' hk2).symm,(Dj.app dj8.symm k23.lt' hk1).symm,(Dj.app dj9.symm k40.lt' hk2).symm,(Dj.app (Dj.app dj10 k25.lt' hk1).symm k42.lt' hk2).symm⟩ sb H.2))))
  ·replace H:=H.2 (of_decide_eq_false b3)
   refine zz (zf (zf (zj (za (zc (zb (yp (h:=(zi rfl (zt qD k17 rfl rfl rfl) (yp (h:=(zi rfl (zt qD k17 rfl rfl rfl) (yp (h:=(zr rfl rfl (W_key_Of (hG.grown gr8) hS101 k15.rd rfl k19.rd rfl H) ?_)))))))))))))))
   rintro _ w15 ⟨hg13,t74,rfl,H⟩
   have gr15:=qE gr8 hg13
   have k48:=k14.g0 hg13
   have k49:=k15.grown hg13
   have k50:=k16.grown hg13
   have k51:=k17.g0 hg13
   have k52:=k18.grown hg13
   refine zi rfl (zS (us:=([.int .i64 (1:Int),vs ([]:List UInt8)]++a32 t74)) zero47 places47 rfl rfl) (WL.alloc rfl zero47 (fun g5 w16 hB8 hg14 hl5=>zH (vs:=([.int .i64 (1:Int),vs ([]:List UInt8)]++a32 t74)) qD rfl rfl rfl (qG rfl (qG rfl (kt _))) hB8 rfl rfl (fun w17 hB9 hg15=>?_)))
   have gr17:=qH (qE gr15 hg14) hg15 (Ge.le (Ge.box hl5) (qF gr15))
   have k60:=(k50.grown hg14).go hg15 (Dj.new k50.lt' (Ge.box hl5))
   have k61:=(k51.g0 hg14).go hg15 (Dj.new k51.lt' (Ge.box hl5))
   refine zd (za (zc (zb (yp (h:=(zd (za (zc ?_))))))))
   obtain ⟨J1,H,hJ1⟩:=H
   refine zL (fun L' w'=>∃ (f0:Int),∃ (f1:List UInt8),L'=[(8,.pointer (some ⟨g1,0,none⟩)),(19,.pointer (some ⟨g5,0,none⟩))]/\J1 f0 f1/\w.grownBy w' none/\Bl w' g1 47 ([.int .i64 t802,vs t812]++a32 t822)/\Bl w' g5 47 ([.int .i64 f0,vs f1]++a32 t74)) ?_ (fun hQ=>?_)
   ·clear H
    rintro _ w18 ⟨f0,f1,rfl,H,gr18,k63,k64⟩
    replace H:=hJ1 f0 f1 H
    exact za (zc (zb (zi rfl (zY (vs:=([.int .i64 f0,vs f1]++a32 t74)) qD k64 rfl rfl rfl rfl) (zH (vs:=([.int .i64 f0,vs f1]++a32 t74)) qD rfl rfl rfl (qG rfl (qG rfl (kt _))) k63 rfl rfl (fun w19 hB10 hg16=>zd (za (zq (z7 qD rfl rfl rfl hB10 rfl ⟨(qH gr18 hg16 (Ge.le (Ge.box hl1) (Nat.le_refl _))),f0,f1,t74,rfl,H⟩))))))))
   ·clear hJ1
    refine zc (zb (yp (h:=(zi rfl (zt qD k61 rfl rfl rfl) (yp (h:=(zi rfl (zt qD k61 rfl rfl rfl) (yp (h:=(zr rfl rfl (W_tool_Do (hG.grown gr17) hS10 hS16 hS100 ((k49.grown hg14).go hg15 (Dj.new k49.lt' (Ge.box hl5))).rd rfl ((k52.grown hg14).go hg15 (Dj.new k52.lt' (Ge.box hl5))).rd rfl H) ?_))))))))))
    rintro _ w20 ⟨hg17,t820,v_t821,t821,rfl,ht821,H⟩
    have gr20:=qE gr17 hg17
    have k66:=hB9.g0 hg17
    refine yp (h:=(yp (h:=(yp (h:=(yp (h:=(zV one9 rfl rfl rfl k66 (by simp) (fun w21 hB12 hg18=>?_)))))))))
    have hB11:Bl w21 g5 47 ([.int .i64 (1:Int),vs t820]++a32 t74):=hB12
    have gr21:=qH gr20 hg18 (Ge.le (Ge.box hl5) (qF gr15))
    have k67:=(((k48.g0 hg14).go hg15 (Dj.new k48.lt' (Ge.box hl5))).g0 hg17).go hg18 (Dj.new k48.lt' (Ge.box hl5))
    refine yp (h:=(zd (za (zc (zb (yp (h:=(zi rfl (qf Tryz.underlying30 (ErrR.go ht821 hG gr20 hg18 gr21 k66 rfl) rfl) (zd (za (zk rfl (fun b5=>?_) (fun b5=>?_))))))))))))
    ·replace H:=H.1 (kN b5)
     refine zb (yp (h:=(zV one3 rfl rfl rfl hB11 (by simp) (fun w22 hB14 hg19=>?_))))
     have hB13:Bl w22 g5 47 ([.int .i64 (2:Int),vs t820]++a32 t74):=hB14
     exact zd (WX.weaken sb (hQ _ _ ⟨(2:Int),t820,rfl,H,(qH gr21 hg19 (Ge.le (Ge.box hl5) (qF gr15))),(k67.go hg19 (Dj.new k48.lt' (Ge.box hl5))),hB13⟩))
    ·replace H:=H.2 (j9 b5)
     exact zm (WX.weaken sb (hQ _ _ ⟨(1:Int),t820,rfl,H,gr21,k67,hB11⟩))
set_option maxHeartbeats 8000000 in
theorem W_plan_Fates {S:List Nat} {w:World} {g_g:Nat} {g_l:List (Int × List (List UInt8) × List (List UInt8) × List UInt8)} {e7:Option Addr} {e9:Nat} {d9:List (Int × Hdr × Hdr × List UInt8)} {b9:Nat} {a4:List (List UInt8 × Int)} {a1:List (List Int)} {b7:Option Addr} {b8:Nat} {a9:List Hdr} {a2:List (List Int)} {c2:Option Addr} {c3:Nat} {c0:List Hdr} {files:List (List UInt8 × List UInt8)} {f4:Option Addr} {f5:Nat} {f3:Nat} {c1:Nat} {c4:Nat} {i1:Nat} {K:(List (Int × List UInt8 × List UInt8))->Prop} (hG:GOK S w) (hS10:10∈S) (hS16:16∈S) (hS100:100∈S) (hS101:101∈S) (e2:RdK 4 qP w e7 e9 d9) (f8:f3=g_l.length) (c9:RelD de64 w d9 g_l) (b6:MapB vs okS vi w b9 a4) (a5:Rd vh w b7 b8 a9) (d3:c1=a1.length) (a3:RelD de24 w a9 a1) (a7:Rd vh w c2 c3 c0) (d5:c4=a2.length) (a6:RelD de24 w c0 a2) (hg:Bl w g_g 71 [.slice e7 f3 e9,.map (some b9),.slice b7 c1 b8,.slice c2 c4 c3]) (hfiles:RdK 2 enc67 w f4 f5 files) (i7:i1=files.length) (H:kj g_l a4 a1 a2 files K):Fn Tryz.prog 9 ⟨[.pointer (some ⟨g_g,0,none⟩),.slice f4 i1 f5]⟩ w (fun v w'=>w.grownBy w' none/\∃ (r:List (Int × List UInt8 × List UInt8)),∃ (A_r:Option Addr),∃ (c_r:Nat),v=.slice A_r r.length c_r/\OwnK 34 enc47 w' w.heap.size 47 A_r c_r r/\K r):=by
 subst f8
 subst d3
 subst d5
 subst i7
 unfold kj at H
 refine Fn.enter (by kernel_rfl) Tryz.func9 rfl Tryz.ntmps9 rfl ?_
 replace H:=H (by rw [<-c9.1]; exact Nat.le_trans e2.cap e2.max)
 replace H:=H (by rw [<-a3.1]; exact Nat.le_trans a5.cap a5.max)
 replace H:=H (by rw [<-a6.1]; exact Nat.le_trans a7.cap a7.max)
 replace H:=H (Nat.le_trans hfiles.cap hfiles.max)
 refine zc (zb (yp (h:=(zd (za (zc (zb (WL.putw qI rfl (Eff.makeMap vs okS vs) ?_))))))))
 rintro _ w1 ⟨rfl,hB1,hg1⟩
 refine yp (h:=(zd (za (zc (zc (zb (yp (h:=(yp (h:=(yp (h:=(zd (za (WC.block ?_)))))))))))))))
 obtain ⟨I1,mu1,i5,HR1⟩:=H
 refine zA (fun n' L' w'=>∃ (t16:Int),∃ (texts:List (List UInt8 × List UInt8)),n'=mu1 t16 texts/\L'=[(0,.pointer (some ⟨g_g,0,none⟩)),(5,.map (some w.heap.size)),(14,.slice f4 files.length f5),(15,.int .i64 (files.length:Int)),(16,.int .i64 t16)]/\I1 t16 texts/\w.grownBy w' none/\MapB vs okS vs w' w.heap.size texts) _ _ ⟨(0:Int),([]:List (List UInt8 × List UInt8)),rfl,rfl,i5,hg1,hB1⟩ sb ?_
 clear i5
 rintro _ _ w2 ⟨t16,texts,rfl,rfl,hI1,gr2,k1⟩
 have H:=HR1 t16 texts hI1
 refine zc (zb (yp (h:=(zd (za (zc (zk rfl (fun b1=>?_) (fun b1=>?_))))))))
 ·replace H:=H.1 (of_decide_eq_true b1)
  refine zm (za (zc ?_))
  obtain ⟨J1,H,hJ1⟩:=H
  refine zL (fun L' w'=>∃ (m:List (List UInt8 × List UInt8)),L'=[(0,.pointer (some ⟨g_g,0,none⟩)),(5,.map (some w.heap.size)),(14,.slice f4 files.length f5),(15,.int .i64 (files.length:Int)),(16,.int .i64 t16)]/\J1 m/\w.grownBy w' none/\MapB vs okS vs w' w.heap.size m) ?_ (fun hQ=>?_)
  ·clear H
   rintro _ w3 ⟨m,rfl,H,gr3,k2⟩
   replace H:=hJ1 m H
   refine za (zb ?_)
   obtain ⟨h1,H⟩:=H
   exact zi rfl (Yld.add rfl rfl h1) (yp (h:=(zd (zw _ ⟨t16+(1:Int),m,rfl,rfl,H.1,gr3,k2⟩ sb H.2))))
  ·clear hJ1
   refine WC.block (zc (zb ?_))
   obtain ⟨h2,H⟩:=H
   refine zi rfl (zE qD (hfiles.grown gr2) rfl rfl rfl rfl h2.1 h2.2) (zi rfl (zU ([],[]) qD (hfiles.grown gr2) rfl rfl (iltN h2 rfl)) (WL.alloc rfl zero67 (fun g1 w4 hB2 hg2 hl2=>zH (vs:=[vs ((files.getD t16.toNat ([],[])).1),vs ((files.getD t16.toNat ([],[])).2)]) qD rfl rfl rfl (qG rfl (qG rfl qR)) hB2 rfl rfl (fun w5 hB3 hg3=>?_))))
   have gr5:=qH (qE gr2 hg2) hg3 (Ge.le (Ge.box hl2) (qF gr2))
   have k4:=(k1.g0 hg2).go hg3 (Dj.new k1.lt' (Ge.box hl2))
   refine zd (za (zc (zb (yp (h:=(yp (h:=(zi rfl (zt qD hB3 rfl rfl rfl) (zr rfl rfl (W_pgraph_Graph_Maker (e2.grown gr5) rfl (c9.grown gr5) (b6.g0 gr5) (a5.grown gr5) rfl (a3.grown gr5) (a7.grown gr5) rfl (a6.grown gr5) (hg.g0 gr5) H) ?_)))))))))
   rintro _ _ ⟨rfl,t23,rfl,H⟩
   refine yp (h:=(zd (za (zk rfl (fun b2=>?_) (fun b2=>?_)))))
   ·replace H:=H.1 (of_decide_eq_true b2)
    refine zb (yp (h:=(yp (h:=(zi rfl (zt qD hB3 rfl rfl rfl) (yp (h:=(zi rfl (zt qD hB3 rfl rfl rfl) ?_))))))))
    obtain ⟨h3,H⟩:=H
    refine WL.ef0 (Ef0.mapPut (keyF_s Tryz.underlying9) Tryz.underlying92 k4 h3.2 rfl rfl h3.1 rfl) ?_
    rintro w6 ⟨hB4,hg4⟩
    exact zd (zg (WX.weaken sb (hQ _ _ ⟨mput texts ((files.getD t16.toNat ([],[])).1) ((files.getD t16.toNat ([],[])).2),rfl,H,(qH gr5 hg4 (Ge.le (Ge.box (Nat.le_refl _)) (Nat.le_refl _))),hB4⟩)))
   ·replace H:=H.2 (of_decide_eq_false b2)
    exact zm (zg (WX.weaken sb (hQ _ _ ⟨texts,rfl,H,gr5,k4⟩)))
 ·replace H:=H.2 (of_decide_eq_false b1)
  refine zz (zf (zf (zj (za (zc (zb (yp (h:=(zr rfl rfl (W_pgraph_Graph_Len (e2.grown gr2) rfl (c9.grown gr2) (b6.g0 gr2) (a5.grown gr2) rfl (a3.grown gr2) (a7.grown gr2) rfl (a6.grown gr2) (hg.g0 gr2) H) ?_)))))))))
  rintro _ _ ⟨rfl,t32,rfl,H⟩
  obtain ⟨h4,H⟩:=H
  refine WL.makeZK (f:=enc47) (B:=w.heap.size) (0,[],[]) enc47_ok rfl ow38 zero47 rfl rfl h4.1 h4.2.1 h4.2.2 (qF gr2) (fun g2 w7 hO1 hg5 hl3=>?_)
  have gr7:=qE gr2 hg5
  have k5:=k1.g0 hg5
  refine yp (h:=(zd (za (zc (zc (zb (yp (h:=(zr rfl rfl (W_pgraph_Graph_Order (e2.grown gr7) rfl (c9.grown gr7) (b6.g0 gr7) (a5.grown gr7) rfl (a3.grown gr7) (a7.grown gr7) rfl (a6.grown gr7) (hg.g0 gr7) H) ?_)))))))))
  rintro _ w8 ⟨hg6,t35,h0,i0,rfl,ht35,H⟩
  have hb1:=ht35.ge'
  refine yp (h:=(yp (h:=(zd (za (WC.block ?_))))))
  obtain ⟨I2,mu2,i6,HR2⟩:=H
  refine zA (fun n' L' w'=>∃ (t37:Int),∃ (texts2:List (List UInt8 × List UInt8)),∃ (out:List (Int × List UInt8 × List UInt8)),n'=mu2 t37 texts2 out/\L'=[(0,.pointer (some ⟨g_g,0,none⟩)),(5,.map (some w.heap.size)),(8,.slice (some ⟨g2,0,none⟩) t32.toNat t32.toNat),(35,.slice h0 t35.length i0),(36,.int .i64 (t35.length:Int)),(37,.int .i64 t37)]/\I2 t37 texts2 out/\t32.toNat=out.length/\w.grownBy w' none/\MapB vs okS vs w' w.heap.size texts2/\OwnK 34 enc47 w' w.heap.size 47 (some ⟨g2,0,none⟩) t32.toNat out/\Own vi w' w.heap.size 3 h0 i0 t35) _ _ ⟨(0:Int),texts,(List.replicate t32.toNat (0,[],[])),rfl,rfl,i6,(List.length_replicate).symm,(qE gr7 hg6),(k5.g0 hg6),(hO1.grown hg6),(ht35.base (fun g hg=>Nat.le_trans (qF gr7) (hb1 g hg)))⟩ sb ?_
  clear i6
  rintro _ _ w9 ⟨t37,texts2,out,rfl,rfl,hI2,c8,gr9,k9,k10,k11⟩
  have H:=HR2 t37 texts2 out hI2
  replace H:=H c8
  refine zc (zb (yp (h:=(zd (za (zc (zk rfl (fun b3=>?_) (fun b3=>?_))))))))
  ·replace H:=H.1 (of_decide_eq_true b3)
   refine zm (za (zc ?_))
   obtain ⟨J2,H,hJ2⟩:=H
   refine zL (fun L' w'=>∃ (m2:List (List UInt8 × List UInt8)),∃ (xs:List (Int × List UInt8 × List UInt8)),L'=[(0,.pointer (some ⟨g_g,0,none⟩)),(5,.map (some w.heap.size)),(8,.slice (some ⟨g2,0,none⟩) t32.toNat t32.toNat),(35,.slice h0 t35.length i0),(36,.int .i64 (t35.length:Int)),(37,.int .i64 t37)]/\J2 m2 xs/\t32.toNat=xs.length/\w.grownBy w' none/\MapB vs okS vs w' w.heap.size m2/\OwnK 34 enc47 w' w.heap.size 47 (some ⟨g2,0,none⟩) t32.toNat xs/\Own vi w' w.heap.size 3 h0 i0 t35) ?_ (fun hQ=>?_)
   ·clear H
    rintro _ w10 ⟨m2,xs,rfl,H,l3,gr10,k12,k13,k14⟩
    replace H:=hJ2 m2 xs H
    replace H:=H l3
    refine za (zb ?_)
    obtain ⟨h5,H⟩:=H
    exact zi rfl (Yld.add rfl rfl h5) (yp (h:=(zd (zw _ ⟨t37+(1:Int),m2,xs,rfl,rfl,H.1,l3,gr10,k12,k13,k14⟩ sb H.2))))
   ·clear hJ2
    refine WC.block (zc (zb ?_))
    obtain ⟨h6,H⟩:=H
    refine zi rfl (zn qD k11.rd rfl rfl rfl rfl h6.1 h6.2) (zi rfl (zo 0 qD k11.rd rfl rfl (iltN h6 rfl)) (yp (h:=(zd (za (zc (zb (yp (h:=(yp (h:=(yp (h:=(yp (h:=(yp (h:=(yp (h:=(zr rfl rfl (W_plan_fate (hG.grown gr9) hS10 hS16 hS100 hS101 (e2.grown gr9) rfl (c9.grown gr9) (b6.g0 gr9) (a5.grown gr9) rfl (a3.grown gr9) (a7.grown gr9) rfl (a6.grown gr9) (hg.g0 gr9) k10.rd c8 k9 H) ?_))))))))))))))))))))
    rintro _ w11 ⟨hg7,a8,c7,c6,rfl,H⟩
    have k16:=k10.grown hg7
    obtain ⟨h7,H⟩:=H
    refine zi rfl (zE qD k16.rd rfl rfl c8 rfl h7.1 h7.2) (WL.ostoreK (v:=(a8,c7,c6)) qD rfl k16 rfl rfl (iltN h7 c8) (fun w12 hO2 hg8=>?_))
    have gr12:=qH (qE gr9 hg7) hg8 k16.ge'
    have k18:=(k9.g0 hg7).go hg8 (Dj.new k1.lt' (Ge.box hl3))
    have k19:=(k11.grown hg7).go hg8 ((Dj.new hO1.lt' hb1).symm)
    refine zd (za (zc (zb (yp (h:=(yp (h:=?_)))))))
    obtain ⟨h8,H⟩:=H
    refine zi rfl (zE qD hO2.rd rfl rfl (c8.trans List.length_set.symm) rfl h8.1 h8.2) (zi rfl (zK qD hO2.rd (iltN h8 (c8.trans List.length_set.symm)) rfl rfl rfl) (zi rfl (zN (0,[],[]) qD hO2.rd rfl rfl (iltN h8 (c8.trans List.length_set.symm)) rfl) (yp (h:=(zd (za (zk rfl (fun b4=>?_) (fun b4=>?_))))))))
    ·replace H:=H.1 (of_decide_eq_true b4)
     refine zc (zb (yp (h:=(yp (h:=(zr rfl rfl (kT (e2.grown gr12) rfl (c9.grown gr12) (b6.g0 gr12) (a5.grown gr12) rfl (a3.grown gr12) (a7.grown gr12) rfl (a6.grown gr12) (hg.g0 gr12) H) ?_))))))
     rintro _ w13 ⟨hg9,e6,e5,e8,f2,e1,e3,e4,c5,t581,rfl,ht580_Args,ht580_Inputs,dj1,H⟩
     have hb2:=ht580_Args.ge'
     have k20:=ht580_Args.base (fun g hg=>Nat.le_trans (qF gr12) (hb2 g hg))
     have hb3:=ht580_Inputs.ge'
     have k21:=ht580_Inputs.base (fun g hg=>Nat.le_trans (qF gr12) (hb3 g hg))
     have gr13:=qE gr12 hg9
     have k22:=k18.g0 hg9
     have k23:=hO2.grown hg9
     have k24:=k19.grown hg9
     refine yp (h:=(yp (h:=(yp (h:=(WL.alloc rfl zero64 (fun g3 w14 hB5 hg10 hl4=>zH (vs:=[.int .i64 e6,.slice e8 e5.length f2,.slice e3 e1.length e4,vs c5]) qD rfl rfl rfl (qG rfl (qG rfl (qG rfl (qG rfl qR)))) hB5 rfl rfl (fun w15 hB6 hg11=>?_))))))))
     have k31:=(k23.grown hg10).go hg11 (Dj.new k23.lt' (Ge.box hl4))
     have k33:=(k20.grown hg10).go hg11 (Dj.new k20.lt' (Ge.box hl4))
     have k34:=(k21.grown hg10).go hg11 (Dj.new k21.lt' (Ge.box hl4))
     refine yp (h:=(zd (za (zO (fun k => !(Nat.beq k 8)) (LD [2,7] (fun w'=>Bl w' g3 64 [.int .i64 e6,.slice e8 e5.length f2,.slice e3 e1.length e4,vs c5]/\RdK 34 enc47 w' (some ⟨g2,0,none⟩) t32.toNat (out.set ((t35.getD t37.toNat 0).toNat) (a8,c7,c6)))) mixed (by kernel_rfl) (fun k w' h _=>⟨(jU h hB6),(RdK.eqv h k31.rd)⟩) (zu rfl rfl (fun w' hw'=>ze qD rfl) (zu rfl rfl (fun w' hw'=>ze qD rfl) (zu rfl rfl (fun w' hw'=>zt qD (hw' rfl).1 rfl rfl rfl) (zu rfl rfl (fun w' hw'=>ze qD rfl) (zu rfl rfl (fun w' hw'=>ze qD rfl) ?_)))))))))
     obtain ⟨h9,H⟩:=H
     refine zu rfl rfl (fun w' hw'=>zE qD k31.rd rfl rfl (c8.trans List.length_set.symm) rfl h9.1 h9.2) (zu rfl rfl (fun w' hw'=>zK qD k31.rd (iltN h9 (c8.trans List.length_set.symm)) rfl rfl rfl) (zu rfl rfl (fun w' hw'=>zN (0,[],[]) qD (hw' rfl).2 rfl rfl (iltN h9 (c8.trans List.length_set.symm)) rfl) ?_))
     obtain ⟨h10,H⟩:=H
     refine qn rfl (Ef0.mapPut (keyF_s Tryz.underlying9) Tryz.underlying92 ((k22.g0 hg10).go hg11 (Dj.new k22.lt' (Ge.box hl4))) h10.2 rfl rfl h10.1 rfl) (fun w' h=>DD.keep (⟨(Bl.go hB6 (qQ h.2 (Eqv.refl _)) (Dj.new k22.lt' (Ge.box hl4)).symm),(RdK.go k31.rd (qQ h.2 (Eqv.refl _)) (Dn.of (Dj.new k1.lt' (Ge.box hl3)).symm))⟩)) ?_
     rintro w16 ⟨hB7,hg12⟩
     have k37:=hB6.go hg12 ((Dj.new k22.lt' (Ge.box hl4)).symm)
     exact zX (zg (WX.weaken sb (hQ _ _ ⟨mput texts2 c5 (((out.set ((t35.getD t37.toNat 0).toNat) (a8,c7,c6)).getD ((t35.getD t37.toNat 0).toNat) (0,[],[])).2.1),out.set ((t35.getD t37.toNat 0).toNat) (a8,c7,c6),rfl,H,(c8.trans List.length_set.symm),(qH (qH (qE gr13 hg10) hg11 (Ge.le (Ge.box hl4) (qF gr13))) hg12 (Ge.le (Ge.box (Nat.le_refl _)) (Nat.le_refl _))),hB7,(k31.go hg12 ((Dj.new k1.lt' (Ge.box hl3)).symm)),(((k24.grown hg10).go hg11 (Dj.new k24.lt' (Ge.box hl4))).go hg12 ((Dj.new k5.lt' hb1).symm))⟩)))
    ·replace H:=H.2 (of_decide_eq_false b4)
     exact zm (zg (WX.weaken sb (hQ _ _ ⟨texts2,out.set ((t35.getD t37.toNat 0).toNat) (a8,c7,c6),rfl,H,(c8.trans List.length_set.symm),gr12,k18,hO2,k19⟩)))
  ·replace H:=H.2 (of_decide_eq_false b3)
   exact zz (zf (zf (zj (za (zc (zb (yp (h:=(yp (h:=(zd (za (zq (zx rfl rfl ⟨gr9,out,(some ⟨g2,0,none⟩),t32.toNat,(by rw [c8]),k10,H⟩))))))))))))))
set_option maxHeartbeats 8000000 in
theorem W_plan_Steps {w:World} {g_g:Nat} {g_l:List (Int × List (List UInt8) × List (List UInt8) × List UInt8)} {e7:Option Addr} {e9:Nat} {d9:List (Int × Hdr × Hdr × List UInt8)} {b9:Nat} {a4:List (List UInt8 × Int)} {a1:List (List Int)} {b7:Option Addr} {b8:Nat} {a9:List Hdr} {a2:List (List Int)} {c2:Option Addr} {c3:Nat} {c0:List Hdr} {f3:Nat} {c1:Nat} {c4:Nat} {K:Int->Prop} (e2:RdK 4 qP w e7 e9 d9) (f8:f3=g_l.length) (c9:RelD de64 w d9 g_l) (b6:MapB vs okS vi w b9 a4) (a5:Rd vh w b7 b8 a9) (d3:c1=a1.length) (a3:RelD de24 w a9 a1) (a7:Rd vh w c2 c3 c0) (d5:c4=a2.length) (a6:RelD de24 w c0 a2) (hg:Bl w g_g 71 [.slice e7 f3 e9,.map (some b9),.slice b7 c1 b8,.slice c2 c4 c3]) (H:M_plan_Steps g_l a4 a1 a2 K):Fn Tryz.prog 22 ⟨[.pointer (some ⟨g_g,0,none⟩)]⟩ w (fun v w'=>w=w'/\∃ (r:Int),v=.int .i64 r/\K r):=by
 subst f8
 subst d3
 subst d5
 unfold M_plan_Steps at H
 refine Fn.enter (by kernel_rfl) Tryz.func22 rfl Tryz.ntmps22 rfl ?_
 replace H:=H (by rw [<-c9.1]; exact Nat.le_trans e2.cap e2.max)
 replace H:=H (by rw [<-a3.1]; exact Nat.le_trans a5.cap a5.max)
 replace H:=H (by rw [<-a6.1]; exact Nat.le_trans a7.cap a7.max)
 refine zc (zb (yp (h:=(zd (za (zc (zb (yp (h:=(zr rfl rfl (W_pgraph_Graph_Len e2 rfl c9 b6 a5 rfl a3 a7 rfl a6 hg H) ?_))))))))))
 rintro _ _ ⟨rfl,t4,rfl,H⟩
 obtain ⟨h1,H⟩:=H
 refine zi rfl (qg rfl rfl h1) ?_
 obtain ⟨h2,H⟩:=H
 exact zi rfl (Yld.add rfl rfl h2) (yp (h:=(zd (za (zq (zx rfl rfl ⟨rfl,((4:Int)*t4)+(1:Int),rfl,H⟩))))))
end
 
section
open Go Go.RowKit
theorem fair_nil:fairB []=false:=by decide
theorem valid_head {p:List UInt8} (h:jr p=true):p≠[]/\p.getD 0 0≠47:=by
 unfold jr at h
 rw [Bool.and_eq_true,List.all_eq_true] at h
 have hn:[]∉cuts p:=fun hm=>by have:=h.2 [] hm; rw [fair_nil] at this; cases this
 cases p with
 | nil=>exact absurd (by simp [cuts]) hn
 | cons c s =>
  refine ⟨by simp,fun e=>hn ?_⟩
  have e':c=47:=e
  rw [cuts,if_pos e']
  simp
end
 
section
open Go Go.RowKit
theorem fair_bytes {x:List UInt8} (h:fairB x=true) {c:UInt8} (hc:c∈x):c≠42/\c≠47:=by
 unfold fairB at h
 rw [Bool.and_eq_true,List.all_eq_true] at h
 have hl:=h.1 c hc
 exact ⟨fun e=>by rw [e] at hl; exact absurd hl (by decide),fun e=>by rw [e] at hl; exact absurd hl (by decide)⟩
theorem cuts_append (a b:List UInt8):cuts (a++47 :: b)=cuts a++cuts b:=by
 induction a with
 | nil=>simp [cuts]
 | cons c a ih =>
  by_cases hc:c=47
  ·simp [cuts,hc,ih]
  ·have hne:=cuts_ne a
   rw [List.cons_append,cuts,cuts,if_neg hc,if_neg hc,ih]
   cases hca:cuts a with
   | nil=>exact absurd hca hne
   | cons h t=>simp
theorem cuts_none {s:List UInt8} (h:∀ c∈s,c≠47):cuts s=[s]:=by
 induction s with
 | nil=>rfl
 | cons c s ih=>rw [cuts,if_neg (h c (by simp)),ih (fun d hd=>h d (by simp [hd]))]
theorem valid_of {s:List UInt8} (hs:s.length<=200) (h:∀ x∈cuts s,fairB x=true):jr s=true:=by
 unfold jr
 rw [decide_eq_true hs,Bool.true_and,List.all_eq_true]
 exact h
theorem valid_parts {s:List UInt8} (h:jr s=true):∀ x∈cuts s,fairB x=true:=by
 unfold jr at h
 rw [Bool.and_eq_true,List.all_eq_true] at h
 exact h.2
end
 
section
open Go Go.RowKit
def Fairs (l:List (List UInt8)):Prop:=∀ x∈l,fairB x=true
theorem fair_dots {x:List UInt8} (h:fairB x=true):x≠[]/\x≠[46]/\x≠[46,46] :=
 ⟨fun e=>by rw [e] at h; exact absurd h (by decide),fun e=>by rw [e] at h; exact absurd h (by decide),fun e=>by rw [e] at h; exact absurd h (by decide)⟩
theorem cl_fair:∀ (xs l:List (List UInt8)),Fairs xs->cl l xs=some (l++xs)
 | [],l,_=>by simp [cl]
 | x :: xs,l,h=>by
  have hx:=h x (by simp)
  obtain ⟨h1,h2,h3⟩:=fair_dots hx
  rw [cl,if_neg (by simp [h1,h2]),if_neg (by simp [h3]),if_pos hx,cl_fair xs _ (fun y hy=>h y (by simp [hy]))]
  simp
theorem cl_out:∀ (xs l:List (List UInt8)) {l':List (List UInt8)},Fairs l->cl l xs=some l'->Fairs l'
 | [],l,l',h,e=>by simp only [cl,Option.some.injEq] at e; rw [<-e]; exact h
 | x :: xs,l,l',h,e=>by
  rw [cl] at e
  split at e
  ·exact cl_out xs l h e
  ·split at e
   ·exact cl_out xs _ (fun y hy=>h y (List.mem_of_mem_take hy)) e
   ·split at e
    ·rename_i hx
     refine cl_out xs _ (fun y hy=>?_) e
     rcases List.mem_append.1 hy with h1 | h1
     ·exact h y h1
     ·rw [List.mem_singleton.1 h1]; exact hx
    ·cases e
theorem fairs_free {l:List (List UInt8)} (h:Fairs l) {x:List UInt8} (hx:x∈l):∀ c∈x,c≠47:=fun _ hc=>(fair_bytes (h x hx) hc).2
theorem cuts_glue:∀ (l:List (List UInt8)),l≠[]->Fairs l->cuts (glue l)=l
 | [],h,_=>absurd rfl h
 | [x],_,h=>by
  have e:glue [x]=x:=by simp [glue]
  rw [e]
  exact cuts_none (fairs_free h (by simp))
 | x :: y :: r,_,h=>by
  rw [glue,cuts_append,cuts_none (fairs_free h (by simp)),cuts_glue (y :: r) (by simp) (fun z hz=>h z (List.mem_cons_of_mem _ hz))]
  rfl
theorem glue_cuts (s:List UInt8):glue (cuts s)=s:=by
 induction s with
 | nil=>rfl
 | cons c s ih =>
  have hne:=cuts_ne s
  rw [cuts]
  cases hs:cuts s with
  | nil=>exact absurd hs hne
  | cons h t =>
   rw [hs] at ih
   split
   ·rename_i hc
    rw [glue,ih,hc]
    rfl
   ·cases t with
    | nil=>rw [show c :: s=c :: glue [h] by rw [ih]]; rfl
    | cons y t=>rw [<-ih]; rfl
def Cln (o:List UInt8):Prop:=o.length<=200/\(o=[]∨(o≠[]/\Fairs (cuts o)))
theorem cln_of {p o:List UInt8} (h:cleanP p=some o):Cln o:=by
 unfold cleanP at h
 split at h
 ·cases h
 ·rename_i l hl
  split at h
  ·rename_i h200
   have hf:=cl_out _ [] (fun y hy=>by cases hy) hl
   obtain rfl:glue l=o:=Option.some.inj h
   refine ⟨h200,?_⟩
   by_cases hn:l=[]
   ·exact .inl (by rw [hn]; rfl)
   ·have hc:=cuts_glue l hn hf
    refine .inr ⟨fun e=>?_,by rw [hc]; exact hf⟩
    rw [e] at hc
    have:[]∈l:=by rw [<-hc]; simp [cuts]
    exact (fair_dots (hf _ this)).1 rfl
  ·cases h
theorem clean_fairs {p:List UInt8} (hp:p.length<=200) (h:Fairs (cuts p)):cleanP p=some p:=by
 unfold cleanP
 rw [cl_fair _ _ h,List.nil_append]
 simp only [glue_cuts]
 rw [if_pos hp]
end
 
section
open Go Go.RowKit
attribute [local irreducible] WL WC WX WQ WK WJ Yld Eff Ef0 Fn
def jN (c:Int) (K:Bool->Prop):Prop :=
 K (((((((((((((((decide ((97:Int)<=c)) && (decide (c<=(122:Int)))) || ((decide ((65:Int)<=c)) && (decide (c<=(90:Int))))) || ((decide ((48:Int)<=c)) && (decide (c<=(57:Int))))) || (decide (c=(33:Int)))) || (decide (c=(35:Int)))) || (decide (c=(37:Int)))) || (decide (c=(43:Int)))) || (decide (c=(44:Int)))) || (decide (c=(45:Int)))) || (decide (c=(46:Int)))) || (decide (c=(61:Int)))) || (decide (c=(64:Int)))) || (decide (c=(95:Int)))) || (decide (c=(126:Int))))
def j0 (p:List UInt8) (K:(List (List UInt8))->Prop):Prop :=
 Lp3 (fun (out:List (List UInt8)) (from_:Int) (i:Int) kont1=>((i<=(p.length:Int)->∃ J1:(List (List UInt8))->Int->Prop,(((decide (i=(p.length:Int)))=false->(0<=i/\i<p.length)) /\
 ((((decide (i=(p.length:Int))) || (decide (((p.getD i.toNat 0).toNat:Int)=(47:Int))))=true->(0<=from_/\from_<=i/\i<=p.length) /\
 ((out.length+(([(p.drop from_.toNat).take (i.toNat - from_.toNat)]:List (List UInt8))).length)*16<=140737488355328) /\
 (In .i64 (i+(1:Int))) /\
 J1 (out++([(p.drop from_.toNat).take (i.toNat - from_.toNat)]:List (List UInt8))) (i+(1:Int))) /\
 (((decide (i=(p.length:Int))) || (decide (((p.getD i.toNat 0).toNat:Int)=(47:Int))))=false->J1 out from_))) /\
 (∀ out2:List (List UInt8),∀ from_2:Int,J1 out2 from_2->(In .i64 (i+(1:Int))) /\
 kont1 out2 from_2 (i+(1:Int)))) /\
 (¬ (i<=(p.length:Int))->K out))) [] (0:Int) (0:Int)
def kW (l:List (List UInt8)) (K:(List UInt8)->Prop):Prop :=
 (l.length<=maxLen ->
 Lp2 (fun (s:List UInt8) (i:Int) kont1=>((i<(l.length:Int)->∃ J1:(List UInt8)->Prop,((((0:Int)<i->(s.length+([47]:List UInt8).length<=9223372036854775807) /\
 J1 (s++([47]:List UInt8))) /\
 (¬ ((0:Int)<i)->J1 s))) /\
 (∀ s2:List UInt8,J1 s2->(0<=i/\i<(l.length:Nat)) /\
 (s2.length+(l.getD i.toNat []).length<=9223372036854775807) /\
 (In .i64 (i+(1:Int))) /\
 kont1 (s2++(l.getD i.toNat [])) (i+(1:Int)))) /\
 (¬ (i<(l.length:Int))->K s))) ([]:List UInt8) (0:Int))
def ko (s:List UInt8) (star:Bool) (K:Bool->Prop):Prop :=
 Lp1 (fun (i:Int) kont1=>((i<(s.length:Int)->(0<=i/\i<s.length) /\
 jN ((s.getD i.toNat 0).toNat:Int) (fun (t15:Bool) =>
 ((!t15)=true->star=true->(0<=i/\i<s.length)) /\
 ((((!t15) && (!(star && (decide (((s.getD i.toNat 0).toNat:Int)=(42:Int))))))=true->K false) /\
 (((!t15) && (!(star && (decide (((s.getD i.toNat 0).toNat:Int)=(42:Int))))))=false->(In .i64 (i+(1:Int))) /\
 kont1 (i+(1:Int)))))) /\
 (¬ (i<(s.length:Int))->K (((!decide (s=([]:List UInt8))) && (!decide (s=([46]:List UInt8)))) && (!decide (s=([46,46]:List UInt8))))))) (0:Int)
def jZ (p:List UInt8) (K:(List UInt8)->Bool->Prop):Prop :=
 j0 p (fun (parts:List (List UInt8)) =>
 Lp2 (fun (l:List (List UInt8)) (i:Int) kont1=>((i<(parts.length:Int)->∃ J1:(List (List UInt8))->Prop,((0<=i/\i<(parts.length:Nat)) /\
 ((decide ((parts.getD i.toNat [])=([]:List UInt8)))=false->(0<=i/\i<(parts.length:Nat))) /\
 ((((decide ((parts.getD i.toNat [])=([]:List UInt8))) || (decide ((parts.getD i.toNat [])=([46]:List UInt8))))=true->J1 l) /\
 (((decide ((parts.getD i.toNat [])=([]:List UInt8))) || (decide ((parts.getD i.toNat [])=([46]:List UInt8))))=false->(0<=i/\i<(parts.length:Nat)) /\
 (((parts.getD i.toNat [])=([46,46]:List UInt8)->(((l.length:Int)=(0:Int)->K ([]:List UInt8) false) /\
 (¬ ((l.length:Int)=(0:Int))->(In .i64 ((l.length:Int) - (1:Int))) /\
 (0<=(l.length:Int) - (1:Int)/\(l.length:Int) - (1:Int)<=(l.length:Nat)) /\
 J1 (l.take ((l.length:Int) - (1:Int)).toNat)))) /\
 (¬ ((parts.getD i.toNat [])=([46,46]:List UInt8))->(0<=i/\i<(parts.length:Nat)) /\
 ko (parts.getD i.toNat []) false (fun (t55:Bool) =>
 (((!t55)=true->K ([]:List UInt8) false) /\
 ((!t55)=false->(0<=i/\i<(parts.length:Nat)) /\
 ((l.length+(([parts.getD i.toNat []]:List (List UInt8))).length)*16<=140737488355328) /\
 J1 (l++([parts.getD i.toNat []]:List (List UInt8))))))))))) /\
 (∀ l2:List (List UInt8),J1 l2->(In .i64 (i+(1:Int))) /\
 kont1 l2 (i+(1:Int)))) /\
 (¬ (i<(parts.length:Int))->kW l (fun (s:List UInt8) =>
 (((200:Int)<(s.length:Int)->K ([]:List UInt8) false) /\
 (¬ ((200:Int)<(s.length:Int))->K s true)))))) [] (0:Int))
def j5 (p:List UInt8) (K:Bool->Prop):Prop :=
 jZ p (fun (t70:List UInt8) (t71:Bool) =>
 K ((t71 && (decide (t70=p))) && (!decide (p=([]:List UInt8)))))
set_option maxHeartbeats 8000000 in
theorem W_smithyref1_letter {w:World} {c:Int} {K:Bool->Prop} (H:jN c K):Fn Tryz.prog 127 ⟨[.int .u8 c]⟩ w (fun v w'=>w=w'/\∃ (r:Bool),v=.bool r/\K r):=by
 unfold jN at H
 refine Fn.enter (by kernel_rfl) Tryz.func127 rfl Tryz.ntmps127 rfl ?_
 refine zc (zb (yp (h:=(zd (za (zc (zb (yp (h:=(yp (h:=(yp (h:=(zD 3 (fun L' w'=>∃ q1:Bool,L'=[(8,.bool q1),(0,.int .u8 c)]/\((decide ((97:Int)<=c)) && (decide (c<=(122:Int))))=q1/\w=w') ?_ (fun hQ=>?_)))))))))))))))
 ·rintro _ _ ⟨q1,rfl,rfl,rfl⟩
  refine yp (h:=(zD 7 (fun L' w'=>∃ q2:Bool,L'=[(16,.bool q2),(0,.int .u8 c)]/\(((decide ((97:Int)<=c)) && (decide (c<=(122:Int)))) || ((decide ((65:Int)<=c)) && (decide (c<=(90:Int)))))=q2/\w=w') ?_ (fun hQ=>?_)))
  ·rintro _ _ ⟨q2,rfl,rfl,rfl⟩
   refine yp (h:=(zD 7 (fun L' w'=>∃ q3:Bool,L'=[(24,.bool q3),(0,.int .u8 c)]/\((((decide ((97:Int)<=c)) && (decide (c<=(122:Int)))) || ((decide ((65:Int)<=c)) && (decide (c<=(90:Int))))) || ((decide ((48:Int)<=c)) && (decide (c<=(57:Int)))))=q3/\w=w') ?_ (fun hQ=>?_)))
   ·rintro _ _ ⟨q3,rfl,rfl,rfl⟩
    refine yp (h:=(zD 3 (fun L' w'=>∃ q4:Bool,L'=[(28,.bool q4),(0,.int .u8 c)]/\(((((decide ((97:Int)<=c)) && (decide (c<=(122:Int)))) || ((decide ((65:Int)<=c)) && (decide (c<=(90:Int))))) || ((decide ((48:Int)<=c)) && (decide (c<=(57:Int))))) || (decide (c=(33:Int))))=q4/\w=w') ?_ (fun hQ=>?_)))
    ·rintro _ _ ⟨q4,rfl,rfl,rfl⟩
     refine yp (h:=(zD 3 (fun L' w'=>∃ q5:Bool,L'=[(32,.bool q5),(0,.int .u8 c)]/\((((((decide ((97:Int)<=c)) && (decide (c<=(122:Int)))) || ((decide ((65:Int)<=c)) && (decide (c<=(90:Int))))) || ((decide ((48:Int)<=c)) && (decide (c<=(57:Int))))) || (decide (c=(33:Int)))) || (decide (c=(35:Int))))=q5/\w=w') ?_ (fun hQ=>?_)))
     ·rintro _ _ ⟨q5,rfl,rfl,rfl⟩
      refine yp (h:=(zD 3 (fun L' w'=>∃ q6:Bool,L'=[(36,.bool q6),(0,.int .u8 c)]/\(((((((decide ((97:Int)<=c)) && (decide (c<=(122:Int)))) || ((decide ((65:Int)<=c)) && (decide (c<=(90:Int))))) || ((decide ((48:Int)<=c)) && (decide (c<=(57:Int))))) || (decide (c=(33:Int)))) || (decide (c=(35:Int)))) || (decide (c=(37:Int))))=q6/\w=w') ?_ (fun hQ=>?_)))
      ·rintro _ _ ⟨q6,rfl,rfl,rfl⟩
       refine yp (h:=(zD 3 (fun L' w'=>∃ q7:Bool,L'=[(40,.bool q7),(0,.int .u8 c)]/\((((((((decide ((97:Int)<=c)) && (decide (c<=(122:Int)))) || ((decide ((65:Int)<=c)) && (decide (c<=(90:Int))))) || ((decide ((48:Int)<=c)) && (decide (c<=(57:Int))))) || (decide (c=(33:Int)))) || (decide (c=(35:Int)))) || (decide (c=(37:Int)))) || (decide (c=(43:Int))))=q7/\w=w') ?_ (fun hQ=>?_)))
       ·rintro _ _ ⟨q7,rfl,rfl,rfl⟩
        refine yp (h:=(zD 3 (fun L' w'=>∃ q8:Bool,L'=[(44,.bool q8),(0,.int .u8 c)]/\(((((((((decide ((97:Int)<=c)) && (decide (c<=(122:Int)))) || ((decide ((65:Int)<=c)) && (decide (c<=(90:Int))))) || ((decide ((48:Int)<=c)) && (decide (c<=(57:Int))))) || (decide (c=(33:Int)))) || (decide (c=(35:Int)))) || (decide (c=(37:Int)))) || (decide (c=(43:Int)))) || (decide (c=(44:Int))))=q8/\w=w') ?_ (fun hQ=>?_)))
        ·rintro _ _ ⟨q8,rfl,rfl,rfl⟩
         refine yp (h:=(zD 3 (fun L' w'=>∃ q9:Bool,L'=[(48,.bool q9),(0,.int .u8 c)]/\((((((((((decide ((97:Int)<=c)) && (decide (c<=(122:Int)))) || ((decide ((65:Int)<=c)) && (decide (c<=(90:Int))))) || ((decide ((48:Int)<=c)) && (decide (c<=(57:Int))))) || (decide (c=(33:Int)))) || (decide (c=(35:Int)))) || (decide (c=(37:Int)))) || (decide (c=(43:Int)))) || (decide (c=(44:Int)))) || (decide (c=(45:Int))))=q9/\w=w') ?_ (fun hQ=>?_)))
         ·rintro _ _ ⟨q9,rfl,rfl,rfl⟩
          refine yp (h:=(zD 3 (fun L' w'=>∃ q10:Bool,L'=[(52,.bool q10),(0,.int .u8 c)]/\(((((((((((decide ((97:Int)<=c)) && (decide (c<=(122:Int)))) || ((decide ((65:Int)<=c)) && (decide (c<=(90:Int))))) || ((decide ((48:Int)<=c)) && (decide (c<=(57:Int))))) || (decide (c=(33:Int)))) || (decide (c=(35:Int)))) || (decide (c=(37:Int)))) || (decide (c=(43:Int)))) || (decide (c=(44:Int)))) || (decide (c=(45:Int)))) || (decide (c=(46:Int))))=q10/\w=w') ?_ (fun hQ=>?_)))
          ·rintro _ _ ⟨q10,rfl,rfl,rfl⟩
           refine yp (h:=(zD 3 (fun L' w'=>∃ q11:Bool,L'=[(56,.bool q11),(0,.int .u8 c)]/\((((((((((((decide ((97:Int)<=c)) && (decide (c<=(122:Int)))) || ((decide ((65:Int)<=c)) && (decide (c<=(90:Int))))) || ((decide ((48:Int)<=c)) && (decide (c<=(57:Int))))) || (decide (c=(33:Int)))) || (decide (c=(35:Int)))) || (decide (c=(37:Int)))) || (decide (c=(43:Int)))) || (decide (c=(44:Int)))) || (decide (c=(45:Int)))) || (decide (c=(46:Int)))) || (decide (c=(61:Int))))=q11/\w=w') ?_ (fun hQ=>?_)))
           ·rintro _ _ ⟨q11,rfl,rfl,rfl⟩
            refine yp (h:=(zD 3 (fun L' w'=>∃ q12:Bool,L'=[(60,.bool q12),(0,.int .u8 c)]/\(((((((((((((decide ((97:Int)<=c)) && (decide (c<=(122:Int)))) || ((decide ((65:Int)<=c)) && (decide (c<=(90:Int))))) || ((decide ((48:Int)<=c)) && (decide (c<=(57:Int))))) || (decide (c=(33:Int)))) || (decide (c=(35:Int)))) || (decide (c=(37:Int)))) || (decide (c=(43:Int)))) || (decide (c=(44:Int)))) || (decide (c=(45:Int)))) || (decide (c=(46:Int)))) || (decide (c=(61:Int)))) || (decide (c=(64:Int))))=q12/\w=w') ?_ (fun hQ=>?_)))
            ·rintro _ _ ⟨q12,rfl,rfl,rfl⟩
             refine yp (h:=(zD 3 (fun L' w'=>∃ q13:Bool,L'=[(64,.bool q13),(0,.int .u8 c)]/\((((((((((((((decide ((97:Int)<=c)) && (decide (c<=(122:Int)))) || ((decide ((65:Int)<=c)) && (decide (c<=(90:Int))))) || ((decide ((48:Int)<=c)) && (decide (c<=(57:Int))))) || (decide (c=(33:Int)))) || (decide (c=(35:Int)))) || (decide (c=(37:Int)))) || (decide (c=(43:Int)))) || (decide (c=(44:Int)))) || (decide (c=(45:Int)))) || (decide (c=(46:Int)))) || (decide (c=(61:Int)))) || (decide (c=(64:Int)))) || (decide (c=(95:Int))))=q13/\w=w') ?_ (fun hQ=>?_)))
             ·rintro _ _ ⟨q13,rfl,rfl,rfl⟩
              refine yp (h:=(zD 3 (fun L' w'=>∃ q14:Bool,L'=[(68,.bool q14)]/\(((((((((((((((decide ((97:Int)<=c)) && (decide (c<=(122:Int)))) || ((decide ((65:Int)<=c)) && (decide (c<=(90:Int))))) || ((decide ((48:Int)<=c)) && (decide (c<=(57:Int))))) || (decide (c=(33:Int)))) || (decide (c=(35:Int)))) || (decide (c=(37:Int)))) || (decide (c=(43:Int)))) || (decide (c=(44:Int)))) || (decide (c=(45:Int)))) || (decide (c=(46:Int)))) || (decide (c=(61:Int)))) || (decide (c=(64:Int)))) || (decide (c=(95:Int)))) || (decide (c=(126:Int))))=q14/\w=w') ?_ (fun hQ=>?_)))
              ·rintro _ _ ⟨q14,rfl,rfl,rfl⟩
               exact yp (h:=(zd (za (zq (zx rfl rfl ⟨rfl,((((((((((((((decide ((97:Int)<=c)) && (decide (c<=(122:Int)))) || ((decide ((65:Int)<=c)) && (decide (c<=(90:Int))))) || ((decide ((48:Int)<=c)) && (decide (c<=(57:Int))))) || (decide (c=(33:Int)))) || (decide (c=(35:Int)))) || (decide (c=(37:Int)))) || (decide (c=(43:Int)))) || (decide (c=(44:Int)))) || (decide (c=(45:Int)))) || (decide (c=(46:Int)))) || (decide (c=(61:Int)))) || (decide (c=(64:Int)))) || (decide (c=(95:Int)))) || (decide (c=(126:Int))),rfl,H⟩)))))
              ·clear H
               rcases Bool.eq_false_or_eq_true ((((((((((((((decide ((97:Int)<=c)) && (decide (c<=(122:Int)))) || ((decide ((65:Int)<=c)) && (decide (c<=(90:Int))))) || ((decide ((48:Int)<=c)) && (decide (c<=(57:Int))))) || (decide (c=(33:Int)))) || (decide (c=(35:Int)))) || (decide (c=(37:Int)))) || (decide (c=(43:Int)))) || (decide (c=(44:Int)))) || (decide (c=(45:Int)))) || (decide (c=(46:Int)))) || (decide (c=(61:Int)))) || (decide (c=(64:Int)))) || (decide (c=(95:Int)))) with b1 | b1
               ·exact gn b1 (h:=(gn b1 (h:=(zi rfl (zy (okb b1) rfl) (wk (hQ _ _ ⟨true,rfl,by rw [b1] <;> rfl,rfl⟩))))))
               ·exact gp b1 (h:=(gp b1 (h:=(zi rfl (zv (okb b1) rfl) (wk (hQ _ _ ⟨decide (c=(126:Int)),rfl,by rw [b1] <;> rfl,rfl⟩))))))
             ·clear H
              rcases Bool.eq_false_or_eq_true (((((((((((((decide ((97:Int)<=c)) && (decide (c<=(122:Int)))) || ((decide ((65:Int)<=c)) && (decide (c<=(90:Int))))) || ((decide ((48:Int)<=c)) && (decide (c<=(57:Int))))) || (decide (c=(33:Int)))) || (decide (c=(35:Int)))) || (decide (c=(37:Int)))) || (decide (c=(43:Int)))) || (decide (c=(44:Int)))) || (decide (c=(45:Int)))) || (decide (c=(46:Int)))) || (decide (c=(61:Int)))) || (decide (c=(64:Int)))) with b2 | b2
              ·exact gn b2 (h:=(gn b2 (h:=(zi rfl (zy (okb b2) rfl) (wk (hQ _ _ ⟨true,rfl,by rw [b2] <;> rfl,rfl⟩))))))
              ·exact gp b2 (h:=(gp b2 (h:=(zi rfl (zv (okb b2) rfl) (wk (hQ _ _ ⟨decide (c=(95:Int)),rfl,by rw [b2] <;> rfl,rfl⟩))))))
            ·clear H
             rcases Bool.eq_false_or_eq_true ((((((((((((decide ((97:Int)<=c)) && (decide (c<=(122:Int)))) || ((decide ((65:Int)<=c)) && (decide (c<=(90:Int))))) || ((decide ((48:Int)<=c)) && (decide (c<=(57:Int))))) || (decide (c=(33:Int)))) || (decide (c=(35:Int)))) || (decide (c=(37:Int)))) || (decide (c=(43:Int)))) || (decide (c=(44:Int)))) || (decide (c=(45:Int)))) || (decide (c=(46:Int)))) || (decide (c=(61:Int)))) with b3 | b3
             ·exact gn b3 (h:=(gn b3 (h:=(zi rfl (zy (okb b3) rfl) (wk (hQ _ _ ⟨true,rfl,by rw [b3] <;> rfl,rfl⟩))))))
             ·exact gp b3 (h:=(gp b3 (h:=(zi rfl (zv (okb b3) rfl) (wk (hQ _ _ ⟨decide (c=(64:Int)),rfl,by rw [b3] <;> rfl,rfl⟩))))))
           ·clear H
            rcases Bool.eq_false_or_eq_true (((((((((((decide ((97:Int)<=c)) && (decide (c<=(122:Int)))) || ((decide ((65:Int)<=c)) && (decide (c<=(90:Int))))) || ((decide ((48:Int)<=c)) && (decide (c<=(57:Int))))) || (decide (c=(33:Int)))) || (decide (c=(35:Int)))) || (decide (c=(37:Int)))) || (decide (c=(43:Int)))) || (decide (c=(44:Int)))) || (decide (c=(45:Int)))) || (decide (c=(46:Int)))) with b4 | b4
            ·exact gn b4 (h:=(gn b4 (h:=(zi rfl (zy (okb b4) rfl) (wk (hQ _ _ ⟨true,rfl,by rw [b4] <;> rfl,rfl⟩))))))
            ·exact gp b4 (h:=(gp b4 (h:=(zi rfl (zv (okb b4) rfl) (wk (hQ _ _ ⟨decide (c=(61:Int)),rfl,by rw [b4] <;> rfl,rfl⟩))))))
          ·clear H
           rcases Bool.eq_false_or_eq_true ((((((((((decide ((97:Int)<=c)) && (decide (c<=(122:Int)))) || ((decide ((65:Int)<=c)) && (decide (c<=(90:Int))))) || ((decide ((48:Int)<=c)) && (decide (c<=(57:Int))))) || (decide (c=(33:Int)))) || (decide (c=(35:Int)))) || (decide (c=(37:Int)))) || (decide (c=(43:Int)))) || (decide (c=(44:Int)))) || (decide (c=(45:Int)))) with b5 | b5
           ·exact gn b5 (h:=(gn b5 (h:=(zi rfl (zy (okb b5) rfl) (wk (hQ _ _ ⟨true,rfl,by rw [b5] <;> rfl,rfl⟩))))))
           ·exact gp b5 (h:=(gp b5 (h:=(zi rfl (zv (okb b5) rfl) (wk (hQ _ _ ⟨decide (c=(46:Int)),rfl,by rw [b5] <;> rfl,rfl⟩))))))
         ·clear H
          rcases Bool.eq_false_or_eq_true (((((((((decide ((97:Int)<=c)) && (decide (c<=(122:Int)))) || ((decide ((65:Int)<=c)) && (decide (c<=(90:Int))))) || ((decide ((48:Int)<=c)) && (decide (c<=(57:Int))))) || (decide (c=(33:Int)))) || (decide (c=(35:Int)))) || (decide (c=(37:Int)))) || (decide (c=(43:Int)))) || (decide (c=(44:Int)))) with b6 | b6
          ·exact gn b6 (h:=(gn b6 (h:=(zi rfl (zy (okb b6) rfl) (wk (hQ _ _ ⟨true,rfl,by rw [b6] <;> rfl,rfl⟩))))))
          ·exact gp b6 (h:=(gp b6 (h:=(zi rfl (zv (okb b6) rfl) (wk (hQ _ _ ⟨decide (c=(45:Int)),rfl,by rw [b6] <;> rfl,rfl⟩))))))
        ·clear H
         rcases Bool.eq_false_or_eq_true ((((((((decide ((97:Int)<=c)) && (decide (c<=(122:Int)))) || ((decide ((65:Int)<=c)) && (decide (c<=(90:Int))))) || ((decide ((48:Int)<=c)) && (decide (c<=(57:Int))))) || (decide (c=(33:Int)))) || (decide (c=(35:Int)))) || (decide (c=(37:Int)))) || (decide (c=(43:Int)))) with b7 | b7
         ·exact gn b7 (h:=(gn b7 (h:=(zi rfl (zy (okb b7) rfl) (wk (hQ _ _ ⟨true,rfl,by rw [b7] <;> rfl,rfl⟩))))))
         ·exact gp b7 (h:=(gp b7 (h:=(zi rfl (zv (okb b7) rfl) (wk (hQ _ _ ⟨decide (c=(44:Int)),rfl,by rw [b7] <;> rfl,rfl⟩))))))
       ·clear H
        rcases Bool.eq_false_or_eq_true (((((((decide ((97:Int)<=c)) && (decide (c<=(122:Int)))) || ((decide ((65:Int)<=c)) && (decide (c<=(90:Int))))) || ((decide ((48:Int)<=c)) && (decide (c<=(57:Int))))) || (decide (c=(33:Int)))) || (decide (c=(35:Int)))) || (decide (c=(37:Int)))) with b8 | b8
        ·exact gn b8 (h:=(gn b8 (h:=(zi rfl (zy (okb b8) rfl) (wk (hQ _ _ ⟨true,rfl,by rw [b8] <;> rfl,rfl⟩))))))
        ·exact gp b8 (h:=(gp b8 (h:=(zi rfl (zv (okb b8) rfl) (wk (hQ _ _ ⟨decide (c=(43:Int)),rfl,by rw [b8] <;> rfl,rfl⟩))))))
      ·clear H
       rcases Bool.eq_false_or_eq_true ((((((decide ((97:Int)<=c)) && (decide (c<=(122:Int)))) || ((decide ((65:Int)<=c)) && (decide (c<=(90:Int))))) || ((decide ((48:Int)<=c)) && (decide (c<=(57:Int))))) || (decide (c=(33:Int)))) || (decide (c=(35:Int)))) with b9 | b9
       ·exact gn b9 (h:=(gn b9 (h:=(zi rfl (zy (okb b9) rfl) (wk (hQ _ _ ⟨true,rfl,by rw [b9] <;> rfl,rfl⟩))))))
       ·exact gp b9 (h:=(gp b9 (h:=(zi rfl (zv (okb b9) rfl) (wk (hQ _ _ ⟨decide (c=(37:Int)),rfl,by rw [b9] <;> rfl,rfl⟩))))))
     ·clear H
      rcases Bool.eq_false_or_eq_true (((((decide ((97:Int)<=c)) && (decide (c<=(122:Int)))) || ((decide ((65:Int)<=c)) && (decide (c<=(90:Int))))) || ((decide ((48:Int)<=c)) && (decide (c<=(57:Int))))) || (decide (c=(33:Int)))) with b10 | b10
      ·exact gn b10 (h:=(gn b10 (h:=(zi rfl (zy (okb b10) rfl) (wk (hQ _ _ ⟨true,rfl,by rw [b10] <;> rfl,rfl⟩))))))
      ·exact gp b10 (h:=(gp b10 (h:=(zi rfl (zv (okb b10) rfl) (wk (hQ _ _ ⟨decide (c=(35:Int)),rfl,by rw [b10] <;> rfl,rfl⟩))))))
    ·clear H
     rcases Bool.eq_false_or_eq_true ((((decide ((97:Int)<=c)) && (decide (c<=(122:Int)))) || ((decide ((65:Int)<=c)) && (decide (c<=(90:Int))))) || ((decide ((48:Int)<=c)) && (decide (c<=(57:Int))))) with b11 | b11
     ·exact gn b11 (h:=(gn b11 (h:=(zi rfl (zy (okb b11) rfl) (wk (hQ _ _ ⟨true,rfl,by rw [b11] <;> rfl,rfl⟩))))))
     ·exact gp b11 (h:=(gp b11 (h:=(zi rfl (zv (okb b11) rfl) (wk (hQ _ _ ⟨decide (c=(33:Int)),rfl,by rw [b11] <;> rfl,rfl⟩))))))
   ·clear H
    rcases Bool.eq_false_or_eq_true (((decide ((97:Int)<=c)) && (decide (c<=(122:Int)))) || ((decide ((65:Int)<=c)) && (decide (c<=(90:Int))))) with b12 | b12
    ·exact gn b12 (h:=(gn b12 (h:=(gn b12 (h:=(z8 rfl rfl rfl rfl (z8 rfl rfl rfl rfl (gn b12 (h:=(zi rfl (zy (okb b12) rfl) (wk (hQ _ _ ⟨true,rfl,by rw [b12] <;> rfl,rfl⟩))))))))))))
    ·refine gp b12 (h:=(gp b12 (h:=(gp b12 (h:=?_)))))
     rcases Bool.eq_false_or_eq_true (decide ((48:Int)<=c)) with b13 | b13
     ·exact gp b13 (h:=(gp b13 (h:=(zC rfl rfl (okb b12) rfl (zy (okb b13) rfl) (zi rfl (zv (okb b12) rfl) (wk (hQ _ _ ⟨decide (c<=(57:Int)),rfl,by rw [b12,b13] <;> rfl,rfl⟩)))))))
     ·exact gn b13 (h:=(gn b13 (h:=(zC rfl rfl (okb b12) rfl (zv (okb b13) rfl) (zi rfl (zv (okb b12) rfl) (wk (hQ _ _ ⟨false,rfl,by rw [b12,b13] <;> rfl,rfl⟩)))))))
  ·clear H
   rcases Bool.eq_false_or_eq_true ((decide ((97:Int)<=c)) && (decide (c<=(122:Int)))) with b14 | b14
   ·exact gn b14 (h:=(gn b14 (h:=(gn b14 (h:=(z8 rfl rfl rfl rfl (z8 rfl rfl rfl rfl (gn b14 (h:=(zi rfl (zy (okb b14) rfl) (wk (hQ _ _ ⟨true,rfl,by rw [b14] <;> rfl,rfl⟩))))))))))))
   ·refine gp b14 (h:=(gp b14 (h:=(gp b14 (h:=?_)))))
    rcases Bool.eq_false_or_eq_true (decide ((65:Int)<=c)) with b15 | b15
    ·exact gp b15 (h:=(gp b15 (h:=(zC rfl rfl (okb b14) rfl (zy (okb b15) rfl) (zi rfl (zv (okb b14) rfl) (wk (hQ _ _ ⟨decide (c<=(90:Int)),rfl,by rw [b14,b15] <;> rfl,rfl⟩)))))))
    ·exact gn b15 (h:=(gn b15 (h:=(zC rfl rfl (okb b14) rfl (zv (okb b15) rfl) (zi rfl (zv (okb b14) rfl) (wk (hQ _ _ ⟨false,rfl,by rw [b14,b15] <;> rfl,rfl⟩)))))))
 ·clear H
  rcases Bool.eq_false_or_eq_true (decide ((97:Int)<=c)) with b16 | b16
  ·exact gp b16 (h:=(gp b16 (h:=(zi rfl (zy (okb b16) rfl) (wk (hQ _ _ ⟨decide (c<=(122:Int)),rfl,by rw [b16] <;> rfl,rfl⟩))))))
  ·exact gn b16 (h:=(gn b16 (h:=(zi rfl (zv (okb b16) rfl) (wk (hQ _ _ ⟨false,rfl,by rw [b16] <;> rfl,rfl⟩))))))
set_option maxHeartbeats 8000000 in
theorem W_smithyref1_Parts {w:World} {p:List UInt8} {K:(List (List UInt8))->Prop} (H:j0 p K):Fn Tryz.prog 92 ⟨[vs p]⟩ w (fun v w'=>w.grownBy w' none/\∃ (r:List (List UInt8)),∃ (A_r:Option Addr),∃ (c_r:Nat),v=.slice A_r r.length c_r/\Own vs w' w.heap.size 9 A_r c_r r/\K r):=by
 unfold j0 at H
 refine Fn.enter (by kernel_rfl) Tryz.func92 rfl Tryz.ntmps92 rfl ?_
 refine zc (zb (yp (h:=(zd (za (zc (zb (yp (h:=(zd (za (zc (zb (yp (h:=(zd (za (zc (zc (zb (yp (h:=(zd (za (WC.block ?_)))))))))))))))))))))))))
 obtain ⟨I1,mu1,a2,HR1⟩:=H
 refine zA (fun n' L' w'=>∃ (out:List (List UInt8)),∃ (a3:Option Addr),∃ (a4:Nat),∃ (a9:Nat),∃ (from_:Int),∃ (i:Int),n'=mu1 out from_ i/\L'=[(0,vs p),(3,.slice a3 a9 a4),(4,.int .i64 from_),(5,.int .i64 i)]/\I1 out from_ i/\a9=out.length/\w.grownBy w' none/\Own vs w' w.heap.size 9 a3 a4 out) _ _ ⟨[],none,0,0,(0:Int),(0:Int),rfl,rfl,a2,rfl,(qK _ _),(Own.nil vs w w.heap.size 9)⟩ sb ?_
 clear a2
 rintro _ _ w1 ⟨out,a3,a4,a9,from_,i,rfl,rfl,hI1,rfl,gr1,k1⟩
 have H:=HR1 out from_ i hI1
 refine zc (zc (zb (yp (h:=(yp (h:=(yp (h:=(yp (h:=(zd (za (zk rfl (fun b1=>?_) (fun b1=>?_))))))))))))))
 ·replace H:=H.1 (of_decide_eq_true b1)
  refine zm (za (zc ?_))
  obtain ⟨J1,H,hJ1⟩:=H
  refine zL (fun L' w'=>∃ (out2:List (List UInt8)),∃ (a5:Option Addr),∃ (a6:Nat),∃ (a7:Nat),∃ (from_2:Int),L'=[(0,vs p),(3,.slice a5 a7 a6),(4,.int .i64 from_2),(5,.int .i64 i)]/\J1 out2 from_2/\a7=out2.length/\w.grownBy w' none/\Own vs w' w.heap.size 9 a5 a6 out2) ?_ (fun hQ=>?_)
  ·clear H
   rintro _ w2 ⟨out2,a5,a6,a7,from_2,rfl,H,rfl,gr2,k2⟩
   replace H:=hJ1 out2 from_2 H
   refine za (zb (yp (h:=?_)))
   obtain ⟨h1,H⟩:=H
   exact zi rfl (Yld.add rfl rfl h1) (yp (h:=(zd (zw _ ⟨out2,a5,a6,out2.length,from_2,i+(1:Int),rfl,rfl,H.1,rfl,gr2,k2⟩ sb H.2))))
  ·clear hJ1
   refine WC.block (zc (zb (yp (h:=(yp (h:=(yp (h:=(yp (h:=(yp (h:=?_))))))))))))
   obtain ⟨h2,H⟩:=H
   refine zD 5 (fun L' w'=>∃ q1:Bool,L'=[(21,.bool q1),(0,vs p),(3,.slice a3 out.length a4),(4,.int .i64 from_),(5,.int .i64 i)]/\((decide (i=(p.length:Int))) || (decide (((p.getD i.toNat 0).toNat:Int)=(47:Int))))=q1/\w1=w') ?_ (fun hQ=>?_)
   ·rintro _ _ ⟨q1,rfl,rfl,rfl⟩
    refine zd (za (zk rfl (fun b2=>?_) (fun b2=>?_)))
    ·replace H:=H.1 (b2)
     refine zc (zb (yp (h:=(yp (h:=(yp (h:=(yp (h:=?_)))))))))
     obtain ⟨h3,H⟩:=H
     refine zi rfl (qu qD rfl rfl rfl rfl h3.1 h3.2.1 h3.2.2) (zP qD rfl rfl rfl (qG rfl qR) rfl (by omega) (fun g1 w3 hB1 hg1 hl1=>?_))
     have hO1:Own vs w3 w.heap.size 9 (some ⟨g1,0,none⟩) 1 ([(p.drop from_.toNat).take (i.toNat - from_.toNat)]:List (List UInt8)):=Own.ofBl hB1 (Nat.le_trans (qF gr1) hl1) (by simp [maxLen]) rfl
     have gr3:=qE gr1 hg1
     have k3:=k1.grown hg1
     obtain ⟨h4,H⟩:=H
     refine zG qD rfl rfl One.s k3 rfl rfl hO1.rd rfl rfl h4 (qN h4) (qF gr3) (fun c0 c1 w4 hO2 hg2 hk1=>yp (h:=(zd (za (zb (yp (h:=?_)))))))
     obtain ⟨h5,H⟩:=H
     exact zi rfl (Yld.add rfl rfl h5) (yp (h:=(zd (zg (WX.weaken sb (hQ _ _ ⟨out++([(p.drop from_.toNat).take (i.toNat - from_.toNat)]:List (List UInt8)),c0,c1,(out++([(p.drop from_.toNat).take (i.toNat - from_.toNat)]:List (List UInt8))).length,i+(1:Int),rfl,H,rfl,(qH gr3 hg2 k3.ge'),hO2⟩))))))
    ·replace H:=H.2 (b2)
     exact zm (zg (WX.weaken sb (hQ _ _ ⟨out,a3,a4,out.length,from_,rfl,H,rfl,gr1,k1⟩)))
   ·clear H
    rcases Bool.eq_false_or_eq_true (decide (i=(p.length:Int))) with b3 | b3
    ·exact gn b3 (h:=(gn b3 (h:=(gn b3 (h:=(gn b3 (h:=(zi rfl (zy (okb b3) rfl) (wk (hQ _ _ ⟨true,rfl,by rw [b3] <;> rfl,rfl⟩))))))))))
    ·exact gp b3 (h:=(gp b3 (h:=(zC rfl rfl (okb b3) rfl (qi qD rfl rfl rfl (h2 b3).1 (h2 b3).2) (gp b3 (h:=(zi rfl (zv (okb b3) rfl) (wk (hQ _ _ ⟨decide (((p.getD i.toNat 0).toNat:Int)=(47:Int)),rfl,by rw [b3] <;> rfl,rfl⟩)))))))))
 ·replace H:=H.2 (of_decide_eq_false b1)
  exact zz (zf (zf (zj (za (zc (zb (yp (h:=(yp (h:=(zd (za (zq (zx rfl rfl ⟨gr1,out,a3,a4,rfl,k1,H⟩))))))))))))))
set_option maxHeartbeats 8000000 in
theorem W_smithyref1_glue {w:World} {l:List (List UInt8)} {A_l:Option Addr} {c_l:Nat} {n_l:Nat} {K:(List UInt8)->Prop} (hl:Rd vs w A_l c_l l) (c5:n_l=l.length) (H:kW l K):Fn Tryz.prog 94 ⟨[.slice A_l n_l c_l]⟩ w (fun v w'=>w=w'/\∃ (r:List UInt8),v=vs r/\K r):=by
 subst c5
 unfold kW at H
 refine Fn.enter (by kernel_rfl) Tryz.func94 rfl Tryz.ntmps94 rfl ?_
 replace H:=H (Nat.le_trans hl.cap hl.max)
 refine zc (zb (yp (h:=(zd (za (zc (zb (yp (h:=(zd (za (zc (zc (zb (yp (h:=(zd (za (WC.block ?_)))))))))))))))))))
 obtain ⟨I1,mu1,a2,HR1⟩:=H
 refine zA (fun n' L' w'=>∃ (s:List UInt8),∃ (i:Int),n'=mu1 s i/\L'=[(0,.slice A_l l.length c_l),(3,vs s),(4,.int .i64 i)]/\I1 s i/\w=w') _ _ ⟨([]:List UInt8),(0:Int),rfl,rfl,a2,rfl⟩ sb ?_
 clear a2
 rintro _ _ _ ⟨s,i,rfl,rfl,hI1,rfl⟩
 have H:=HR1 s i hI1
 refine zc (zc (zb (yp (h:=(yp (h:=(yp (h:=(yp (h:=(zd (za (zk rfl (fun b1=>?_) (fun b1=>?_))))))))))))))
 ·replace H:=H.1 (of_decide_eq_true b1)
  refine zm (za (zc (WC.block (zc ?_))))
  obtain ⟨J1,H,hJ1⟩:=H
  refine zL (fun L' w'=>∃ (s2:List UInt8),L'=[(0,.slice A_l l.length c_l),(3,vs s2),(4,.int .i64 i)]/\J1 s2/\w=w') ?_ (fun hQ=>?_)
  ·clear H
   rintro _ _ ⟨s2,rfl,H,rfl⟩
   replace H:=hJ1 s2 H
   refine za (zb (yp (h:=(yp (h:=(yp (h:=?_)))))))
   obtain ⟨h1,H⟩:=H
   refine zi rfl (zn qD hl rfl rfl rfl rfl h1.1 h1.2) (zi rfl (zo [] qD hl rfl rfl (iltN h1 rfl)) ?_)
   obtain ⟨h2,H⟩:=H
   refine zi rfl (Yld.sadd rfl rfl h2) (yp (h:=(zd (zg (za (zb (yp (h:=?_))))))))
   obtain ⟨h3,H⟩:=H
   exact zi rfl (Yld.add rfl rfl h3) (yp (h:=(zd (zw _ ⟨s2++(l.getD i.toNat []),i+(1:Int),rfl,rfl,H.1,rfl⟩ sb H.2))))
  ·clear hJ1
   refine zc (zb (yp (h:=(yp (h:=(zd (za (zk rfl (fun b2=>?_) (fun b2=>?_)))))))))
   ·replace H:=H.1 (of_decide_eq_true b2)
    refine zb (yp (h:=?_))
    obtain ⟨h4,H⟩:=H
    exact zi rfl (Yld.sadd rfl rfl h4) (yp (h:=(zd (WX.weaken sb (hQ _ _ ⟨s++([47]:List UInt8),rfl,H,rfl⟩)))))
   ·replace H:=H.2 (of_decide_eq_false b2)
    exact zm (WX.weaken sb (hQ _ _ ⟨s,rfl,H,rfl⟩))
 ·replace H:=H.2 (of_decide_eq_false b1)
  exact zz (zf (zf (zj (za (zc (zb (yp (h:=(yp (h:=(zd (za (zq (zx rfl rfl ⟨rfl,s,rfl,H⟩))))))))))))))
set_option maxHeartbeats 8000000 in
theorem W_smithyref1_part {w:World} {s:List UInt8} {star:Bool} {K:Bool->Prop} (H:ko s star K):Fn Tryz.prog 93 ⟨[vs s,.bool star]⟩ w (fun v w'=>w=w'/\∃ (r:Bool),v=.bool r/\K r):=by
 unfold ko at H
 refine Fn.enter (by kernel_rfl) Tryz.func93 rfl Tryz.ntmps93 rfl ?_
 refine zc (zb (yp (h:=(zd (za (zc (zc (zb (yp (h:=(zd (za (WC.block ?_)))))))))))))
 obtain ⟨I1,mu1,a2,HR1⟩:=H
 refine zA (fun n' L' w'=>∃ (i:Int),n'=mu1 i/\L'=[(0,vs s),(1,.bool star),(5,.int .i64 i)]/\I1 i/\w=w') _ _ ⟨(0:Int),rfl,rfl,a2,rfl⟩ sb ?_
 clear a2
 rintro _ _ _ ⟨i,rfl,rfl,hI1,rfl⟩
 have H:=HR1 i hI1
 refine zc (zc (zb (yp (h:=(yp (h:=(yp (h:=(yp (h:=(zd (za (zk rfl (fun b1=>?_) (fun b1=>?_))))))))))))))
 ·replace H:=H.1 (of_decide_eq_true b1)
  refine zm (za (zc (WC.block (zc (zb (yp (h:=(yp (h:=?_)))))))))
  obtain ⟨h1,H⟩:=H
  refine zi rfl (qi qD rfl rfl rfl h1.1 h1.2) (zr rfl rfl (W_smithyref1_letter H) ?_)
  rintro _ _ ⟨rfl,t15,rfl,H⟩
  refine yp (h:=(yp (h:=?_)))
  obtain ⟨h2,H⟩:=H
  refine zD 9 (fun L' w'=>∃ q1:Bool,L'=[(26,.bool q1),(0,vs s),(1,.bool star),(5,.int .i64 i)]/\((!t15) && (!(star && (decide (((s.getD i.toNat 0).toNat:Int)=(42:Int))))))=q1/\w=w') ?_ (fun hQ=>?_)
  ·rintro _ _ ⟨q1,rfl,rfl,rfl⟩
   refine zd (za (zk rfl (fun b2=>?_) (fun b2=>?_)))
   ·replace H:=H.1 (b2)
    exact zc (zb (yp (h:=(zd (za (zq (zp (zh (zh (zp (zh (zx rfl rfl ⟨rfl,false,rfl,H⟩))))))))))))
   ·replace H:=H.2 (b2)
    refine zm (zg (za (zb (yp (h:=?_)))))
    obtain ⟨h3,H⟩:=H
    exact zi rfl (Yld.add rfl rfl h3) (yp (h:=(zd (zw _ ⟨i+(1:Int),rfl,rfl,H.1,rfl⟩ sb H.2))))
  ·clear H
   rcases Bool.eq_false_or_eq_true (!t15) with b3 | b3
   ·refine gp b3 (h:=(gp b3 (h:=?_)))
    rcases Bool.eq_false_or_eq_true (star) with b4 | b4
    ·exact gp b4 (h:=(gp b4 (h:=(zC rfl rfl (okb b4) rfl (qi qD rfl rfl rfl (h2 b3 b4).1 (h2 b3 b4).2) (gp b4 (h:=(zC rfl rfl (okb b3) rfl (zy (okb b4) rfl) (gp b3 (h:=(zi rfl (zy (okb b3) rfl) (wk (hQ _ _ ⟨!decide (((s.getD i.toNat 0).toNat:Int)=(42:Int)),rfl,by rw [b3,b4] <;> rfl,rfl⟩))))))))))))
    ·exact gn b4 (h:=(gn b4 (h:=(gn b4 (h:=(gn b4 (h:=(zC rfl rfl (okb b3) rfl (zv (okb b4) rfl) (gp b3 (h:=(zi rfl (zy (okb b3) rfl) (wk (hQ _ _ ⟨true,rfl,by rw [b3,b4] <;> rfl,rfl⟩)))))))))))))
   ·exact gn b3 (h:=(gn b3 (h:=(z8 rfl rfl rfl rfl (z8 rfl rfl rfl rfl (z8 rfl rfl rfl rfl (z8 rfl rfl rfl rfl (gn b3 (h:=(gn b3 (h:=(zi rfl (zv (okb b3) rfl) (wk (hQ _ _ ⟨false,rfl,by rw [b3] <;> rfl,rfl⟩))))))))))))))
 ·replace H:=H.2 (of_decide_eq_false b1)
  refine zz (zf (zf (zj (za (zc (zb (yp (h:=(yp (h:=(yp (h:=(zD 3 (fun L' w'=>∃ q2:Bool,L'=[(32,.bool q2),(0,vs s)]/\((!decide (s=([]:List UInt8))) && (!decide (s=([46]:List UInt8))))=q2/\w=w') ?_ (fun hQ=>?_))))))))))))))
  ·rintro _ _ ⟨q2,rfl,rfl,rfl⟩
   refine yp (h:=(zD 3 (fun L' w'=>∃ q3:Bool,L'=[(36,.bool q3)]/\(((!decide (s=([]:List UInt8))) && (!decide (s=([46]:List UInt8)))) && (!decide (s=([46,46]:List UInt8))))=q3/\w=w') ?_ (fun hQ=>?_)))
   ·rintro _ _ ⟨q3,rfl,rfl,rfl⟩
    exact yp (h:=(zd (za (zq (zx rfl rfl ⟨rfl,((!decide (s=([]:List UInt8))) && (!decide (s=([46]:List UInt8)))) && (!decide (s=([46,46]:List UInt8))),rfl,H⟩)))))
   ·clear H
    rcases Bool.eq_false_or_eq_true ((!decide (s=([]:List UInt8))) && (!decide (s=([46]:List UInt8)))) with b5 | b5
    ·exact gp b5 (h:=(gp b5 (h:=(zi rfl (zy (okb b5) rfl) (wk (hQ _ _ ⟨!decide (s=([46,46]:List UInt8)),rfl,by rw [b5] <;> rfl,rfl⟩))))))
    ·exact gn b5 (h:=(gn b5 (h:=(zi rfl (zv (okb b5) rfl) (wk (hQ _ _ ⟨false,rfl,by rw [b5] <;> rfl,rfl⟩))))))
  ·clear H
   rcases Bool.eq_false_or_eq_true (!decide (s=([]:List UInt8))) with b6 | b6
   ·exact gp b6 (h:=(gp b6 (h:=(zi rfl (zy (okb b6) rfl) (wk (hQ _ _ ⟨!decide (s=([46]:List UInt8)),rfl,by rw [b6] <;> rfl,rfl⟩))))))
   ·exact gn b6 (h:=(gn b6 (h:=(zi rfl (zv (okb b6) rfl) (wk (hQ _ _ ⟨false,rfl,by rw [b6] <;> rfl,rfl⟩))))))
set_option maxHeartbeats 8000000 in
theorem W_smithyref1_Clean {w:World} {p:List UInt8} {K:(List UInt8)->Bool->Prop} (H:jZ p K):Fn Tryz.prog 63 ⟨[vs p]⟩ w (fun v w'=>w.grownBy w' none/\∃ (r0:List UInt8),∃ (r1:Bool),v=.tuple #[vs r0,.bool r1]/\K r0 r1):=by
 unfold jZ at H
 refine Fn.enter (by kernel_rfl) Tryz.func63 rfl Tryz.ntmps63 rfl ?_
 refine zc (zb (yp (h:=(yp (h:=(zd (za (zc (zb (yp (h:=(zd (za (zc (zb (yp (h:=(zr rfl rfl (W_smithyref1_Parts H) ?_))))))))))))))))))
 rintro _ w1 ⟨hg1,parts,a0,a1,rfl,hparts,H⟩
 have hb1:=hparts.ge'
 refine yp (h:=(zd (za (zc (zc (zb (yp (h:=(zd (za (WC.block ?_)))))))))))
 obtain ⟨I1,mu1,a2,HR1⟩:=H
 refine zA (fun n' L' w'=>∃ (l:List (List UInt8)),∃ (A_l:Option Addr),∃ (c_l:Nat),∃ (n_l:Nat),∃ (i:Int),n'=mu1 l i/\L'=[(4,.slice A_l n_l c_l),(5,.slice a0 parts.length a1),(6,.int .i64 i)]/\I1 l i/\n_l=l.length/\w.grownBy w' none/\Own vs w' w.heap.size 9 a0 a1 parts/\Own vs w' w.heap.size 9 A_l c_l l/\Dj (blk a0) (blk A_l)) _ _ ⟨[],none,0,0,(0:Int),rfl,rfl,a2,rfl,hg1,(hparts.base (fun g hg=>Nat.le_trans (Nat.le_refl _) (hb1 g hg))),(Own.nil vs w1 w.heap.size 9),Dj.nr⟩ sb ?_
 clear a2
 rintro _ _ w2 ⟨l,A_l,c_l,n_l,i,rfl,rfl,hI1,rfl,gr2,k2,k3,dj1⟩
 have H:=HR1 l i hI1
 refine zc (zc (zb (yp (h:=(yp (h:=(yp (h:=(yp (h:=(zd (za (zk rfl (fun b1=>?_) (fun b1=>?_))))))))))))))
 ·replace H:=H.1 (of_decide_eq_true b1)
  refine zm (za (zc ?_))
  obtain ⟨J1,H,hJ1⟩:=H
  refine zL (fun L' w'=>∃ (l2:List (List UInt8)),∃ (a8:Option Addr),∃ (b0:Nat),∃ (c2:Nat),L'=[(4,.slice a8 c2 b0),(5,.slice a0 parts.length a1),(6,.int .i64 i)]/\J1 l2/\c2=l2.length/\w.grownBy w' none/\Own vs w' w.heap.size 9 a0 a1 parts/\Own vs w' w.heap.size 9 a8 b0 l2/\Dj (blk a0) (blk a8)) ?_ (fun hQ=>?_)
  ·clear H
   rintro _ w3 ⟨l2,a8,b0,c2,rfl,H,rfl,gr3,k4,k5,dj2⟩
   replace H:=hJ1 l2 H
   refine za (zb (yp (h:=?_)))
   obtain ⟨h1,H⟩:=H
   exact zi rfl (Yld.add rfl rfl h1) (yp (h:=(zd (zw _ ⟨l2,a8,b0,l2.length,i+(1:Int),rfl,rfl,H.1,rfl,gr3,k4,k5,dj2⟩ sb H.2))))
  ·clear hJ1
   refine WC.block (WC.block (zc (zb (yp (h:=(yp (h:=?_)))))))
   obtain ⟨h2,H⟩:=H
   refine zi rfl (zn qD k2.rd rfl rfl rfl rfl h2.1 h2.2) (zi rfl (zo [] qD k2.rd rfl rfl (iltN h2 rfl)) (yp (h:=(yp (h:=?_)))))
   obtain ⟨h3,H⟩:=H
   refine zD 6 (fun L' w'=>∃ q1:Bool,L'=[(35,.bool q1),(4,.slice A_l l.length c_l),(5,.slice a0 parts.length a1),(6,.int .i64 i)]/\((decide ((parts.getD i.toNat [])=([]:List UInt8))) || (decide ((parts.getD i.toNat [])=([46]:List UInt8))))=q1/\w2=w') ?_ (fun hQ=>?_)
   ·rintro _ _ ⟨q1,rfl,rfl,rfl⟩
    refine yp (h:=(zd (za (zk rfl (fun b2=>?_) (fun b2=>?_)))))
    ·replace H:=H.1 (b2)
     exact zm (zg (zg (WX.weaken sb (hQ _ _ ⟨l,A_l,c_l,l.length,rfl,H,rfl,gr2,k2,k3,dj1⟩))))
    ·replace H:=H.2 (b2)
     refine zc (zb (yp (h:=(yp (h:=?_)))))
     obtain ⟨h4,H⟩:=H
     refine zi rfl (zn qD k2.rd rfl rfl rfl rfl h4.1 h4.2) (zi rfl (zo [] qD k2.rd rfl rfl (iltN h4 rfl)) (yp (h:=(yp (h:=(zd (za (zk rfl (fun b3=>?_) (fun b3=>?_)))))))))
     ·replace H:=H.1 (of_decide_eq_true b3)
      refine zc (zc (zb (yp (h:=(yp (h:=(yp (h:=(zd (za (zk rfl (fun b4=>?_) (fun b4=>?_))))))))))))
      ·replace H:=H.1 (of_decide_eq_true b4)
       exact zc (zb (yp (h:=(yp (h:=(zd (za (zq (zh (zp (zp (zh (zh (zp (zh (zM rfl rfl rfl ⟨gr2,([]:List UInt8),false,rfl,H⟩))))))))))))))))
      ·replace H:=H.2 (of_decide_eq_false b4)
       refine zm (za (zb (yp (h:=(yp (h:=(yp (h:=?_))))))))
       obtain ⟨h5,H⟩:=H
       refine zi rfl (Yld.sub rfl rfl h5) ?_
       obtain ⟨h6,H⟩:=H
       exact WL.ocut qD rfl rfl k3 rfl rfl rfl rfl h6.1 h6.2 (fun hO1=>yp (h:=(zd (zg (zg (WX.weaken sb (hQ _ _ ⟨l.take ((l.length:Int) - (1:Int)).toNat,A_l,c_l,(l.take ((l.length:Int) - (1:Int)).toNat).length,rfl,H,rfl,gr2,k2,hO1,dj1⟩)))))))
     ·replace H:=H.2 (of_decide_eq_false b3)
      refine zc (zb (yp (h:=(yp (h:=?_)))))
      obtain ⟨h7,H⟩:=H
      refine zi rfl (zn qD k2.rd rfl rfl rfl rfl h7.1 h7.2) (zi rfl (zo [] qD k2.rd rfl rfl (iltN h7 rfl)) (zr rfl rfl (W_smithyref1_part H) ?_))
      rintro _ _ ⟨rfl,t55,rfl,H⟩
      refine yp (h:=(yp (h:=(zd (za (zk rfl (fun b5=>?_) (fun b5=>?_)))))))
      ·replace H:=H.1 (b5)
       exact zc (zb (yp (h:=(yp (h:=(zd (za (zq (zp (zp (zh (zh (zp (zh (zM rfl rfl rfl ⟨gr2,([]:List UInt8),false,rfl,H⟩)))))))))))))))
      ·replace H:=H.2 (b5)
       refine zb (yp (h:=(yp (h:=(yp (h:=?_))))))
       obtain ⟨h8,H⟩:=H
       refine zi rfl (zn qD k2.rd rfl rfl rfl rfl h8.1 h8.2) (zi rfl (zo [] qD k2.rd rfl rfl (iltN h8 rfl)) (zP qD rfl rfl rfl (qG rfl qR) rfl (by omega) (fun g1 w4 hB1 hg2 hl1=>?_)))
       have hO2:Own vs w4 w.heap.size 9 (some ⟨g1,0,none⟩) 1 ([parts.getD i.toNat []]:List (List UInt8)):=Own.ofBl hB1 (Nat.le_trans (qF gr2) hl1) (by simp [maxLen]) rfl
       have gr4:=qE gr2 hg2
       have k6:=k2.grown hg2
       have k7:=k3.grown hg2
       obtain ⟨h9,H⟩:=H
       exact zG qD rfl rfl One.s k7 rfl rfl hO2.rd rfl rfl h9 (qN h9) (qF gr4) (fun c3 c4 w5 hO3 hg3 hk1=>yp (h:=(zd (zg (zg (WX.weaken sb (hQ _ _ ⟨l++([parts.getD i.toNat []]:List (List UInt8)),c3,c4,(l++([parts.getD i.toNat []]:List (List UInt8))).length,rfl,H,rfl,(qH gr4 hg3 k7.ge'),(k6.go hg3 dj1),hO3,(Dj.app dj1.symm k6.lt' hk1).symm⟩)))))))
   ·clear H
    rcases Bool.eq_false_or_eq_true (decide ((parts.getD i.toNat [])=([]:List UInt8))) with b6 | b6
    ·exact gn b6 (h:=(gn b6 (h:=(gn b6 (h:=(gn b6 (h:=(gn b6 (h:=(zi rfl (zy (okb b6) rfl) (wk (hQ _ _ ⟨true,rfl,by rw [b6] <;> rfl,rfl⟩))))))))))))
    ·exact gp b6 (h:=(gp b6 (h:=(zC rfl rfl (okb b6) rfl (zn qD k2.rd rfl rfl rfl rfl (h3 b6).1 (h3 b6).2) (zC rfl rfl (okb b6) rfl (zo [] qD k2.rd rfl rfl (iltN (h3 b6) rfl)) (gp b6 (h:=(zi rfl (zv (okb b6) rfl) (wk (hQ _ _ ⟨decide ((parts.getD i.toNat [])=([46]:List UInt8)),rfl,by rw [b6] <;> rfl,rfl⟩))))))))))
 ·replace H:=H.2 (of_decide_eq_false b1)
  refine zz (zf (zf (zj (za (zc (zb (yp (h:=(zr rfl rfl (W_smithyref1_glue k3.rd rfl H) ?_)))))))))
  rintro _ _ ⟨rfl,s,rfl,H⟩
  refine yp (h:=(zd (za (zc (zc (zb (yp (h:=(yp (h:=(yp (h:=(zd (za (zk rfl (fun b7=>?_) (fun b7=>?_))))))))))))))))
  ·replace H:=H.1 (of_decide_eq_true b7)
   exact zc (zb (yp (h:=(yp (h:=(zd (za (zq (zh (zM rfl rfl rfl ⟨gr2,([]:List UInt8),false,rfl,H⟩))))))))))
  ·replace H:=H.2 (of_decide_eq_false b7)
   exact zm (za (zc (zb (yp (h:=(yp (h:=(yp (h:=(zd (za (zq (zM rfl rfl rfl ⟨gr2,s,true,rfl,H⟩)))))))))))))
set_option maxHeartbeats 8000000 in
theorem W_smithyref1_Valid {w:World} {p:List UInt8} {K:Bool->Prop} (H:j5 p K):Fn Tryz.prog 34 ⟨[vs p]⟩ w (fun v w'=>w.grownBy w' none/\∃ (r:Bool),v=.bool r/\K r):=by
 unfold j5 at H
 refine Fn.enter (by kernel_rfl) Tryz.func34 rfl Tryz.ntmps34 rfl ?_
 refine zc (zb (yp (h:=(zd (za (zc (zb (yp (h:=(zr rfl rfl (W_smithyref1_Clean H) ?_))))))))))
 rintro _ w1 ⟨hg1,t70,t71,rfl,H⟩
 refine yp (h:=(yp (h:=(yp (h:=(yp (h:=(yp (h:=(zd (za (zc (zb (yp (h:=(yp (h:=(zD 4 (fun L' w'=>∃ q1:Bool,L'=[(15,.bool q1),(0,vs p)]/\(t71 && (decide (t70=p)))=q1/\w1=w') ?_ (fun hQ=>?_)))))))))))))))))))
 ·rintro _ _ ⟨q1,rfl,rfl,rfl⟩
  refine yp (h:=(zD 3 (fun L' w'=>∃ q2:Bool,L'=[(19,.bool q2)]/\((t71 && (decide (t70=p))) && (!decide (p=([]:List UInt8))))=q2/\w1=w') ?_ (fun hQ=>?_)))
  ·rintro _ _ ⟨q2,rfl,rfl,rfl⟩
   exact yp (h:=(zd (za (zq (zx rfl rfl ⟨hg1,(t71 && (decide (t70=p))) && (!decide (p=([]:List UInt8))),rfl,H⟩)))))
  ·clear H
   rcases Bool.eq_false_or_eq_true (t71 && (decide (t70=p))) with b1 | b1
   ·exact gp b1 (h:=(gp b1 (h:=(zi rfl (zy (okb b1) rfl) (wk (hQ _ _ ⟨!decide (p=([]:List UInt8)),rfl,by rw [b1] <;> rfl,rfl⟩))))))
   ·exact gn b1 (h:=(gn b1 (h:=(zi rfl (zv (okb b1) rfl) (wk (hQ _ _ ⟨false,rfl,by rw [b1] <;> rfl,rfl⟩))))))
 ·clear H
  rcases Bool.eq_false_or_eq_true (t71) with b2 | b2
  ·exact gp b2 (h:=(gp b2 (h:=(gp b2 (h:=(zi rfl (zy (okb b2) rfl) (wk (hQ _ _ ⟨decide (t70=p),rfl,by rw [b2] <;> rfl,rfl⟩))))))))
  ·exact gn b2 (h:=(gn b2 (h:=(gn b2 (h:=(zi rfl (zv (okb b2) rfl) (wk (hQ _ _ ⟨false,rfl,by rw [b2] <;> rfl,rfl⟩))))))))
end
 
section
open Go Go.RowKit
end
 
section
open Go Go.RowKit
theorem letNat (c:UInt8):letB c=((((((((((((((decide (97<=c.toNat) && decide (c.toNat<=122)) || (decide (65<=c.toNat) && decide (c.toNat<=90))) || (decide (48<=c.toNat) && decide (c.toNat<=57))) || decide (c.toNat=33)) || decide (c.toNat=35)) || decide (c.toNat=37)) || decide (c.toNat=43)) || decide (c.toNat=44)) || decide (c.toNat=45)) || decide (c.toNat=46)) || decide (c.toNat=61)) || decide (c.toNat=64)) || decide (c.toNat=95)) || decide (c.toNat=126)):=by
 have h:∀ n:Fin 256,letB (UInt8.ofNat n.val)=((((((((((((((decide (97<=n.val) && decide (n.val<=122)) || (decide (65<=n.val) && decide (n.val<=90))) || (decide (48<=n.val) && decide (n.val<=57))) || decide (n.val=33)) || decide (n.val=35)) || decide (n.val=37)) || decide (n.val=43)) || decide (n.val=44)) || decide (n.val=45)) || decide (n.val=46)) || decide (n.val=61)) || decide (n.val=64)) || decide (n.val=95)) || decide (n.val=126)):=by decide +kernel
 have:=h ⟨c.toNat,c.toNat_lt⟩
 simpa using this
theorem rletter_M {c:UInt8} {K:Bool->Prop} (h:K (letB c)):jN (c.toNat:Int) K:=by
 unfold jN
 rw [letNat] at h
 have d:∀ a b:Nat,decide ((a:Int)<=(b:Int))=decide (a<=b):=fun a b=>by rw [decide_eq_decide]; omega
 have e:∀ a b:Nat,decide ((a:Int)=(b:Int))=decide (a=b):=fun a b=>by rw [decide_eq_decide]; omega
 have d1:decide ((97:Int)<=(c.toNat:Int))=decide (97<=c.toNat):=d 97 c.toNat
 have d2:decide ((c.toNat:Int)<=(122:Int))=decide (c.toNat<=122):=d c.toNat 122
 have d3:decide ((65:Int)<=(c.toNat:Int))=decide (65<=c.toNat):=d 65 c.toNat
 have d4:decide ((c.toNat:Int)<=(90:Int))=decide (c.toNat<=90):=d c.toNat 90
 have d5:decide ((48:Int)<=(c.toNat:Int))=decide (48<=c.toNat):=d 48 c.toNat
 have d6:decide ((c.toNat:Int)<=(57:Int))=decide (c.toNat<=57):=d c.toNat 57
 have e1:decide ((c.toNat:Int)=(33:Int))=decide (c.toNat=33):=e c.toNat 33
 have e2:decide ((c.toNat:Int)=(35:Int))=decide (c.toNat=35):=e c.toNat 35
 have e3:decide ((c.toNat:Int)=(37:Int))=decide (c.toNat=37):=e c.toNat 37
 have e4:decide ((c.toNat:Int)=(43:Int))=decide (c.toNat=43):=e c.toNat 43
 have e5:decide ((c.toNat:Int)=(44:Int))=decide (c.toNat=44):=e c.toNat 44
 have e6:decide ((c.toNat:Int)=(45:Int))=decide (c.toNat=45):=e c.toNat 45
 have e7:decide ((c.toNat:Int)=(46:Int))=decide (c.toNat=46):=e c.toNat 46
 have e8:decide ((c.toNat:Int)=(61:Int))=decide (c.toNat=61):=e c.toNat 61
 have e9:decide ((c.toNat:Int)=(64:Int))=decide (c.toNat=64):=e c.toNat 64
 have e10:decide ((c.toNat:Int)=(95:Int))=decide (c.toNat=95):=e c.toNat 95
 have e11:decide ((c.toNat:Int)=(126:Int))=decide (c.toNat=126):=e c.toNat 126
 rw [d1,d2,d3,d4,d5,d6,e1,e2,e3,e4,e5,e6,e7,e8,e9,e10,e11]
 exact h
theorem rpart_M {s:List UInt8} {K:Bool->Prop} (hs:s.length<=4000000000) (h:K (fairB s)):ko s false K:=by
 unfold ko
 refine ⟨fun i=>∃ k:Nat,i=k/\k<=s.length/\(s.take k).all letB=true,fun i=>(s.length - i.toNat),⟨0,rfl,by omega,by simp⟩,?_⟩
 rintro _ ⟨k,rfl,hk,hall⟩
 refine ⟨fun hlt=>⟨by omega,rletter_M ?_⟩,fun hge=>?_⟩
 ·have hk':k<s.length:=by omega
  rw [Int.toNat_natCast]
  cases hl:letB (s.getD k 0) with
  | false =>
   refine ⟨fun _ h=>(by cases h),fun _=>?_,fun h1=>by simp at h1⟩
   have:s.all letB=false:=by
    rw [List.all_eq_false]
    exact ⟨s.getD k 0,jf hk',by rw [hl]; simp⟩
   unfold fairB at h
   rw [this] at h
   exact h
  | true=>exact ⟨fun h1=>by simp at h1,fun h1=>by simp at h1,fun _=>⟨by simp only [In]; omega,⟨k+1,by omega,by omega,take_all_succ hall hk' hl⟩,by dsimp only; omega⟩⟩
 ·obtain rfl:k=s.length:=by omega
  rw [List.take_length] at hall
  unfold fairB dotsB at h
  rw [hall,Bool.true_and,Bool.not_or,Bool.not_or] at h
  exact h
theorem rparts_M {p:List UInt8} {K:List (List UInt8)->Prop} (hp:p.length<=4000000000) (h:K (cuts p)):j0 p K:=by
 unfold j0
 have hn:=cuts_length p
 refine ⟨fun out f i=>∃ (a k:Nat),f=a/\i=k/\((a<=k/\k<=p.length/\out++cuts (p.drop a)=cuts p/\∀ j,a<=j->j<k->p.getD j 0≠47)∨(k=p.length+1/\out=cuts p)),fun _ _ i=>p.length+1 - i.toNat,⟨0,0,rfl,rfl,.inl ⟨by omega,by omega,by simp,fun j _ h=>by omega⟩⟩,?_⟩
 rintro out _ _ ⟨a,k,rfl,rfl,hI⟩
 refine ⟨fun hlt=>?_,fun hge=>?_⟩
 ·rcases hI with ⟨hak,hk,hc,hno⟩ | ⟨hk,_⟩
  ·have ho:out.length<=(cuts p).length:=by rw [<-hc,List.length_append]; omega
   have hpiece:cuts ((p.drop a).take (k - a))=[(p.drop a).take (k - a)]:=cuts_none fun c hcm=>by
    obtain ⟨j,hj,rfl⟩:=List.getElem_of_mem hcm
    rw [List.length_take,List.length_drop] at hj
    have:=hno (a+j) (by omega) (by omega)
    rw [List.getElem_take,List.getElem_drop]
    simpa [List.getD,show a+j<p.length by omega] using this
   refine ⟨fun out' f'=>∃ a':Nat,f'=a'/\((a'<=k+1/\k+1<=p.length/\out'++cuts (p.drop a')=cuts p/\∀ j,a'<=j->j<k+1->p.getD j 0≠47)∨(k=p.length/\out'=cuts p)),⟨fun h1=>?_,fun h1=>?_,fun h1=>?_⟩,?_⟩
   ·have:=of_decide_eq_false h1; omega
   ·rw [Int.toNat_natCast] at h1
    simp only [Int.toNat_natCast]
    refine ⟨by omega,by simp only [List.length_cons,List.length_nil]; omega,by simp only [In]; omega,k+1,by omega,?_⟩
    by_cases e:k=p.length
    ·refine .inr ⟨e,?_⟩
     rw [<-hc]
     have:(p.drop a).take (k - a)=p.drop a:=List.take_of_length_le (by rw [List.length_drop]; omega)
     rw [this] at hpiece |-
     rw [hpiece]
    ·have hk':k<p.length:=by omega
     have h47:p.getD k 0=47:=by
      rw [decide_eq_false (by omega:¬ (k:Int)=(p.length:Int)),Bool.false_or] at h1
      exact UInt8.toNat_inj.mp (show (p.getD k 0).toNat=47 by have:=of_decide_eq_true h1; omega)
     refine .inl ⟨by omega,by omega,?_,fun j h2 h3=>by omega⟩
     rw [<-hc,List.append_assoc]
     congr 1
     have h2:p[k]=47:=by simpa [List.getD,hk'] using h47
     have:p.drop a=(p.drop a).take (k - a)++47 :: p.drop (k+1):=by
      conv=>lhs; rw [<-List.take_append_drop (k - a) (p.drop a)]
      congr 1
      rw [List.drop_drop,show a+(k - a)=k by omega,List.drop_eq_getElem_cons hk',h2]
     conv=>rhs; rw [this]
     rw [cuts_append,hpiece]
   ·rw [Int.toNat_natCast,Bool.or_eq_false_iff] at h1
    have h2:=of_decide_eq_false h1.1
    have h3:=of_decide_eq_false h1.2
    refine ⟨a,rfl,.inl ⟨by omega,by omega,hc,fun j h4 h5=>?_⟩⟩
    by_cases e:j=k
    ·rw [e]; exact fun h6=>h3 (by rw [h6]; rfl)
    ·exact hno j h4 (by omega)
   ·rintro out' _ ⟨a',rfl,hI'⟩
    refine ⟨by simp only [In]; omega,⟨a',k+1,rfl,by omega,?_⟩,by dsimp only; omega⟩
    rcases hI' with h1 | ⟨h1,h2⟩
    ·exact .inl h1
    ·exact .inr ⟨by omega,h2⟩
  ·omega
 ·rcases hI with ⟨_,hk,_⟩ | ⟨_,rfl⟩
  ·omega
  ·exact h
theorem glue_snoc {l:List (List UInt8)} {x:List UInt8} (h:l≠[]):glue (l++[x])=glue l++47 :: x:=by
 induction l with
 | nil=>exact absurd rfl h
 | cons y l ih =>
  cases l with
  | nil=>simp [glue]
  | cons z l =>
   have:=ih (by simp)
   simp only [List.cons_append] at this |-
   simp only [glue]
   rw [this]
   simp
theorem rglue_M {l:List (List UInt8)} {K:List UInt8->Prop} (hw:wt l<=4000000000) (h:K (glue l)):kW l K:=by
 intro _
 have hl:=length_wt l
 refine ⟨fun s i=>∃ k:Nat,i=k/\k<=l.length/\s=glue (l.take k),fun _ i=>l.length - i.toNat,⟨0,rfl,by omega,by simp [glue]⟩,?_⟩
 rintro _ _ ⟨k,rfl,hk,rfl⟩
 have hg:=glue_length (l.take k)
 have ht:=wt_take l k
 refine ⟨fun hlt=>⟨fun s=>s=if k=0 then [] else glue (l.take k)++[47],⟨fun h1=>⟨by simp only [List.length_cons,List.length_nil]; omega,?_⟩,fun h1=>?_⟩,?_⟩,fun hge=>?_⟩
 ·dsimp only
  rw [if_neg (by omega)]
 ·dsimp only
  rw [if_pos (by omega)]
  obtain rfl:k=0:=by omega
  simp [glue]
 ·rintro _ rfl
  have hk':k<l.length:=by omega
  rw [Int.toNat_natCast]
  have hx:(l.getD k []).length<=wt l:=by
   have h1:wt (l.drop k)<=wt l:=by
    conv=>rhs; rw [<-List.take_append_drop k l]
    rw [wt_append]; omega
   rw [List.drop_eq_getElem_cons hk'] at h1
   simp only [wt] at h1
   have:l.getD k []=l[k]:=by simp [List.getD,hk']
   rw [this]; omega
  have hs:l.take (k+1)=l.take k++[l.getD k []]:=by
   rw [List.take_succ_eq_append_getElem hk']
   simp [List.getD,hk']
  refine ⟨by omega,?_,by simp only [In]; omega,⟨k+1,by omega,by omega,?_⟩,by dsimp only; omega⟩
  ·split
   ·simp only [List.length_nil]; omega
   ·rw [List.length_append]; simp only [List.length_cons,List.length_nil]; omega
  ·rw [hs]
   split
   ·rename_i e
    subst e
    simp [glue]
   ·rename_i e
    rw [glue_snoc (fun h1=>by have:=congrArg List.length h1; rw [List.length_take,List.length_nil] at this; omega)]
    simp
 ·obtain rfl:k=l.length:=by omega
  rw [List.take_length]
  exact h
def KR (K:List UInt8->Bool->Prop):Option (List UInt8)->Prop
 | none=>K [] false
 | some o=>K o true
theorem rclean_M {p:List UInt8} {K:List UInt8->Bool->Prop} (hp:p.length<=4000000000 - 1) (h:KR K (cleanP p)):jZ p K:=by
 unfold jZ
 refine rparts_M (by omega) ?_
 have hw:=wt_cuts p
 have hn:=length_wt (cuts p)
 refine ⟨fun l i=>∃ k:Nat,i=k/\k<=(cuts p).length/\wt l+wt ((cuts p).drop k)<=p.length+1/\cl l ((cuts p).drop k)=cl [] (cuts p),fun l i=>(cuts p).length - i.toNat,⟨0,rfl,by omega,by simp [wt,hw],by simp⟩,?_⟩
 rintro l _ ⟨k,rfl,hk,hb,hc⟩
 have hl:=length_wt l
 refine ⟨fun hlt=>?_,fun hge=>?_⟩
 ·have hk':k<(cuts p).length:=by omega
  have hd:(cuts p).drop k=(cuts p).getD k [] :: (cuts p).drop (k+1):=by
   rw [List.drop_eq_getElem_cons hk']
   simp [List.getD,hk']
  have hm:(cuts p).getD k []∈cuts p:=jf hk'
  have hx:=cuts_part hm
  rw [hd] at hb hc
  rw [Int.toNat_natCast]
  generalize (cuts p).getD k []=x at hb hc hx hm
  simp only [wt,cl] at hb hc
  refine ⟨fun l'=>wt l'+wt ((cuts p).drop (k+1))<=p.length+1/\cl l' ((cuts p).drop (k+1))=cl [] (cuts p),⟨by omega,fun _=>by omega,fun h1=>?_,fun h1=>⟨by omega,fun h2=>⟨fun h3=>?_,fun h3=>?_⟩,fun h2=>⟨by omega,?_⟩⟩⟩,?_⟩
  ·rw [if_pos h1] at hc
   exact ⟨by omega,hc⟩
  ·rw [if_neg (by rw [h1]; simp),if_neg (by rw [decide_eq_false (by omega:¬ 0<l.length)]; simp),if_neg (by rw [h2]; decide)] at hc
   unfold cleanP at h
   rw [<-hc] at h
   exact h
  ·rw [if_neg (by rw [h1]; simp),if_pos (by rw [decide_eq_true h2,decide_eq_true (by omega:0<l.length)]; rfl)] at hc
   have ht:=wt_take l (l.length - 1)
   rw [show ((l.length:Int) - 1).toNat=l.length - 1 by omega]
   exact ⟨by simp only [In]; omega,by omega,by omega,hc⟩
  ·rw [if_neg (by rw [h1]; simp),if_neg (by rw [decide_eq_false h2]; simp)] at hc
   refine rpart_M (by omega) ⟨fun h3=>?_,fun h3=>?_⟩
   ·have h4:fairB x=false:=by simpa using h3
    rw [if_neg (by rw [h4]; simp)] at hc
    unfold cleanP at h
    rw [<-hc] at h
    exact h
   ·have h4:fairB x=true:=by simpa using h3
    rw [if_pos h4] at hc
    refine ⟨by omega,by simp only [List.length_cons,List.length_nil]; omega,?_,hc⟩
    rw [wt_append]
    simp only [wt]
    omega
  ·intro l' h'
   exact ⟨by simp only [In]; omega,⟨k+1,by omega,by omega,h'.1,h'.2⟩,by dsimp only; omega⟩
 ·obtain rfl:k=(cuts p).length:=by omega
  rw [List.drop_length] at hb hc
  simp only [cl,wt] at hb hc
  refine rglue_M (by omega) ?_
  unfold cleanP at h
  rw [<-hc] at h
  dsimp only at h
  refine ⟨fun h1=>?_,fun h1=>?_⟩
  ·rw [if_neg (by omega)] at h
   exact h
  ·rw [if_pos (by omega)] at h
   exact h
def oS:Option (List UInt8)->List UInt8
 | none=>[]
 | some o=>o
theorem kr {K:List UInt8->Bool->Prop} {x:Option (List UInt8)} (h:K (oS x) x.isSome):KR K x:=by cases x <;> exact h
theorem valid_is (p:List UInt8):((cleanP p).isSome && decide (oS (cleanP p)=p) && !decide (p=[]))=jr p:=by
 cases hv:jr p with
 | true =>
  have hl:p.length<=200:=by
   unfold jr at hv
   rw [Bool.and_eq_true] at hv
   exact of_decide_eq_true hv.1
  rw [clean_fairs hl (valid_parts hv)]
  simp [oS,(valid_head hv).1]
 | false =>
  cases hc:cleanP p with
  | none=>rfl
  | some o =>
   by_cases e:o=p
   ·subst e
    have ho:=cln_of hc
    rcases ho.2 with rfl | ⟨_,h4⟩
    ·simp
    ·rw [valid_of ho.1 h4] at hv; cases hv
   ·simp [oS,e]
end
 
section
open Go
abbrev Bs:=List UInt8
theorem bs_lt_or (a b:Bs):a<b∨a=b∨b<a:=by
 by_cases h:a<b
 ·exact .inl h
 ·by_cases k:b<a
  ·exact .inr (.inr k)
  ·exact .inr (.inl (List.le_antisymm (List.not_lt.1 k) (List.not_lt.1 h)))
theorem bs_lt_of {a b:Bs} (h:a<=b) (hne:a≠b):a<b:=by
 rcases bs_lt_or a b with h1 | h1 | h1
 ·exact h1
 ·exact absurd h1 hne
 ·exact absurd h1 (List.not_lt.2 h)
theorem bs_le_lt {a b c:Bs} (h:a<=b) (k:b<c):a<c:=by
 by_cases e:a=b
 ·rw [e]; exact k
 ·exact List.lt_trans (bs_lt_of h e) k
def Strict (l:List Bs):Prop:=l.Pairwise (· < ·)
theorem Strict.nodup {l:List Bs} (h:Strict l):l.Nodup:=List.Pairwise.imp (fun {a b} (hab:a<b) (e:a=b)=>List.lt_irrefl b (e ▸ hab)) h
theorem strict_uniq:∀ {a b:List Bs},Strict a->Strict b->(∀ x,x∈a↔x∈b)->a=b
 | [],[],_,_,_=>rfl
 | [],y :: b,_,_,h=>by have:=(h y).2 (by simp); simp at this
 | x :: a,[],_,_,h=>by have:=(h x).1 (by simp); simp at this
 | x :: a,y :: b,ha,hb,h=>by
  have ha':=List.pairwise_cons.1 ha
  have hb':=List.pairwise_cons.1 hb
  have hxy:x=y:=by
   rcases List.mem_cons.1 ((h x).1 (by simp)) with e | hx
   ·exact e
   ·rcases List.mem_cons.1 ((h y).2 (by simp)) with e | hy
    ·exact e.symm
    ·exact absurd (ha'.1 y hy) (List.lt_asymm (hb'.1 x hx))
  subst hxy
  rw [strict_uniq ha'.2 hb'.2 (fun z=>?_)]
  constructor
  ·intro hz
   rcases List.mem_cons.1 ((h z).1 (by simp [hz])) with e | hz'
   ·subst e; exact absurd (ha'.1 z hz) (List.lt_irrefl z)
   ·exact hz'
  ·intro hz
   rcases List.mem_cons.1 ((h z).2 (by simp [hz])) with e | hz'
   ·subst e; exact absurd (hb'.1 z hz) (List.lt_irrefl z)
   ·exact hz'
def sortB (l:List Bs):List Bs:=l.mergeSort fun x y=>decide (x<=y)
theorem sortB_le (l:List Bs):(sortB l).Pairwise (· <= ·):=by
 have h:=List.pairwise_mergeSort (le:=fun (x y:Bs)=>decide (x<=y)) (fun a b c h k=>by
  simp only [decide_eq_true_eq] at h k |-
  exact List.le_trans h k) (fun a b=>by
  simp only [Bool.or_eq_true,decide_eq_true_eq]
  exact List.le_total a b) l
 exact h.imp fun h=>by simpa using h
theorem sortB_mem (l:List Bs) (x:Bs):x∈sortB l↔x∈l:=(List.mergeSort_perm l _).mem_iff
theorem Zt {ys:List Bs} (h:ys.Pairwise (· <= ·)):∀ m,m<=ys.length->Strict (Lib.compactUpTo ys.toArray m)/\∀ x,x∈Lib.compactUpTo ys.toArray m↔x∈ys.take m
 | 0,_=>⟨List.Pairwise.nil,fun x=>by simp [Lib.compactUpTo]⟩
 | m+1,hm=>by
  obtain ⟨h1,h2⟩:=Zt h m (by omega)
  have hget:∀ i,i<ys.length->ys.toArray[i]! = ys.getD i []:=fun i hi=>by simp [List.getD,hi]
  have hlast:ys.take (m+1)=ys.take m++[ys.getD m []]:=by rw [List.take_succ_eq_append_getElem (by omega)]; simp [List.getD,show m<ys.length by omega]
  rw [Lib.compactUpTo_succ,hlast,hget m (by omega)]
  cases hk:Lib.keeps ys.toArray m with
  | true =>
   simp only [if_true]
   refine ⟨List.pairwise_append.2 ⟨h1,List.pairwise_singleton _ _,fun x hx y hy=>?_⟩,fun x=>by rw [List.mem_append,List.mem_append,h2]⟩
   simp only [List.mem_singleton] at hy
   subst hy
   have hx':=(h2 x).1 hx
   obtain ⟨i,hi,he⟩:=List.getElem_of_mem hx'
   simp only [List.length_take] at hi
   simp only [List.getElem_take] at he
   have hpw:=List.pairwise_iff_getElem.1 h
   have h0:m≠0:=by omega
   simp only [Lib.keeps,h0,false_or,decide_eq_true_eq,ne_eq] at hk
   rw [hget m (by omega),hget (m - 1) (by omega)] at hk
   have hle:x<=ys.getD (m - 1) []:=by
    have e1:ys.getD (m - 1) []=ys[m - 1]'(by omega):=by simp [List.getD,show m - 1<ys.length by omega]
    rw [e1,<-he]
    by_cases e:i=m - 1
    ·subst e; exact List.le_refl _
    ·exact hpw i (m - 1) (by omega) (by omega) (by omega)
   refine bs_le_lt hle (bs_lt_of ?_ (fun e=>hk e.symm))
   have e1:ys.getD (m - 1) []=ys[m - 1]'(by omega):=by simp [List.getD,show m - 1<ys.length by omega]
   have e2:ys.getD m []=ys[m]'(by omega):=by simp [List.getD,show m<ys.length by omega]
   rw [e1,e2]
   exact hpw (m - 1) m (by omega) (by omega) (by omega)
  | false =>
   simp only [Bool.false_eq_true,if_false,List.append_nil]
   refine ⟨h1,fun x=>?_⟩
   rw [h2,List.mem_append]
   refine ⟨.inl,fun hx=>hx.elim id fun hx=>?_⟩
   simp only [List.mem_singleton] at hx
   subst hx
   simp only [Lib.keeps,decide_eq_false_iff_not,not_or,ne_eq,Classical.not_not] at hk
   have h0:m≠0:=hk.1
   have he:=hk.2
   rw [hget m (by omega),hget (m - 1) (by omega)] at he
   rw [he]
   have:ys.getD (m - 1) []=(ys.take m)[m - 1]'(by simp; omega):=by simp [List.getD,show m - 1<ys.length by omega]
   rw [this]
   exact List.getElem_mem _
def sortU (l:List Bs):List Bs:=Lib.compact (sortB l)
theorem sortU_strict (l:List Bs):Strict (sortU l):=(Zt (sortB_le l) _ (Nat.le_refl _)).1
theorem sortU_mem (l:List Bs) (x:Bs):x∈sortU l↔x∈l:=by
 have:=(Zt (sortB_le l) _ (Nat.le_refl _)).2 x
 rw [List.take_length,sortB_mem] at this
 exact this
theorem sortU_of {a l:List Bs} (h:Strict a) (k:∀ x,x∈a↔x∈l):a=sortU l:=strict_uniq h (sortU_strict l) fun x=>(k x).trans (sortU_mem l x).symm
theorem compactUpTo_len {α:Type} [Inhabited α] [DecidableEq α] (d:Array α) (m:Nat):(Lib.compactUpTo d m).length<=m:=by
 unfold Lib.compactUpTo
 rw [List.length_map]
 exact Nat.le_trans (List.length_filter_le _ _) (by simp)
theorem sortU_length (l:List Bs):(sortU l).length<=l.length:=by
 have h:=compactUpTo_len (sortB l).toArray (sortB l).length
 have h2:(sortB l).length=l.length:=List.length_mergeSort l
 unfold sortU Lib.compact
 omega
theorem strict_insert {out:List Bs} {x:Bs} {k:Nat} (h:Strict out) (hk:k<=out.length) (h1:∀ j,j<k->out.getD j []<x) (h2:k<out.length->x<out.getD k []):Strict (out.take k++([x]++out.drop k)):=by
 have hp:=List.pairwise_iff_getElem.1 h
 refine List.pairwise_append.2 ⟨List.Pairwise.take h,List.pairwise_append.2 ⟨List.pairwise_singleton _ _,List.Pairwise.drop h,fun a ha b hb=>?_⟩,fun a ha b hb=>?_⟩
 ·simp only [List.mem_singleton] at ha
  subst ha
  obtain ⟨i,hi,rfl⟩:=List.getElem_of_mem hb
  simp only [List.length_drop] at hi
  rw [List.getElem_drop]
  have hk':k<out.length:=by omega
  have e:out.getD k []=out[k]:=by simp [List.getD,hk']
  have h3:=h2 hk'
  rw [e] at h3
  by_cases h0:i=0
  ·subst h0; exact h3
  ·exact List.lt_trans h3 (hp k (k+i) hk' (by omega) (by omega))
 ·obtain ⟨i,hi,rfl⟩:=List.getElem_of_mem ha
  simp only [List.length_take] at hi
  rw [List.getElem_take]
  have h3:out[i]'(by omega)<x:=by
   have:=h1 i (by omega)
   rwa [show out.getD i []=out[i]'(by omega) by simp [List.getD,show i<out.length by omega]] at this
  rcases List.mem_append.1 hb with hb | hb
  ·simp only [List.mem_singleton] at hb
   subst hb; exact h3
  ·obtain ⟨j,hj,rfl⟩:=List.getElem_of_mem hb
   simp only [List.length_drop] at hj
   rw [List.getElem_drop]
   exact hp i (k+j) (by omega) (by omega) (by omega)
end
 
section
open Go Go.RowKit
theorem amongTexts_M {l:List Bs} {s:Bs} {K:Int->Prop} (hl:l.length<=1000000000) (h0:s∉l->K (-1)) (h1:∀ i:Int,0<=i->s∈l->K i):jk l s K:=by
 intro _
 refine ⟨fun i=>0<=i/\i<=l.length/\∀ j,j<i.toNat->l.getD j []≠s,fun i=>l.length - i.toNat,⟨by omega,by omega,by intro j hj; simp at hj⟩,fun i ⟨a0,a1,a2⟩=>⟨fun hlt=>⟨by omega,fun he=>?_,fun hne=>⟨by simp only [In]; omega,⟨by omega,by omega,fun j hj=>?_⟩,by (try dsimp only); omega⟩⟩,fun hge=>?_⟩⟩
 ·refine h1 i a0 ?_
  rw [<-he]
  exact jf (by omega)
 ·by_cases e:j=i.toNat
  ·rw [e]; exact hne
  ·exact a2 j (by omega)
 ·refine h0 fun hm=>?_
  obtain ⟨j,hj,he⟩:=List.getElem_of_mem hm
  refine a2 j (by omega) ?_
  simp [List.getD,hj,he]
theorem bytesLess_lt (a b:Bs):Op.bytesLess a b=decide (a<b):=bytesLess_eq a b
theorem sortedTexts_M {l:List Bs} {K:List Bs->Prop} (hl:l.length<=1000000) (h:K (sortU l)):jH l K:=by
 intro _
 refine ⟨fun out i=>0<=i/\i<=l.length/\Strict out/\(∀ x,x∈out↔x∈l.take i.toNat)/\out.length<=i.toNat,fun _ i=>l.length - i.toNat,⟨by omega,by omega,List.Pairwise.nil,by simp,by simp⟩,fun out i ⟨a0,a1,a2,a3,a4⟩=>⟨fun hlt=>?_,fun hge=>?_⟩⟩
 ·generalize hx:l.getD i.toNat []=x
  have htk:∀ y,y∈l.take (i+1).toNat↔y∈l.take i.toNat∨y=x:=fun y=>by
   rw [show (i+1).toNat=i.toNat+1 by omega,List.take_succ_eq_append_getElem (by omega),List.mem_append,List.mem_singleton,<-hx]
   simp [List.getD,show i.toNat<l.length by omega]
  refine ⟨fun o=>Strict o/\(∀ y,y∈o↔y∈l.take (i+1).toNat)/\o.length<=i.toNat+1,?_,fun o ⟨h1,h2,h3⟩=>⟨by simp only [In]; omega,⟨by omega,by omega,h1,h2,by omega⟩,by (try dsimp only); omega⟩⟩
  refine ⟨fun k=>0<=k/\k<=out.length/\∀ j,j<k.toNat->out.getD j []<x,fun k=>out.length - k.toNat,⟨by omega,by omega,by intro j hj; simp at hj⟩,fun k ⟨b0,b1,b2⟩=>⟨fun hd=>?_,fun hd=>?_,fun hc=>?_,fun hc=>⟨fun hd=>?_,fun hd=>?_,fun he=>?_,fun he=>?_⟩⟩⟩
  ·simp only [decide_eq_true_eq] at hd; omega
  ·omega
  ·rw [Bool.and_eq_true,bytesLess_lt,decide_eq_true_eq,decide_eq_true_eq] at hc
   refine ⟨by simp only [In]; omega,⟨by omega,by omega,fun j hj=>?_⟩,by (try dsimp only); omega⟩
   by_cases e:j=k.toNat
   ·rw [e]; exact hc.2
   ·exact b2 j (by omega)
  ·simp only [decide_eq_true_eq] at hd; omega
  ·omega
  ·rw [Bool.and_eq_true,decide_eq_true_eq,decide_eq_true_eq] at he
   refine ⟨a2,fun y=>?_,by omega⟩
   rw [htk,a3]
   refine ⟨.inl,fun h=>h.elim id fun h=>?_⟩
   rw [h,<-a3,<-he.2]
   exact jf (by omega)
  ·have hlen:(out.take k.toNat).length=k.toNat:=by simp; omega
   refine ⟨by simp only [In]; omega,by omega,by omega,?_,by omega,?_,by omega,?_,?_⟩
   ·simp only [List.length_nil,hlen]; omega
   ·simp only [List.nil_append,List.length_cons,List.length_nil,hlen]; omega
   ·simp only [List.nil_append,List.length_append,List.length_cons,List.length_nil,List.length_drop,hlen]; omega
   ·rw [List.nil_append,List.append_assoc]
    refine ⟨strict_insert a2 (by omega) b2 fun hk=>?_,fun y=>?_,?_⟩
    ·have hk':k<out.length:=by omega
     rw [bytesLess_lt,decide_eq_true hk',Bool.true_and,decide_eq_false_iff_not] at hc
     rw [decide_eq_true hk',Bool.true_and,decide_eq_false_iff_not] at he
     rcases bs_lt_or (out.getD k.toNat []) x with h1 | h1 | h1
     ·exact absurd h1 hc
     ·exact absurd h1 he
     ·exact h1
    ·rw [htk,<-a3,List.mem_append,List.mem_append,List.mem_singleton]
     conv=>rhs; lhs; rw [<-List.take_append_drop k.toNat out,List.mem_append]
     constructor
     ·rintro (h | h | h)
      ·exact .inl (.inl h)
      ·exact .inr h
      ·exact .inl (.inr h)
     ·rintro ((h | h) | h)
      ·exact .inl h
      ·exact .inr (.inr h)
      ·exact .inr (.inl h)
    ·simp only [List.length_append,List.length_cons,List.length_nil,List.length_drop,hlen]; omega
 ·have e:i.toNat=l.length:=by omega
  rw [e,List.take_length] at a3
  rw [sortU_of a2 a3]
  exact h
end
 
section
open Go
structure LtT {α:Type} (lt:α->α->Bool):Prop where
 irrefl:∀ x,lt x x=false
 trans:∀ x y z,lt x y=true->lt y z=true->lt x z=true
 tot:∀ x y,lt x y=false->lt y x=false->x=y
section
variable {α:Type} {lt:α->α->Bool}
theorem LtT.asymm (T:LtT lt) {x y:α} (h:lt x y=true):lt y x=false:=by
 cases k:lt y x with
 | false=>rfl
 | true=>have:=T.trans x y x h k; rw [T.irrefl] at this; cases this
theorem LtT.ntrans (T:LtT lt) (x y z:α) (h:lt x y=false) (k:lt y z=false):lt x z=false:=by
 cases e:lt x z with
 | false=>rfl
 | true =>
  cases f:lt z y with
  | true=>rw [T.trans x z y e f] at h; cases h
  | false=>have:=T.tot y z k f; subst this; rw [e] at h; cases h
theorem LtT.le_lt (T:LtT lt) {x y z:α} (h:lt y x=false) (k:lt y z=true):lt x z=true:=by
 cases e:lt x y with
 | true=>exact T.trans x y z e k
 | false=>have:=T.tot x y e h; subst this; exact k
def StrictG (lt:α->α->Bool) (l:List α):Prop:=l.Pairwise fun a b=>lt a b=true
theorem StrictG.nodup (T:LtT lt) {l:List α} (h:StrictG lt l):l.Nodup:=List.Pairwise.imp (fun {a b} (hab:lt a b=true) (e:a=b)=>by rw [e,T.irrefl] at hab; cases hab) h
theorem strictG_uniq (T:LtT lt):∀ {a b:List α},StrictG lt a->StrictG lt b->(∀ x,x∈a↔x∈b)->a=b
 | [],[],_,_,_=>rfl
 | [],y :: b,_,_,h=>by have:=(h y).2 (by simp); simp at this
 | x :: a,[],_,_,h=>by have:=(h x).1 (by simp); simp at this
 | x :: a,y :: b,ha,hb,h=>by
  have ha':=List.pairwise_cons.1 ha
  have hb':=List.pairwise_cons.1 hb
  have hxy:x=y:=by
   rcases List.mem_cons.1 ((h x).1 (by simp)) with e | hx
   ·exact e
   ·rcases List.mem_cons.1 ((h y).2 (by simp)) with e | hy
    ·exact e.symm
    ·have h1:=T.asymm (hb'.1 x hx); rw [ha'.1 y hy] at h1; cases h1
  subst hxy
  rw [strictG_uniq T ha'.2 hb'.2 (fun z=>?_)]
  constructor
  ·intro hz
   rcases List.mem_cons.1 ((h z).1 (by simp [hz])) with e | hz'
   ·subst e; have:=ha'.1 z hz; rw [T.irrefl] at this; cases this
   ·exact hz'
  ·intro hz
   rcases List.mem_cons.1 ((h z).2 (by simp [hz])) with e | hz'
   ·subst e; have:=hb'.1 z hz; rw [T.irrefl] at this; cases this
   ·exact hz'
def sortG (lt:α->α->Bool) (l:List α):List α:=l.mergeSort fun x y => !(lt y x)
theorem sortG_le (T:LtT lt) (l:List α):(sortG lt l).Pairwise fun a b=>lt b a=false:=by
 have h:=List.pairwise_mergeSort (le:=fun (x y:α) => !(lt y x)) (fun a b c h k=>by
  simp only [Bool.not_eq_true'] at h k |-
  exact T.ntrans c b a k h) (fun a b=>by
  cases e:lt b a with
  | false=>simp
  | true=>simp [T.asymm e]) l
 exact h.imp fun h=>by simpa using h
theorem sortG_perm (l:List α):(sortG lt l).Perm l:=List.mergeSort_perm l _
theorem sortG_mem (l:List α) (x:α):x∈sortG lt l↔x∈l:=(sortG_perm l).mem_iff
theorem sortG_length (l:List α):(sortG lt l).length=l.length:=List.length_mergeSort l
theorem Zo [Inhabited α] [DecidableEq α] (T:LtT lt) {ys:List α} (h:ys.Pairwise fun a b=>lt b a=false):∀ m,m<=ys.length->StrictG lt (Lib.compactUpTo ys.toArray m)/\∀ x,x∈Lib.compactUpTo ys.toArray m↔x∈ys.take m
 | 0,_=>⟨List.Pairwise.nil,fun x=>by simp [Lib.compactUpTo]⟩
 | m+1,hm=>by
  obtain ⟨h1,h2⟩:=Zo T h m (by omega)
  have hget:∀ i,(hi:i<ys.length)->ys.toArray[i]! = ys[i]:=fun i hi=>by simp [hi]
  have hlast:ys.take (m+1)=ys.take m++[ys[m]'(by omega)]:=by rw [List.take_succ_eq_append_getElem (by omega)]
  rw [Lib.compactUpTo_succ,hlast,hget m (by omega)]
  have hpw:=List.pairwise_iff_getElem.1 h
  cases hk:Lib.keeps ys.toArray m with
  | true =>
   simp only [if_true]
   refine ⟨List.pairwise_append.2 ⟨h1,List.pairwise_singleton _ _,fun x hx y hy=>?_⟩,fun x=>by rw [List.mem_append,List.mem_append,h2]⟩
   simp only [List.mem_singleton] at hy
   subst hy
   have hx':=(h2 x).1 hx
   obtain ⟨i,hi,he⟩:=List.getElem_of_mem hx'
   simp only [List.length_take] at hi
   simp only [List.getElem_take] at he
   have h0:m≠0:=by omega
   simp only [Lib.keeps,h0,false_or,decide_eq_true_eq,ne_eq] at hk
   rw [hget m (by omega),hget (m - 1) (by omega)] at hk
   have hle:lt (ys[m - 1]'(by omega)) x=false:=by
    rw [<-he]
    by_cases e:i=m - 1
    ·subst e; exact T.irrefl _
    ·exact hpw i (m - 1) (by omega) (by omega) (by omega)
   have h3:=hpw (m - 1) m (by omega) (by omega) (by omega)
   have h4:lt (ys[m - 1]'(by omega)) (ys[m]'(by omega))=true:=by
    cases e:lt (ys[m - 1]'(by omega)) (ys[m]'(by omega)) with
    | true=>rfl
    | false=>exact absurd (T.tot _ _ h3 e) hk
   exact T.le_lt hle h4
  | false =>
   simp only [Bool.false_eq_true,if_false,List.append_nil]
   refine ⟨h1,fun x=>?_⟩
   rw [h2,List.mem_append]
   refine ⟨.inl,fun hx=>hx.elim id fun hx=>?_⟩
   simp only [List.mem_singleton] at hx
   subst hx
   simp only [Lib.keeps,decide_eq_false_iff_not,not_or,ne_eq,Classical.not_not] at hk
   have h0:m≠0:=hk.1
   have he:=hk.2
   rw [hget m (by omega),hget (m - 1) (by omega)] at he
   rw [he]
   have:ys[m - 1]'(by omega)=(ys.take m)[m - 1]'(by simp; omega):=by simp
   rw [this]
   exact List.getElem_mem _
def uniqG [Inhabited α] [DecidableEq α] (lt:α->α->Bool) (l:List α):List α:=Lib.compact (sortG lt l)
theorem uniqG_strict [Inhabited α] [DecidableEq α] (T:LtT lt) (l:List α):StrictG lt (uniqG lt l):=(Zo T (sortG_le T l) _ (Nat.le_refl _)).1
theorem uniqG_mem [Inhabited α] [DecidableEq α] (T:LtT lt) (l:List α) (x:α):x∈uniqG lt l↔x∈l:=by
 have:=(Zo T (sortG_le T l) _ (Nat.le_refl _)).2 x
 rw [List.take_length,sortG_mem] at this
 exact this
end
theorem cB_neg:∀ a b:List UInt8,Lib.compareBytes a b<0↔a<b
 | [],[]=>by simp [Lib.compareBytes]
 | [],_ :: _=>by simp [Lib.compareBytes]
 | _ :: _,[]=>by simp [Lib.compareBytes]
 | a :: l,b :: r=>by
  unfold Lib.compareBytes
  rw [List.cons_lt_cons_iff]
  split
  ·rename_i h; simp [h]
  ·split
   ·rename_i h k
    constructor
    ·intro e; omega
    ·rintro (e | ⟨rfl,_⟩)
     ·exact absurd e h
     ·exact absurd k h
   ·rename_i h k
    have e:a=b:=UInt8.le_antisymm (UInt8.not_lt.1 k) (UInt8.not_lt.1 h)
    subst e
    rw [cB_neg l r]
    simp [h]
end
 
section
open Go Go.RowKit
abbrev TL:=List (List UInt8)
abbrev GAct:=Int × TL × TL × List UInt8
abbrev MK:=List (List UInt8 × Int)
def az:GAct:=(0,[],[],[])
theorem clone_M {s:TL} {K:TL->Prop} (hs:s.length<=1000000000) (h:K s):jc s K:=by
 intro _
 exact ⟨fun e=>e ▸ h,by simp only [List.length_nil]; omega,by rw [List.nil_append]; exact h⟩
theorem cloneI_M {s:List Int} {K:List Int->Prop} (hs:s.length<=1000000000) (h:K s):jv s K:=by
 intro _
 exact ⟨fun e=>e ▸ h,by simp only [List.length_nil]; omega,by rw [List.nil_append]; exact h⟩
theorem gtexts_M {l:TL} {K:TL->Prop} (hl:l.length<=1000000000) (h:K l):kq l K:=by
 intro _
 refine ⟨by omega,fun out i=>0<=i/\i<=l.length/\out=l.take i.toNat,fun _ i=>l.length - i.toNat,⟨by omega,by omega,by simp⟩,fun out i ⟨h0,h1,h2⟩=>⟨fun hlt=>⟨by omega,?_,by simp only [In]; omega,⟨by omega,by omega,?_⟩,by (try dsimp only); omega⟩,fun hge=>?_⟩⟩
 ·subst h2
  simp only [List.length_take,List.length_cons,List.length_nil]
  omega
 ·subst h2
  rw [show (i+1).toNat=i.toNat+1 by omega,List.take_succ_eq_append_getElem (by omega)]
  simp [List.getD,show i.toNat<l.length by omega]
 ·have:i.toNat=l.length:=by omega
  rw [h2,this,List.take_length]
  exact h
theorem sameInts_M {a b:List Int} {K:Bool->Prop} (ha:a.length<=1000000000) (h:K (decide (a=b))):kp a b K:=by
 intro _ _
 refine ⟨fun hne=>?_,fun he=>?_⟩
 ·have:a≠b:=fun e=>hne (by rw [e])
  rwa [decide_eq_false this] at h
 ·refine ⟨fun i=>0<=i/\i<=a.length/\∀ j,j<i.toNat->a.getD j 0=b.getD j 0,fun i=>a.length - i.toNat,⟨by omega,by omega,by intro j hj; simp at hj⟩,fun i ⟨h0,h1,h2⟩=>⟨fun hlt=>⟨by omega,by omega,fun hne=>?_,fun heq=>⟨by simp only [In]; omega,⟨by omega,by omega,fun j hj=>?_⟩,by (try dsimp only); omega⟩⟩,fun hge=>?_⟩⟩
  ·have:a≠b:=fun e=>hne (by rw [e])
   rwa [decide_eq_false this] at h
  ·by_cases e:j=i.toNat
   ·rw [e]; exact heq
   ·exact h2 j (by omega)
  ·have e:a=b:=List.ext_getElem (by omega) fun j h3 h4=>by
    have:=h2 j (by omega)
    simpa [List.getD,h3,h4] using this
   rw [decide_eq_true e] at h
   exact h
theorem copied_M {t:Int} {a i:TL} {o:List UInt8} {K:Int->TL->TL->List UInt8->Prop} (ha:a.length<=1000000) (hi:i.length<=1000000) (h:K t a i o):Za t a i o K:=by
 intro _ _
 exact clone_M (by omega) (clone_M (by omega) h)
def inval (xs:TL):Bool:=xs.any fun s => !jr s
theorem any_take {α:Type} {p:α->Bool} {xs:List α} {d:α} (h:∀ j,j<xs.length->p (xs.getD j d)=false):xs.any p=false:=by
 rw [List.any_eq_false]
 intro x hx
 obtain ⟨j,hj,rfl⟩:=List.getElem_of_mem hx
 have:=h j hj
 simp only [List.getD,List.getElem?_eq_getElem hj,Option.getD_some] at this
 simp [this]
theorem qT {α:Type} {l:List α} {k:Nat} {d:α} (h:k<l.length):l.getD k d∈l:=by simp [List.getD,h]
theorem contF_M {xs:TL} {K:Bool->Prop} (hl:xs.length<=1000000) (hx:∀ s∈xs,s.length<=4000000000) (h:K (inval xs)):qM xs K:=by
 intro _ _
 refine ⟨fun i=>0<=i/\i<=xs.length/\∀ j,j<i.toNat->(!jr (xs.getD j []))=false,fun i=>xs.length - i.toNat,⟨by omega,by omega,by intro j hj; simp at hj⟩,fun i ⟨a0,a1,a2⟩=>⟨fun hlt=>⟨⟨a0,hlt⟩,valid_M (hx _ (qT (by omega))) ⟨fun ht=>?_,fun hf=>⟨by simp only [In]; omega,⟨by omega,by omega,fun j hj=>?_⟩,by (try dsimp only); omega⟩⟩⟩,fun hge=>?_⟩⟩
 ·have:inval xs=true:=List.any_eq_true.2 ⟨_,qT (by omega),ht⟩
  rw [this] at h
  show K (decide (0<=i))
  rw [decide_eq_true a0]; exact h
 ·by_cases e:j=i.toNat
  ·rw [e]; exact hf
  ·exact a2 j (by omega)
 ·have:inval xs=false:=any_take (d:=[]) fun j hj=>a2 j (by omega)
  rw [this] at h
  exact h
def fitsP (mk:MK) (a:GAct):Er :=
 if a.1<1∨5<a.1 then .e 10 else if jr a.2.2.2=false∨inval a.2.2.1=true then .e 11 else if (mget mk a.2.2.2).isSome=true then .e 6 else .ok
theorem fits_M {gl:List GAct} {mk:MK} {gb ga:List (List Int)} {a:GAct} {K:Er->Prop} (hi:a.2.2.1.length<=1000000) (hx:∀ s∈a.2.2.1,s.length<=4000000000) (ho:a.2.2.2.length<=4000000000) (h:K (fitsP mk a)):kw gl mk gb ga a.1 a.2.1 a.2.2.1 a.2.2.2 K:=by
 intro _ _ _ _ _
 unfold fitsP at h
 refine ⟨fun hb=>?_,fun hb=>?_⟩
 ·have:a.1<1∨5<a.1:=by simpa using hb
  rwa [if_pos this] at h
 ·have:¬ (a.1<1∨5<a.1):=fun hn=>by
   rw [Bool.or_eq_false_iff,decide_eq_false_iff_not,decide_eq_false_iff_not] at hb
   exact hn.elim hb.1 hb.2
  rw [if_neg this] at h
  refine valid_M ho ⟨fun b=>b=decide (jr a.2.2.2=false∨inval a.2.2.1=true),⟨fun hv=>?_,fun hv=>contF_M hi hx ?_⟩,fun q hq=>⟨fun ht=>?_,fun hf=>⟨by unfold maxLen; omega,fun hs=>?_,fun hs=>?_⟩⟩⟩
  ·have:jr a.2.2.2=false:=by simpa using hv
   rw [decide_eq_true (.inl this)]
  ·have hv':jr a.2.2.2=true:=by simpa using hv
   cases hin:inval a.2.2.1 <;> simp [hv']
  ·rw [hq,decide_eq_true_eq] at ht
   rwa [if_pos ht] at h
  ·rw [hq,decide_eq_false_iff_not] at hf
   rwa [if_neg hf,if_pos hs] at h
  ·rw [hq,decide_eq_false_iff_not] at hf
   rwa [if_neg hf,if_neg (by rw [hs]; simp)] at h
def manyA (a:GAct):Bool:=decide ((1000:Int)<(a.2.2.1.length:Int)) || decide ((1000:Int)<(a.2.1.length:Int))
theorem contA_M {l:List GAct} {K:Bool->Prop} (hl:l.length<=1000000) (h:K (l.any manyA)):qL l K:=by
 intro _ _
 refine ⟨fun i=>0<=i/\i<=l.length/\∀ j,j<i.toNat->manyA (l.getD j az)=false,fun i=>l.length - i.toNat,⟨by omega,by omega,by intro j hj; simp at hj⟩,fun i ⟨a0,a1,a2⟩=>⟨fun hlt=>⟨⟨a0,hlt⟩,fun _ _=>⟨fun ht=>?_,fun hf=>⟨by simp only [In]; omega,⟨by omega,by omega,fun j hj=>?_⟩,by (try dsimp only); omega⟩⟩⟩,fun hge=>?_⟩⟩
 ·have:l.any manyA=true:=List.any_eq_true.2 ⟨_,qT (d:=az) (by omega),ht⟩
  rw [this] at h
  show K (decide (0<=i))
  rw [decide_eq_true a0]; exact h
 ·by_cases e:j=i.toNat
  ·rw [e]; exact hf
  ·exact a2 j (by omega)
 ·have:l.any manyA=false:=any_take (d:=az) fun j hj=>a2 j (by omega)
  rw [this] at h
  exact h
theorem jI {α:Type} {l:List α} {i j:Nat} {x d:α} (hi:i<l.length):(l.set i x).getD j d=if i=j then x else l.getD j d:=by
 simp only [List.getD,List.getElem?_set]
 by_cases e:i=j
 ·subst e; simp [hi]
 ·simp [e]
inductive Rch (bef:List (List Int)) (fr:List Int):Int->Prop
 | base {k:Int}:k∈fr->Rch bef fr k
 | step {j k:Int}:Rch bef fr j->k∈bef.getD j.toNat []->Rch bef fr k
def unm (bef:List (List Int)) (met:List Bool):Nat->Nat
 | 0=>0
 | m+1=>unm bef met m+if met.getD m false=true then 0 else (bef.getD m []).length
def tot (bef:List (List Int)):Nat->Nat
 | 0=>0
 | m+1=>tot bef m+(bef.getD m []).length
theorem unm_le (bef:List (List Int)) (met:List Bool):∀ m,unm bef met m<=tot bef m
 | 0=>Nat.le_refl _
 | m+1=>by
  have:=unm_le bef met m
  unfold unm tot
  split <;> omega
theorem unm_set (bef:List (List Int)) {met:List Bool} {k:Nat} (hk:k<met.length) (hf:met.getD k false=false):∀ m,m<=met.length->unm bef (met.set k true) m+(if k<m then (bef.getD k []).length else 0)=unm bef met m
 | 0,_=>by rw [if_neg (Nat.not_lt_zero _)]; rfl
 | m+1,h=>by
  have ih:=unm_set bef hk hf m (by omega)
  unfold unm
  rw [jI hk]
  by_cases e:k=m
  ·subst e
   rw [if_neg (Nat.lt_irrefl _)] at ih
   rw [if_pos rfl,if_pos rfl,if_pos (by omega),hf]
   simp only [Bool.false_eq_true,if_false]
   omega
  ·rw [if_neg e]
   generalize (if met.getD m false=true then 0 else (bef.getD m []).length)=z
   by_cases h2:k<m
   ·have h3:k<m+1:=by omega
    rw [if_pos h2] at ih
    rw [if_pos h3]; omega
   ·have h3:¬ k<m+1:=by omega
    rw [if_neg h2] at ih
    rw [if_neg h3]; omega
theorem reach_M {gl:List GAct} {mk:MK} {bef ga:List (List Int)} {fr:List Int} {K:List Bool->Prop} (hn:gl.length<=1000000) (hb:bef.length=gl.length) (hr:∀ j,j<bef.length->∀ k∈bef.getD j [],0<=k/\k<gl.length) (hf:∀ k∈fr,0<=k/\k<(gl.length:Int)) (hs:fr.length+tot bef gl.length<=100000000)
  (h:∀ met:List Bool,met.length=gl.length->(∀ k:Nat,k<gl.length->(met.getD k false=true↔Rch bef fr k))->K met):ki gl mk bef ga fr K:=by
 intro _ _ _ _
 refine ⟨⟨by omega,by omega,by omega⟩,cloneI_M (by omega) ?_⟩
 refine ⟨fun work met=>met.length=gl.length/\(∀ k∈work,Rch bef fr k/\0<=k/\k<(gl.length:Int))/\(∀ k:Nat,k<gl.length->met.getD k false=true->Rch bef fr k)/\(∀ f∈fr,f∈work∨met.getD f.toNat false=true)/\(∀ k:Nat,k<gl.length->met.getD k false=true->∀ j∈bef.getD k [],j∈work∨met.getD j.toNat false=true)/\work.length+unm bef met gl.length<=fr.length+tot bef gl.length,fun work met=>work.length+unm bef met gl.length,⟨by simp,fun k hk=>⟨.base hk,hf k hk⟩,fun k hk hm=>?_,fun f hf=>.inl hf,fun k hk hm=>?_,?_⟩,fun work met ⟨a0,a1,a2,a3,a4,a5⟩ _=>⟨fun hpos=>?_,fun hz=>?_⟩⟩
 ·simp [List.getD,List.getElem?_replicate,hk] at hm
 ·simp [List.getD,List.getElem?_replicate,hk] at hm
 ·have:=unm_le bef (List.replicate (gl.length:Int).toNat false) gl.length
  omega
 ·have hne:work≠[]:=fun e=>by rw [e] at hpos; simp at hpos
  obtain ⟨w',k,rfl⟩:∃ w' k,work=w'++[k]:=⟨work.dropLast,work.getLast hne,(List.dropLast_concat_getLast hne).symm⟩
  have hwl:(w'++[k]).length=w'.length+1:=by simp
  have ht:(((w'++[k]).length:Int) - 1).toNat=w'.length:=by omega
  have hg:(w'++[k]).getD w'.length 0=k:=by simp [List.getD]
  have htk:(w'++[k]).take w'.length=w':=List.take_left' rfl
  obtain ⟨k1,k2,k3⟩:=a1 k (by simp)
  have hkn:k.toNat<gl.length:=by omega
  have hkk:((k.toNat:Nat):Int)=k:=by omega
  have hnn:((gl.length:Int).toNat:Int)=gl.length:=by omega
  rw [ht,hg,htk]
  refine ⟨by simp only [In]; omega,⟨by omega,by omega⟩,by simp only [In]; omega,⟨by omega,by omega⟩,⟨k2,by omega⟩,fun hm=>?_,fun hm=>?_⟩
  ·have hm':met.getD k.toNat false=false:=by simpa using hm
   have hu:=unm_set bef (met:=met) (by omega) hm' gl.length (by omega)
   rw [if_pos hkn] at hu
   refine ⟨⟨k2,by omega⟩,⟨k2,by omega⟩,by omega,⟨by rw [List.length_set,a0],fun j hj=>?_,fun j hj hmj=>?_,fun f hf=>?_,fun j hj hmj x hx=>?_,by rw [List.length_append]; omega⟩,by (try dsimp only); rw [List.length_append]; omega⟩
   ·rcases List.mem_append.1 hj with hj | hj
    ·exact a1 j (List.mem_append_left _ hj)
    ·exact ⟨.step k1 hj,hr _ (by omega) j hj⟩
   ·rw [jI (by omega)] at hmj
    by_cases e:k.toNat=j
    ·rw [<-e,hkk]; exact k1
    ·rw [if_neg e] at hmj; exact a2 j hj hmj
   ·rcases a3 f hf with hf' | hf'
    ·rcases List.mem_append.1 hf' with hf' | hf'
     ·exact .inl (List.mem_append_left _ hf')
     ·right
      rw [List.mem_singleton.1 hf',jI (by omega),if_pos rfl]
    ·right
     rw [jI (by omega)]
     split
     ·rfl
     ·exact hf'
   ·rw [jI (by omega)] at hmj
    by_cases e:k.toNat=j
    ·rw [<-e] at hx
     exact .inl (List.mem_append_right _ hx)
    ·rw [if_neg e] at hmj
     rcases a4 j hj hmj x hx with hx' | hx'
     ·rcases List.mem_append.1 hx' with hx' | hx'
      ·exact .inl (List.mem_append_left _ hx')
      ·right
       rw [List.mem_singleton.1 hx',jI (by omega),if_pos rfl]
     ·right
      rw [jI (by omega)]
      split
      ·rfl
      ·exact hx'
  ·have hm':met.getD k.toNat false=true:=by simpa using hm
   refine ⟨⟨a0,fun j hj=>a1 j (List.mem_append_left _ hj),a2,fun f hf=>?_,fun j hj hmj x hx=>?_,by omega⟩,by (try dsimp only); omega⟩
   ·rcases a3 f hf with hf' | hf'
    ·rcases List.mem_append.1 hf' with hf' | hf'
     ·exact .inl hf'
     ·right; rw [List.mem_singleton.1 hf']; exact hm'
    ·exact .inr hf'
   ·rcases a4 j hj hmj x hx with hx' | hx'
    ·rcases List.mem_append.1 hx' with hx' | hx'
     ·exact .inl hx'
     ·right; rw [List.mem_singleton.1 hx']; exact hm'
    ·exact .inr hx'
 ·have hw:work=[]:=List.eq_nil_of_length_eq_zero (by omega)
  subst hw
  have hin:∀ k,Rch bef fr k->0<=k/\k<(gl.length:Int)/\met.getD k.toNat false=true:=fun k hk=>by
   induction hk with
   | base hf' =>
    obtain ⟨h1,h2⟩:=hf _ hf'
    exact ⟨h1,h2,(a3 _ hf').resolve_left (by simp)⟩
   | step _ hj ih =>
    obtain ⟨i1,i2,i3⟩:=ih
    obtain ⟨h1,h2⟩:=hr _ (by omega) _ hj
    exact ⟨h1,h2,(a4 _ (by omega) i3 _ hj).resolve_left (by simp)⟩
  exact h met a0 fun k hk=>⟨fun hm=>a2 k hk hm,fun hR=>by have:=(hin _ hR).2.2; simpa using this⟩
end
 
section
open Go Go.RowKit
def ltI (a b:Int):Bool:=decide (a<b)
theorem ltI_T:LtT ltI:=⟨fun x=>by simp [ltI],fun x y z h k=>by simp [ltI] at *; omega,fun x y h k=>by simp [ltI] at *; omega⟩
theorem sortI_eq (xs:List Int):(xs.mergeSort fun x y=>decide (x<=y))=sortG ltI xs:=by
 unfold sortG ltI
 congr 1
 funext x y
 rw [Bool.eq_iff_iff]
 simp
theorem uniqG_len {xs:List Int}:(uniqG ltI xs).length<=xs.length:=by
 unfold uniqG Lib.compact
 have h:=compactUpTo_len (sortG ltI xs).toArray (sortG ltI xs).length
 have h2:=sortG_length (lt:=ltI) xs
 omega
def mkP (l:List GAct):Nat->MK
 | 0=>[]
 | i+1=>mput (mkP l i) (l.getD i az).2.2.2 (i:Int)
def fitsAt (l:List GAct) (i:Nat):Er:=fitsP (mkP l i) (l.getD i az)
def befA (mk:MK) (inp:TL):List Int:=uniqG ltI (inp.filterMap (mget mk))
def bsP (l:List GAct) (i:Nat):List Int:=befA (mkP l l.length) (l.getD i az).2.2.1
def befL (l:List GAct) (m:Nat):List (List Int):=(List.range m).map (bsP l)
def aftK (l:List GAct) (i k:Nat):List Int:=((List.range i).filter fun j=>decide ((k:Int)∈bsP l j)).map fun (j:Nat)=>(j:Int)
def aftL (l:List GAct) (i:Nat):List (List Int):=(List.range l.length).map (aftK l i)
theorem rng_getD {β:Type} {f:Nat->β} {n k:Nat} {d:β} (h:k<n):((List.range n).map f).getD k d=f k:=by simp [List.getD,h]
theorem rng_set {β:Type} {f:Nat->β} {n k:Nat} {v:β}:((List.range n).map f).set k v=(List.range n).map fun j=>if k=j then v else f j:=by
 refine List.ext_getElem (by simp) fun i h1 h2=>?_
 simp only [List.getElem_set,List.getElem_map,List.getElem_range]
theorem mkP_succ (l:List GAct) (i:Nat):mkP l (i+1)=mput (mkP l i) (l.getD i az).2.2.2 (i:Int):=rfl
theorem mkP_len (l:List GAct):∀ i,(mkP l i).length<=i
 | 0=>Nat.le_refl _
 | i+1=>by
  have:=mkP_len l i
  unfold mkP
  rw [mput_len]; split <;> omega
theorem mkP_val {l:List GAct} {s:List UInt8} {v:Int}:∀ {i:Nat},mget (mkP l i) s=some v->∃ j,j<i/\v=(j:Int)/\(l.getD j az).2.2.2=s
 | 0,h=>by simp [mkP,mget] at h
 | i+1,h=>by
  unfold mkP at h
  rw [jX] at h
  split at h
  ·rename_i e
   simp only [Option.some.injEq] at h
   exact ⟨i,by omega,h.symm,e⟩
  ·obtain ⟨j,h1,h2,h3⟩:=mkP_val h
   exact ⟨j,by omega,h2,h3⟩
theorem bsP_mem {l:List GAct} {i:Nat} {k:Int}:k∈bsP l i↔∃ s∈(l.getD i az).2.2.1,mget (mkP l l.length) s=some k:=by
 unfold bsP befA
 rw [uniqG_mem ltI_T,List.mem_filterMap]
theorem bsP_in {l:List GAct} {i:Nat} {k:Int} (h:k∈bsP l i):0<=k/\k<(l.length:Int):=by
 obtain ⟨s,_,hs⟩:=bsP_mem.1 h
 obtain ⟨j,h1,h2,_⟩:=mkP_val hs
 omega
theorem bsP_nodup (l:List GAct) (i:Nat):(bsP l i).Nodup:=StrictG.nodup ltI_T (uniqG_strict ltI_T _)
theorem bsP_len (l:List GAct) (i:Nat):(bsP l i).length<=(l.getD i az).2.2.1.length:=Nat.le_trans uniqG_len (List.length_filterMap_le _ _)
theorem tot_le {bef:List (List Int)} {c:Nat} (h:∀ j,(bef.getD j []).length<=c):∀ m,tot bef m<=c*m
 | 0=>by simp [tot]
 | m+1=>by
  have h1:=tot_le h m
  have h2:=h m
  unfold tot
  rw [Nat.mul_succ]; omega
theorem kf {l:List GAct} {m j:Nat}:(befL l m).getD j []=if j<m then bsP l j else []:=by
 unfold befL
 split
 ·rename_i h; exact rng_getD h
 ·rename_i h
  simp [List.getD,h]
theorem aftK_succ (l:List GAct) (i k:Nat):aftK l (i+1) k=aftK l i k++if (k:Int)∈bsP l i then [(i:Int)] else []:=by
 unfold aftK
 rw [List.range_succ,List.filter_append,List.map_append]
 congr 1
 rw [List.filter_cons,List.filter_nil]
 by_cases h:(k:Int)∈bsP l i
 ·rw [if_pos h,if_pos (decide_eq_true h)]; rfl
 ·rw [if_neg h,if_neg (by simpa using h)]; rfl
theorem aftK_len (l:List GAct) (i k:Nat):(aftK l i k).length<=i:=by
 unfold aftK
 rw [List.length_map]
 exact Nat.le_trans (List.length_filter_le _ _) (by simp)
theorem fitsP_cases (mk:MK) (a:GAct):fitsP mk a=.ok∨∃ n,fitsP mk a=.e n:=by
 unfold fitsP
 split
 ·exact .inr ⟨_,rfl⟩
 ·split
  ·exact .inr ⟨_,rfl⟩
  ·split
   ·exact .inr ⟨_,rfl⟩
   ·exact .inl rfl
theorem jd {α:Type} {xs:List α} {t:Nat} (d:α) (h:t<xs.length):xs.take (t+1)=xs.take t++[xs.getD t d]:=by
 rw [List.take_succ_eq_append_getElem h]
 simp [List.getD,h]
theorem new_M {l:List GAct} {K0:Er->Prop} {K:List GAct->MK->List (List Int)->List (List Int)->Er->Prop} (hl:l.length<=1000000) (hsz:∀ a∈l,(∀ s∈a.2.2.1,s.length<=4000000000)/\a.2.2.2.length<=4000000000)
  (hmany:1000<l.length∨l.any manyA=true->K0 (.e 9))
  (hfit:l.length<=1000->l.any manyA=false->∀ i n,i<l.length->(∀ j,j<i->fitsAt l j=.ok)->fitsAt l i=.e n->K0 (.at_ i n))
  (hcyc:l.length<=1000->l.any manyA=false->(∀ j,j<l.length->fitsAt l j=.ok)->∀ i,i<l.length->(∀ j,j<i->¬ Rch (befL l l.length) (bsP l j) (j:Int))->Rch (befL l l.length) (bsP l i) (i:Int)->K0 (.at_ i 4))
  (hok:l.length<=1000->l.any manyA=false->(∀ j,j<l.length->fitsAt l j=.ok)->(∀ j,j<l.length->¬ Rch (befL l l.length) (bsP l j) (j:Int))->K l (mkP l l.length) (befL l l.length) (aftL l l.length) .ok):kZ l K0 K:=by
 intro _
 refine ⟨fun b=>b=(decide ((1000:Int)<(l.length:Int)) || l.any manyA),⟨fun h=>by rw [h]; rfl,fun h=>contA_M (by omega) (by rw [h]; rfl)⟩,fun q hq=>⟨fun ht=>hmany ?_,fun hf=>?_⟩⟩
 ·rw [hq,Bool.or_eq_true,decide_eq_true_eq] at ht
  exact ht.imp (fun h=>by omega) id
 rw [hq,Bool.or_eq_false_iff,decide_eq_false_iff_not] at hf
 have hl1:l.length<=1000:=by omega
 have hm:=hf.2
 have hfit:=hfit hl1 hm
 have hcyc:=hcyc hl1 hm
 have hok:=hok hl1 hm
 have hge:∀ i,i<l.length->(∀ s∈(l.getD i az).2.2.1,s.length<=4000000000)/\(l.getD i az).2.2.2.length<=4000000000/\(l.getD i az).2.2.1.length<=1000/\(l.getD i az).2.1.length<=1000:=fun i hi=>by
  have h1:=hsz _ (qT (d:=az) hi)
  have h2:=List.any_eq_false.1 hm _ (qT (d:=az) hi)
  have h3:manyA (l.getD i az)=false:=by simpa using h2
  unfold manyA at h3
  rw [Bool.or_eq_false_iff,decide_eq_false_iff_not,decide_eq_false_iff_not] at h3
  exact ⟨h1.1,h1.2,by omega,by omega⟩
 clear hf hm hmany hq
 refine ⟨fun i l' mk=>0<=i/\i<=l.length/\l'=l.take i.toNat/\mk=mkP l i.toNat/\∀ j,j<i.toNat->fitsAt l j=.ok,fun i _ _=>l.length - i.toNat,⟨by omega,by omega,rfl,rfl,fun j hj=>by simp at hj⟩,fun i l' mk ⟨a0,a1,a2,a3,a4⟩=>⟨fun hlt=>?_,fun hge2=>?_⟩⟩
 ·have hi:i.toNat<l.length:=by omega
  obtain ⟨g1,g2,g3,g4⟩:=hge _ hi
  have hii:(i.toNat:Int)=i:=by omega
  have hml:=mkP_len l i.toNat
  refine ⟨⟨a0,hlt⟩,fits_M (a:=l.getD i.toNat az) (by omega) g1 g2 ⟨fun hne=>?_,fun he=>⟨⟨by unfold maxLen; exact Nat.le_trans g2 (by omega),by unfold maxLen; rw [a3]; omega⟩,copied_M (by show (l.getD i.toNat az).2.1.length<=_; omega) (by show (l.getD i.toNat az).2.2.1.length<=_; omega) ⟨?_,by simp only [In]; omega,⟨by omega,by omega,?_,?_,fun j hj=>?_⟩,by (try dsimp only); omega⟩⟩⟩⟩
  ·rw [a3] at hne
   rcases fitsP_cases (mkP l i.toNat) (l.getD i.toNat az) with h | ⟨n,h⟩
   ·exact absurd h hne
   ·refine ⟨n,by rw [a3]; exact h,?_⟩
    have:=hfit i.toNat n hi a4 h
    rwa [hii] at this
  ·rw [a2,List.length_take,List.length_singleton]; omega
  ·rw [show (i+1).toNat=i.toNat+1 by omega,List.take_succ_eq_append_getElem hi,a2]
   have:l.getD i.toNat az=l[i.toNat]:=by simp [List.getD,hi]
   show l.take i.toNat++[l.getD i.toNat az]=_
   rw [this]
  ·rw [show (i+1).toNat=i.toNat+1 by omega,a3]
   rw [mkP_succ,hii]; rfl
  ·by_cases e:j=i.toNat
   ·rw [e]; rw [a3] at he; exact he
   ·exact a4 j (by omega)
 ·obtain rfl:i=l.length:=by omega
  have e1:l'=l:=by rw [a2]; simp
  have e2:mk=mkP l l.length:=by rw [a3]; simp
  have hfits:∀ j,j<l.length->fitsAt l j=.ok:=fun j hj=>a4 j (by omega)
  rw [e1,e2]
  clear a0 a1 a2 a3 a4 e1 e2 hge2 hfit
  have hnn:((l.length:Nat):Int).toNat=l.length:=by omega
  have hbin:∀ i,i<l.length->(bsP l i).length<=1000:=fun i hi=>Nat.le_trans (bsP_len l i) (hge i hi).2.2.1
  rw [hnn]
  refine ⟨⟨by omega,by omega,by omega⟩,fun i bef aft=>0<=i/\i<=l.length/\bef=befL l i.toNat/\aft=aftL l i.toNat,fun i _ _=>l.length - i.toNat,⟨by omega,by omega,rfl,?_⟩,fun i bef aft ⟨a0,a1,a2,a3⟩=>⟨fun hlt=>?_,fun hge2=>?_⟩⟩
  ·unfold aftL
   refine List.ext_getElem (by simp) fun k h1 h2=>?_
   simp [aftK]
  ·have hi:i.toNat<l.length:=by omega
   have hii:(i.toNat:Int)=i:=by omega
   obtain ⟨g1,g2,g3,g4⟩:=hge _ hi
   refine ⟨⟨a0,hlt⟩,?_⟩
   show Lp2 (fun before t84 kont3=>((t84<((l.getD i.toNat az).2.2.1.length:Int)->_)/\_)) _ _
   refine ⟨fun before t=>0<=t/\t<=(l.getD i.toNat az).2.2.1.length/\before=((l.getD i.toNat az).2.2.1.take t.toNat).filterMap (mget (mkP l l.length)),fun _ t=>(l.getD i.toNat az).2.2.1.length - t.toNat,⟨by omega,by omega,rfl⟩,fun before t ⟨b0,b1,b2⟩=>⟨fun hlt2=>?_,fun hge3=>?_⟩⟩
   ·have ht:t.toNat<(l.getD i.toNat az).2.2.1.length:=by omega
    have hsl:=g1 _ (qT (d:=[]) ht)
    have hbl:before.length<=1000:=by
     rw [b2]
     exact Nat.le_trans (List.length_filterMap_le _ _) (by rw [List.length_take]; omega)
    have htk:(l.getD i.toNat az).2.2.1.take (t+1).toNat=(l.getD i.toNat az).2.2.1.take t.toNat++[(l.getD i.toNat az).2.2.1.getD t.toNat []]:=by
     rw [show (t+1).toNat=t.toNat+1 by omega]
     exact jd [] ht
    refine ⟨fun b2'=>b2'=((l.getD i.toNat az).2.2.1.take (t+1).toNat).filterMap (mget (mkP l l.length)),⟨⟨b0,hlt2⟩,by unfold maxLen; exact Nat.le_trans hsl (by omega),fun hs=>⟨by rw [List.length_singleton]; omega,?_⟩,fun hs=>?_⟩,fun b2' hb=>⟨by simp only [In]; omega,⟨by omega,by omega,hb⟩,by (try dsimp only); omega⟩⟩
    ·obtain ⟨v,hv⟩:=Option.isSome_iff_exists.1 hs
     rw [htk,List.filterMap_append,<-b2]
     show _=before++[(l.getD i.toNat az).2.2.1.getD t.toNat []].filterMap (mget (mkP l l.length))
     have hv':mget (mkP l l.length) ((l.getD i.toNat az).2.2.1.getD t.toNat [])=some v:=hv
     rw [List.filterMap_cons,hv']
     show before++[(mget (mkP l l.length) ((l.getD i.toNat az).2.2.1.getD t.toNat [])).getD 0]=_
     rw [hv']; rfl
    ·have hn:mget (mkP l l.length) ((l.getD i.toNat az).2.2.1.getD t.toNat [])=none:=by
      have:(mget (mkP l l.length) ((l.getD i.toNat az).2.2.1.getD t.toNat [])).isSome=false:=hs
      simpa using this
     rw [htk,List.filterMap_append,<-b2,List.filterMap_cons,hn]
     simp
   ·have hge3':¬ t<((l.getD i.toNat az).2.2.1.length:Int):=hge3
    have ht:t.toNat=(l.getD i.toNat az).2.2.1.length:=by omega
    rw [ht,List.take_length] at b2
    have hbl:before.length<=1000:=by
     rw [b2]
     exact Nat.le_trans (List.length_filterMap_le _ _) g3
    refine ⟨by omega,?_⟩
    rw [sortI_eq]
    have hbs:Lib.compact (sortG ltI before)=bsP l i.toNat:=by rw [b2]; rfl
    have hbsl:=hbin _ hi
    show _/\_
    rw [hbs]
    refine ⟨by rw [a2]; unfold befL; rw [List.length_map,List.length_range,List.length_singleton]; omega,?_⟩
    refine ⟨fun t aft2=>0<=t/\t<=(bsP l i.toNat).length/\aft2=(List.range l.length).map fun k=>aftK l i.toNat k++(if (k:Int)∈(bsP l i.toNat).take t.toNat then [i] else []),fun t _=>(bsP l i.toNat).length - t.toNat,⟨by omega,by omega,?_⟩,fun t aft2 ⟨c0,c1,c2⟩=>⟨fun hlt3=>?_,fun hge4=>?_⟩⟩
    ·rw [a3]; unfold aftL; simp
    ·have ht2:t.toNat<(bsP l i.toNat).length:=by omega
     have he:=bsP_in (qT (d:=0) ht2)
     have hel:(bsP l i.toNat).getD t.toNat 0=(bsP l i.toNat)[t.toNat]:=by simp [List.getD,ht2]
     generalize hx:(bsP l i.toNat).getD t.toNat 0=x at he
     have hxk:x.toNat<l.length:=by omega
     have hxx:((x.toNat:Nat):Int)=x:=by omega
     have hnd:=bsP_nodup l i.toNat
     have htk:(bsP l i.toNat).take (t+1).toNat=(bsP l i.toNat).take t.toNat++[x]:=by
      rw [show (t+1).toNat=t.toNat+1 by omega,List.take_succ_eq_append_getElem ht2,<-hel,hx]
     have hnot:x∉(bsP l i.toNat).take t.toNat:=fun hm=>by
      have:((bsP l i.toNat).take (t+1).toNat).Nodup:=hnd.sublist (List.take_sublist _ _)
      rw [htk,List.nodup_append] at this
      exact this.2.2 x hm x (by simp) rfl
     have hal:aft2.length=l.length:=by rw [c2,List.length_map,List.length_range]
     have hgx:aft2.getD x.toNat []=aftK l i.toNat x.toNat:=by
      rw [c2,rng_getD hxk,hxx,if_neg hnot,List.append_nil]
     have hkl:=aftK_len l i.toNat x.toNat
     rw [hgx]
     refine ⟨⟨c0,hlt3⟩,⟨he.1,by omega⟩,by rw [List.length_singleton]; omega,⟨he.1,by omega⟩,by simp only [In]; omega,⟨by omega,by omega,?_⟩,by (try dsimp only); omega⟩
     rw [c2,rng_set,htk]
     refine List.map_congr_left fun k _=>?_
     by_cases e:x.toNat=k
     ·subst e
      rw [if_pos rfl,hxx,if_pos (by simp)]
     ·rw [if_neg e]
      have:((k:Int)∈(bsP l i.toNat).take t.toNat++[x])↔(k:Int)∈(bsP l i.toNat).take t.toNat:=by
       rw [List.mem_append,List.mem_singleton]
       exact ⟨fun h=>h.resolve_right (fun e2=>e (by omega)),.inl⟩
      simp only [this]
    ·have ht2:t.toNat=(bsP l i.toNat).length:=by omega
     rw [ht2,List.take_length] at c2
     refine ⟨by simp only [In]; omega,⟨by omega,by omega,?_,?_⟩,by (try dsimp only); omega⟩
     ·rw [show (i+1).toNat=i.toNat+1 by omega,a2]
      unfold befL
      rw [List.range_succ,List.map_append]; rfl
     ·rw [show (i+1).toNat=i.toNat+1 by omega,c2]
      unfold aftL
      refine List.map_congr_left fun k _=>?_
      rw [aftK_succ,hii]
  ·obtain rfl:i=l.length:=by omega
   rw [hnn] at a2 a3
   subst a2; subst a3
   have hbl:(befL l l.length).length=l.length:=by unfold befL; rw [List.length_map,List.length_range]
   have htot:tot (befL l l.length) l.length<=1000*l.length:=tot_le (fun j=>by
    rw [kf]
    split
    ·exact hbin _ (by assumption)
    ·simp) _
   refine ⟨fun i=>0<=i/\i<=l.length/\∀ j,j<i.toNat->¬ Rch (befL l l.length) (bsP l j) (j:Int),fun i=>l.length - i.toNat,⟨by omega,by omega,fun j hj=>by simp at hj⟩,fun i ⟨a0,a1,a2⟩=>⟨fun hlt=>?_,fun hge2=>hok hfits fun j hj=>a2 j (by omega)⟩⟩
   have hi:i.toNat<l.length:=by omega
   have hii:(i.toNat:Int)=i:=by omega
   have hgi:(befL l l.length).getD i.toNat []=bsP l i.toNat:=by rw [kf,if_pos hi]
   have:=hbin _ hi
   rw [hgi]
   refine ⟨⟨a0,by omega⟩,reach_M (by omega) hbl (fun j hj k hk=>?_) (fun k hk=>bsP_in hk) (by omega) fun met m1 m2=>⟨⟨a0,by omega⟩,fun ht=>⟨4,rfl,?_⟩,fun hf=>⟨by simp only [In]; omega,⟨by omega,by omega,fun j hj=>?_⟩,by (try dsimp only); omega⟩⟩⟩
   ·rw [kf] at hk
    split at hk
    ·exact bsP_in hk
    ·simp at hk
   ·have:=hcyc hfits i.toNat hi a2 ((m2 _ hi).1 ht)
    rwa [hii] at this
   ·by_cases e:j=i.toNat
    ·rw [e]
     exact fun hR=>by rw [(m2 _ hi).2 hR] at hf; cases hf
    ·exact a2 j (by omega)
end
 
section
open Go Go.RowKit
section
variable {gl:List GAct} {mk:MK} {bef aft:List (List Int)}
def onesN (met:List Bool) (n:Nat):List Int:=((List.range n).filter fun k=>met.getD k false).map fun (k:Nat)=>(k:Int)
theorem onesN_succ (met:List Bool) (n:Nat):onesN met (n+1)=onesN met n++if met.getD n false=true then [(n:Int)] else []:=by
 unfold onesN
 rw [List.range_succ,List.filter_append,List.map_append]
 congr 1
 rw [List.filter_cons,List.filter_nil]
 split <;> rfl
theorem onesN_len (met:List Bool) (n:Nat):(onesN met n).length<=n:=by
 unfold onesN
 rw [List.length_map]
 exact Nat.le_trans (List.length_filter_le _ _) (by simp)
theorem index_M {xs:List Int} {v:Int} {i:Nat} {K:Int->Prop} (hl:xs.length<=1000000) (hi:i<xs.length) (h1:xs.getD i 0=v) (h0:∀ j,j<i->xs.getD j 0≠v) (h:K (i:Int)):jQ xs v K:=by
 intro _
 refine ⟨fun t=>0<=t/\t<=i,fun t=>i - t.toNat,⟨by omega,by omega⟩,fun t ⟨a0,a1⟩=>⟨fun hlt=>⟨⟨a0,hlt⟩,fun he=>?_,fun hne=>⟨by simp only [In]; omega,⟨by omega,?_⟩,?_⟩⟩,fun hge=>by omega⟩⟩
 ·have:t.toNat=i:=by
   rcases Nat.lt_or_ge t.toNat i with hlt2 | hge2
   ·exact absurd he.symm (h0 _ hlt2)
   ·omega
  have e:t=(i:Int):=by omega
  rw [e]; exact h
 ·have:t.toNat≠i:=fun e=>hne (by rw [e]; exact h1.symm)
  omega
 ·have:t.toNat≠i:=fun e=>hne (by rw [e]; exact h1.symm)
  (try dsimp only); omega
end
end
 
section
open Go Go.RowKit
section
variable {bef:List (List Int)} {n:Nat}
def freeB (bef:List (List Int)) (out:List Int) (i:Nat):Bool := !out.contains (i:Int) && (bef.getD i []).all fun b=>out.contains b
def pickF (bef:List (List Int)) (out:List Int) (n:Nat):Option Nat:=(List.range n).find? (freeB bef out)
def ordR (bef:List (List Int)) (n:Nat):Nat->List Int
 | 0=>[]
 | m+1=>match pickF bef (ordR bef n m) n with | some i=>ordR bef n m++[(i:Int)] | none=>ordR bef n m
def AcyB (bef:List (List Int)) (n:Nat):Prop:=(∀ j,j<n->∀ k∈bef.getD j [],0<=k/\k<(n:Int))/\∀ j,j<n->¬ Rch bef (bef.getD j []) (j:Int)
theorem rch_sub {fr fr':List Int} (h:∀ f∈fr,Rch bef fr' f) {k:Int} (hk:Rch bef fr k):Rch bef fr' k:=by
 induction hk with
 | base hm=>exact h _ hm
 | step _ hm ih=>exact .step ih hm
theorem countP_lt {α:Type} {p q:α->Bool}:∀ {l:List α},(∀ x∈l,p x=true->q x=true)->(∃ x∈l,p x=false/\q x=true)->l.countP p<l.countP q
 | [],_,h=>by obtain ⟨x,hx,_⟩:=h; cases hx
 | a :: l,h1,h2=>by
  have hle:l.countP p<=l.countP q:=List.countP_mono_left fun x hx=>h1 x (List.mem_cons_of_mem _ hx)
  rw [List.countP_cons,List.countP_cons]
  obtain ⟨x,hx,px,qx⟩:=h2
  rcases List.mem_cons.1 hx with rfl | hx
  ·rw [px,qx]; simp; omega
  ·have:=countP_lt (l:=l) (fun x hx=>h1 x (List.mem_cons_of_mem _ hx)) ⟨x,hx,px,qx⟩
   have ha:=h1 a (List.mem_cons_self ..)
   by_cases e:p a=true
   ·rw [e,ha e]; simp; omega
   ·simp only [Bool.not_eq_true] at e
    rw [e]; simp; omega
open Classical in
theorem acy_pick (ha:AcyB bef n) {out:List Int} (h:∃ i,i<n/\(i:Int)∉out):∃ i,pickF bef out n=some i:=by
 have key:∀ c j,j<n->(j:Int)∉out->((List.range n).countP fun (k:Nat)=>decide (Rch bef (bef.getD j []) (k:Int)))=c->∃ i,i<n/\freeB bef out i=true:=by
  intro c
  induction c using Nat.strongRecOn with
  | _ c ih =>
   intro j hj hjo hc
   by_cases hf:(bef.getD j []).all fun b=>out.contains b
   ·refine ⟨j,hj,?_⟩
    unfold freeB
    rw [hf]
    simpa using hjo
   ·simp only [Bool.not_eq_true,List.all_eq_false] at hf
    obtain ⟨b,hb,hbo⟩:=hf
    obtain ⟨b0,b1⟩:=ha.1 j hj b hb
    have hbb:((b.toNat:Nat):Int)=b:=by omega
    have hbn:b.toNat<n:=by omega
    refine ih _ ?_ b.toNat hbn (by rw [hbb]; simpa using hbo) rfl
    rw [<-hc]
    refine countP_lt (fun k _ hk=>?_) ⟨b.toNat,List.mem_range.2 hbn,?_,?_⟩
    ·simp only [decide_eq_true_eq] at hk |-
     refine rch_sub (fun f hf=>?_) hk
     exact .step (.base hb) hf
    ·simpa using ha.2 _ hbn
    ·rw [hbb]
     simpa using Rch.base hb
 obtain ⟨i,hi,ho⟩:=h
 obtain ⟨k,hk,hf⟩:=key _ i hi ho rfl
 unfold pickF
 cases hp:(List.range n).find? (freeB bef out) with
 | some q=>exact ⟨q,rfl⟩
 | none=>rw [List.find?_eq_none] at hp; exact absurd hf (hp k (List.mem_range.2 hk))
theorem pickF_some {out:List Int} {i:Nat} (h:pickF bef out n=some i):i<n/\freeB bef out i=true/\∀ j,j<i->freeB bef out j=false:=by
 unfold pickF at h
 have h1:=List.find?_some h
 have h2:=List.mem_range.1 (List.mem_of_find?_eq_some h)
 refine ⟨h2,h1,fun j hj=>?_⟩
 obtain ⟨_,xa,xb,hab,hn⟩:=List.find?_eq_some_iff_append.1 h
 have hi:xa.length=i:=by
  have:(List.range n)[xa.length]? = some i:=by rw [hab]; simp
  rw [List.getElem?_range (by
   have:=congrArg List.length hab; simp at this; omega)] at this
  simpa using this
 have hm:j∈xa:=by
  have hg:(List.range n)[j]? = some j:=List.getElem?_range (by omega)
  rw [hab,List.getElem?_append_left (by omega)] at hg
  exact List.mem_of_getElem? hg
 simpa using hn j hm
theorem ji (ha:AcyB bef n):∀ m,m<=n->(ordR bef n m).length=m/\(ordR bef n m).Nodup/\(∀ x∈ordR bef n m,0<=x/\x<(n:Int))
 | 0,_=>⟨rfl,List.Pairwise.nil,fun x hx=>by cases hx⟩
 | m+1,h=>by
  obtain ⟨a,b,c⟩:=ji ha m (by omega)
  have hex:∃ i,i<n/\(i:Int)∉ordR bef n m:=by
   refine Classical.byContradiction fun hne=>?_
   have hall:∀ i,i<n->(i:Int)∈ordR bef n m:=fun i hi=>Classical.byContradiction fun hx=>hne ⟨i,hi,hx⟩
   have this:=List.Nodup.length_le_of_subset (l₁:=(List.range n).map fun (k:Nat)=>(k:Int)) (l₂:=ordR bef n m) (List.Pairwise.map _ (fun a b (hab:a≠b) (e:(a:Int)=(b:Int))=>hab (by omega)) List.nodup_range) (fun x hx=>by
    obtain ⟨k,hk,rfl⟩:=List.mem_map.1 hx
    exact hall k (List.mem_range.1 hk))
   rw [List.length_map,List.length_range,a] at this
   omega
  obtain ⟨i,hi⟩:=acy_pick ha hex
  obtain ⟨i1,i2,_⟩:=pickF_some hi
  unfold freeB at i2
  rw [Bool.and_eq_true] at i2
  have hno:(i:Int)∉ordR bef n m:=by simpa using i2.1
  unfold ordR
  rw [hi]
  refine ⟨by rw [List.length_append,a]; rfl,?_,fun x hx=>?_⟩
  ·rw [List.nodup_append]
   refine ⟨b,List.pairwise_singleton _ _,fun x hx y hy e=>?_⟩
   rw [List.mem_singleton.1 hy] at e
   exact hno (e ▸ hx)
  ·rcases List.mem_append.1 hx with hx | hx
   ·exact c x hx
   ·rw [List.mem_singleton.1 hx]; omega
theorem ordR_step (ha:AcyB bef n) {m:Nat} (h:m<n):∃ i,pickF bef (ordR bef n m) n=some i/\ordR bef n (m+1)=ordR bef n m++[(i:Int)]:=by
 obtain ⟨a,b,c⟩:=ji ha m (by omega)
 have h1:=(ji ha (m+1) h).1
 cases hp:pickF bef (ordR bef n m) n with
 | some i=>exact ⟨i,rfl,by show (match pickF bef (ordR bef n m) n with | some i=>ordR bef n m++[(i:Int)] | none=>ordR bef n m)=_; rw [hp]⟩
 | none =>
  have:ordR bef n (m+1)=ordR bef n m:=by show (match pickF bef (ordR bef n m) n with | some i=>ordR bef n m++[(i:Int)] | none=>ordR bef n m)=_; rw [hp]
  rw [this] at h1; omega
def cntL (out:List Int) (xs:List Int):Nat:=xs.countP fun b => !out.contains b
theorem cntL_zero {out xs:List Int}:cntL out xs=0↔(xs.all fun b=>out.contains b)=true:=by
 unfold cntL
 rw [List.countP_eq_zero,List.all_eq_true]
 refine forall_congr' fun x=>forall_congr' fun _=>?_
 simp
theorem cntL_snoc {out:List Int} {i:Int} (ho:i∉out):∀ {xs:List Int},xs.Nodup->cntL (out++[i]) xs+(if i∈xs then 1 else 0)=cntL out xs
 | [],_=>rfl
 | a :: xs,h=>by
  have ih:=cntL_snoc ho (xs:=xs) (List.nodup_cons.1 h).2
  have hna:=(List.nodup_cons.1 h).1
  unfold cntL at ih |-
  rw [List.countP_cons,List.countP_cons]
  by_cases e:i=a
  ·subst e
   rw [if_neg hna] at ih
   rw [if_pos (List.mem_cons_self ..)]
   have h1:(out++[i]).contains i=true:=by simp
   have h2:out.contains i=false:=by simpa using ho
   rw [h1,h2]
   simp only [Bool.not_true,Bool.not_false,if_true,if_false,Bool.false_eq_true]
   omega
  ·have h1:(out++[i]).contains a=out.contains a:=by
    rw [Bool.eq_iff_iff,List.contains_iff_mem,List.contains_iff_mem,List.mem_append,List.mem_singleton]
    exact ⟨fun h=>h.resolve_right fun h2=>e h2.symm,.inl⟩
   have h2:(i∈a :: xs)↔i∈xs:=by
    rw [List.mem_cons]; exact ⟨fun h=>h.resolve_left e,.inr⟩
   rw [h1]
   by_cases h3:i∈xs
   ·rw [if_pos h3] at ih; rw [if_pos (h2.2 h3)]; omega
   ·rw [if_neg h3] at ih; rw [if_neg (fun h=>h3 (h2.1 h))]; omega
theorem ordR_closed (ha:AcyB bef n):∀ m,m<=n->∀ x∈ordR bef n m,∀ b∈bef.getD x.toNat [],b∈ordR bef n m
 | 0,_,x,hx,_,_=>by cases hx
 | m+1,h,x,hx,b,hb=>by
  obtain ⟨i,hi,he⟩:=ordR_step ha (m:=m) (by omega)
  obtain ⟨i1,i2,_⟩:=pickF_some hi
  rw [he] at hx |-
  rcases List.mem_append.1 hx with hx | hx
  ·exact List.mem_append_left _ (ordR_closed ha m (by omega) x hx b hb)
  ·rw [List.mem_singleton.1 hx,Int.toNat_natCast] at hb
   unfold freeB at i2
   rw [Bool.and_eq_true,List.all_eq_true] at i2
   exact List.mem_append_left _ (by simpa using i2.2 b hb)
end
theorem befL_len (l:List GAct) (m:Nat):(befL l m).length=m:=by unfold befL; rw [List.length_map,List.length_range]
theorem aftL_len (l:List GAct) (i:Nat):(aftL l i).length=l.length:=by unfold aftL; rw [List.length_map,List.length_range]
theorem aftK_mem {l:List GAct} {i k:Nat} {j:Int}:j∈aftK l i k↔∃ q:Nat,q<i/\j=(q:Int)/\(k:Int)∈bsP l q:=by
 unfold aftK
 rw [List.mem_map]
 constructor
 ·rintro ⟨q,hq,rfl⟩
  rw [List.mem_filter,List.mem_range,decide_eq_true_eq] at hq
  exact ⟨q,hq.1,rfl,hq.2⟩
 ·rintro ⟨q,h1,rfl,h2⟩
  exact ⟨q,List.mem_filter.2 ⟨List.mem_range.2 h1,by simpa using h2⟩,rfl⟩
theorem aftK_nodup (l:List GAct) (i k:Nat):(aftK l i k).Nodup:=by
 unfold aftK
 exact List.Pairwise.map _ (fun a b (hab:a≠b) (e:(a:Int)=(b:Int))=>hab (by omega)) (List.Pairwise.filter _ List.nodup_range)
theorem map_set_eq {f g:Nat->Int} {n k:Nat} {v:Int} (h1:k<n->g k=v) (h2:∀ j,j<n->j≠k->g j=f j):((List.range n).map f).set k v=(List.range n).map g:=by
 rw [rng_set]
 refine List.map_congr_left fun j hj=>?_
 have hj:=List.mem_range.1 hj
 by_cases e:k=j
 ·subst e; rw [if_pos rfl,h1 hj]
 ·rw [if_neg e,h2 j hj fun h=>e h.symm]
theorem order_M {l:List GAct} {mk:MK} {K:List Int->Prop} (hl:l.length<=1000) (hbl:∀ j,(bsP l j).length<=1000) (ha:AcyB (befL l l.length) l.length) (h:K (ordR (befL l l.length) l.length l.length)):kh l mk (befL l l.length) (aftL l l.length) K:=by
 have hbn:=befL_len l l.length
 have hal:=aftL_len l l.length
 have hB:∀ j,j<l.length->(befL l l.length).getD j []=bsP l j:=fun j hj=>by rw [kf,if_pos hj]
 have hA:∀ j,j<l.length->(aftL l l.length).getD j []=aftK l l.length j:=fun j hj=>by unfold aftL; rw [rng_getD hj]
 intro _ _ _
 obtain ⟨n,hn⟩:∃ n,l.length=n:=⟨_,rfl⟩
 have hnn:((n:Nat):Int).toNat=n:=by omega
 rw [hn] at hl ha h hbn hal hB hA |-
 rw [hnn]
 refine ⟨⟨by omega,by omega,by omega⟩,fun t left=>0<=t/\t<=n/\left=(List.range n).map fun j=>if j<t.toNat then ((bsP l j).length:Int) else 0,fun t _=>n - t.toNat,⟨by omega,by omega,?_⟩,fun t left ⟨a0,a1,a2⟩ _=>⟨fun hlt=>?_,fun hge=>?_⟩⟩
 ·refine List.ext_getElem (by simp) fun k h1 h2=>?_
  simp
 ·have ht:t.toNat<n:=by omega
  refine ⟨⟨a0,by omega⟩,⟨a0,by omega⟩,by simp only [In]; omega,⟨by omega,by omega,?_⟩,by (try dsimp only); omega⟩
  rw [hB _ ht,a2]
  refine map_set_eq (fun _=>by rw [if_pos (by omega)]) fun j _ hj=>?_
  by_cases h1:j<t.toNat
  ·rw [if_pos (by omega),if_pos h1]
  ·rw [if_neg (by omega),if_neg h1]
 ·have ht:t.toNat=n:=by omega
  refine ⟨fun out t left=>0<=t/\t<=n/\out=ordR (befL l n) n t.toNat/\left=(List.range n).map fun (j:Nat)=>if (j:Int)∈out then (-1:Int) else (cntL out (bsP l j):Int),fun _ t _=>n - t.toNat,⟨by omega,by omega,rfl,?_⟩,fun out t left ⟨b0,b1,b2,b3⟩ _=>⟨fun hlt=>?_,fun hge2=>?_⟩⟩
  ·rw [a2,ht]
   refine List.map_congr_left fun k hk=>?_
   have:=List.mem_range.1 hk
   rw [if_pos this,if_neg (by simp)]
   unfold cntL
   simp
  ·have ht2:t.toNat<n:=by omega
   have htt:(t.toNat:Int)=t:=by omega
   have hll:left.length=n:=by rw [b3,List.length_map,List.length_range]
   obtain ⟨i,hi,he⟩:=ordR_step ha ht2
   rw [<-b2] at hi he
   obtain ⟨i1,i2,i3⟩:=pickF_some hi
   obtain ⟨o1,o2,o3⟩:=ji ha t.toNat (by omega)
   rw [<-b2] at o1 o2 o3
   have hcl:=ordR_closed ha t.toNat (by omega)
   rw [<-b2] at hcl
   unfold freeB at i2
   rw [Bool.and_eq_true,hB i i1] at i2
   have hio:(i:Int)∉out:=by simpa using i2.1
   have hall:=i2.2
   have hc0:cntL out (bsP l i)=0:=cntL_zero.2 hall
   have hcle:∀ j,cntL out (bsP l j)<=1000:=fun j=>Nat.le_trans List.countP_le_length (hbl j)
   refine index_M (i:=i) (by omega) (by omega) (by rw [b3,rng_getD i1,if_neg hio,hc0]; rfl) (fun j hj=>?_) ?_
   ·rw [b3,rng_getD (by omega)]
    split
    ·decide
    ·rename_i hjo
     have hf:=i3 j hj
     unfold freeB at hf
     rw [hB j (by omega),Bool.and_eq_false_iff] at hf
     rcases hf with hf | hf
     ·exact absurd (by simpa using hf) hjo
     ·intro e
      have:cntL out (bsP l j)=0:=by omega
      rw [cntL_zero.1 this] at hf
      cases hf
   have hAi:=hA i i1
   have hAn:=aftK_nodup l n i
   have hAm:∀ j:Int,j∈aftK l n i↔∃ q:Nat,q<n/\j=(q:Int)/\(i:Int)∈bsP l q:=fun j=>aftK_mem
   rw [Int.toNat_natCast,hAi]
   generalize aftK l n i=A at hAn hAm
   have hAl:A.length<=n:=by
    have:=List.Nodup.length_le_of_subset (l₁:=A) (l₂:=(List.range n).map fun (k:Nat)=>(k:Int)) hAn fun x hx=>by
     obtain ⟨q,h1,h2,_⟩:=(hAm x).1 hx
     exact List.mem_map.2 ⟨q,List.mem_range.2 h1,h2.symm⟩
    rwa [List.length_map,List.length_range] at this
   have hAo:∀ x∈A,x∉out++[(i:Int)]:=fun x hx hxo=>by
    obtain ⟨q,h1,h2,h3⟩:=(hAm x).1 hx
    rcases List.mem_append.1 hxo with hxo | hxo
    ·have h4:=hcl x hxo (i:Int)
     rw [h2,Int.toNat_natCast,hB q h1] at h4
     exact hio (h4 h3)
    ·have:q=i:=by have:=List.mem_singleton.1 hxo; omega
     subst this
     rw [List.all_eq_true] at hall
     exact hio (by simpa using hall _ h3)
   refine ⟨⟨by omega,by omega⟩,by rw [o1,List.length_singleton]; omega,⟨by omega,by omega⟩,fun q left3=>0<=q/\q<=A.length/\left3=(List.range n).map fun (j:Nat)=>if (j:Int)∈out++[(i:Int)] then (-1:Int) else (cntL out (bsP l j):Int) - (if (j:Int)∈A.take q.toNat then 1 else 0),fun q _=>A.length - q.toNat,⟨by omega,by omega,?_⟩,fun q left3 ⟨c0,c1,c2⟩ _=>⟨fun hlt3=>?_,fun hge3=>?_⟩⟩
   ·rw [b3]
    refine map_set_eq (fun _=>by rw [if_pos (by simp)]) fun j _ hj=>?_
    have e:((j:Int)∈out++[(i:Int)])↔(j:Int)∈out:=by
     rw [List.mem_append,List.mem_singleton]
     exact ⟨fun h=>h.resolve_right fun h2=>hj (by omega),.inl⟩
    by_cases h1:(j:Int)∈out
    ·rw [if_pos (e.2 h1),if_pos h1]
    ·rw [if_neg fun h=>h1 (e.1 h),if_neg h1]
     simp
   ·have hq:q.toNat<A.length:=by omega
    obtain ⟨k,k1,k2,k3⟩:=(hAm _).1 (qT (d:=0) hq)
    have hkx:((A.getD q.toNat 0).toNat)=k:=by omega
    have hko:=hAo _ (qT (d:=0) hq)
    have hnt:(k:Int)∉A.take q.toNat:=fun hm=>by
     obtain ⟨r,hr,hre⟩:=List.getElem_of_mem hm
     have hr2:r<q.toNat:=by rw [List.length_take] at hr; omega
     rw [List.getElem_take] at hre
     have h1:A[r]'(by omega)=A[q.toNat]:=by
      rw [hre,<-k2]; simp [List.getD,hq]
     have:=(List.nodup_iff_pairwise_ne.1 hAn)
     have h2:=List.pairwise_iff_getElem.1 hAn r q.toNat (by omega) hq hr2
     exact h2 h1
    have hst:A.take (q+1).toNat=A.take q.toNat++[A.getD q.toNat 0]:=by
     rw [show (q+1).toNat=q.toNat+1 by omega]
     exact jd 0 hq
    have hg:left3.getD k 0=(cntL out (bsP l k):Int):=by
     rw [c2,rng_getD k1,if_neg (by rw [<-k2]; exact hko),if_neg hnt]; omega
    have hck:=hcle k
    rw [hkx,hg]
    refine ⟨⟨by omega,by omega⟩,⟨by omega,by omega⟩,by simp only [In]; omega,⟨by omega,by omega⟩,by simp only [In]; omega,⟨by omega,by omega,?_⟩,by (try dsimp only); omega⟩
    rw [c2]
    refine map_set_eq (fun _=>?_) fun j _ hj=>?_
    ·rw [if_neg (by rw [<-k2]; exact hko),hst,if_pos (List.mem_append_right _ (List.mem_singleton.2 k2.symm))]
    ·have e:((j:Int)∈A.take (q+1).toNat)↔(j:Int)∈A.take q.toNat:=by
      rw [hst,List.mem_append,List.mem_singleton]
      exact ⟨fun h=>h.resolve_right fun h2=>hj (by omega),.inl⟩
     by_cases h1:(j:Int)∈A.take q.toNat
     ·rw [if_pos (e.2 h1),if_pos h1]
     ·rw [if_neg fun h=>h1 (e.1 h),if_neg h1]
   ·refine ⟨by simp only [In]; omega,⟨by omega,by omega,?_,?_⟩,by (try dsimp only); omega⟩
    ·rw [show (t+1).toNat=t.toNat+1 by omega,he]
    ·have hqA:q.toNat=A.length:=by omega
     rw [c2,hqA,List.take_length]
     refine List.map_congr_left fun j hj=>?_
     have hj:=List.mem_range.1 hj
     by_cases h1:(j:Int)∈out++[(i:Int)]
     ·rw [if_pos h1,if_pos h1]
     ·rw [if_neg h1,if_neg h1]
      have h2:=cntL_snoc hio (bsP_nodup l j)
      have h3:(j:Int)∈A↔(i:Int)∈bsP l j:=by
       rw [hAm]
       exact ⟨fun ⟨q,_,e,m⟩=>by obtain rfl:q=j:=(by omega); exact m,fun m=>⟨j,hj,rfl,m⟩⟩
      by_cases h4:(i:Int)∈bsP l j
      ·rw [if_pos (h3.2 h4)]; rw [if_pos h4] at h2; omega
      ·rw [if_neg fun h=>h4 (h3.1 h)]; rw [if_neg h4] at h2; omega
  ·have ht2:t.toNat=n:=by omega
   rw [b2,ht2]
   exact h
theorem ordR_take {bef:List (List Int)} {n:Nat} (ha:AcyB bef n):∀ d m,m+d=n->ordR bef n m=(ordR bef n n).take m
 | 0,m,h=>by
  obtain rfl:m=n:=by omega
  rw [List.take_of_length_le (by rw [(ji ha m (Nat.le_refl _)).1]; exact Nat.le_refl _)]
 | d+1,m,h=>by
  have ih:=ordR_take ha d (m+1) (by omega)
  obtain ⟨i,_,he⟩:=ordR_step ha (show m<n by omega)
  rw [he] at ih
  have h2:=congrArg (List.take m) ih
  have hl:=(ji ha m (by omega)).1
  rw [List.take_append_of_le_length (by omega),List.take_of_length_le (by omega),List.take_take,Nat.min_eq_left (by omega)] at h2
  exact h2
end
 end Go.Proofs.YtjobklaengaamaaGreatDoor
