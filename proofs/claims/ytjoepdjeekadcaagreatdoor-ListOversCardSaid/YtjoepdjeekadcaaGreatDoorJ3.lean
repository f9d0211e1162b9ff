/- Texts of this claim, joined by a program: GLs, GLt, GPv, GLu, Sym, LsA, LsB, Lq, GSa. -/
import Derived.Test.YtjoepdjeekadcaaGreatDoorJ2
namespace Go.Proofs.YtjoepdjeekadcaaGreatDoor

section
open Go Go.RowKit
attribute [local irreducible] WL WC WX WQ WK WJ Yld Eff Ef0 Fn
def M_val_shallow (n:Int) (deep:Int) (K:Er->Prop):Prop :=
 ((((decide (n=(0:Int))) && (decide ((60:Int)<=deep)))=true->K (Er.e 7)) /\
 (((decide (n=(0:Int))) && (decide ((60:Int)<=deep)))=false->K Er.ok))
def jD (k_left:Int) (deep:Int) (K:Er->Int->Prop):Prop :=
 (In .i64 (k_left - (1:Int))) /\
 ((((decide ((k_left - (1:Int))<(0:Int))) || (decide ((60:Int)<deep)))=true->K (Er.e 7) (k_left - (1:Int))) /\
 (((decide ((k_left - (1:Int))<(0:Int))) || (decide ((60:Int)<deep)))=false->K Er.ok (k_left - (1:Int))))
def kt (k_left:Int) (a:PV) (b:PV) (deep:Int) (K:Bool->Er->Int->Prop):Prop :=
 jD k_left deep (fun (err:Er) (k_:Int) =>
 ((¬ (err=Er.ok)->K false err k_) /\
 (err=Er.ok->(a≠PV.nil) /\
 (b≠PV.nil) /\
 ((¬ ((jV a)=(jV b))->K false Er.ok k_) /\
 ((jV a)=(jV b)->(a≠PV.none) /\
 ((∀ z:Int,a=PV.int z->(∃ z2:Int,b=PV.int z2 /\
 M_num_Num_Cmp z 3 z2 3 (fun (t51:Int) =>
 K (decide (t51=(0:Int))) Er.ok k_))) /\
 ((∀ z,a≠PV.int z)->((∀ s:List UInt8,a=PV.str s->(∃ s2:List UInt8,b=PV.str s2 /\
 K (decide (s=s2)) Er.ok k_)) /\
 ((∀ z,a≠PV.str z)->((a=PV.emp->False) /\
 (a≠PV.emp->((∀ l:List PA,a=PV.tup l->(∃ l2:List PA,b=PV.tup l2 /\
 False)) /\
 ((∀ l,a≠PV.tup l)->False)))))))))))))
def kz (k_left:Int) (a:PV) (b:PV) (deep:Int) (K:Bool->Er->Int->Prop):Prop :=
 jD k_left deep (fun (err:Er) (k_:Int) =>
 ((¬ (err=Er.ok)->K false err k_) /\
 (err=Er.ok->(a≠PV.nil) /\
 (b≠PV.nil) /\
 ((¬ ((jV a)=(jV b))->K false (Er.e 3) k_) /\
 ((jV a)=(jV b)->((∀ z:Int,a=PV.int z->(∃ z2:Int,b=PV.int z2 /\
 M_num_Num_Cmp z 3 z2 3 (fun (t46:Int) =>
 K (decide (t46<(0:Int))) Er.ok k_))) /\
 ((∀ z,a≠PV.int z)->((∀ s:List UInt8,a=PV.str s->(∃ s2:List UInt8,b=PV.str s2 /\
 K (Op.bytesLess s s2) Er.ok k_)) /\
 ((∀ z,a≠PV.str z)->((a=PV.emp->False) /\
 (a≠PV.emp->((∀ l:List PA,a=PV.tup l->(∃ l2:List PA,b=PV.tup l2 /\
 False)) /\
 ((∀ l,a≠PV.tup l)->K false (Er.e 3) k_)))))))))))))
def ku (k_left:Int) (a:List PV) (b:List PV) (deep:Int) (K:Bool->Er->Int->Prop):Prop :=
 (a.length<=maxLen ->
 (b.length<=maxLen ->
 Lp2 (fun (t19:Int) (k0:Int) kont1=>((t19<(if (b.length:Int)<(a.length:Int) then (b.length:Int) else (a.length:Int))->(0<=t19/\t19<(a.length:Nat)) /\
 (0<=t19/\t19<(b.length:Nat)) /\
 (In .i64 (deep+(1:Int))) /\
 kt k0 (a.getD t19.toNat PV.nil) (b.getD t19.toNat PV.nil) (deep+(1:Int)) (fun (t340:Bool) (t341:Er) (k_:Int) =>
 ((¬ (t341=Er.ok)->K false t341 k_) /\
 (t341=Er.ok->(((!t340)=true->(0<=t19/\t19<(a.length:Nat)) /\
 (0<=t19/\t19<(b.length:Nat)) /\
 (In .i64 (deep+(1:Int))) /\
 kz k_ (a.getD t19.toNat PV.nil) (b.getD t19.toNat PV.nil) (deep+(1:Int)) (fun (t530:Bool) (t531:Er) (k_2:Int) =>
 K t530 t531 k_2)) /\
 ((!t340)=false->(In .i64 (t19+(1:Int))) /\
 kont1 (t19+(1:Int)) k_)))))) /\
 (¬ (t19<(if (b.length:Int)<(a.length:Int) then (b.length:Int) else (a.length:Int)))->M_val_shallow (if (b.length:Int)<(a.length:Int) then (b.length:Int) else (a.length:Int)) deep (fun (err:Er) =>
 ((¬ (err=Er.ok)->K false err k0) /\
 (err=Er.ok->K (decide ((a.length:Int)<(b.length:Int))) Er.ok k0)))))) (0:Int) k_left))
def kg (k_left:Int) (a:PV) (b:PV) (deep:Int) (K:Bool->Er->Int->Prop):Prop :=
 jD k_left deep (fun (err:Er) (k_:Int) =>
 ((¬ (err=Er.ok)->K false err k_) /\
 (err=Er.ok->(a≠PV.nil) /\
 (b≠PV.nil) /\
 ((¬ ((jV a)=(jV b))->K false (Er.e 3) k_) /\
 ((jV a)=(jV b)->((∀ z:Int,a=PV.int z->(∃ z2:Int,b=PV.int z2 /\
 M_num_Num_Cmp z 3 z2 3 (fun (t46:Int) =>
 K (decide (t46<(0:Int))) Er.ok k_))) /\
 ((∀ z,a≠PV.int z)->((∀ s:List UInt8,a=PV.str s->(∃ s2:List UInt8,b=PV.str s2 /\
 K (Op.bytesLess s s2) Er.ok k_)) /\
 ((∀ z,a≠PV.str z)->((a=PV.emp->False) /\
 (a≠PV.emp->((∀ l:List PA,a=PV.tup l->(∃ l2:List PA,b=PV.tup l2 /\
 ku k_ (l.map PA.v) (l2.map PA.v) deep (fun (t860:Bool) (t861:Er) (k_2:Int) =>
 K t860 t861 k_2))) /\
 ((∀ l,a≠PV.tup l)->K false (Er.e 3) k_)))))))))))))
def M_val_Less (a:PV) (b:PV) (K:Bool->Er->Prop):Prop :=
 kg (4096:Int) a b (0:Int) (fun (t120:Bool) (t121:Er) (t8_:Int) =>
 K t120 t121)
set_option maxHeartbeats 8000000 in
theorem W_val_shallow {S:List Nat} {w:World} {n:Int} {deep:Int} {K:Er->Prop} (hG:GOK S w) (hS7:7∈S) (H:M_val_shallow n deep K):Fn Tryz.prog 219 ⟨[.int .i64 n,.int .i64 deep]⟩ w (fun v w'=>w=w'/\∃ (v_r:Value),∃ (r:Er),v=v_r/\ErrR S w' v_r r/\K r):=by
 unfold M_val_shallow at H
 refine Fn.enter (by kernel_rfl) Tryz.func219 rfl Tryz.ntmps219 rfl ?_
 refine zd (zb (yp (h:=(ze (za (zd (zd (zb (yp (h:=(yp (h:=(yp (h:=(zV 3 (fun L' w'=>∃ q1:Bool,L'=[(10,.bool q1)]/\((decide (n=(0:Int))) && (decide ((60:Int)<=deep)))=q1/\w=w') ?_ (fun hQ=>?_))))))))))))))))
 ·rintro _ _ ⟨q1,rfl,rfl,rfl⟩
  refine ze (za (zm rfl (fun b1=>?_) (fun b1=>?_)))
  ·replace H:=H.1 (b1)
   refine zd (zb ?_)
   obtain ⟨vE1,_,hE1⟩:=GOK.get hG 7 1 hS7 rfl rfl
   exact zg rfl (Yld.cell qD (ErrR.cell hE1 rfl) rfl rfl) (yp (h:=(ze (za (zt (zf (zD rfl rfl ⟨rfl,vE1,(Er.e 7),rfl,hE1,H⟩)))))))
  ·replace H:=H.2 (b1)
   exact zo (za (zd (zb (yp (h:=(ze (za (zt (zD rfl rfl ⟨rfl,.nilIface,Er.ok,rfl,(ErrR.okR (S:=S) (w:=w)),H⟩)))))))))
 ·clear H
  rcases Bool.eq_false_or_eq_true (decide (n=(0:Int))) with b2 | b2
  ·exact gp b2 (h:=(gp b2 (h:=(zg rfl (zQ (okb b2) rfl) (wk (hQ _ _ ⟨decide ((60:Int)<=deep),rfl,by rw [b2] <;> rfl,rfl⟩))))))
  ·exact gn b2 (h:=(gn b2 (h:=(zg rfl (zK (okb b2) rfl) (wk (hQ _ _ ⟨false,rfl,by rw [b2] <;> rfl,rfl⟩))))))
set_option maxHeartbeats 8000000 in
theorem kA {S:List Nat} {B:Nat} {w:World} {g_k:Nat} {k_left:Int} {e_k:TypeId} {deep:Int} {K:Er->Int->Prop} (hG:GB S B w) (hB:B<=w.heap.size) (hP:AllP (fun p=>Ge p B) [(some g_k)]) (hS7:7∈S) (hk:Bl w g_k e_k [.int .i64 k_left]) (he_k:Nat.beq e_k 302=false) (H:jD k_left deep K):Fn Tryz.prog 206 ⟨[.pointer (some ⟨g_k,0,none⟩),.int .i64 deep]⟩ w (fun v w'=>GrL [(some g_k)] w w'/\∃ (v_r:Value),∃ (r:Er),∃ (k_left2:Int),v=v_r/\ErrR S w' v_r r/\Bl w' g_k e_k [.int .i64 k_left2]/\K r k_left2):=by
 unfold jD at H
 refine Fn.enter (by kernel_rfl) Tryz.func206 rfl Tryz.ntmps206 rfl ?_
 have hNoAt:AllP (NoAt w) [(some g_k)]:=(apC (NoAt.bl hk he_k) apN)
 refine zd (zb (yp (h:=(ze (za (zd (zd (zb (yp (h:=(yp (h:=(yp (h:=(zg rfl (zz qD hk rfl rfl rfl) ?_)))))))))))))))
 obtain ⟨h1,H⟩:=H
 refine zg rfl (Yld.sub rfl rfl h1) (yp (h:=(yp (h:=(qp one3 rfl rfl rfl hk (by simp) (fun w1 hB2 hg1=>?_))))))
 have hB1:Bl w1 g_k e_k [.int .i64 (k_left - (1:Int))]:=hB2
 have gr1:GrL [(some g_k)] w w1:=GrL.mod (GrL.refl _) hg1 (InP.mem (List.Mem.head _))
 refine ze (za (zd (zb (yp (h:=(yp (h:=(yp (h:=(zg rfl (zz qD hB1 rfl rfl rfl) (yp (h:=(yp (h:=(zV 3 (fun L' w'=>∃ q1:Bool,L'=[(20,.bool q1)]/\((decide ((k_left - (1:Int))<(0:Int))) || (decide ((60:Int)<deep)))=q1/\w1=w') ?_ (fun hQ=>?_))))))))))))))))
 ·rintro _ _ ⟨q1,rfl,rfl,rfl⟩
  refine ze (za (zm rfl (fun b1=>?_) (fun b1=>?_)))
  ·replace H:=H.1 (b1)
   refine zd (zb ?_)
   obtain ⟨vE1,_,hE1⟩:=GOK.get (hG.goL gr1 hP).ok 7 1 hS7 rfl rfl
   exact zg rfl (Yld.cell qD (ErrR.cell hE1 rfl) rfl rfl) (yp (h:=(ze (za (zt (zf (zD rfl rfl ⟨gr1,vE1,(Er.e 7),k_left - (1:Int),rfl,hE1,hB1,H⟩)))))))
  ·replace H:=H.2 (b1)
   exact zo (za (zd (zb (yp (h:=(ze (za (zt (zD rfl rfl ⟨gr1,.nilIface,Er.ok,k_left - (1:Int),rfl,(ErrR.okR (S:=S) (w:=w1)),hB1,H⟩)))))))))
 ·clear H
  rcases Bool.eq_false_or_eq_true (decide ((k_left - (1:Int))<(0:Int))) with b2 | b2
  ·exact gn b2 (h:=(gn b2 (h:=(zg rfl (zQ (okb b2) rfl) (wk (hQ _ _ ⟨true,rfl,by rw [b2] <;> rfl,rfl⟩))))))
  ·exact gp b2 (h:=(gp b2 (h:=(zg rfl (zK (okb b2) rfl) (wk (hQ _ _ ⟨decide ((60:Int)<deep),rfl,by rw [b2] <;> rfl,rfl⟩))))))
set_option maxHeartbeats 8000000 in
theorem W_pval_looker_equal {S:List Nat} {B:Nat} {w:World} {g_k:Nat} {k_left:Int} {e_k:TypeId} {v_a:OV} {F_a:Nat->Prop} {a:PV} {v_b:OV} {F_b:Nat->Prop} {b:PV} {deep:Int} {K:Bool->Er->Int->Prop} (hG:GB S B w) (hB:B<=w.heap.size) (hP:AllP (fun p=>Ge p B) [(some g_k)]) (hS7:7∈S) (hk:Bl w g_k e_k [.int .i64 k_left]) (he_k:Nat.beq e_k 302=false) (ha:RelD deV w [(v_a,F_a)] [a]) (hb:RelD deV w [(v_b,F_b)] [b]) (hap0:AllP (DnD deV [(v_a,F_a)] [a]) [(some g_k)]) (hap1:AllP (DnD deV [(v_b,F_b)] [b]) [(some g_k)]) (H:kt k_left a b deep K):Fn Tryz.prog 192 ⟨[.pointer (some ⟨g_k,0,none⟩),v_a.1,v_b.1,.int .i64 deep]⟩ w (fun v w'=>GrL [(some g_k)] w w'/\∃ (r0:Bool),∃ (v_r1:Value),∃ (r1:Er),∃ (k_left2:Int),v=.tuple #[.bool r0,v_r1]/\ErrR S w' v_r1 r1/\Bl w' g_k e_k [.int .i64 k_left2]/\K r0 r1 k_left2):=by
 unfold kt at H
 refine Fn.enter (by kernel_rfl) Tryz.func192 rfl Tryz.ntmps192 rfl ?_
 have hNoAt:AllP (NoAt w) [(some g_k)]:=(apC (NoAt.bl hk he_k) apN)
 refine zd (zb (yp (h:=(yp (h:=(ze (za (zd (zd (zb (yp (h:=(yp (h:=(zx rfl rfl (kA hG (Nat.le_trans hB (Nat.le_refl _)) (apC (InP.toGe (InP.mem (List.Mem.head _)) hP hB) apN) hS7 hk he_k H) ?_)))))))))))))))
 rintro v_err w1 ⟨hgl1,_,err,k_,rfl,herr,hB1,H⟩
 have gr1:GrL [(some g_k)] w w1:=GrL.modL (GrL.refl _) hgl1 (apC (InP.mem (List.Mem.head _)) apN)
 refine yp (h:=(ze (za (zd (zb (yp (h:=(zg rfl (z1 Tryz.underlying43 herr rfl) (ze (za (zm rfl (fun b1=>?_) (fun b1=>?_))))))))))))
 ·replace H:=H.1 (jw b1)
  exact zd (zb (yp (h:=(yp (h:=(yp (h:=(ze (za (zt (zf (z8 rfl rfl rfl ⟨gr1,false,v_err,err,k_,rfl,herr,hB1,H⟩))))))))))))
 ·replace H:=H.2 (jq b1)
  refine zo (za (zd (zd (zb (yp (h:=?_))))))
  obtain ⟨h1,H⟩:=H
  refine qz rfl (ha.goL gr1 hap0) h1 rfl (fun w2 hg1=>?_)
  have gr2:=GrL.add0 gr1 hg1
  refine yp (h:=?_)
  obtain ⟨h2,H⟩:=H
  refine qz rfl (hb.goL gr2 hap1) h2 rfl (fun w3 hg2=>?_)
  have gr3:=GrL.add0 gr2 hg2
  have k2:=(hB1.g0 hg1).g0 hg2
  refine yp (h:=(ze (za (zm rfl (fun b2=>?_) (fun b2=>?_)))))
  ·replace H:=H.1 (jw b2)
   exact zd (zb (yp (h:=(yp (h:=(ze (za (zt (zf (z8 rfl rfl rfl ⟨gr3,false,.nilIface,Er.ok,k_,rfl,(ErrR.okR (S:=S) (w:=w3)),k2,H⟩))))))))))
  ·replace H:=H.2 (jq b2)
   refine zo (za (zd (zd (zb (yp (h:=(ze (za (WC.block (zd (zb ?_)))))))))))
   obtain ⟨h3,H⟩:=H
   refine zg rfl (qV (z:=.agg ⟨[]⟩) Tryz.underlying221 rfl (fun _=>by kernel_rfl) (ha.goL gr3 hap0) rfl (tyP_none h3)) (yp (h:=(yp (h:=(ze (za (zm rfl (fun h=>by cases h) (fun _=>zd (zb (zg rfl (qV (z:=.bool false) Tryz.underlying223 rfl (fun _=>by kernel_rfl) (ha.goL gr3 hap0) rfl (tyP_no rfl a)) (yp (h:=(yp (h:=(ze (za (zm rfl (fun h=>by cases h) (fun _=>zd (zb ?_)))))))))))))))))))
   rcases PV.intCases a with ⟨z,he1⟩ | he1
   ·replace H:=H.1 z he1
    obtain ⟨a2,b_2,hv1,hN1,one1,one2,hL1⟩:=VR.intOut (ha.goL gr3 hap0) he1
    refine zg rfl (jf Tryz.underlying208 rfl rfl hv1) (yp (h:=(yp (h:=(ze (za (zm rfl (fun _=>zd (zb (WL.alloc rfl zero208 (fun g1 w4 hB2 hg3 hl1=>zZ (vs:=[a2,b_2]) qD rfl rfl rfl (qJ one1 (qJ one2 jl)) hB2 rfl rfl (fun w5 hB3 hg4=>?_))))) (fun h=>by cases h))))))))
    have gr5:GrL [(some g_k)] w w5:=GrL.mod (GrL.add0 gr3 hg3) hg4 (InP.ge (Ge.le (Ge.box hl1) (GrL.sizeL gr3)))
    refine ze (za (zd ?_))
    obtain ⟨z2,he2,H⟩:=H
    obtain ⟨a3,b_3,hv2,hN2,one3,one4,hL2⟩:=VR.intOut (hb.goL gr5 hap1) he2
    refine zW (fun k => !(Nat.beq k 5)) (LD [1] (fun w'=>Bl w' g1 208 [a2,b_2])) jx (by kernel_rfl) (fun k w' h _=>(ki h hB3)) (zA rfl rfl (fun w' hw'=>z9 (o:=0) (by kernel_rfl) rfl) (zA rfl rfl (fun w' hw'=>qt (vs:=[a2,b_2]) qD (hw' rfl) rfl rfl rfl rfl) (zA rfl rfl (fun w' hw'=>zh qD rfl) (zA rfl rfl (fun w' hw'=>kh Tryz.underlying208 rfl rfl hv2) (zA rfl rfl (fun w' hw'=>zO qI rfl rfl rfl) (z7 rfl (jF) rfl rfl (W_num_Num_Cmp (Nm.goV (hN1.grown hg3) hL1 (GrL.of1 hg4) (apC (DnD.one (ha.inp hap0 (InP.ge (Ge.le (Ge.box hl1) (GrL.sizeL gr3))))) apN)) hN2 H) (fun v w' h w2 e=>DD.keep (Bl.g0 hB3 (jo h.1 e))) ?_))))))
    rintro _ w6 ⟨hg5,t51,rfl,H⟩
    have k8:=hB3.g0 hg5
    exact zA rfl rfl (fun w' hw'=>zh qD rfl) (zA rfl rfl (fun w' hw'=>zh qD rfl) (zA rfl rfl (fun w' hw'=>zh qD rfl) (qh (za (zt (zj (zf (z8 rfl rfl rfl ⟨(GrL.add0 gr5 hg5),decide (t51=(0:Int)),.nilIface,Er.ok,k_,rfl,(ErrR.okR (S:=S) (w:=w6)),(((k2.g0 hg3).go hg4 (Dj.new k2.lt' (Ge.box hl1))).g0 hg5),H⟩))))))))
   ·replace H:=H.2 he1
    refine zg rfl (qV (z:=.agg ⟨[.bool false,.slice none 0 0]⟩) Tryz.underlying208 rfl (fun _=>by kernel_rfl) (ha.goL gr3 hap0) rfl (tyP_int he1)) (yp (h:=(yp (h:=(ze (za (zm rfl (fun h=>by cases h) (fun _=>zd (zb ?_)))))))))
    rcases PV.strCases a with ⟨s,he3⟩ | he3
    ·replace H:=H.1 s he3
     have hv3:=VR.strOut (ha.goL gr3 hap0) he3
     refine zg rfl (jf Tryz.underlying169 rfl rfl hv3) (yp (h:=(yp (h:=(ze (za (zm rfl (fun _=>zd (zb (yp (h:=(ze (za (zd (zb (yp (h:=(yp (h:=?_)))))))))))) (fun h=>by cases h))))))))
     obtain ⟨s2,he4,H⟩:=H
     have hv4:=VR.strOut (hb.goL gr3 hap1) he4
     exact zg rfl (kh Tryz.underlying169 rfl rfl hv4) (yp (h:=(yp (h:=(yp (h:=(ze (za (zt (zj (zf (z8 rfl rfl rfl ⟨gr3,decide (s=s2),.nilIface,Er.ok,k_,rfl,(ErrR.okR (S:=S) (w:=w3)),k2,H⟩))))))))))))
    ·replace H:=H.2 he3
     refine zg rfl (qV (z:=vs ([]:List UInt8)) Tryz.underlying169 rfl (fun _=>by kernel_rfl) (ha.goL gr3 hap0) rfl (tyP_str he3)) (yp (h:=(yp (h:=(ze (za (zm rfl (fun h=>by cases h) (fun _=>zd (zb ?_)))))))))
     rcases PV.empCases a with he5 | he5
     ·replace H:=H.1 he5
      obtain ⟨g_l,A_l,c_l,hv5,hB4,hR1,hr1,hd1⟩:=VR.empOut (ha.goL gr3 hap0) he5
      exact zg rfl (jf Tryz.underlying61 rfl rfl hv5) (yp (h:=(yp (h:=(ze (za (zm rfl (fun _=>zd (zb (yp (h:=(ze (za (zd (zW (fun k => !(Nat.beq k 11)) (LD [4,9] (fun w'=>Bl w' g_l 166 [.slice A_l ((([]:List PV)).length) c_l,.bool false,.int .i64 (0:Int)])) jx (by kernel_rfl) (fun k w' h _=>(ki h hB4)) (zA rfl rfl (fun w' hw'=>zh qD rfl) (zA rfl rfl (fun w' hw'=>zh qD rfl) (zA rfl rfl (fun w' hw'=>zh qD rfl) (zA rfl rfl (fun w' hw'=>z9 (o:=0) (by kernel_rfl) rfl) (zA rfl rfl (fun w' hw'=>zz qD (hw' rfl) rfl rfl rfl) (zA rfl rfl (fun w' hw'=>zh qD rfl) H.elim)))))))))))))) (fun h=>by cases h))))))))
     ·replace H:=H.2 he5
      refine zg rfl (qV (z:=.pointer none) Tryz.underlying61 rfl (fun _=>by kernel_rfl) (ha.goL gr3 hap0) rfl (tyP_emp he5)) (yp (h:=(yp (h:=(ze (za (zm rfl (fun h=>by cases h) (fun _=>zd (zb ?_)))))))))
      rcases PV.tupCases a with ⟨l,he6⟩ | he6
      ·replace H:=H.1 l he6
       obtain ⟨g_t,A_t,c_t,b5,hv6,hB5,hR2,hr2,hd2,hd3,hd4⟩:=VR.tupOut (ha.goL gr3 hap0) he6
       refine zg rfl (jf Tryz.underlying155 rfl rfl hv6) (yp (h:=(yp (h:=(ze (za (zm rfl (fun _=>zd (zb (yp (h:=(ze (za (zd ?_))))))) (fun h=>by cases h))))))))
       obtain ⟨l2,he7,H⟩:=H
       obtain ⟨a8,a6,a7,a9,hv7,hB6,hR3,hr3,hd5,hd6,hd7⟩:=VR.tupOut (hb.goL gr3 hap1) he7
       exact zW (fun k => !(Nat.beq k 11)) (LD [4,9] (fun w'=>Bl w' g_t 158 [.slice A_t ((l.map PA.v).length) c_t]/\Bl w' a8 158 [.slice a6 ((l2.map PA.v).length) a7])) jx (by kernel_rfl) (fun k w' h _=>⟨(ki h hB5),(ki h hB6)⟩) (zA rfl rfl (fun w' hw'=>zh qD rfl) (zA rfl rfl (fun w' hw'=>zh qD rfl) (zA rfl rfl (fun w' hw'=>zh qD rfl) (zA rfl rfl (fun w' hw'=>z9 (o:=0) (by kernel_rfl) rfl) (zA rfl rfl (fun w' hw'=>zz qD (hw' rfl).1 rfl rfl rfl) (zA rfl rfl (fun w' hw'=>zh qD rfl) (zA rfl rfl (fun w' hw'=>kh Tryz.underlying155 rfl rfl hv7) (zA rfl rfl (fun w' hw'=>zh qD rfl) (zA rfl rfl (fun w' hw'=>z9 (o:=0) (by kernel_rfl) rfl) (zA rfl rfl (fun w' hw'=>zz qD (hw' rfl).2 rfl rfl rfl) (zA rfl rfl (fun w' hw'=>zh qD rfl) (False.elim H))))))))))))
      ·replace H:=H.2 he6
       exact zg rfl (qV (z:=.pointer none) Tryz.underlying155 rfl (fun _=>by kernel_rfl) (ha.goL gr3 hap0) rfl (tyP_tup he6)) (yp (h:=(yp (h:=(ze (za (zm rfl (fun h=>by cases h) (fun _=>zd (zb (zg rfl (qV (z:=.pointer none) Tryz.underlying242 rfl (fun _=>by kernel_rfl) (ha.goL gr3 hap0) rfl (tyP_no rfl a)) (yp (h:=(yp (h:=(ze (za (zm rfl (fun h=>by cases h) (fun _=>zd (zb (zg rfl (qV (z:=.pointer none) Tryz.underlying269 rfl (fun _=>by kernel_rfl) (ha.goL gr3 hap0) rfl (tyP_no rfl a)) (yp (h:=(yp (h:=(ze (za (zm rfl (fun h=>by cases h) (fun _=>zd (zb (zg rfl (assertNoI (z:=.nilIface) Tryz.underlying229 (fun _=>by kernel_rfl) (by decide +kernel) (ha.goL gr3 hap0) rfl) (yp (h:=(yp (h:=(ze (za (zm rfl (fun h=>by cases h) (fun _=>zo (zi (za (zd (False.elim H))))))))))))))))))))))))))))))))))))))))))
set_option maxHeartbeats 8000000 in
theorem W_pval_looker_less {S:List Nat} {B:Nat} {w:World} {g_k:Nat} {k_left:Int} {v_a:OV} {F_a:Nat->Prop} {a:PV} {v_b:OV} {F_b:Nat->Prop} {b:PV} {deep:Int} {K:Bool->Er->Int->Prop} (hG:GB S B w) (hB:B<=w.heap.size) (hP:AllP (fun p=>Ge p B) [(some g_k)]) (hS3:3∈S) (hS7:7∈S) (hk:Bl w g_k 287 [.int .i64 k_left]) (ha:RelD deV w [(v_a,F_a)] [a]) (hb:RelD deV w [(v_b,F_b)] [b]) (hap0:AllP (DnD deV [(v_a,F_a)] [a]) [(some g_k)]) (hap1:AllP (DnD deV [(v_b,F_b)] [b]) [(some g_k)]) (H:kz k_left a b deep K):Fn Tryz.prog 188 ⟨[.pointer (some ⟨g_k,0,none⟩),v_a.1,v_b.1,.int .i64 deep]⟩ w (fun v w'=>GrL [(some g_k)] w w'/\∃ (r0:Bool),∃ (v_r1:Value),∃ (r1:Er),∃ (k_left2:Int),v=.tuple #[.bool r0,v_r1]/\ErrR S w' v_r1 r1/\Bl w' g_k 287 [.int .i64 k_left2]/\K r0 r1 k_left2):=by
 unfold kz at H
 refine Fn.enter (by kernel_rfl) Tryz.func188 rfl Tryz.ntmps188 rfl ?_
 have hNoAt:AllP (NoAt w) [(some g_k)]:=(apC (NoAt.bl hk rfl) apN)
 refine zd (zb (yp (h:=(yp (h:=(ze (za (zd (zd (zb (yp (h:=(yp (h:=(zx rfl rfl (kA hG (Nat.le_trans hB (Nat.le_refl _)) (apC (InP.toGe (InP.mem (List.Mem.head _)) hP hB) apN) hS7 hk rfl H) ?_)))))))))))))))
 rintro v_err w1 ⟨hgl1,_,err,k_,rfl,herr,hB1,H⟩
 have gr1:GrL [(some g_k)] w w1:=GrL.modL (GrL.refl _) hgl1 (apC (InP.mem (List.Mem.head _)) apN)
 refine yp (h:=(ze (za (zd (zb (yp (h:=(zg rfl (z1 Tryz.underlying43 herr rfl) (ze (za (zm rfl (fun b1=>?_) (fun b1=>?_))))))))))))
 ·replace H:=H.1 (jw b1)
  exact zd (zb (yp (h:=(yp (h:=(yp (h:=(ze (za (zt (zf (z8 rfl rfl rfl ⟨gr1,false,v_err,err,k_,rfl,herr,hB1,H⟩))))))))))))
 ·replace H:=H.2 (jq b1)
  refine zo (za (zd (zd (zb (yp (h:=?_))))))
  obtain ⟨h1,H⟩:=H
  refine qz rfl (ha.goL gr1 hap0) h1 rfl (fun w2 hg1=>?_)
  have gr2:=GrL.add0 gr1 hg1
  refine yp (h:=?_)
  obtain ⟨h2,H⟩:=H
  refine qz rfl (hb.goL gr2 hap1) h2 rfl (fun w3 hg2=>?_)
  have gr3:=GrL.add0 gr2 hg2
  have k2:=(hB1.g0 hg1).g0 hg2
  refine yp (h:=(ze (za (zm rfl (fun b2=>?_) (fun b2=>?_)))))
  ·replace H:=H.1 (jw b2)
   refine zd (qq jx (by kernel_rfl) ?_)
   obtain ⟨vE1,_,hE1⟩:=GOK.get (hG.goL gr3 hP).ok 3 0 hS3 rfl rfl
   exact qc rfl (Yld.cell qD (ErrR.cell hE1 rfl) rfl rfl) (qc rfl (zh qD rfl) (qc rfl (zh qD rfl) (qC (za (zt (zf (z8 rfl rfl rfl ⟨gr3,false,vE1,(Er.e 3),k_,rfl,hE1,k2,H⟩)))))))
  ·replace H:=H.2 (jq b2)
   refine zo (za (zd (zd (zb (yp (h:=(ze (za (WC.block (zd (zb (zg rfl (qV (z:=.bool false) Tryz.underlying223 rfl (fun _=>by kernel_rfl) (ha.goL gr3 hap0) rfl (tyP_no rfl a)) (yp (h:=(yp (h:=(ze (za (zm rfl (fun h=>by cases h) (fun _=>zd (zb ?_)))))))))))))))))))))
   rcases PV.intCases a with ⟨z,he1⟩ | he1
   ·replace H:=H.1 z he1
    obtain ⟨a2,b_2,hv1,hN1,one1,one2,hL1⟩:=VR.intOut (ha.goL gr3 hap0) he1
    refine zg rfl (jf Tryz.underlying208 rfl rfl hv1) (yp (h:=(yp (h:=(ze (za (zm rfl (fun _=>zd (zb (WL.alloc rfl zero208 (fun g1 w4 hB2 hg3 hl1=>zZ (vs:=[a2,b_2]) qD rfl rfl rfl (qJ one1 (qJ one2 jl)) hB2 rfl rfl (fun w5 hB3 hg4=>?_))))) (fun h=>by cases h))))))))
    have gr5:GrL [(some g_k)] w w5:=GrL.mod (GrL.add0 gr3 hg3) hg4 (InP.ge (Ge.le (Ge.box hl1) (GrL.sizeL gr3)))
    refine ze (za (zd ?_))
    obtain ⟨z2,he2,H⟩:=H
    obtain ⟨a3,b_3,hv2,hN2,one3,one4,hL2⟩:=VR.intOut (hb.goL gr5 hap1) he2
    refine zW (fun k => !(Nat.beq k 5)) (LD [1] (fun w'=>Bl w' g1 208 [a2,b_2])) jx (by kernel_rfl) (fun k w' h _=>(ki h hB3)) (zA rfl rfl (fun w' hw'=>z9 (o:=0) (by kernel_rfl) rfl) (zA rfl rfl (fun w' hw'=>qt (vs:=[a2,b_2]) qD (hw' rfl) rfl rfl rfl rfl) (zA rfl rfl (fun w' hw'=>zh qD rfl) (zA rfl rfl (fun w' hw'=>kh Tryz.underlying208 rfl rfl hv2) (zA rfl rfl (fun w' hw'=>zO qI rfl rfl rfl) (z7 rfl (jF) rfl rfl (W_num_Num_Cmp (Nm.goV (hN1.grown hg3) hL1 (GrL.of1 hg4) (apC (DnD.one (ha.inp hap0 (InP.ge (Ge.le (Ge.box hl1) (GrL.sizeL gr3))))) apN)) hN2 H) (fun v w' h w2 e=>DD.keep (Bl.g0 hB3 (jo h.1 e))) ?_))))))
    rintro _ w6 ⟨hg5,t46,rfl,H⟩
    have k8:=hB3.g0 hg5
    exact zA rfl rfl (fun w' hw'=>zh qD rfl) (zA rfl rfl (fun w' hw'=>zh qD rfl) (zA rfl rfl (fun w' hw'=>zh qD rfl) (qh (za (zt (zj (zf (z8 rfl rfl rfl ⟨(GrL.add0 gr5 hg5),decide (t46<(0:Int)),.nilIface,Er.ok,k_,rfl,(ErrR.okR (S:=S) (w:=w6)),(((k2.g0 hg3).go hg4 (Dj.new k2.lt' (Ge.box hl1))).g0 hg5),H⟩))))))))
   ·replace H:=H.2 he1
    refine zg rfl (qV (z:=.agg ⟨[.bool false,.slice none 0 0]⟩) Tryz.underlying208 rfl (fun _=>by kernel_rfl) (ha.goL gr3 hap0) rfl (tyP_int he1)) (yp (h:=(yp (h:=(ze (za (zm rfl (fun h=>by cases h) (fun _=>zd (zb ?_)))))))))
    rcases PV.strCases a with ⟨s,he3⟩ | he3
    ·replace H:=H.1 s he3
     have hv3:=VR.strOut (ha.goL gr3 hap0) he3
     refine zg rfl (jf Tryz.underlying169 rfl rfl hv3) (yp (h:=(yp (h:=(ze (za (zm rfl (fun _=>zd (zb (yp (h:=(ze (za (zd (zb (yp (h:=(yp (h:=?_)))))))))))) (fun h=>by cases h))))))))
     obtain ⟨s2,he4,H⟩:=H
     have hv4:=VR.strOut (hb.goL gr3 hap1) he4
     exact zg rfl (kh Tryz.underlying169 rfl rfl hv4) (yp (h:=(yp (h:=(yp (h:=(ze (za (zt (zj (zf (z8 rfl rfl rfl ⟨gr3,Op.bytesLess s s2,.nilIface,Er.ok,k_,rfl,(ErrR.okR (S:=S) (w:=w3)),k2,H⟩))))))))))))
    ·replace H:=H.2 he3
     refine zg rfl (qV (z:=vs ([]:List UInt8)) Tryz.underlying169 rfl (fun _=>by kernel_rfl) (ha.goL gr3 hap0) rfl (tyP_str he3)) (yp (h:=(yp (h:=(ze (za (zm rfl (fun h=>by cases h) (fun _=>zd (zb ?_)))))))))
     rcases PV.empCases a with he5 | he5
     ·replace H:=H.1 he5
      obtain ⟨g_l,A_l,c_l,hv5,hB4,hR1,hr1,hd1⟩:=VR.empOut (ha.goL gr3 hap0) he5
      exact zg rfl (jf Tryz.underlying61 rfl rfl hv5) (yp (h:=(yp (h:=(ze (za (zm rfl (fun _=>zd (zb (yp (h:=(ze (za (zd (zW (fun k => !(Nat.beq k 11)) (LD [4,9] (fun w'=>Bl w' g_l 166 [.slice A_l ((([]:List PV)).length) c_l,.bool false,.int .i64 (0:Int)])) jx (by kernel_rfl) (fun k w' h _=>(ki h hB4)) (zA rfl rfl (fun w' hw'=>zh qD rfl) (zA rfl rfl (fun w' hw'=>zh qD rfl) (zA rfl rfl (fun w' hw'=>zh qD rfl) (zA rfl rfl (fun w' hw'=>z9 (o:=0) (by kernel_rfl) rfl) (zA rfl rfl (fun w' hw'=>zz qD (hw' rfl) rfl rfl rfl) (zA rfl rfl (fun w' hw'=>zh qD rfl) H.elim)))))))))))))) (fun h=>by cases h))))))))
     ·replace H:=H.2 he5
      refine zg rfl (qV (z:=.pointer none) Tryz.underlying61 rfl (fun _=>by kernel_rfl) (ha.goL gr3 hap0) rfl (tyP_emp he5)) (yp (h:=(yp (h:=(ze (za (zm rfl (fun h=>by cases h) (fun _=>zd (zb ?_)))))))))
      rcases PV.tupCases a with ⟨l,he6⟩ | he6
      ·replace H:=H.1 l he6
       obtain ⟨g_t,A_t,c_t,b5,hv6,hB5,hR2,hr2,hd2,hd3,hd4⟩:=VR.tupOut (ha.goL gr3 hap0) he6
       refine zg rfl (jf Tryz.underlying155 rfl rfl hv6) (yp (h:=(yp (h:=(ze (za (zm rfl (fun _=>zd (zb (yp (h:=(ze (za (zd ?_))))))) (fun h=>by cases h))))))))
       obtain ⟨l2,he7,H⟩:=H
       obtain ⟨a8,a6,a7,a9,hv7,hB6,hR3,hr3,hd5,hd6,hd7⟩:=VR.tupOut (hb.goL gr3 hap1) he7
       exact zW (fun k => !(Nat.beq k 11)) (LD [4,9] (fun w'=>Bl w' g_t 158 [.slice A_t ((l.map PA.v).length) c_t]/\Bl w' a8 158 [.slice a6 ((l2.map PA.v).length) a7])) jx (by kernel_rfl) (fun k w' h _=>⟨(ki h hB5),(ki h hB6)⟩) (zA rfl rfl (fun w' hw'=>zh qD rfl) (zA rfl rfl (fun w' hw'=>zh qD rfl) (zA rfl rfl (fun w' hw'=>zh qD rfl) (zA rfl rfl (fun w' hw'=>z9 (o:=0) (by kernel_rfl) rfl) (zA rfl rfl (fun w' hw'=>zz qD (hw' rfl).1 rfl rfl rfl) (zA rfl rfl (fun w' hw'=>zh qD rfl) (zA rfl rfl (fun w' hw'=>kh Tryz.underlying155 rfl rfl hv7) (zA rfl rfl (fun w' hw'=>zh qD rfl) (zA rfl rfl (fun w' hw'=>z9 (o:=0) (by kernel_rfl) rfl) (zA rfl rfl (fun w' hw'=>zz qD (hw' rfl).2 rfl rfl rfl) (zA rfl rfl (fun w' hw'=>zh qD rfl) (False.elim H))))))))))))
      ·replace H:=H.2 he6
       refine zg rfl (qV (z:=.pointer none) Tryz.underlying155 rfl (fun _=>by kernel_rfl) (ha.goL gr3 hap0) rfl (tyP_tup he6)) (yp (h:=(yp (h:=(ze (za (zm rfl (fun h=>by cases h) (fun _=>zo (zi (za (zd (qq jx (by kernel_rfl) ?_))))))))))))
       obtain ⟨vE2,_,hE2⟩:=GOK.get (hG.goL gr3 hP).ok 3 0 hS3 rfl rfl
       exact qc rfl (Yld.cell qD (ErrR.cell hE2 rfl) rfl rfl) (qc rfl (zh qD rfl) (qc rfl (zh qD rfl) (qC (za (zt (z8 rfl rfl rfl ⟨gr3,false,vE2,(Er.e 3),k_,rfl,hE2,k2,H⟩))))))
set_option maxHeartbeats 8000000 in
theorem W_pval_looker_first {S:List Nat} {B:Nat} {w:World} {g_k:Nat} {k_left:Int} {a:List PV} {A_a:Option Addr} {c_a:Nat} {a4:List VH} {b:List PV} {A_b:Option Addr} {c_b:Nat} {a5:List VH} {deep:Int} {n_a:Nat} {n_b:Nat} {K:Bool->Er->Int->Prop} (hG:GB S B w) (hB:B<=w.heap.size) (hP:AllP (fun p=>Ge p B) [(some g_k)]) (hS3:3∈S) (hS7:7∈S) (hk:Bl w g_k 287 [.int .i64 k_left]) (ha:Rd vv w A_a c_a a4) (b6:n_a=a.length) (a0:RelD deV w a4 a) (hb:Rd vv w A_b c_b a5) (b7:n_b=b.length) (a1:RelD deV w a5 b) (hap0:AllP (Dn a4 (blk A_a)) [(some g_k)]) (hap1:AllP (DnD deV a4 a) [(some g_k)]) (hap2:AllP (Dn a5 (blk A_b)) [(some g_k)]) (hap3:AllP (DnD deV a5 b) [(some g_k)]) (H:ku k_left a b deep K):Fn Tryz.prog 207 ⟨[.pointer (some ⟨g_k,0,none⟩),.slice A_a n_a c_a,.slice A_b n_b c_b,.int .i64 deep]⟩ w (fun v w'=>GrL [(some g_k)] w w'/\∃ (r0:Bool),∃ (v_r1:Value),∃ (r1:Er),∃ (k_left2:Int),v=.tuple #[.bool r0,v_r1]/\ErrR S w' v_r1 r1/\Bl w' g_k 287 [.int .i64 k_left2]/\K r0 r1 k_left2):=by
 subst b6
 subst b7
 unfold ku at H
 refine Fn.enter (by kernel_rfl) Tryz.func207 rfl Tryz.ntmps207 rfl ?_
 replace H:=H (by rw [<-a0.1]; exact Nat.le_trans ha.cap ha.max)
 replace H:=H (by rw [<-a1.1]; exact Nat.le_trans hb.cap hb.max)
 have hNoAt:AllP (NoAt w) [(some g_k)]:=(apC (NoAt.bl hk rfl) apN)
 refine zd (zb (yp (h:=(yp (h:=(ze (za (zd (zd (zb (yp (h:=(yp (h:=(yp (h:=(yp (h:=(zg rfl (zC rfl rfl) (yp (h:=(ze (za (WC.block ?_))))))))))))))))))))))))
 obtain ⟨I1,mu1,b0,HR1⟩:=H
 refine z3 (fun n' L' w'=>∃ (t19:Int),∃ (k0:Int),n'=mu1 t19 k0/\L'=[(0,.pointer (some ⟨g_k,0,none⟩)),(1,.slice A_a a.length c_a),(2,.slice A_b b.length c_b),(3,.int .i64 deep),(18,.int .i64 (if (b.length:Int)<(a.length:Int) then (b.length:Int) else (a.length:Int))),(19,.int .i64 t19)]/\I1 t19 k0/\GrL [(some g_k)] w w'/\Bl w' g_k 287 [.int .i64 k0]) _ _ ⟨(0:Int),k_left,rfl,rfl,b0,(GrL.refl _),hk⟩ sb ?_
 clear b0
 rintro _ _ w1 ⟨t19,k0,rfl,rfl,hI1,gr1,k1⟩
 have H:=HR1 t19 k0 hI1
 refine zd (zb (yp (h:=(ze (za (zd (zm rfl (fun b1=>?_) (fun b1=>?_))))))))
 ·replace H:=H.1 (of_decide_eq_true b1)
  refine zo (za (zd (WC.block (zd (zb (yp (h:=(yp (h:=(ze (za (zd (zW (fun k => !(Nat.beq k 11)) (LD [4,8] (fun w'=>Rd vv w' A_a c_a a4/\Rd vv w' A_b c_b a5)) jx (by kernel_rfl) (fun k w' h _=>⟨(jQ h (ha.goL gr1 hap0)),(jQ h (hb.goL gr1 hap2))⟩) (zA rfl rfl (fun w' hw'=>zh qD rfl) (zA rfl rfl (fun w' hw'=>zh qD rfl) (zA rfl rfl (fun w' hw'=>zh qD rfl) ?_))))))))))))))))
  obtain ⟨h1,H⟩:=H
  refine zA rfl rfl (fun w' hw'=>zB qD (ha.goL gr1 hap0) rfl rfl a0.1.symm rfl h1.1 h1.2) ?_
  obtain ⟨⟨v_el,F_el⟩,eh1,hR1⟩:=RelD.at (a0.goL gr1 hap1) vh0 PV.nil (j:=t19.toNat) (Nat.lt_of_lt_of_eq (iltN h1 a0.1.symm) (a0.goL gr1 hap1).1)
  have hv1:RelD deV w1 [(v_el,F_el)] [a.getD t19.toNat PV.nil]:=RelD.cons hR1 RelD.nil
  refine zA rfl rfl (fun w' hw'=>zR (v:=v_el.1) (zM vh0 qD (hw' rfl).1 rfl rfl (iltN h1 a0.1.symm)) (congrArg vv eh1)) (zA rfl rfl (fun w' hw'=>zh qD rfl) (zA rfl rfl (fun w' hw'=>zh qD rfl) ?_))
  obtain ⟨h2,H⟩:=H
  refine zA rfl rfl (fun w' hw'=>zB qD (hb.goL gr1 hap2) rfl rfl a1.1.symm rfl h2.1 h2.2) ?_
  obtain ⟨⟨v_el2,F_el2⟩,eh2,hR2⟩:=RelD.at (a1.goL gr1 hap3) vh0 PV.nil (j:=t19.toNat) (Nat.lt_of_lt_of_eq (iltN h2 a1.1.symm) (a1.goL gr1 hap3).1)
  have hv2:RelD deV w1 [(v_el2,F_el2)] [b.getD t19.toNat PV.nil]:=RelD.cons hR2 RelD.nil
  refine zA rfl rfl (fun w' hw'=>zR (v:=v_el2.1) (zM vh0 qD (hw' rfl).2 rfl rfl (iltN h2 a1.1.symm)) (congrArg vv eh2)) (zA rfl rfl (fun w' hw'=>zh qD rfl) ?_)
  obtain ⟨h3,H⟩:=H
  refine zA rfl rfl (fun w' hw'=>Yld.add rfl rfl h3) (z7 rfl jF rfl rfl (W_pval_looker_equal (hG.goL gr1 hP) (Nat.le_trans hB (GrL.sizeL gr1)) (apC (InP.toGe (InP.mem (List.Mem.head _)) hP hB) apN) hS7 k1 rfl hv1 hv2 (apC (DnD.cons (DnD.at (a0.inp hap1 (InP.mem (List.Mem.head _))) (a0.goL gr1 hap1).1 (Nat.lt_of_lt_of_eq (iltN h1 a0.1.symm) (a0.goL gr1 hap1).1) eh1) DnD.nil) apN) (apC (DnD.cons (DnD.at (a1.inp hap3 (InP.mem (List.Mem.head _))) (a1.goL gr1 hap3).1 (Nat.lt_of_lt_of_eq (iltN h2 a1.1.symm) (a1.goL gr1 hap3).1) eh2) DnD.nil) apN) H) (fun v w' h w2 e=>qm (by kernel_rfl)) ?_)
  rintro _ w2 ⟨hgl1,t340,v_t341,t341,k_,rfl,ht341,hB1,H⟩
  have gr2:GrL [(some g_k)] w w2:=GrL.modL gr1 hgl1 (apC (InP.mem (List.Mem.head _)) apN)
  refine zA rfl rfl (fun w' hw'=>zh qD rfl) (zA rfl rfl (fun w' hw'=>zh qD rfl) (zA rfl rfl (fun w' hw'=>zh qD rfl) (zA rfl rfl (fun w' hw'=>zh qD rfl) (zA rfl rfl (fun w' hw'=>zh qD rfl) (qh (za (zd (zd (zb (yp (h:=(zg rfl (z1 Tryz.underlying43 ht341 rfl) (ze (za (zm rfl (fun b2=>?_) (fun b2=>?_))))))))))))))))
  ·replace H:=H.1 (jw b2)
   exact zd (zb (yp (h:=(yp (h:=(yp (h:=(ze (za (zt (zf (zj (zf (zf (zj (zf (z8 rfl rfl rfl ⟨gr2,false,v_t341,t341,k_,rfl,ht341,hB1,H⟩)))))))))))))))))
  ·replace H:=H.2 (jq b2)
   refine zo (za (zd (zb (yp (h:=(yp (h:=(ze (za (zm rfl (fun b3=>?_) (fun b3=>?_)))))))))))
   ·replace H:=H.1 (b3)
    refine zd (zW (fun k => !(Nat.beq k 11)) (LD [4,8] (fun w'=>Rd vv w' A_a c_a a4/\Rd vv w' A_b c_b a5)) jx (by kernel_rfl) (fun k w' h _=>⟨(jQ h (ha.goL gr2 hap0)),(jQ h (hb.goL gr2 hap2))⟩) (zA rfl rfl (fun w' hw'=>zh qD rfl) (zA rfl rfl (fun w' hw'=>zh qD rfl) (zA rfl rfl (fun w' hw'=>zh qD rfl) ?_))))
    obtain ⟨h4,H⟩:=H
    refine zA rfl rfl (fun w' hw'=>zB qD (ha.goL gr2 hap0) rfl rfl a0.1.symm rfl h4.1 h4.2) ?_
    obtain ⟨⟨v_el3,F_el3⟩,eh3,hR3⟩:=RelD.at (a0.goL gr2 hap1) vh0 PV.nil (j:=t19.toNat) (Nat.lt_of_lt_of_eq (iltN h4 a0.1.symm) (a0.goL gr2 hap1).1)
    have hv3:RelD deV w2 [(v_el3,F_el3)] [a.getD t19.toNat PV.nil]:=RelD.cons hR3 RelD.nil
    refine zA rfl rfl (fun w' hw'=>zR (v:=v_el3.1) (zM vh0 qD (hw' rfl).1 rfl rfl (iltN h4 a0.1.symm)) (congrArg vv eh3)) (zA rfl rfl (fun w' hw'=>zh qD rfl) (zA rfl rfl (fun w' hw'=>zh qD rfl) ?_))
    obtain ⟨h5,H⟩:=H
    refine zA rfl rfl (fun w' hw'=>zB qD (hb.goL gr2 hap2) rfl rfl a1.1.symm rfl h5.1 h5.2) ?_
    obtain ⟨⟨v_el4,F_el4⟩,eh4,hR4⟩:=RelD.at (a1.goL gr2 hap3) vh0 PV.nil (j:=t19.toNat) (Nat.lt_of_lt_of_eq (iltN h5 a1.1.symm) (a1.goL gr2 hap3).1)
    have hv4:RelD deV w2 [(v_el4,F_el4)] [b.getD t19.toNat PV.nil]:=RelD.cons hR4 RelD.nil
    refine zA rfl rfl (fun w' hw'=>zR (v:=v_el4.1) (zM vh0 qD (hw' rfl).2 rfl rfl (iltN h5 a1.1.symm)) (congrArg vv eh4)) (zA rfl rfl (fun w' hw'=>zh qD rfl) ?_)
    obtain ⟨h6,H⟩:=H
    refine zA rfl rfl (fun w' hw'=>Yld.add rfl rfl h6) (z7 rfl jF rfl rfl (W_pval_looker_less (hG.goL gr2 hP) (Nat.le_trans hB (GrL.sizeL gr2)) (apC (InP.toGe (InP.mem (List.Mem.head _)) hP hB) apN) hS3 hS7 hB1 hv3 hv4 (apC (DnD.cons (DnD.at (a0.inp hap1 (InP.mem (List.Mem.head _))) (a0.goL gr2 hap1).1 (Nat.lt_of_lt_of_eq (iltN h4 a0.1.symm) (a0.goL gr2 hap1).1) eh3) DnD.nil) apN) (apC (DnD.cons (DnD.at (a1.inp hap3 (InP.mem (List.Mem.head _))) (a1.goL gr2 hap3).1 (Nat.lt_of_lt_of_eq (iltN h5 a1.1.symm) (a1.goL gr2 hap3).1) eh4) DnD.nil) apN) H) (fun v w' h w2 e=>qm (by kernel_rfl)) ?_)
    rintro _ w3 ⟨hgl2,t530,v_t531,t531,k_2,rfl,ht531,hB2,H⟩
    have gr3:GrL [(some g_k)] w w3:=GrL.modL gr2 hgl2 (apC (InP.mem (List.Mem.head _)) apN)
    exact zA rfl rfl (fun w' hw'=>zh qD rfl) (zA rfl rfl (fun w' hw'=>zh qD rfl) (zA rfl rfl (fun w' hw'=>zh qD rfl) (zA rfl rfl (fun w' hw'=>zh qD rfl) (qh (za (zt (zj (zf (zf (zj (zf (z8 rfl rfl rfl ⟨gr3,t530,v_t531,t531,k_2,rfl,ht531,hB2,H⟩))))))))))))
   ·replace H:=H.2 (b3)
    refine zo (zi (za (zb ?_)))
    obtain ⟨h7,H⟩:=H
    exact zg rfl (Yld.add rfl rfl h7) (yp (h:=(ze (zX _ ⟨t19+(1:Int),k_,rfl,rfl,H.1,gr2,hB1⟩ sb H.2))))
 ·replace H:=H.2 (of_decide_eq_false b1)
  refine zy (zk (zk (zl (za (zd (zd (zb (yp (h:=(yp (h:=(yp (h:=(yp (h:=(zg rfl (zC rfl rfl) (yp (h:=(zx rfl rfl (W_val_shallow (hG.goL gr1 hP).ok hS7 H) ?_)))))))))))))))))))
  rintro v_err _ ⟨rfl,_,err,rfl,herr,H⟩
  refine yp (h:=(ze (za (zd (zb (yp (h:=(zg rfl (z1 Tryz.underlying43 herr rfl) (ze (za (zm rfl (fun b4=>?_) (fun b4=>?_))))))))))))
  ·replace H:=H.1 (jw b4)
   exact zd (zb (yp (h:=(yp (h:=(yp (h:=(ze (za (zt (zf (z8 rfl rfl rfl ⟨gr1,false,v_err,err,k0,rfl,herr,k1,H⟩))))))))))))
  ·replace H:=H.2 (jq b4)
   exact zo (za (zd (zb (yp (h:=(yp (h:=(yp (h:=(yp (h:=(yp (h:=(yp (h:=(yp (h:=(ze (za (zt (z8 rfl rfl rfl ⟨gr1,decide ((a.length:Int)<(b.length:Int)),.nilIface,Er.ok,k0,rfl,(ErrR.okR (S:=S) (w:=w1)),k1,H⟩)))))))))))))))))))))
set_option maxHeartbeats 8000000 in
theorem W_val_looker_lessT {S:List Nat} {B:Nat} {w:World} {g_k:Nat} {k_left:Int} {v_a:OV} {F_a:Nat->Prop} {a:PV} {v_b:OV} {F_b:Nat->Prop} {b:PV} {deep:Int} {K:Bool->Er->Int->Prop} (hG:GB S B w) (hB:B<=w.heap.size) (hP:AllP (fun p=>Ge p B) [(some g_k)]) (hS3:3∈S) (hS7:7∈S) (hk:Bl w g_k 287 [.int .i64 k_left]) (ha:RelD deV w [(v_a,F_a)] [a]) (hb:RelD deV w [(v_b,F_b)] [b]) (hap0:AllP (DnD deV [(v_a,F_a)] [a]) [(some g_k)]) (hap1:AllP (DnD deV [(v_b,F_b)] [b]) [(some g_k)]) (H:kg k_left a b deep K):Fn Tryz.prog 188 ⟨[.pointer (some ⟨g_k,0,none⟩),v_a.1,v_b.1,.int .i64 deep]⟩ w (fun v w'=>GrL [(some g_k)] w w'/\∃ (r0:Bool),∃ (v_r1:Value),∃ (r1:Er),∃ (k_left2:Int),v=.tuple #[.bool r0,v_r1]/\ErrR S w' v_r1 r1/\Bl w' g_k 287 [.int .i64 k_left2]/\K r0 r1 k_left2):=by
 unfold kg at H
 refine Fn.enter (by kernel_rfl) Tryz.func188 rfl Tryz.ntmps188 rfl ?_
 have hNoAt:AllP (NoAt w) [(some g_k)]:=(apC (NoAt.bl hk rfl) apN)
 refine zd (zb (yp (h:=(yp (h:=(ze (za (zd (zd (zb (yp (h:=(yp (h:=(zx rfl rfl (kA hG (Nat.le_trans hB (Nat.le_refl _)) (apC (InP.toGe (InP.mem (List.Mem.head _)) hP hB) apN) hS7 hk rfl H) ?_)))))))))))))))
 rintro v_err w1 ⟨hgl1,_,err,k_,rfl,herr,hB1,H⟩
 have gr1:GrL [(some g_k)] w w1:=GrL.modL (GrL.refl _) hgl1 (apC (InP.mem (List.Mem.head _)) apN)
 refine yp (h:=(ze (za (zd (zb (yp (h:=(zg rfl (z1 Tryz.underlying43 herr rfl) (ze (za (zm rfl (fun b1=>?_) (fun b1=>?_))))))))))))
 ·replace H:=H.1 (jw b1)
  exact zd (zb (yp (h:=(yp (h:=(yp (h:=(ze (za (zt (zf (z8 rfl rfl rfl ⟨gr1,false,v_err,err,k_,rfl,herr,hB1,H⟩))))))))))))
 ·replace H:=H.2 (jq b1)
  refine zo (za (zd (zd (zb (yp (h:=?_))))))
  obtain ⟨h1,H⟩:=H
  refine qz rfl (ha.goL gr1 hap0) h1 rfl (fun w2 hg1=>?_)
  have gr2:=GrL.add0 gr1 hg1
  refine yp (h:=?_)
  obtain ⟨h2,H⟩:=H
  refine qz rfl (hb.goL gr2 hap1) h2 rfl (fun w3 hg2=>?_)
  have gr3:=GrL.add0 gr2 hg2
  have k2:=(hB1.g0 hg1).g0 hg2
  refine yp (h:=(ze (za (zm rfl (fun b2=>?_) (fun b2=>?_)))))
  ·replace H:=H.1 (jw b2)
   refine zd (qq jx (by kernel_rfl) ?_)
   obtain ⟨vE1,_,hE1⟩:=GOK.get (hG.goL gr3 hP).ok 3 0 hS3 rfl rfl
   exact qc rfl (Yld.cell qD (ErrR.cell hE1 rfl) rfl rfl) (qc rfl (zh qD rfl) (qc rfl (zh qD rfl) (qC (za (zt (zf (z8 rfl rfl rfl ⟨gr3,false,vE1,(Er.e 3),k_,rfl,hE1,k2,H⟩)))))))
  ·replace H:=H.2 (jq b2)
   refine zo (za (zd (zd (zb (yp (h:=(ze (za (WC.block (zd (zb (zg rfl (qV (z:=.bool false) Tryz.underlying223 rfl (fun _=>by kernel_rfl) (ha.goL gr3 hap0) rfl (tyP_no rfl a)) (yp (h:=(yp (h:=(ze (za (zm rfl (fun h=>by cases h) (fun _=>zd (zb ?_)))))))))))))))))))))
   rcases PV.intCases a with ⟨z,he1⟩ | he1
   ·replace H:=H.1 z he1
    obtain ⟨a2,b_2,hv1,hN1,one1,one2,hL1⟩:=VR.intOut (ha.goL gr3 hap0) he1
    refine zg rfl (jf Tryz.underlying208 rfl rfl hv1) (yp (h:=(yp (h:=(ze (za (zm rfl (fun _=>zd (zb (WL.alloc rfl zero208 (fun g1 w4 hB2 hg3 hl1=>zZ (vs:=[a2,b_2]) qD rfl rfl rfl (qJ one1 (qJ one2 jl)) hB2 rfl rfl (fun w5 hB3 hg4=>?_))))) (fun h=>by cases h))))))))
    have gr5:GrL [(some g_k)] w w5:=GrL.mod (GrL.add0 gr3 hg3) hg4 (InP.ge (Ge.le (Ge.box hl1) (GrL.sizeL gr3)))
    refine ze (za (zd ?_))
    obtain ⟨z2,he2,H⟩:=H
    obtain ⟨a3,b_3,hv2,hN2,one3,one4,hL2⟩:=VR.intOut (hb.goL gr5 hap1) he2
    refine zW (fun k => !(Nat.beq k 5)) (LD [1] (fun w'=>Bl w' g1 208 [a2,b_2])) jx (by kernel_rfl) (fun k w' h _=>(ki h hB3)) (zA rfl rfl (fun w' hw'=>z9 (o:=0) (by kernel_rfl) rfl) (zA rfl rfl (fun w' hw'=>qt (vs:=[a2,b_2]) qD (hw' rfl) rfl rfl rfl rfl) (zA rfl rfl (fun w' hw'=>zh qD rfl) (zA rfl rfl (fun w' hw'=>kh Tryz.underlying208 rfl rfl hv2) (zA rfl rfl (fun w' hw'=>zO qI rfl rfl rfl) (z7 rfl (jF) rfl rfl (W_num_Num_Cmp (Nm.goV (hN1.grown hg3) hL1 (GrL.of1 hg4) (apC (DnD.one (ha.inp hap0 (InP.ge (Ge.le (Ge.box hl1) (GrL.sizeL gr3))))) apN)) hN2 H) (fun v w' h w2 e=>DD.keep (Bl.g0 hB3 (jo h.1 e))) ?_))))))
    rintro _ w6 ⟨hg5,t46,rfl,H⟩
    have k8:=hB3.g0 hg5
    exact zA rfl rfl (fun w' hw'=>zh qD rfl) (zA rfl rfl (fun w' hw'=>zh qD rfl) (zA rfl rfl (fun w' hw'=>zh qD rfl) (qh (za (zt (zj (zf (z8 rfl rfl rfl ⟨(GrL.add0 gr5 hg5),decide (t46<(0:Int)),.nilIface,Er.ok,k_,rfl,(ErrR.okR (S:=S) (w:=w6)),(((k2.g0 hg3).go hg4 (Dj.new k2.lt' (Ge.box hl1))).g0 hg5),H⟩))))))))
   ·replace H:=H.2 he1
    refine zg rfl (qV (z:=.agg ⟨[.bool false,.slice none 0 0]⟩) Tryz.underlying208 rfl (fun _=>by kernel_rfl) (ha.goL gr3 hap0) rfl (tyP_int he1)) (yp (h:=(yp (h:=(ze (za (zm rfl (fun h=>by cases h) (fun _=>zd (zb ?_)))))))))
    rcases PV.strCases a with ⟨s,he3⟩ | he3
    ·replace H:=H.1 s he3
     have hv3:=VR.strOut (ha.goL gr3 hap0) he3
     refine zg rfl (jf Tryz.underlying169 rfl rfl hv3) (yp (h:=(yp (h:=(ze (za (zm rfl (fun _=>zd (zb (yp (h:=(ze (za (zd (zb (yp (h:=(yp (h:=?_)))))))))))) (fun h=>by cases h))))))))
     obtain ⟨s2,he4,H⟩:=H
     have hv4:=VR.strOut (hb.goL gr3 hap1) he4
     exact zg rfl (kh Tryz.underlying169 rfl rfl hv4) (yp (h:=(yp (h:=(yp (h:=(ze (za (zt (zj (zf (z8 rfl rfl rfl ⟨gr3,Op.bytesLess s s2,.nilIface,Er.ok,k_,rfl,(ErrR.okR (S:=S) (w:=w3)),k2,H⟩))))))))))))
    ·replace H:=H.2 he3
     refine zg rfl (qV (z:=vs ([]:List UInt8)) Tryz.underlying169 rfl (fun _=>by kernel_rfl) (ha.goL gr3 hap0) rfl (tyP_str he3)) (yp (h:=(yp (h:=(ze (za (zm rfl (fun h=>by cases h) (fun _=>zd (zb ?_)))))))))
     rcases PV.empCases a with he5 | he5
     ·replace H:=H.1 he5
      obtain ⟨g_l,A_l,c_l,hv5,hB4,hR1,hr1,hd1⟩:=VR.empOut (ha.goL gr3 hap0) he5
      exact zg rfl (jf Tryz.underlying61 rfl rfl hv5) (yp (h:=(yp (h:=(ze (za (zm rfl (fun _=>zd (zb (yp (h:=(ze (za (zd (zW (fun k => !(Nat.beq k 11)) (LD [4,9] (fun w'=>Bl w' g_l 166 [.slice A_l ((([]:List PV)).length) c_l,.bool false,.int .i64 (0:Int)])) jx (by kernel_rfl) (fun k w' h _=>(ki h hB4)) (zA rfl rfl (fun w' hw'=>zh qD rfl) (zA rfl rfl (fun w' hw'=>zh qD rfl) (zA rfl rfl (fun w' hw'=>zh qD rfl) (zA rfl rfl (fun w' hw'=>z9 (o:=0) (by kernel_rfl) rfl) (zA rfl rfl (fun w' hw'=>zz qD (hw' rfl) rfl rfl rfl) (zA rfl rfl (fun w' hw'=>zh qD rfl) H.elim)))))))))))))) (fun h=>by cases h))))))))
     ·replace H:=H.2 he5
      refine zg rfl (qV (z:=.pointer none) Tryz.underlying61 rfl (fun _=>by kernel_rfl) (ha.goL gr3 hap0) rfl (tyP_emp he5)) (yp (h:=(yp (h:=(ze (za (zm rfl (fun h=>by cases h) (fun _=>zd (zb ?_)))))))))
      rcases PV.tupCases a with ⟨l,he6⟩ | he6
      ·replace H:=H.1 l he6
       obtain ⟨g_t,A_t,c_t,b5,hv6,hB5,hR2,hr2,hd2,hd3,hd4⟩:=VR.tupOut (ha.goL gr3 hap0) he6
       refine zg rfl (jf Tryz.underlying155 rfl rfl hv6) (yp (h:=(yp (h:=(ze (za (zm rfl (fun _=>zd (zb (yp (h:=(ze (za (zd ?_))))))) (fun h=>by cases h))))))))
       obtain ⟨l2,he7,H⟩:=H
       obtain ⟨a8,a6,a7,a9,hv7,hB6,hR3,hr3,hd5,hd6,hd7⟩:=VR.tupOut (hb.goL gr3 hap1) he7
       refine zW (fun k => !(Nat.beq k 11)) (LD [4,9] (fun w'=>Bl w' g_t 158 [.slice A_t ((l.map PA.v).length) c_t]/\Bl w' a8 158 [.slice a6 ((l2.map PA.v).length) a7])) jx (by kernel_rfl) (fun k w' h _=>⟨(ki h hB5),(ki h hB6)⟩) (zA rfl rfl (fun w' hw'=>zh qD rfl) (zA rfl rfl (fun w' hw'=>zh qD rfl) (zA rfl rfl (fun w' hw'=>zh qD rfl) (zA rfl rfl (fun w' hw'=>z9 (o:=0) (by kernel_rfl) rfl) (zA rfl rfl (fun w' hw'=>zz qD (hw' rfl).1 rfl rfl rfl) (zA rfl rfl (fun w' hw'=>zh qD rfl) (zA rfl rfl (fun w' hw'=>kh Tryz.underlying155 rfl rfl hv7) (zA rfl rfl (fun w' hw'=>zh qD rfl) (zA rfl rfl (fun w' hw'=>z9 (o:=0) (by kernel_rfl) rfl) (zA rfl rfl (fun w' hw'=>zz qD (hw' rfl).2 rfl rfl rfl) (zA rfl rfl (fun w' hw'=>zh qD rfl) (z7 rfl jF rfl rfl (W_pval_looker_first (hG.goL gr3 hP) (Nat.le_trans hB (GrL.sizeL gr3)) (apC (InP.toGe (InP.mem (List.Mem.head _)) hP hB) apN) hS3 hS7 k2 hR2 rfl hr2 hR3 rfl hr3 (apC (hd3 _ (ha.inp hap0 (InP.mem (List.Mem.head _)))) apN) (apC (hd4 _ (ha.inp hap0 (InP.mem (List.Mem.head _)))) apN) (apC (hd6 _ (hb.inp hap1 (InP.mem (List.Mem.head _)))) apN) (apC (hd7 _ (hb.inp hap1 (InP.mem (List.Mem.head _)))) apN) H) (fun v w' h w2 e=>qm (by kernel_rfl)) ?_))))))))))))
       rintro _ w7 ⟨hgl2,t860,v_t861,t861,k_2,rfl,ht861,hB7,H⟩
       have gr7:GrL [(some g_k)] w w7:=GrL.modL gr3 hgl2 (apC (InP.mem (List.Mem.head _)) apN)
       have k9:=hB5.goL hgl2 (apC (hd2 _ (ha.inp hap0 (InP.mem (List.Mem.head _)))) apN)
       have k10:=hB6.goL hgl2 (apC (hd5 _ (hb.inp hap1 (InP.mem (List.Mem.head _)))) apN)
       exact zA rfl rfl (fun w' hw'=>zh qD rfl) (zA rfl rfl (fun w' hw'=>zh qD rfl) (zA rfl rfl (fun w' hw'=>zh qD rfl) (zA rfl rfl (fun w' hw'=>zh qD rfl) (qh (za (zt (zj (zf (z8 rfl rfl rfl ⟨gr7,t860,v_t861,t861,k_2,rfl,ht861,hB7,H⟩)))))))))
      ·replace H:=H.2 he6
       refine zg rfl (qV (z:=.pointer none) Tryz.underlying155 rfl (fun _=>by kernel_rfl) (ha.goL gr3 hap0) rfl (tyP_tup he6)) (yp (h:=(yp (h:=(ze (za (zm rfl (fun h=>by cases h) (fun _=>zo (zi (za (zd (qq jx (by kernel_rfl) ?_))))))))))))
       obtain ⟨vE2,_,hE2⟩:=GOK.get (hG.goL gr3 hP).ok 3 0 hS3 rfl rfl
       exact qc rfl (Yld.cell qD (ErrR.cell hE2 rfl) rfl rfl) (qc rfl (zh qD rfl) (qc rfl (zh qD rfl) (qC (za (zt (z8 rfl rfl rfl ⟨gr3,false,vE2,(Er.e 3),k_,rfl,hE2,k2,H⟩))))))
set_option maxHeartbeats 8000000 in
theorem W_val_Less {S:List Nat} {w:World} {v_a:OV} {F_a:Nat->Prop} {a:PV} {v_b:OV} {F_b:Nat->Prop} {b:PV} {K:Bool->Er->Prop} (hG:GOK S w) (hS3:3∈S) (hS7:7∈S) (ha:RelD deV w [(v_a,F_a)] [a]) (hb:RelD deV w [(v_b,F_b)] [b]) (H:M_val_Less a b K):Fn Tryz.prog 151 ⟨[v_a.1,v_b.1]⟩ w (fun v w'=>w.grownBy w' none/\∃ (r0:Bool),∃ (v_r1:Value),∃ (r1:Er),v=.tuple #[.bool r0,v_r1]/\ErrR S w' v_r1 r1/\K r0 r1):=by
 unfold M_val_Less at H
 refine Fn.enter (by kernel_rfl) Tryz.func151 rfl Tryz.ntmps151 rfl ?_
 refine zd (zb (yp (h:=(yp (h:=(ze (za (zd (zb (zg rfl (z6 (us:=[.int .i64 (4096:Int)]) zero287 places287 rfl rfl) (qn (us:=[.int .i64 (4096:Int)]) rfl rfl rfl (fun g1 w1 hB1 hg1 hl1=>?_))))))))))))
 have gr1:=hg1
 refine yp (h:=(ze (za (zd (zb (yp (h:=(yp (h:=(yp (h:=(zx rfl rfl (W_val_looker_lessT (GB.grown hG gr1) (qE gr1) (apC (Ge.le (Ge.box hl1) (Nat.le_refl _)) apN) hS3 hS7 hB1 (ha.grown gr1) (hb.grown gr1) (apC (ha.new (Ge.le (Ge.box hl1) (Nat.le_refl _))) apN) (apC (hb.new (Ge.le (Ge.box hl1) (Nat.le_refl _))) apN) H) ?_))))))))))))
 rintro _ w2 ⟨hgl1,t120,v_t121,t121,t8_,rfl,ht121,hB2,H⟩
 exact yp (h:=(yp (h:=(yp (h:=(yp (h:=(ze (za (zt (z8 rfl rfl rfl ⟨(qN gr1 hgl1 (apC (Ge.le (Ge.box hl1) (Nat.le_refl _)) apN)),t120,v_t121,t121,rfl,ht121,H⟩)))))))))))
end
 
section
open Go Go.RowKit
attribute [local irreducible] WL WC WX WQ WK WJ Yld Eff Ef0 Fn
def jM (a:PV) (b:PV) (cap0:Bool) (cap1:Bool) (K:Int->Prop):Prop :=
 ∃ J1:PV->PV->Prop,(((cap0=true->J1 b a) /\
 (cap0=false->J1 a b))) /\
 (∀ a2:PV,∀ b_2:PV,J1 a2 b_2->M_val_Less a2 b_2 (fun (t170:Bool) (t171:Er) =>
 M_val_Less b_2 a2 (fun (t230:Bool) (t231:Er) =>
 ((((!decide (t171=Er.ok)) || (!decide (t231=Er.ok)))=true->False) /\
 (((!decide (t171=Er.ok)) || (!decide (t231=Er.ok)))=false->((t170=true->K (-1:Int)) /\
 (t170=false->((t230=true->K (1:Int)) /\
 (t230=false->K (0:Int))))))))))
set_option maxHeartbeats 8000000 in
theorem ky {S:List Nat} {w:World} {v_a:OV} {F_a:Nat->Prop} {a:PV} {v_b:OV} {F_b:Nat->Prop} {b:PV} {a1:Nat} {cap0:Bool} {a0:Nat} {cap1:Bool} {K:Int->Prop} (hG:GOK S w) (hS3:3∈S) (hS7:7∈S) (ha:RelD deV w [(v_a,F_a)] [a]) (hb:RelD deV w [(v_b,F_b)] [b]) (hcap0:Bl w a1 4 [.bool cap0]) (hcap1:Bl w a0 4 [.bool cap1]) (H:jM a b cap0 cap1 K):Fn Tryz.prog 150 ⟨[v_a.1,v_b.1,.pointer (some ⟨a1,0,none⟩),.pointer (some ⟨a0,0,none⟩)]⟩ w (fun v w'=>w.grownBy w' none/\∃ (r:Int),v=.int .i64 r/\K r):=by
 unfold jM at H
 refine Fn.enter (by kernel_rfl) Tryz.func150 rfl Tryz.ntmps150 rfl ?_
 refine zd (zb (yp (h:=(ze (za (zd ?_))))))
 obtain ⟨J1,H,hJ1⟩:=H
 refine qo (fun L' w'=>∃ (v_a2:OV),∃ (F_a2:Nat->Prop),∃ (a2:PV),∃ (v_b2:OV),∃ (F_b2:Nat->Prop),∃ (b_2:PV),L'=[(0,v_a2.1),(1,v_b2.1),(3,.pointer (some ⟨a0,0,none⟩))]/\J1 a2 b_2/\w=w'/\RelD deV w' [(v_a2,F_a2)] [a2]/\RelD deV w' [(v_b2,F_b2)] [b_2]/\OrD (fun p=>DnD deV [(v_a,F_a)] [a] p/\DnD deV [(v_b,F_b)] [b] p) deV [(v_a2,F_a2)] [a2] w.heap.size/\OrD (fun p=>DnD deV [(v_a,F_a)] [a] p/\DnD deV [(v_b,F_b)] [b] p) deV [(v_b2,F_b2)] [b_2] w.heap.size) ?_ (fun hQ=>?_)
 ·clear H
  rintro _ _ ⟨v_a2,F_a2,a2,v_b2,F_b2,b_2,rfl,H,rfl,k1,k2,or1,or2⟩
  replace H:=hJ1 a2 b_2 H
  refine za (zd (zb (yp (h:=(yp (h:=(zx rfl rfl (W_val_Less hG hS3 hS7 k1 k2 H) ?_)))))))
  rintro _ w1 ⟨hg1,t170,v_t171,t171,rfl,ht171,H⟩
  have gr1:=hg1
  refine yp (h:=(yp (h:=(yp (h:=(yp (h:=(yp (h:=(ze (za (zd (zb (yp (h:=(yp (h:=(zx rfl rfl (W_val_Less (hG.grown gr1) hS3 hS7 (k2.grown hg1) (k1.grown hg1) H) ?_))))))))))))))))))
  rintro _ w2 ⟨hg2,t230,v_t231,t231,rfl,ht231,H⟩
  have gr2:=qG gr1 hg2
  refine yp (h:=(yp (h:=(yp (h:=(yp (h:=(yp (h:=(ze (za (zd (zd (zb (yp (h:=(zg rfl (z1 Tryz.underlying43 (ht171.grown hg2) rfl) (yp (h:=(zV 3 (fun L' w'=>∃ q1:Bool,L'=[(31,.bool q1),(3,.pointer (some ⟨a0,0,none⟩)),(7,.bool t170),(9,.bool t230)]/\((!decide (t171=Er.ok)) || (!decide (t231=Er.ok)))=q1/\w2=w') ?_ (fun hQ=>?_)))))))))))))))))))))
  ·rintro _ _ ⟨q1,rfl,rfl,rfl⟩
   refine ze (za (zm rfl (fun b1=>?_) (fun b1=>?_)))
   ·replace H:=H.1 (b1)
    exact zd (False.elim H)
   ·replace H:=H.2 (b1)
    refine zo (za (zd (WC.block (zd (zb (yp (h:=(yp (h:=(ze (za (zm rfl (fun b2=>?_) (fun b2=>?_)))))))))))))
    ·replace H:=H.1 (b2)
     exact zd (zb (yp (h:=(ze (za (zt (zj (zf (zD rfl rfl ⟨gr2,(-1:Int),rfl,H⟩)))))))))
    ·replace H:=H.2 (b2)
     refine zd (zb (yp (h:=(yp (h:=(ze (za (zm rfl (fun b3=>?_) (fun b3=>?_)))))))))
     ·replace H:=H.1 (b3)
      exact zd (zb (yp (h:=(ze (za (zt (zj (zf (zD rfl rfl ⟨gr2,(1:Int),rfl,H⟩)))))))))
     ·replace H:=H.2 (b3)
      exact zo (zi (za (zd (zb (yp (h:=(ze (za (zt (zD rfl rfl ⟨gr2,(0:Int),rfl,H⟩))))))))))
  ·clear H
   rcases Bool.eq_false_or_eq_true (!decide (t171=Er.ok)) with b4 | b4
   ·exact gn b4 (h:=(gn b4 (h:=(zg rfl (zQ (okb b4) rfl) (wk (hQ _ _ ⟨true,rfl,by rw [b4] <;> rfl,rfl⟩))))))
   ·exact gp b4 (h:=(zc rfl rfl (okb b4) rfl (z1 Tryz.underlying43 ht231 rfl) (zg rfl (zK (okb b4) rfl) (wk (hQ _ _ ⟨!decide (t231=Er.ok),rfl,by rw [b4] <;> rfl,rfl⟩)))))
 ·clear hJ1
  refine zd (zb (zg rfl (zz qD hcap0 rfl rfl rfl) (ze (za (zm rfl (fun b5=>?_) (fun b5=>?_))))))
  ·replace H:=H.1 (b5)
   exact zb (yp (h:=(yp (h:=(yp (h:=(yp (h:=(ze (WX.weaken sb (hQ _ _ ⟨v_b,F_b,b,v_a,F_a,a,rfl,H,rfl,hb,ha,(fun p_ hp_ q_=>q_.2),(fun p_ hp_ q_=>q_.1)⟩)))))))))))
  ·replace H:=H.2 (b5)
   exact zo (WX.weaken sb (hQ _ _ ⟨v_a,F_a,a,v_b,F_b,b,rfl,H,rfl,ha,hb,(fun p_ hp_ q_=>q_.1),(fun p_ hp_ q_=>q_.2)⟩))
end
 
section
open Go Go.RowKit
attribute [local irreducible] WL WC WX WQ WK WJ Yld Eff Ef0 Fn
def M_lex_Quote (s:List UInt8) (K:(List UInt8)->Prop):Prop :=
 Lp2 (fun (b:List UInt8) (t9:Int) kont1=>((t9<(s.length:Int)->∃ J1:(List UInt8)->Prop,((0<=t9/\t9<s.length) /\
 ((((s.getD t9.toNat 0).toNat:Int)=(10:Int)->((b.length+(([92,110]:List UInt8)).length)*1<=140737488355328) /\
 J1 (b++([92,110]:List UInt8))) /\
 (¬ (((s.getD t9.toNat 0).toNat:Int)=(10:Int))->((((s.getD t9.toNat 0).toNat:Int)=(9:Int)->((b.length+(([92,116]:List UInt8)).length)*1<=140737488355328) /\
 J1 (b++([92,116]:List UInt8))) /\
 (¬ (((s.getD t9.toNat 0).toNat:Int)=(9:Int))->((((decide (((s.getD t9.toNat 0).toNat:Int)=(92:Int))) || (decide (((s.getD t9.toNat 0).toNat:Int)=(34:Int))))=true->((b.length+(([92,s.getD t9.toNat 0]:List UInt8)).length)*1<=140737488355328) /\
 J1 (b++([92,s.getD t9.toNat 0]:List UInt8))) /\
 (((decide (((s.getD t9.toNat 0).toNat:Int)=(92:Int))) || (decide (((s.getD t9.toNat 0).toNat:Int)=(34:Int))))=false->((((decide (((s.getD t9.toNat 0).toNat:Int)<(32:Int))) || (decide (((s.getD t9.toNat 0).toNat:Int)=(127:Int))))=true->False) /\
 (((decide (((s.getD t9.toNat 0).toNat:Int)<(32:Int))) || (decide (((s.getD t9.toNat 0).toNat:Int)=(127:Int))))=false->((b.length+(([s.getD t9.toNat 0]:List UInt8)).length)*1<=140737488355328) /\
 J1 (b++([s.getD t9.toNat 0]:List UInt8))))))))))) /\
 (∀ b_2:List UInt8,J1 b_2->(In .i64 (t9+(1:Int))) /\
 kont1 b_2 (t9+(1:Int)))) /\
 (¬ (t9<(s.length:Int))->((b.length+(([34]:List UInt8)).length)*1<=140737488355328) /\
 K (b++([34]:List UInt8))))) ([34]:List UInt8) (0:Int)
def jA (p_b:List UInt8) (K:Bool->Prop):Prop :=
 (p_b.length<=maxLen ->
 K (decide ((65536:Int)<=(p_b.length:Int))))
def qY (p_b:List UInt8) (l:List (List UInt8)) (K:(List UInt8)->Prop):Prop :=
 (p_b.length<=maxLen ->
 (l.length<=maxLen ->
 Lp2 (fun (t8:Int) (p0:List UInt8) kont1=>((t8<(l.length:Int)->(0<=t8/\t8<(l.length:Nat)) /\
 (In .i64 ((65536:Int) - (p0.length:Int))) /\
 (0<=(if ((65536:Int) - (p0.length:Int))<((l.getD t8.toNat []).length:Int) then (65536:Int) - (p0.length:Int) else ((l.getD t8.toNat []).length:Int))/\(if ((65536:Int) - (p0.length:Int))<((l.getD t8.toNat []).length:Int) then (65536:Int) - (p0.length:Int) else ((l.getD t8.toNat []).length:Int))<=(l.getD t8.toNat []).length) /\
 ((p0.length+((l.getD t8.toNat []).take (if ((65536:Int) - (p0.length:Int))<((l.getD t8.toNat []).length:Int) then (65536:Int) - (p0.length:Int) else ((l.getD t8.toNat []).length:Int)).toNat).length)*1<=140737488355328) /\
 (In .i64 (t8+(1:Int))) /\
 kont1 (t8+(1:Int)) (p0++((l.getD t8.toNat []).take (if ((65536:Int) - (p0.length:Int))<((l.getD t8.toNat []).length:Int) then (65536:Int) - (p0.length:Int) else ((l.getD t8.toNat []).length:Int)).toNat))) /\
 (¬ (t8<(l.length:Int))->K p0))) (0:Int) p_b))
def j1 (p_b:List UInt8) (v_:PV) (deep:Int) (K:(List UInt8)->Prop):Prop :=
 (p_b.length<=maxLen ->
 jA p_b (fun (t17:Bool) =>
 ((t17=true->K p_b) /\
 (t17=false->(v_≠PV.none) /\
 ((∀ z:Int,v_=PV.int z->M_num_Num_Text z 3 (fun (t41:List UInt8) =>
 qY p_b ([t41]:List (List UInt8)) (fun (p_:List UInt8) =>
 K p_))) /\
 ((∀ z,v_≠PV.int z)->((∀ s:List UInt8,v_=PV.str s->M_lex_Quote s (fun (t49:List UInt8) =>
 qY p_b ([t49]:List (List UInt8)) (fun (p_2:List UInt8) =>
 K p_2))) /\
 ((∀ z,v_≠PV.str z)->False))))))))
def jJ (p_b:List UInt8) (l:List PV) (deep:Int) (K:(List UInt8)->Prop):Prop :=
 (p_b.length<=maxLen ->
 (l.length<=maxLen ->
 Lp2 (fun (t10:Int) (p0:List UInt8) kont1=>((t10<(l.length:Int)->(0<=t10/\t10<(l.length:Nat)) /\
 jA p0 (fun (t16:Bool) =>
 ((t16=true->K p0) /\
 (t16=false->∃ J1:(List UInt8)->Prop,((((0:Int)<t10->qY p0 ([([44,32]:List UInt8)]:List (List UInt8)) (fun (p_2:List UInt8) =>
 J1 p_2)) /\
 (¬ ((0:Int)<t10)->J1 p0))) /\
 (∀ p02:List UInt8,J1 p02->j1 p02 (l.getD t10.toNat PV.nil) deep (fun (p_:List UInt8) =>
 (In .i64 (t10+(1:Int))) /\
 kont1 (t10+(1:Int)) p_)))))) /\
 (¬ (t10<(l.length:Int))->K p0))) (0:Int) p_b))
def jW (p_b:List UInt8) (v_:PV) (deep:Int) (K:(List UInt8)->Prop):Prop :=
 (p_b.length<=maxLen ->
 (((60:Int)<=deep->qY p_b ([([46,46,46]:List UInt8)]:List (List UInt8)) (fun (p_:List UInt8) =>
 K p_)) /\
 (¬ ((60:Int)<=deep)->((v_=PV.emp->qY p_b ([([91]:List UInt8)]:List (List UInt8)) (fun (p_2:List UInt8) =>
 (In .i64 (deep+(1:Int))) /\
 jJ p_2 ([]:List PV) (deep+(1:Int)) (fun (p_3:List UInt8) =>
 qY p_3 ([([93]:List UInt8)]:List (List UInt8)) (fun (p_4:List UInt8) =>
 K p_4)))) /\
 (v_≠PV.emp->((∀ l:List PA,v_=PV.tup l->qY p_b ([([40]:List UInt8)]:List (List UInt8)) (fun (p_5:List UInt8) =>
 (In .i64 (deep+(1:Int))) /\
 jJ p_5 (l.map PA.v) (deep+(1:Int)) (fun (p_6:List UInt8) =>
 ∃ J1:(List UInt8)->Prop,(((((l.map PA.v).length:Int)=(1:Int)->qY p_6 ([([44]:List UInt8)]:List (List UInt8)) (fun (p_8:List UInt8) =>
 J1 p_8)) /\
 (¬ (((l.map PA.v).length:Int)=(1:Int))->J1 p_6))) /\
 (∀ p0:List UInt8,J1 p0->qY p0 ([([41]:List UInt8)]:List (List UInt8)) (fun (p_7:List UInt8) =>
 K p_7))))) /\
 ((∀ l,v_≠PV.tup l)->K p_b)))))))
def j7 (p_b:List UInt8) (v_:PV) (deep:Int) (K:(List UInt8)->Prop):Prop :=
 (p_b.length<=maxLen ->
 jA p_b (fun (t17:Bool) =>
 ((t17=true->K p_b) /\
 (t17=false->(v_≠PV.none) /\
 ((∀ z:Int,v_=PV.int z->M_num_Num_Text z 3 (fun (t41:List UInt8) =>
 qY p_b ([t41]:List (List UInt8)) (fun (p_:List UInt8) =>
 K p_))) /\
 ((∀ z,v_≠PV.int z)->((∀ s:List UInt8,v_=PV.str s->M_lex_Quote s (fun (t49:List UInt8) =>
 qY p_b ([t49]:List (List UInt8)) (fun (p_2:List UInt8) =>
 K p_2))) /\
 ((∀ z,v_≠PV.str z)->jW p_b v_ deep (fun (p_3:List UInt8) =>
 K p_3)))))))))
def jb (v_:PV) (K:(List UInt8)->Prop):Prop :=
 j7 [] v_ (0:Int) (fun (t5_:List UInt8) =>
 K t5_)
def M_val_weight (v_:PV) (most:Int) (K:Int->Prop):Prop :=
 ∃ J1:(List PV)->Prop,(((v_=PV.emp->J1 ([]:List PV)) /\
 (v_≠PV.emp->((∀ l2:List PA,v_=PV.tup l2->J1 (l2.map PA.v)) /\
 ((∀ l,v_≠PV.tup l)->J1 []))))) /\
 (∀ l:List PV,J1 l->Lp2 (fun (n:Int) (t63:Int) kont1=>((t63<(l.length:Int)->(0<=t63/\t63<(l.length:Nat)) /\
 ((most<n->K n) /\
 (¬ (most<n)->(In .i64 (most - n)) /\
 False))) /\
 (¬ (t63<(l.length:Int))->K n))) (1:Int) (0:Int))
def M_val_weightT (v_:PV) (most:Int) (K:Int->Prop):Prop :=
 ∃ J1:(List PV)->Prop,(((v_=PV.emp->J1 ([]:List PV)) /\
 (v_≠PV.emp->((∀ l2:List PA,v_=PV.tup l2->J1 (l2.map PA.v)) /\
 ((∀ l,v_≠PV.tup l)->J1 []))))) /\
 (∀ l:List PV,J1 l->Lp2 (fun (n:Int) (t63:Int) kont1=>((t63<(l.length:Int)->(0<=t63/\t63<(l.length:Nat)) /\
 ((most<n->K n) /\
 (¬ (most<n)->(In .i64 (most - n)) /\
 M_val_weight (l.getD t63.toNat PV.nil) (most - n) (fun (t76:Int) =>
 (In .i64 (n+t76)) /\
 (In .i64 (t63+(1:Int))) /\
 kont1 (n+t76) (t63+(1:Int)))))) /\
 (¬ (t63<(l.length:Int))->K n))) (1:Int) (0:Int))
def M_val_Light (most:Int) (l:List PV) (K:Bool->Prop):Prop :=
 (l.length<=maxLen ->
 Lp2 (fun (most2:Int) (t9:Int) kont1=>((t9<(l.length:Int)->(0<=t9/\t9<(l.length:Nat)) /\
 M_val_weightT (l.getD t9.toNat PV.nil) most2 (fun (t16:Int) =>
 (In .i64 (most2 - t16)) /\
 (((most2 - t16)<(0:Int)->K false) /\
 (¬ ((most2 - t16)<(0:Int))->(In .i64 (t9+(1:Int))) /\
 kont1 (most2 - t16) (t9+(1:Int)))))) /\
 (¬ (t9<(l.length:Int))->K true))) most (0:Int))
def qS (s:List PV) (K:(List PV)->Prop):Prop :=
 (s.length<=maxLen ->
 ((s=[]->K []) /\
 ((((([]:List PV)).length+s.length)*16<=140737488355328) /\
 K (([]:List PV)++s))))
set_option maxHeartbeats 8000000 in
theorem W_lex_Quote {w:World} {s:List UInt8} {K:(List UInt8)->Prop} (H:M_lex_Quote s K):Fn Tryz.prog 139 ⟨[vs s]⟩ w (fun v w'=>w.grownBy w' none/\∃ (r:List UInt8),v=vs r/\K r):=by
 unfold M_lex_Quote at H
 refine Fn.enter (by kernel_rfl) Tryz.func139 rfl Tryz.ntmps139 rfl ?_
 refine zd (zb (yp (h:=(ze (za (zd (zb (z5 qD rfl rfl rfl (qJ rfl jl) rfl (by omega) (fun g1 w1 hB1 hg1 hl1=>?_)))))))))
 have hO1:Own vb w1 w.heap.size 5 (some ⟨g1,0,none⟩) 1 ([34]:List UInt8):=Own.ofBl hB1 (Nat.le_trans (Nat.le_refl _) hl1) (by simp [maxLen]) rfl
 refine yp (h:=(ze (za (zd (zd (zb (yp (h:=(yp (h:=(yp (h:=(ze (za (WC.block ?_)))))))))))))))
 obtain ⟨I1,mu1,a9,HR1⟩:=H
 refine z3 (fun n' L' w'=>∃ (b:List UInt8),∃ (A_b:Option Addr),∃ (c_b:Nat),∃ (n_b:Nat),∃ (t9:Int),n'=mu1 b t9/\L'=[(0,vs s),(3,.slice A_b n_b c_b),(8,.int .i64 (s.length:Int)),(9,.int .i64 t9)]/\I1 b t9/\n_b=b.length/\w.grownBy w' none/\Own vb w' w.heap.size 5 A_b c_b b) _ _ ⟨([34]:List UInt8),(some ⟨g1,0,none⟩),1,1,(0:Int),rfl,rfl,a9,rfl,hg1,hO1⟩ sb ?_
 clear a9
 rintro _ _ w2 ⟨b,A_b,c_b,n_b,t9,rfl,rfl,hI1,rfl,gr2,k1⟩
 have H:=HR1 b t9 hI1
 refine zd (zb (yp (h:=(ze (za (zd (zm rfl (fun b1=>?_) (fun b1=>?_))))))))
 ·replace H:=H.1 (of_decide_eq_true b1)
  refine zo (za (zd ?_))
  obtain ⟨J1,H,hJ1⟩:=H
  refine qo (fun L' w'=>∃ (b_2:List UInt8),∃ (d0:Option Addr),∃ (d1:Nat),∃ (e3:Nat),L'=[(0,vs s),(3,.slice d0 e3 d1),(8,.int .i64 (s.length:Int)),(9,.int .i64 t9)]/\J1 b_2/\e3=b_2.length/\w.grownBy w' none/\Own vb w' w.heap.size 5 d0 d1 b_2) ?_ (fun hQ=>?_)
  ·clear H
   rintro _ w3 ⟨b_2,d0,d1,e3,rfl,H,rfl,gr3,k2⟩
   replace H:=hJ1 b_2 H
   refine za (zb ?_)
   obtain ⟨h1,H⟩:=H
   exact zg rfl (Yld.add rfl rfl h1) (yp (h:=(ze (zX _ ⟨b_2,d0,d1,b_2.length,t9+(1:Int),rfl,rfl,H.1,rfl,gr3,k2⟩ sb H.2))))
  ·clear hJ1
   refine WC.block (zd (zb (yp (h:=(yp (h:=(ze (za (zd (zb (yp (h:=(yp (h:=?_))))))))))))))
   obtain ⟨h2,H⟩:=H
   refine zg rfl (Yld.sidx qD rfl rfl rfl h2.1 h2.2) (yp (h:=(ze (za (WC.block (zd (zb (yp (h:=(yp (h:=(yp (h:=(ze (za (zm rfl (fun b2=>?_) (fun b2=>?_)))))))))))))))))
   ·replace H:=H.1 (of_decide_eq_true b2)
    refine zb (yp (h:=(z5 qD rfl rfl rfl (qJ rfl (qJ rfl jl)) rfl (by omega) (fun g2 w4 hB2 hg2 hl2=>?_))))
    have hO2:Own vb w4 w.heap.size 5 (some ⟨g2,0,none⟩) 2 ([92,110]:List UInt8):=Own.ofBl hB2 (Nat.le_trans (qE gr2) hl2) (by simp [maxLen]) rfl
    have gr4:=qG gr2 hg2
    have k3:=k1.grown hg2
    obtain ⟨h3,H⟩:=H
    exact z4 qD rfl rfl One.b k3 rfl rfl hO2.rd rfl rfl h3 (jT h3) (qE gr4) (fun f0 f4 w5 hO3 hg3 hk1=>yp (h:=(ze (zi (zi (WX.weaken sb (hQ _ _ ⟨b++([92,110]:List UInt8),f0,f4,(b++([92,110]:List UInt8)).length,rfl,H,rfl,(js gr4 hg3 k3.ge'),hO3⟩)))))))
   ·replace H:=H.2 (of_decide_eq_false b2)
    refine zd (zb (yp (h:=(yp (h:=(yp (h:=(ze (za (zm rfl (fun b3=>?_) (fun b3=>?_)))))))))))
    ·replace H:=H.1 (of_decide_eq_true b3)
     refine zb (yp (h:=(z5 qD rfl rfl rfl (qJ rfl (qJ rfl jl)) rfl (by omega) (fun g3 w6 hB3 hg4 hl3=>?_))))
     have hO4:Own vb w6 w.heap.size 5 (some ⟨g3,0,none⟩) 2 ([92,116]:List UInt8):=Own.ofBl hB3 (Nat.le_trans (qE gr2) hl3) (by simp [maxLen]) rfl
     have gr6:=qG gr2 hg4
     have k4:=k1.grown hg4
     obtain ⟨h4,H⟩:=H
     exact z4 qD rfl rfl One.b k4 rfl rfl hO4.rd rfl rfl h4 (jT h4) (qE gr6) (fun f1 f5 w7 hO5 hg5 hk2=>yp (h:=(ze (zi (zi (WX.weaken sb (hQ _ _ ⟨b++([92,116]:List UInt8),f1,f5,(b++([92,116]:List UInt8)).length,rfl,H,rfl,(js gr6 hg5 k4.ge'),hO5⟩)))))))
    ·replace H:=H.2 (of_decide_eq_false b3)
     refine zd (zb (yp (h:=(yp (h:=(yp (h:=(zV 3 (fun L' w'=>∃ q1:Bool,L'=[(37,.bool q1),(0,vs s),(3,.slice A_b b.length c_b),(5,.int .u8 ((s.getD t9.toNat 0).toNat:Int)),(8,.int .i64 (s.length:Int)),(9,.int .i64 t9)]/\((decide (((s.getD t9.toNat 0).toNat:Int)=(92:Int))) || (decide (((s.getD t9.toNat 0).toNat:Int)=(34:Int))))=q1/\w2=w') ?_ (fun hQ=>?_)))))))))
     ·rintro _ _ ⟨q1,rfl,rfl,rfl⟩
      refine yp (h:=(ze (za (zm rfl (fun b4=>?_) (fun b4=>?_)))))
      ·replace H:=H.1 (b4)
       refine zb (yp (h:=(yp (h:=(z5 qD rfl rfl rfl (qJ rfl (qJ rfl jl)) rfl (by omega) (fun g4 w8 hB4 hg6 hl4=>?_))))))
       have hO6:Own vb w8 w.heap.size 5 (some ⟨g4,0,none⟩) 2 ([92,s.getD t9.toNat 0]:List UInt8):=Own.ofBl hB4 (Nat.le_trans (qE gr2) hl4) (by simp [maxLen]) rfl
       have gr8:=qG gr2 hg6
       have k5:=k1.grown hg6
       obtain ⟨h5,H⟩:=H
       exact z4 qD rfl rfl One.b k5 rfl rfl hO6.rd rfl rfl h5 (jT h5) (qE gr8) (fun f2 f6 w9 hO7 hg7 hk3=>yp (h:=(ze (zi (zi (WX.weaken sb (hQ _ _ ⟨b++([92,s.getD t9.toNat 0]:List UInt8),f2,f6,(b++([92,s.getD t9.toNat 0]:List UInt8)).length,rfl,H,rfl,(js gr8 hg7 k5.ge'),hO7⟩)))))))
      ·replace H:=H.2 (b4)
       refine zd (zb (yp (h:=(yp (h:=(yp (h:=(zV 3 (fun L' w'=>∃ q2:Bool,L'=[(48,.bool q2),(0,vs s),(3,.slice A_b b.length c_b),(5,.int .u8 ((s.getD t9.toNat 0).toNat:Int)),(8,.int .i64 (s.length:Int)),(9,.int .i64 t9)]/\((decide (((s.getD t9.toNat 0).toNat:Int)<(32:Int))) || (decide (((s.getD t9.toNat 0).toNat:Int)=(127:Int))))=q2/\w2=w') ?_ (fun hQ=>?_)))))))))
       ·rintro _ _ ⟨q2,rfl,rfl,rfl⟩
        refine yp (h:=(ze (za (zm rfl (fun b5=>?_) (fun b5=>?_)))))
        ·replace H:=H.1 (b5)
         exact False.elim H
        ·replace H:=H.2 (b5)
         refine zb (yp (h:=(yp (h:=(z5 qD rfl rfl rfl (qJ rfl jl) rfl (by omega) (fun g5 w10 hB5 hg8 hl5=>?_))))))
         have hO8:Own vb w10 w.heap.size 5 (some ⟨g5,0,none⟩) 1 ([s.getD t9.toNat 0]:List UInt8):=Own.ofBl hB5 (Nat.le_trans (qE gr2) hl5) (by simp [maxLen]) rfl
         have gr10:=qG gr2 hg8
         have k6:=k1.grown hg8
         obtain ⟨h6,H⟩:=H
         exact z4 qD rfl rfl One.b k6 rfl rfl hO8.rd rfl rfl h6 (jT h6) (qE gr10) (fun f3 f7 w11 hO9 hg9 hk4=>yp (h:=(ze (zi (zi (WX.weaken sb (hQ _ _ ⟨b++([s.getD t9.toNat 0]:List UInt8),f3,f7,(b++([s.getD t9.toNat 0]:List UInt8)).length,rfl,H,rfl,(js gr10 hg9 k6.ge'),hO9⟩)))))))
       ·clear H
        rcases Bool.eq_false_or_eq_true (decide (((s.getD t9.toNat 0).toNat:Int)<(32:Int))) with b6 | b6
        ·exact gn b6 (h:=(gn b6 (h:=(zg rfl (zQ (okb b6) rfl) (wk (hQ _ _ ⟨true,rfl,by rw [b6] <;> rfl,rfl⟩))))))
        ·exact gp b6 (h:=(gp b6 (h:=(zg rfl (zK (okb b6) rfl) (wk (hQ _ _ ⟨decide (((s.getD t9.toNat 0).toNat:Int)=(127:Int)),rfl,by rw [b6] <;> rfl,rfl⟩))))))
     ·clear H
      rcases Bool.eq_false_or_eq_true (decide (((s.getD t9.toNat 0).toNat:Int)=(92:Int))) with b7 | b7
      ·exact gn b7 (h:=(gn b7 (h:=(zg rfl (zQ (okb b7) rfl) (wk (hQ _ _ ⟨true,rfl,by rw [b7] <;> rfl,rfl⟩))))))
      ·exact gp b7 (h:=(gp b7 (h:=(zg rfl (zK (okb b7) rfl) (wk (hQ _ _ ⟨decide (((s.getD t9.toNat 0).toNat:Int)=(34:Int)),rfl,by rw [b7] <;> rfl,rfl⟩))))))
 ·replace H:=H.2 (of_decide_eq_false b1)
  refine zy (zk (zk (zl (za (zd (zb (yp (h:=(z5 qD rfl rfl rfl (qJ rfl jl) rfl (by omega) (fun g6 w12 hB6 hg10 hl6=>?_))))))))))
  have hO10:Own vb w12 w.heap.size 5 (some ⟨g6,0,none⟩) 1 ([34]:List UInt8):=Own.ofBl hB6 (Nat.le_trans (qE gr2) hl6) (by simp [maxLen]) rfl
  have gr12:=qG gr2 hg10
  have k7:=k1.grown hg10
  obtain ⟨h7,H⟩:=H
  exact z4 qD rfl rfl One.b k7 rfl rfl hO10.rd rfl rfl h7 (jT h7) (qE gr12) (fun g8 h8 w13 hO11 hg11 hk5=>zg rfl (Yld.b2s qD hO11.rd rfl rfl rfl rfl rfl) (yp (h:=(ze (za (zt (zD rfl rfl ⟨(js gr12 hg11 k7.ge'),b++([34]:List UInt8),rfl,H⟩)))))))
set_option maxHeartbeats 8000000 in
theorem kv {w:World} {g_p:Nat} {p_b:List UInt8} {a0:Option Addr} {a3:Nat} {a5:Nat} {K:Bool->Prop} (hp_b:Rd vb w a0 a3 p_b) (a6:a5=p_b.length) (hp:Bl w g_p 153 [.slice a0 a5 a3]) (H:jA p_b K):Fn Tryz.prog 136 ⟨[.pointer (some ⟨g_p,0,none⟩)]⟩ w (fun v w'=>w=w'/\∃ (r:Bool),v=.bool r/\K r):=by
 subst a6
 unfold jA at H
 refine Fn.enter (by kernel_rfl) Tryz.func136 rfl Tryz.ntmps136 rfl ?_
 replace H:=H (Nat.le_trans hp_b.cap hp_b.max)
 exact zd (zb (yp (h:=(ze (za (zd (zb (yp (h:=(yp (h:=(yp (h:=(zg rfl (zz qD hp rfl rfl rfl) (yp (h:=(yp (h:=(yp (h:=(ze (za (zt (zD rfl rfl ⟨rfl,decide ((65536:Int)<=(p_b.length:Int)),rfl,H⟩))))))))))))))))))))))))
set_option maxHeartbeats 8000000 in
theorem jh {w:World} {g_p:Nat} {p_b:List UInt8} {a0:Option Addr} {a3:Nat} {l:List (List UInt8)} {A_l:Option Addr} {c_l:Nat} {a5:Nat} {n_l:Nat} {K:(List UInt8)->Prop} (hp_b:Own vb w 0 5 a0 a3 p_b) (a6:a5=p_b.length) (hp:Bl w g_p 153 [.slice a0 a5 a3]) (hl:Rd vs w A_l c_l l) (c8:n_l=l.length) (hdj0_1:Dj (some g_p) (blk a0)) (hap0:AllP (Dn l (blk A_l)) [(some g_p),(blk a0)]) (H:qY p_b l K):Fn Tryz.prog 137 ⟨[.pointer (some ⟨g_p,0,none⟩),.slice A_l n_l c_l]⟩ w (fun v w'=>GrL [(some g_p),(blk a0)] w w'/\∃ (p_b2:List UInt8),∃ (a1:Option Addr),∃ (a4:Nat),v=.tuple #[]/\Bl w' g_p 153 [.slice a1 p_b2.length a4]/\Own vb w' 0 5 a1 a4 p_b2/\InP [(some g_p),(blk a0)] w.heap.size (blk a1)/\Dj (some g_p) (blk a1)/\K p_b2):=by
 subst a6
 subst c8
 unfold qY at H
 refine Fn.enter (by kernel_rfl) Tryz.func137 rfl Tryz.ntmps137 rfl ?_
 replace H:=H (Nat.le_trans hp_b.rd.cap hp_b.rd.max)
 replace H:=H (Nat.le_trans hl.cap hl.max)
 have hNoAt:AllP (NoAt w) [(some g_p),(blk a0)]:=(apC (NoAt.bl hp rfl) (apC (NoAt.own hp_b rfl) apN))
 refine zd (zb (yp (h:=(yp (h:=(yp (h:=(ze (za (WC.block ?_))))))))))
 obtain ⟨I1,mu1,a9,HR1⟩:=H
 refine z3 (fun n' L' w'=>∃ (t8:Int),∃ (p0:List UInt8),∃ (a8:Option Addr),∃ (b0:Nat),∃ (c1:Nat),n'=mu1 t8 p0/\L'=[(0,.pointer (some ⟨g_p,0,none⟩)),(6,.slice A_l l.length c_l),(7,.int .i64 (l.length:Int)),(8,.int .i64 t8)]/\I1 t8 p0/\c1=p0.length/\GrL [(some g_p),(blk a0)] w w'/\Bl w' g_p 153 [.slice a8 c1 b0]/\Own vb w' 0 5 a8 b0 p0/\Dj (some g_p) (blk a8)/\InP [(some g_p),(blk a0)] w.heap.size (blk a8)) _ _ ⟨(0:Int),p_b,a0,a3,p_b.length,rfl,rfl,a9,rfl,(GrL.refl _),hp,hp_b,hdj0_1,(InP.mem (List.Mem.tail _ (List.Mem.head _)))⟩ sb ?_
 clear a9
 rintro _ _ w1 ⟨t8,p0,a8,b0,c1,rfl,rfl,hI1,rfl,gr1,k1,k2,dj1,hi1⟩
 have H:=HR1 t8 p0 hI1
 refine zd (zb (yp (h:=(ze (za (zd (zm rfl (fun b1=>?_) (fun b1=>?_))))))))
 ·replace H:=H.1 (of_decide_eq_true b1)
  refine zo (za (zd (WC.block (zd (zb ?_)))))
  obtain ⟨h1,H⟩:=H
  refine zg rfl (zB qD (hl.goL gr1 hap0) rfl rfl rfl rfl h1.1 h1.2) (zg rfl (zM [] qD (hl.goL gr1 hap0) rfl rfl (iltN h1 rfl)) (yp (h:=(ze (za (zW (fun k => !(Nat.beq k 16 || Nat.beq k 19)) (LD [4,11] (fun w'=>Bl w' g_p 153 [.slice a8 p0.length b0])) jx (by kernel_rfl) (fun k w' h _=>(ki h k1)) (zA rfl rfl (fun w' hw'=>zh qD rfl) (zA rfl rfl (fun w' hw'=>zh qD rfl) (zA rfl rfl (fun w' hw'=>zh qD rfl) (zA rfl rfl (fun w' hw'=>zh qD rfl) (zA rfl rfl (fun w' hw'=>zz qD (hw' rfl) rfl rfl rfl) (zA rfl rfl (fun w' hw'=>zh qD rfl) (zA rfl rfl (fun w' hw'=>zh qD rfl) (zA rfl rfl (fun w' hw'=>zh qD rfl) (zA rfl rfl (fun w' hw'=>zh qD rfl) (zA rfl rfl (fun w' hw'=>zh qD rfl) (zA rfl rfl (fun w' hw'=>zh qD rfl) (zA rfl rfl (fun w' hw'=>zz qD (hw' rfl) rfl rfl rfl) (zA rfl rfl (fun w' hw'=>zh qD rfl) ?_)))))))))))))))))))
  obtain ⟨h2,H⟩:=H
  refine zA rfl rfl (fun w' hw'=>Yld.sub rfl rfl h2) (zA rfl rfl (fun w' hw'=>zC rfl rfl) ?_)
  obtain ⟨h3,H⟩:=H
  refine zA rfl rfl (fun w' hw'=>Yld.scut qD rfl rfl rfl rfl (Int.le_refl 0) h3.1 h3.2) ?_
  obtain ⟨h4,H⟩:=H
  refine WJ.putw rfl (jF) rfl (Eff.appendS qD rfl rfl k2 rfl rfl rfl h4 (jT h4) (Nat.zero_le _)) (fun v w' ⟨_,_,_,_,h,_⟩=>DD.keep (Bl.go k1 (jo h (Eqv.refl _)) dj1)) ?_
  rintro _ w2 ⟨d8,e0,rfl,hO1,hg1,hk1⟩
  have gr2:GrL [(some g_p),(blk a0)] w w2:=GrL.mod gr1 hg1 hi1
  refine zA rfl rfl (fun w' hw'=>zh qD rfl) (zA rfl rfl (fun w' hw'=>zh qD rfl) (qw rfl (Ef0.store1 one151 rfl rfl rfl (k1.go hg1 dj1) (by simp)) (fun w' h=>qm (by kernel_rfl)) ?_))
  rintro w3 ⟨hB2,hg2⟩
  have hB1:Bl w3 g_p 153 [.slice d8 ((p0++((l.getD t8.toNat []).take (if ((65536:Int) - (p0.length:Int))<((l.getD t8.toNat []).length:Int) then (65536:Int) - (p0.length:Int) else ((l.getD t8.toNat []).length:Int)).toNat)).length) e0]:=hB2
  have gr3:GrL [(some g_p),(blk a0)] w w3:=GrL.mod gr2 hg2 (InP.mem (List.Mem.head _))
  refine qh (zi (za (zb ?_)))
  obtain ⟨h5,H⟩:=H
  exact zg rfl (Yld.add rfl rfl h5) (yp (h:=(ze (zX _ ⟨t8+(1:Int),p0++((l.getD t8.toNat []).take (if ((65536:Int) - (p0.length:Int))<((l.getD t8.toNat []).length:Int) then (65536:Int) - (p0.length:Int) else ((l.getD t8.toNat []).length:Int)).toNat),d8,e0,(p0++((l.getD t8.toNat []).take (if ((65536:Int) - (p0.length:Int))<((l.getD t8.toNat []).length:Int) then (65536:Int) - (p0.length:Int) else ((l.getD t8.toNat []).length:Int)).toNat)).length,rfl,rfl,H.1,rfl,gr3,hB1,(hO1.go hg2 (Dj.app dj1.symm k1.lt' hk1)),(Dj.app dj1.symm k1.lt' hk1).symm,(InP.app hi1 hk1 (GrL.sizeL gr1))⟩ sb H.2))))
 ·replace H:=H.2 (of_decide_eq_false b1)
  exact zy (zk (zk (zl (qd rfl ⟨gr1,p0,a8,b0,rfl,k1,k2,hi1,dj1,H⟩))))
set_option maxHeartbeats 8000000 in
theorem W_pval_printer_repr {w:World} {g_p:Nat} {p_b:List UInt8} {a0:Option Addr} {a3:Nat} {v_v:OV} {F_v:Nat->Prop} {v_:PV} {deep:Int} {a5:Nat} {K:(List UInt8)->Prop} (hp_b:Own vb w 0 5 a0 a3 p_b) (a6:a5=p_b.length) (hp:Bl w g_p 153 [.slice a0 a5 a3]) (hv_:RelD deV w [(v_v,F_v)] [v_]) (hdj0_1:Dj (some g_p) (blk a0)) (hap0:AllP (DnD deV [(v_v,F_v)] [v_]) [(some g_p),(blk a0)]) (H:j1 p_b v_ deep K):Fn Tryz.prog 82 ⟨[.pointer (some ⟨g_p,0,none⟩),v_v.1,.int .i64 deep]⟩ w (fun v w'=>GrL [(some g_p),(blk a0)] w w'/\∃ (p_b2:List UInt8),∃ (a1:Option Addr),∃ (a4:Nat),v=.tuple #[]/\Bl w' g_p 153 [.slice a1 p_b2.length a4]/\Own vb w' 0 5 a1 a4 p_b2/\InP [(some g_p),(blk a0)] w.heap.size (blk a1)/\Dj (some g_p) (blk a1)/\K p_b2):=by
 subst a6
 unfold j1 at H
 refine Fn.enter (by kernel_rfl) Tryz.func82 rfl Tryz.ntmps82 rfl ?_
 replace H:=H (Nat.le_trans hp_b.rd.cap hp_b.rd.max)
 have hNoAt:AllP (NoAt w) [(some g_p),(blk a0)]:=(apC (NoAt.bl hp rfl) (apC (NoAt.own hp_b rfl) apN))
 refine zd (zd (zb (yp (h:=(zx rfl rfl (kv hp_b.rd rfl hp H) ?_)))))
 rintro _ _ ⟨rfl,t17,rfl,H⟩
 refine ze (za (zm rfl (fun b1=>?_) (fun b1=>?_)))
 ·replace H:=H.1 (b1)
  exact zt (zf (WX.ret0 rfl ⟨(GrL.refl _),p_b,a0,a3,rfl,hp,hp_b,(InP.mem (List.Mem.tail _ (List.Mem.head _))),hdj0_1,H⟩))
 ·replace H:=H.2 (b1)
  refine zo (za (zd (zb (yp (h:=(ze (za (WC.block (zd (zb ?_))))))))))
  obtain ⟨h1,H⟩:=H
  refine zg rfl (qV (z:=.agg ⟨[]⟩) Tryz.underlying221 rfl (fun _=>by kernel_rfl) hv_ rfl (tyP_none h1)) (yp (h:=(yp (h:=(ze (za (zm rfl (fun h=>by cases h) (fun _=>zd (zb (zg rfl (qV (z:=.bool false) Tryz.underlying223 rfl (fun _=>by kernel_rfl) hv_ rfl (tyP_no rfl v_)) (yp (h:=(yp (h:=(ze (za (zm rfl (fun h=>by cases h) (fun _=>zd (zb ?_)))))))))))))))))))
  rcases PV.intCases v_ with ⟨z,he1⟩ | he1
  ·replace H:=H.1 z he1
   obtain ⟨a,b,hv1,hN1,one1,one2,hL1⟩:=VR.intOut hv_ he1
   refine zg rfl (jf Tryz.underlying208 rfl rfl hv1) (yp (h:=(yp (h:=(ze (za (zm rfl (fun _=>zd (zb (WL.alloc rfl zero208 (fun g1 w1 hB1 hg1 hl1=>zZ (vs:=[a,b]) qD rfl rfl rfl (qJ one1 (qJ one2 jl)) hB1 rfl rfl (fun w2 hB2 hg2=>?_))))) (fun h=>by cases h))))))))
   have gr2:GrL [(some g_p),(blk a0)] w w2:=GrL.mod ((GrL.of0 (ps:=[(some g_p),(blk a0)]) hg1)) hg2 (InP.ge (Ge.le (Ge.box hl1) (Nat.le_refl _)))
   refine ze (za (zb (yp (h:=(zg rfl (z9 (o:=0) (by kernel_rfl) rfl) (zg rfl (qt (vs:=[a,b]) qD hB2 rfl rfl rfl rfl) (zx rfl rfl (W_num_Num_Text (Nm.goV (hN1.grown hg1) hL1 (GrL.of1 hg2) (apC (DnD.one (hv_.inp hap0 (InP.ge (Ge.le (Ge.box hl1) (Nat.le_refl _))))) apN)) H) ?_)))))))
   rintro _ w3 ⟨hg3,t41,rfl,H⟩
   have gr3:=GrL.add0 gr2 hg3
   have k7:=((hp_b.grown hg1).go hg2 (Dj.new hp_b.lt' (Ge.box hl1))).grown hg3
   have k8:=((hp.g0 hg1).go hg2 (Dj.new hp.lt' (Ge.box hl1))).g0 hg3
   refine z5 qD rfl rfl rfl (qJ rfl jl) rfl (by omega) (fun g2 w4 hB3 hg4 hl2=>?_)
   have hO1:Own vs w4 w.heap.size 9 (some ⟨g2,0,none⟩) 1 ([t41]:List (List UInt8)):=Own.ofBl hB3 (Nat.le_trans (GrL.sizeL gr3) hl2) (by simp [maxLen]) rfl
   have gr4:=GrL.add0 gr3 hg4
   refine zx rfl rfl (jh (k7.grown hg4) rfl (k8.g0 hg4) hO1.rd rfl hdj0_1 (apC (Dn.of (Dj.new k8.lt' (Ge.box hl2)).symm) (apC (Dn.of (Dj.new k7.lt' (Ge.box hl2)).symm) apN)) H) ?_
   rintro _ w5 ⟨hgl1,p_,b9,c5,rfl,hB4,hO2,hi1,dj1,H⟩
   have hi2:InP [(some g_p),(blk a0)] w.heap.size (blk b9):=InP.trans hi1 (apC (InP.mem (List.Mem.head _)) (apC (InP.mem (List.Mem.tail _ (List.Mem.head _))) apN)) (GrL.sizeL gr4)
   have gr5:GrL [(some g_p),(blk a0)] w w5:=GrL.modL gr4 hgl1 (apC (InP.mem (List.Mem.head _)) (apC (InP.mem (List.Mem.tail _ (List.Mem.head _))) apN))
   exact ze (zi (qd rfl ⟨gr5,p_,b9,c5,rfl,hB4,hO2,hi2,dj1,H⟩))
  ·replace H:=H.2 he1
   refine zg rfl (qV (z:=.agg ⟨[.bool false,.slice none 0 0]⟩) Tryz.underlying208 rfl (fun _=>by kernel_rfl) hv_ rfl (tyP_int he1)) (yp (h:=(yp (h:=(ze (za (zm rfl (fun h=>by cases h) (fun _=>zd (zb ?_)))))))))
   rcases PV.strCases v_ with ⟨s,he2⟩ | he2
   ·replace H:=H.1 s he2
    have hv2:=VR.strOut hv_ he2
    refine zg rfl (jf Tryz.underlying169 rfl rfl hv2) (yp (h:=(yp (h:=(ze (za (zm rfl (fun _=>zd (zb (yp (h:=(ze (za (zb (yp (h:=(yp (h:=(zx rfl rfl (W_lex_Quote H) ?_)))))))))))) (fun h=>by cases h))))))))
    rintro _ w6 ⟨hg5,t49,rfl,H⟩
    have gr6:=(GrL.of0 (ps:=[(some g_p),(blk a0)]) hg5)
    have k11:=hp_b.grown hg5
    have k12:=hp.g0 hg5
    refine z5 qD rfl rfl rfl (qJ rfl jl) rfl (by omega) (fun g3 w7 hB5 hg6 hl3=>?_)
    have hO3:Own vs w7 w.heap.size 9 (some ⟨g3,0,none⟩) 1 ([t49]:List (List UInt8)):=Own.ofBl hB5 (Nat.le_trans (GrL.sizeL gr6) hl3) (by simp [maxLen]) rfl
    have gr7:=GrL.add0 gr6 hg6
    refine zx rfl rfl (jh (k11.grown hg6) rfl (k12.g0 hg6) hO3.rd rfl hdj0_1 (apC (Dn.of (Dj.new k12.lt' (Ge.box hl3)).symm) (apC (Dn.of (Dj.new k11.lt' (Ge.box hl3)).symm) apN)) H) ?_
    rintro _ w8 ⟨hgl2,p_2,b8,c3,rfl,hB6,hO4,hi3,dj2,H⟩
    have hi4:InP [(some g_p),(blk a0)] w.heap.size (blk b8):=InP.trans hi3 (apC (InP.mem (List.Mem.head _)) (apC (InP.mem (List.Mem.tail _ (List.Mem.head _))) apN)) (GrL.sizeL gr7)
    have gr8:GrL [(some g_p),(blk a0)] w w8:=GrL.modL gr7 hgl2 (apC (InP.mem (List.Mem.head _)) (apC (InP.mem (List.Mem.tail _ (List.Mem.head _))) apN))
    exact ze (zi (qd rfl ⟨gr8,p_2,b8,c3,rfl,hB6,hO4,hi4,dj2,H⟩))
   ·replace H:=H.2 he2
    exact zg rfl (qV (z:=vs ([]:List UInt8)) Tryz.underlying169 rfl (fun _=>by kernel_rfl) hv_ rfl (tyP_str he2)) (yp (h:=(yp (h:=(ze (za (zm rfl (fun h=>by cases h) (fun _=>zd (zb (zg rfl (assertNoI (z:=.nilIface) Tryz.underlying227 (fun _=>by kernel_rfl) (by decide +kernel) hv_ rfl) (yp (h:=(yp (h:=(ze (za (zm rfl (fun h=>by cases h) (fun _=>zd (zb (zg rfl (assertNoI (z:=.nilIface) Tryz.underlying229 (fun _=>by kernel_rfl) (by decide +kernel) hv_ rfl) (yp (h:=(yp (h:=(ze (za (zm rfl (fun h=>by cases h) (fun _=>zd (zb (zg rfl (assertNoI (z:=.nilIface) Tryz.underlying232 (fun _=>by kernel_rfl) (by decide +kernel) hv_ rfl) (yp (h:=(yp (h:=(ze (za (zm rfl (fun h=>by cases h) (fun _=>zd (zb (yp (h:=(ze (za (zb (yp (h:=(yp (h:=(yp (h:=(False.elim H)))))))))))))))))))))))))))))))))))))))))))))))))))
set_option maxHeartbeats 8000000 in
theorem W_pval_printer_items {w:World} {g_p:Nat} {p_b:List UInt8} {a0:Option Addr} {a3:Nat} {l:List PV} {A_l:Option Addr} {c_l:Nat} {a7:List VH} {deep:Int} {a5:Nat} {n_l:Nat} {K:(List UInt8)->Prop} (hp_b:Own vb w 0 5 a0 a3 p_b) (a6:a5=p_b.length) (hp:Bl w g_p 153 [.slice a0 a5 a3]) (hl:Rd vv w A_l c_l a7) (c8:n_l=l.length) (a2:RelD deV w a7 l) (hdj0_1:Dj (some g_p) (blk a0)) (hap0:AllP (Dn a7 (blk A_l)) [(some g_p),(blk a0)]) (hap1:AllP (DnD deV a7 l) [(some g_p),(blk a0)]) (H:jJ p_b l deep K):Fn Tryz.prog 141 ⟨[.pointer (some ⟨g_p,0,none⟩),.slice A_l n_l c_l,.int .i64 deep]⟩ w (fun v w'=>GrL [(some g_p),(blk a0)] w w'/\∃ (p_b2:List UInt8),∃ (a1:Option Addr),∃ (a4:Nat),v=.tuple #[]/\Bl w' g_p 153 [.slice a1 p_b2.length a4]/\Own vb w' 0 5 a1 a4 p_b2/\InP [(some g_p),(blk a0)] w.heap.size (blk a1)/\Dj (some g_p) (blk a1)/\K p_b2):=by
 subst a6
 subst c8
 unfold jJ at H
 refine Fn.enter (by kernel_rfl) Tryz.func141 rfl Tryz.ntmps141 rfl ?_
 replace H:=H (Nat.le_trans hp_b.rd.cap hp_b.rd.max)
 replace H:=H (by rw [<-a2.1]; exact Nat.le_trans hl.cap hl.max)
 have hNoAt:AllP (NoAt w) [(some g_p),(blk a0)]:=(apC (NoAt.bl hp rfl) (apC (NoAt.own hp_b rfl) apN))
 refine zd (zb (yp (h:=(yp (h:=(yp (h:=(ze (za (WC.block ?_))))))))))
 obtain ⟨I1,mu1,a9,HR1⟩:=H
 refine z3 (fun n' L' w'=>∃ (t10:Int),∃ (p0:List UInt8),∃ (a8:Option Addr),∃ (b0:Nat),∃ (c1:Nat),n'=mu1 t10 p0/\L'=[(0,.pointer (some ⟨g_p,0,none⟩)),(2,.int .i64 deep),(8,.slice A_l l.length c_l),(9,.int .i64 (l.length:Int)),(10,.int .i64 t10)]/\I1 t10 p0/\c1=p0.length/\GrL [(some g_p),(blk a0)] w w'/\Bl w' g_p 153 [.slice a8 c1 b0]/\Own vb w' 0 5 a8 b0 p0/\Dj (some g_p) (blk a8)/\InP [(some g_p),(blk a0)] w.heap.size (blk a8)) _ _ ⟨(0:Int),p_b,a0,a3,p_b.length,rfl,rfl,a9,rfl,(GrL.refl _),hp,hp_b,hdj0_1,(InP.mem (List.Mem.tail _ (List.Mem.head _)))⟩ sb ?_
 clear a9
 rintro _ _ w1 ⟨t10,p0,a8,b0,c1,rfl,rfl,hI1,rfl,gr1,k1,k2,dj1,hi1⟩
 have H:=HR1 t10 p0 hI1
 refine zd (zb (yp (h:=(ze (za (zd (zm rfl (fun b1=>?_) (fun b1=>?_))))))))
 ·replace H:=H.1 (of_decide_eq_true b1)
  refine zo (za (zd (WC.block (zd (zb (yp (h:=?_)))))))
  obtain ⟨h1,H⟩:=H
  refine zg rfl (zB qD (hl.goL gr1 hap0) rfl rfl a2.1.symm rfl h1.1 h1.2) ?_
  obtain ⟨⟨v_el,F_el⟩,eh1,hR1⟩:=RelD.at (a2.goL gr1 hap1) vh0 PV.nil (j:=t10.toNat) (Nat.lt_of_lt_of_eq (iltN h1 a2.1.symm) (a2.goL gr1 hap1).1)
  have hv1:RelD deV w1 [(v_el,F_el)] [l.getD t10.toNat PV.nil]:=RelD.cons hR1 RelD.nil
  refine zg rfl (zR (v:=v_el.1) (zM vh0 qD (hl.goL gr1 hap0) rfl rfl (iltN h1 a2.1.symm)) (congrArg vv eh1)) (yp (h:=(yp (h:=(ze (za (zd (zd (zb (yp (h:=(zx rfl rfl (kv k2.rd rfl k1 H) ?_))))))))))))
  rintro _ _ ⟨rfl,t16,rfl,H⟩
  refine ze (za (zm rfl (fun b2=>?_) (fun b2=>?_)))
  ·replace H:=H.1 (b2)
   exact zt (zf (zj (zf (zf (zj (WX.ret0 rfl ⟨gr1,p0,a8,b0,rfl,k1,k2,hi1,dj1,H⟩))))))
  ·replace H:=H.2 (b2)
   refine zo (za (zd ?_))
   obtain ⟨J1,H,hJ1⟩:=H
   refine qo (fun L' w'=>∃ (p02:List UInt8),∃ (c2:Option Addr),∃ (c7:Nat),∃ (c9:Nat),L'=[(0,.pointer (some ⟨g_p,0,none⟩)),(2,.int .i64 deep),(7,v_el.1),(8,.slice A_l l.length c_l),(9,.int .i64 (l.length:Int)),(10,.int .i64 t10)]/\J1 p02/\c9=p02.length/\GrL [(some g_p),(blk a0)] w w'/\Bl w' g_p 153 [.slice c2 c9 c7]/\RelD deV w' [(v_el,F_el)] [l.getD t10.toNat PV.nil]/\Own vb w' 0 5 c2 c7 p02/\Dj (some g_p) (blk c2)/\DnD deV [(v_el,F_el)] [l.getD t10.toNat PV.nil] (blk c2)/\InP [(some g_p),(blk a0)] w.heap.size (blk c2)) ?_ (fun hQ=>?_)
   ·clear H
    rintro _ w2 ⟨p02,c2,c7,c9,rfl,H,rfl,gr2,k3,k4,k5,dj2,dj3,hi2⟩
    replace H:=hJ1 p02 H
    refine za (zb (yp (h:=(yp (h:=(yp (h:=(zx rfl rfl (W_pval_printer_repr k5 rfl k3 k4 dj2 (apC (DnD.cons (DnD.at (a2.inp hap1 (InP.mem (List.Mem.head _))) (a2.goL gr1 hap1).1 (Nat.lt_of_lt_of_eq (iltN h1 a2.1.symm) (a2.goL gr1 hap1).1) eh1) DnD.nil) (apC dj3 apN)) H) ?_))))))))
    rintro _ w3 ⟨hgl1,p_,b9,c5,rfl,hB1,hO1,hi3,dj4,H⟩
    have hi4:InP [(some g_p),(blk a0)] w.heap.size (blk b9):=InP.trans hi3 (apC (InP.mem (List.Mem.head _)) (apC hi2 apN)) (GrL.sizeL gr2)
    have gr3:GrL [(some g_p),(blk a0)] w w3:=GrL.modL gr2 hgl1 (apC (InP.mem (List.Mem.head _)) (apC hi2 apN))
    refine ze (zi (za (zb ?_)))
    obtain ⟨h2,H⟩:=H
    exact zg rfl (Yld.add rfl rfl h2) (yp (h:=(ze (zX _ ⟨t10+(1:Int),p_,b9,c5,p_.length,rfl,rfl,H.1,rfl,gr3,hB1,hO1,dj4,hi4⟩ sb H.2))))
   ·clear hJ1
    refine zd (zb (yp (h:=(yp (h:=(ze (za (zm rfl (fun b3=>?_) (fun b3=>?_)))))))))
    ·replace H:=H.1 (of_decide_eq_true b3)
     refine zb (yp (h:=(z5 qD rfl rfl rfl (qJ rfl jl) rfl (by omega) (fun g1 w4 hB2 hg1 hl1=>?_))))
     have hO2:Own vs w4 w.heap.size 9 (some ⟨g1,0,none⟩) 1 ([([44,32]:List UInt8)]:List (List UInt8)):=Own.ofBl hB2 (Nat.le_trans (GrL.sizeL gr1) hl1) (by simp [maxLen]) rfl
     have gr4:=GrL.add0 gr1 hg1
     have k8:=hv1.grown hg1
     refine zx rfl rfl (jh (k2.grown hg1) rfl (k1.g0 hg1) hO2.rd rfl dj1 (apC (Dn.of (Dj.new k1.lt' (Ge.box hl1)).symm) (apC (Dn.of (Dj.new k2.lt' (Ge.box hl1)).symm) apN)) H) ?_
     rintro _ w5 ⟨hgl2,p_2,b8,c3,rfl,hB3,hO3,hi5,dj5,H⟩
     have hi6:InP [(some g_p),(blk a0)] w.heap.size (blk b8):=InP.trans hi5 (apC (InP.mem (List.Mem.head _)) (apC hi1 apN)) (GrL.sizeL gr4)
     have gr5:GrL [(some g_p),(blk a0)] w w5:=GrL.modL gr4 hgl2 (apC (InP.mem (List.Mem.head _)) (apC hi1 apN))
     exact ze (WX.weaken sb (hQ _ _ ⟨p_2,b8,c3,p_2.length,rfl,H,rfl,gr5,hB3,(k8.goL hgl2 (apC (DnD.cons (DnD.at (a2.inp hap1 (InP.mem (List.Mem.head _))) (a2.goL gr1 hap1).1 (Nat.lt_of_lt_of_eq (iltN h1 a2.1.symm) (a2.goL gr1 hap1).1) eh1) DnD.nil) (apC (DnD.cons (DnD.at (a2.inp hap1 hi1) (a2.goL gr1 hap1).1 (Nat.lt_of_lt_of_eq (iltN h1 a2.1.symm) (a2.goL gr1 hap1).1) eh1) DnD.nil) apN))),hO3,dj5,(RelD.inp k8 (apC (DnD.cons (DnD.at (a2.inp hap1 (InP.mem (List.Mem.head _))) (a2.goL gr1 hap1).1 (Nat.lt_of_lt_of_eq (iltN h1 a2.1.symm) (a2.goL gr1 hap1).1) eh1) DnD.nil) (apC (DnD.cons (DnD.at (a2.inp hap1 hi1) (a2.goL gr1 hap1).1 (Nat.lt_of_lt_of_eq (iltN h1 a2.1.symm) (a2.goL gr1 hap1).1) eh1) DnD.nil) apN)) hi5),hi6⟩))
    ·replace H:=H.2 (of_decide_eq_false b3)
     exact zo (WX.weaken sb (hQ _ _ ⟨p0,a8,b0,p0.length,rfl,H,rfl,gr1,k1,hv1,k2,dj1,(DnD.cons (DnD.at (a2.inp hap1 hi1) (a2.goL gr1 hap1).1 (Nat.lt_of_lt_of_eq (iltN h1 a2.1.symm) (a2.goL gr1 hap1).1) eh1) DnD.nil),hi1⟩))
 ·replace H:=H.2 (of_decide_eq_false b1)
  exact zy (zk (zk (zl (qd rfl ⟨gr1,p0,a8,b0,rfl,k1,k2,hi1,dj1,H⟩))))
set_option maxHeartbeats 8000000 in
theorem W_pval_printer_parts {w:World} {g_p:Nat} {p_b:List UInt8} {a0:Option Addr} {a3:Nat} {v_v:OV} {F_v:Nat->Prop} {v_:PV} {deep:Int} {a5:Nat} {K:(List UInt8)->Prop} (hp_b:Own vb w 0 5 a0 a3 p_b) (a6:a5=p_b.length) (hp:Bl w g_p 153 [.slice a0 a5 a3]) (hv_:RelD deV w [(v_v,F_v)] [v_]) (hdj0_1:Dj (some g_p) (blk a0)) (hap0:AllP (DnD deV [(v_v,F_v)] [v_]) [(some g_p),(blk a0)]) (H:jW p_b v_ deep K):Fn Tryz.prog 142 ⟨[.pointer (some ⟨g_p,0,none⟩),v_v.1,.int .i64 deep]⟩ w (fun v w'=>GrL [(some g_p),(blk a0)] w w'/\∃ (p_b2:List UInt8),∃ (a1:Option Addr),∃ (a4:Nat),v=.tuple #[]/\Bl w' g_p 153 [.slice a1 p_b2.length a4]/\Own vb w' 0 5 a1 a4 p_b2/\InP [(some g_p),(blk a0)] w.heap.size (blk a1)/\Dj (some g_p) (blk a1)/\K p_b2):=by
 subst a6
 unfold jW at H
 refine Fn.enter (by kernel_rfl) Tryz.func142 rfl Tryz.ntmps142 rfl ?_
 replace H:=H (Nat.le_trans hp_b.rd.cap hp_b.rd.max)
 have hNoAt:AllP (NoAt w) [(some g_p),(blk a0)]:=(apC (NoAt.bl hp rfl) (apC (NoAt.own hp_b rfl) apN))
 refine zd (zd (zb (yp (h:=(yp (h:=(ze (za (zm rfl (fun b1=>?_) (fun b1=>?_))))))))))
 ·replace H:=H.1 (of_decide_eq_true b1)
  refine zd (zb (yp (h:=(z5 qD rfl rfl rfl (qJ rfl jl) rfl (by omega) (fun g1 w1 hB1 hg1 hl1=>?_)))))
  have hO1:Own vs w1 w.heap.size 9 (some ⟨g1,0,none⟩) 1 ([([46,46,46]:List UInt8)]:List (List UInt8)):=Own.ofBl hB1 (Nat.le_trans (Nat.le_refl _) hl1) (by simp [maxLen]) rfl
  have gr1:=(GrL.of0 (ps:=[(some g_p),(blk a0)]) hg1)
  refine zx rfl rfl (jh (hp_b.grown hg1) rfl (hp.g0 hg1) hO1.rd rfl hdj0_1 (apC (Dn.of (Dj.new hp.lt' (Ge.box hl1)).symm) (apC (Dn.of (Dj.new hp_b.lt' (Ge.box hl1)).symm) apN)) H) ?_
  rintro _ w2 ⟨hgl1,p_,b9,c5,rfl,hB2,hO2,hi1,dj1,H⟩
  have hi2:InP [(some g_p),(blk a0)] w.heap.size (blk b9):=InP.trans hi1 (apC (InP.mem (List.Mem.head _)) (apC (InP.mem (List.Mem.tail _ (List.Mem.head _))) apN)) (GrL.sizeL gr1)
  have gr2:GrL [(some g_p),(blk a0)] w w2:=GrL.modL gr1 hgl1 (apC (InP.mem (List.Mem.head _)) (apC (InP.mem (List.Mem.tail _ (List.Mem.head _))) apN))
  exact ze (za (zt (zf (WX.ret0 rfl ⟨gr2,p_,b9,c5,rfl,hB2,hO2,hi2,dj1,H⟩))))
 ·replace H:=H.2 (of_decide_eq_false b1)
  refine zo (za (zd (zb (yp (h:=(ze (za (WC.block (zd (zb ?_))))))))))
  rcases PV.empCases v_ with he1 | he1
  ·replace H:=H.1 he1
   obtain ⟨g_l,A_l,c_l,hv1,hB3,hR1,hr1,hd1⟩:=VR.empOut hv_ he1
   refine zg rfl (jf Tryz.underlying61 rfl rfl hv1) (yp (h:=(yp (h:=(ze (za (zm rfl (fun _=>zd (zb (yp (h:=(ze (za (zd (zb (yp (h:=(z5 qD rfl rfl rfl (qJ rfl jl) rfl (by omega) (fun g2 w3 hB4 hg2 hl2=>?_)))))))))))) (fun h=>by cases h))))))))
   have hO3:Own vs w3 w.heap.size 9 (some ⟨g2,0,none⟩) 1 ([([91]:List UInt8)]:List (List UInt8)):=Own.ofBl hB4 (Nat.le_trans (Nat.le_refl _) hl2) (by simp [maxLen]) rfl
   have gr3:=(GrL.of0 (ps:=[(some g_p),(blk a0)]) hg2)
   have k5:=hR1.grown hg2
   have k6:=hr1.grown hg2
   refine zx rfl rfl (jh (hp_b.grown hg2) rfl (hp.g0 hg2) hO3.rd rfl hdj0_1 (apC (Dn.of (Dj.new hp.lt' (Ge.box hl2)).symm) (apC (Dn.of (Dj.new hp_b.lt' (Ge.box hl2)).symm) apN)) H) ?_
   rintro _ w4 ⟨hgl2,p_2,b8,c3,rfl,hB5,hO4,hi3,dj2,H⟩
   have hi4:InP [(some g_p),(blk a0)] w.heap.size (blk b8):=InP.trans hi3 (apC (InP.mem (List.Mem.head _)) (apC (InP.mem (List.Mem.tail _ (List.Mem.head _))) apN)) (GrL.sizeL gr3)
   have gr4:GrL [(some g_p),(blk a0)] w w4:=GrL.modL gr3 hgl2 (apC (InP.mem (List.Mem.head _)) (apC (InP.mem (List.Mem.tail _ (List.Mem.head _))) apN))
   have k9:=k6.goL hgl2 (apC (DnD.nil (d:=deV)) (apC (DnD.nil (d:=deV)) apN))
   refine ze (za (zd (zb (yp (h:=(yp (h:=(yp (h:=(zg rfl (z9 (o:=0) (by kernel_rfl) rfl) (zg rfl (zz qD ((hB3.g0 hg2).goL hgl2 (apC (hd1 _ (hv_.inp hap0 (InP.mem (List.Mem.head _)))) (apC (hd1 _ (hv_.inp hap0 (InP.mem (List.Mem.tail _ (List.Mem.head _))))) apN))) rfl rfl rfl) (yp (h:=?_)))))))))))))
   obtain ⟨h1,H⟩:=H
   refine zg rfl (Yld.add rfl rfl h1) (zx rfl rfl (W_pval_printer_items hO4 rfl hB5 (k5.goL hgl2 (apC (fun h=>absurd rfl h) (apC (fun h=>absurd rfl h) apN))) rfl k9 dj2 (apC (fun h=>absurd rfl h) (apC (InP.dn hi3 (fun hx_=>k5.lt' hx_) (apC (fun h=>absurd rfl h) (apC (fun h=>absurd rfl h) apN))) apN)) (apC (DnD.nil (d:=deV)) (apC (RelD.inp k6 (apC (DnD.nil (d:=deV)) (apC (DnD.nil (d:=deV)) apN)) hi3) apN)) H) ?_)
   rintro _ w5 ⟨hgl3,p_3,c6,d9,rfl,hB6,hO5,hi5,dj3,H⟩
   have hi6:InP [(some g_p),(blk a0)] w.heap.size (blk c6):=InP.trans hi5 (apC (InP.mem (List.Mem.head _)) (apC hi4 apN)) (GrL.sizeL gr4)
   have gr5:GrL [(some g_p),(blk a0)] w w5:=GrL.modL gr4 hgl3 (apC (InP.mem (List.Mem.head _)) (apC hi4 apN))
   refine ze (za (zb (yp (h:=(z5 qD rfl rfl rfl (qJ rfl jl) rfl (by omega) (fun g3 w6 hB7 hg3 hl3=>?_))))))
   have hO6:Own vs w6 w.heap.size 9 (some ⟨g3,0,none⟩) 1 ([([93]:List UInt8)]:List (List UInt8)):=Own.ofBl hB7 (Nat.le_trans (GrL.sizeL gr5) hl3) (by simp [maxLen]) rfl
   have gr6:=GrL.add0 gr5 hg3
   refine zx rfl rfl (jh (hO5.grown hg3) rfl (hB6.g0 hg3) hO6.rd rfl dj3 (apC (Dn.of (Dj.new hB6.lt' (Ge.box hl3)).symm) (apC (Dn.of (Dj.new hO5.lt' (Ge.box hl3)).symm) apN)) H) ?_
   rintro _ w7 ⟨hgl4,p_4,d4,e6,rfl,hB8,hO7,hi7,dj4,H⟩
   have hi8:InP [(some g_p),(blk a0)] w.heap.size (blk d4):=InP.trans hi7 (apC (InP.mem (List.Mem.head _)) (apC hi6 apN)) (GrL.sizeL gr6)
   have gr7:GrL [(some g_p),(blk a0)] w w7:=GrL.modL gr6 hgl4 (apC (InP.mem (List.Mem.head _)) (apC hi6 apN))
   exact ze (zi (qd rfl ⟨gr7,p_4,d4,e6,rfl,hB8,hO7,hi8,dj4,H⟩))
  ·replace H:=H.2 he1
   refine zg rfl (qV (z:=.pointer none) Tryz.underlying61 rfl (fun _=>by kernel_rfl) hv_ rfl (tyP_emp he1)) (yp (h:=(yp (h:=(ze (za (zm rfl (fun h=>by cases h) (fun _=>zd (zb ?_)))))))))
   rcases PV.tupCases v_ with ⟨l,he2⟩ | he2
   ·replace H:=H.1 l he2
    obtain ⟨g_t,A_t,c_t,d3,hv2,hB9,hR2,hr2,hd2,hd3,hd4⟩:=VR.tupOut hv_ he2
    refine zg rfl (jf Tryz.underlying155 rfl rfl hv2) (yp (h:=(yp (h:=(ze (za (zm rfl (fun _=>zd (zb (yp (h:=(ze (za (zd (zb (yp (h:=(z5 qD rfl rfl rfl (qJ rfl jl) rfl (by omega) (fun g4 w8 hB10 hg4 hl4=>?_)))))))))))) (fun h=>by cases h))))))))
    have hO8:Own vs w8 w.heap.size 9 (some ⟨g4,0,none⟩) 1 ([([40]:List UInt8)]:List (List UInt8)):=Own.ofBl hB10 (Nat.le_trans (Nat.le_refl _) hl4) (by simp [maxLen]) rfl
    have gr8:=(GrL.of0 (ps:=[(some g_p),(blk a0)]) hg4)
    have k15:=hR2.grown hg4
    have k16:=hr2.grown hg4
    have k17:=hB9.g0 hg4
    refine zx rfl rfl (jh (hp_b.grown hg4) rfl (hp.g0 hg4) hO8.rd rfl hdj0_1 (apC (Dn.of (Dj.new hp.lt' (Ge.box hl4)).symm) (apC (Dn.of (Dj.new hp_b.lt' (Ge.box hl4)).symm) apN)) H) ?_
    rintro _ w9 ⟨hgl5,p_5,e4,g9,rfl,hB11,hO9,hi9,dj5,H⟩
    have hi10:InP [(some g_p),(blk a0)] w.heap.size (blk e4):=InP.trans hi9 (apC (InP.mem (List.Mem.head _)) (apC (InP.mem (List.Mem.tail _ (List.Mem.head _))) apN)) (GrL.sizeL gr8)
    have gr9:GrL [(some g_p),(blk a0)] w w9:=GrL.modL gr8 hgl5 (apC (InP.mem (List.Mem.head _)) (apC (InP.mem (List.Mem.tail _ (List.Mem.head _))) apN))
    have k18:=k15.goL hgl5 (apC (hd3 _ (hv_.inp hap0 (InP.mem (List.Mem.head _)))) (apC (hd3 _ (hv_.inp hap0 (InP.mem (List.Mem.tail _ (List.Mem.head _))))) apN))
    have k19:=k16.goL hgl5 (apC (hd4 _ (hv_.inp hap0 (InP.mem (List.Mem.head _)))) (apC (hd4 _ (hv_.inp hap0 (InP.mem (List.Mem.tail _ (List.Mem.head _))))) apN))
    have k20:=k17.goL hgl5 (apC (hd2 _ (hv_.inp hap0 (InP.mem (List.Mem.head _)))) (apC (hd2 _ (hv_.inp hap0 (InP.mem (List.Mem.tail _ (List.Mem.head _))))) apN))
    refine ze (za (zd (zb (yp (h:=(yp (h:=(yp (h:=(zg rfl (z9 (o:=0) (by kernel_rfl) rfl) (zg rfl (zz qD k20 rfl rfl rfl) (yp (h:=?_)))))))))))))
    obtain ⟨h2,H⟩:=H
    refine zg rfl (Yld.add rfl rfl h2) (zx rfl rfl (W_pval_printer_items hO9 rfl hB11 k18 rfl k19 dj5 (apC (hd3 _ (hv_.inp hap0 (InP.mem (List.Mem.head _)))) (apC (InP.dn hi9 (fun hx_=>k15.lt' hx_) (apC (hd3 _ (hv_.inp hap0 (InP.mem (List.Mem.head _)))) (apC (hd3 _ (hv_.inp hap0 (InP.mem (List.Mem.tail _ (List.Mem.head _))))) apN))) apN)) (apC (hd4 _ (hv_.inp hap0 (InP.mem (List.Mem.head _)))) (apC (RelD.inp k16 (apC (hd4 _ (hv_.inp hap0 (InP.mem (List.Mem.head _)))) (apC (hd4 _ (hv_.inp hap0 (InP.mem (List.Mem.tail _ (List.Mem.head _))))) apN)) hi9) apN)) H) ?_)
    rintro _ w10 ⟨hgl6,p_6,d5,e7,rfl,hB12,hO10,hi11,dj6,H⟩
    have hi12:InP [(some g_p),(blk a0)] w.heap.size (blk d5):=InP.trans hi11 (apC (InP.mem (List.Mem.head _)) (apC hi10 apN)) (GrL.sizeL gr9)
    have gr10:GrL [(some g_p),(blk a0)] w w10:=GrL.modL gr9 hgl6 (apC (InP.mem (List.Mem.head _)) (apC hi10 apN))
    have k21:=k18.goL hgl6 (apC (hd3 _ (hv_.inp hap0 (InP.mem (List.Mem.head _)))) (apC (InP.dn hi9 (fun hx_=>k15.lt' hx_) (apC (hd3 _ (hv_.inp hap0 (InP.mem (List.Mem.head _)))) (apC (hd3 _ (hv_.inp hap0 (InP.mem (List.Mem.tail _ (List.Mem.head _))))) apN))) apN))
    have k22:=k19.goL hgl6 (apC (hd4 _ (hv_.inp hap0 (InP.mem (List.Mem.head _)))) (apC (RelD.inp k16 (apC (hd4 _ (hv_.inp hap0 (InP.mem (List.Mem.head _)))) (apC (hd4 _ (hv_.inp hap0 (InP.mem (List.Mem.tail _ (List.Mem.head _))))) apN)) hi9) apN))
    refine ze (za (zd ?_))
    obtain ⟨J1,H,hJ1⟩:=H
    refine qo (fun L' w'=>∃ (p0:List UInt8),∃ (a8:Option Addr),∃ (b0:Nat),∃ (c1:Nat),L'=[(0,.pointer (some ⟨g_p,0,none⟩))]/\J1 p0/\c1=p0.length/\GrL [(some g_p),(blk a0)] w w'/\Bl w' g_p 153 [.slice a8 c1 b0]/\Own vb w' 0 5 a8 b0 p0/\Dj (some g_p) (blk a8)/\InP [(some g_p),(blk a0)] w.heap.size (blk a8)) ?_ (fun hQ=>?_)
    ·clear H
     rintro _ w11 ⟨p0,a8,b0,c1,rfl,H,rfl,gr11,k24,k25,dj7,hi13⟩
     replace H:=hJ1 p0 H
     refine za (zb (yp (h:=(z5 qD rfl rfl rfl (qJ rfl jl) rfl (by omega) (fun g5 w12 hB13 hg5 hl5=>?_)))))
     have hO11:Own vs w12 w.heap.size 9 (some ⟨g5,0,none⟩) 1 ([([41]:List UInt8)]:List (List UInt8)):=Own.ofBl hB13 (Nat.le_trans (GrL.sizeL gr11) hl5) (by simp [maxLen]) rfl
     have gr12:=GrL.add0 gr11 hg5
     refine zx rfl rfl (jh (k25.grown hg5) rfl (k24.g0 hg5) hO11.rd rfl dj7 (apC (Dn.of (Dj.new k24.lt' (Ge.box hl5)).symm) (apC (Dn.of (Dj.new k25.lt' (Ge.box hl5)).symm) apN)) H) ?_
     rintro _ w13 ⟨hgl7,p_7,d6,e8,rfl,hB14,hO12,hi14,dj8,H⟩
     have hi15:InP [(some g_p),(blk a0)] w.heap.size (blk d6):=InP.trans hi14 (apC (InP.mem (List.Mem.head _)) (apC hi13 apN)) (GrL.sizeL gr12)
     have gr13:GrL [(some g_p),(blk a0)] w w13:=GrL.modL gr12 hgl7 (apC (InP.mem (List.Mem.head _)) (apC hi13 apN))
     exact ze (zi (qd rfl ⟨gr13,p_7,d6,e8,rfl,hB14,hO12,hi15,dj8,H⟩))
    ·clear hJ1
     refine zd (zb (yp (h:=(yp (h:=(zg rfl (z9 (o:=0) (by kernel_rfl) rfl) (zg rfl (zz qD (k20.goL hgl6 (apC (hd2 _ (hv_.inp hap0 (InP.mem (List.Mem.head _)))) (apC (InP.dj hi9 k17.lt' (apC (hd2 _ (hv_.inp hap0 (InP.mem (List.Mem.head _)))) (apC (hd2 _ (hv_.inp hap0 (InP.mem (List.Mem.tail _ (List.Mem.head _))))) apN))).symm apN))) rfl rfl rfl) (yp (h:=(yp (h:=(ze (za (zm rfl (fun b2=>?_) (fun b2=>?_)))))))))))))))
     ·replace H:=H.1 (of_decide_eq_true b2)
      refine zb (yp (h:=(z5 qD rfl rfl rfl (qJ rfl jl) rfl (by omega) (fun g6 w14 hB15 hg6 hl6=>?_))))
      have hO13:Own vs w14 w.heap.size 9 (some ⟨g6,0,none⟩) 1 ([([44]:List UInt8)]:List (List UInt8)):=Own.ofBl hB15 (Nat.le_trans (GrL.sizeL gr10) hl6) (by simp [maxLen]) rfl
      have gr14:=GrL.add0 gr10 hg6
      refine zx rfl rfl (jh (hO10.grown hg6) rfl (hB12.g0 hg6) hO13.rd rfl dj6 (apC (Dn.of (Dj.new hB12.lt' (Ge.box hl6)).symm) (apC (Dn.of (Dj.new hO10.lt' (Ge.box hl6)).symm) apN)) H) ?_
      rintro _ w15 ⟨hgl8,p_8,d7,e9,rfl,hB16,hO14,hi16,dj9,H⟩
      have hi17:InP [(some g_p),(blk a0)] w.heap.size (blk d7):=InP.trans hi16 (apC (InP.mem (List.Mem.head _)) (apC hi12 apN)) (GrL.sizeL gr14)
      have gr15:GrL [(some g_p),(blk a0)] w w15:=GrL.modL gr14 hgl8 (apC (InP.mem (List.Mem.head _)) (apC hi12 apN))
      exact ze (WX.weaken sb (hQ _ _ ⟨p_8,d7,e9,p_8.length,rfl,H,rfl,gr15,hB16,hO14,dj9,hi17⟩))
     ·replace H:=H.2 (of_decide_eq_false b2)
      exact zo (WX.weaken sb (hQ _ _ ⟨p_6,d5,e7,p_6.length,rfl,H,rfl,gr10,hB12,hO10,dj6,hi12⟩))
   ·replace H:=H.2 he2
    exact zg rfl (qV (z:=.pointer none) Tryz.underlying155 rfl (fun _=>by kernel_rfl) hv_ rfl (tyP_tup he2)) (yp (h:=(yp (h:=(ze (za (zm rfl (fun h=>by cases h) (fun _=>zd (zb (zg rfl (qV (z:=.pointer none) Tryz.underlying242 rfl (fun _=>by kernel_rfl) hv_ rfl (tyP_no rfl v_)) (yp (h:=(yp (h:=(ze (za (zm rfl (fun h=>by cases h) (fun _=>zd (zb (zg rfl (qV (z:=.pointer none) Tryz.underlying269 rfl (fun _=>by kernel_rfl) hv_ rfl (tyP_no rfl v_)) (yp (h:=(yp (h:=(ze (za (zm rfl (fun h=>by cases h) (fun _=>zo (zi (qd rfl ⟨(GrL.refl _),p_b,a0,a3,rfl,hp,hp_b,(InP.mem (List.Mem.tail _ (List.Mem.head _))),hdj0_1,H⟩))))))))))))))))))))))))))))))
set_option maxHeartbeats 8000000 in
theorem W_val_printer_reprT {w:World} {g_p:Nat} {p_b:List UInt8} {a0:Option Addr} {a3:Nat} {v_v:OV} {F_v:Nat->Prop} {v_:PV} {deep:Int} {a5:Nat} {K:(List UInt8)->Prop} (hp_b:Own vb w 0 5 a0 a3 p_b) (a6:a5=p_b.length) (hp:Bl w g_p 153 [.slice a0 a5 a3]) (hv_:RelD deV w [(v_v,F_v)] [v_]) (hdj0_1:Dj (some g_p) (blk a0)) (hap0:AllP (DnD deV [(v_v,F_v)] [v_]) [(some g_p),(blk a0)]) (H:j7 p_b v_ deep K):Fn Tryz.prog 82 ⟨[.pointer (some ⟨g_p,0,none⟩),v_v.1,.int .i64 deep]⟩ w (fun v w'=>GrL [(some g_p),(blk a0)] w w'/\∃ (p_b2:List UInt8),∃ (a1:Option Addr),∃ (a4:Nat),v=.tuple #[]/\Bl w' g_p 153 [.slice a1 p_b2.length a4]/\Own vb w' 0 5 a1 a4 p_b2/\InP [(some g_p),(blk a0)] w.heap.size (blk a1)/\Dj (some g_p) (blk a1)/\K p_b2):=by
 subst a6
 unfold j7 at H
 refine Fn.enter (by kernel_rfl) Tryz.func82 rfl Tryz.ntmps82 rfl ?_
 replace H:=H (Nat.le_trans hp_b.rd.cap hp_b.rd.max)
 have hNoAt:AllP (NoAt w) [(some g_p),(blk a0)]:=(apC (NoAt.bl hp rfl) (apC (NoAt.own hp_b rfl) apN))
 refine zd (zd (zb (yp (h:=(zx rfl rfl (kv hp_b.rd rfl hp H) ?_)))))
 rintro _ _ ⟨rfl,t17,rfl,H⟩
 refine ze (za (zm rfl (fun b1=>?_) (fun b1=>?_)))
 ·replace H:=H.1 (b1)
  exact zt (zf (WX.ret0 rfl ⟨(GrL.refl _),p_b,a0,a3,rfl,hp,hp_b,(InP.mem (List.Mem.tail _ (List.Mem.head _))),hdj0_1,H⟩))
 ·replace H:=H.2 (b1)
  refine zo (za (zd (zb (yp (h:=(ze (za (WC.block (zd (zb ?_))))))))))
  obtain ⟨h1,H⟩:=H
  refine zg rfl (qV (z:=.agg ⟨[]⟩) Tryz.underlying221 rfl (fun _=>by kernel_rfl) hv_ rfl (tyP_none h1)) (yp (h:=(yp (h:=(ze (za (zm rfl (fun h=>by cases h) (fun _=>zd (zb (zg rfl (qV (z:=.bool false) Tryz.underlying223 rfl (fun _=>by kernel_rfl) hv_ rfl (tyP_no rfl v_)) (yp (h:=(yp (h:=(ze (za (zm rfl (fun h=>by cases h) (fun _=>zd (zb ?_)))))))))))))))))))
  rcases PV.intCases v_ with ⟨z,he1⟩ | he1
  ·replace H:=H.1 z he1
   obtain ⟨a,b,hv1,hN1,one1,one2,hL1⟩:=VR.intOut hv_ he1
   refine zg rfl (jf Tryz.underlying208 rfl rfl hv1) (yp (h:=(yp (h:=(ze (za (zm rfl (fun _=>zd (zb (WL.alloc rfl zero208 (fun g1 w1 hB1 hg1 hl1=>zZ (vs:=[a,b]) qD rfl rfl rfl (qJ one1 (qJ one2 jl)) hB1 rfl rfl (fun w2 hB2 hg2=>?_))))) (fun h=>by cases h))))))))
   have gr2:GrL [(some g_p),(blk a0)] w w2:=GrL.mod ((GrL.of0 (ps:=[(some g_p),(blk a0)]) hg1)) hg2 (InP.ge (Ge.le (Ge.box hl1) (Nat.le_refl _)))
   refine ze (za (zb (yp (h:=(zg rfl (z9 (o:=0) (by kernel_rfl) rfl) (zg rfl (qt (vs:=[a,b]) qD hB2 rfl rfl rfl rfl) (zx rfl rfl (W_num_Num_Text (Nm.goV (hN1.grown hg1) hL1 (GrL.of1 hg2) (apC (DnD.one (hv_.inp hap0 (InP.ge (Ge.le (Ge.box hl1) (Nat.le_refl _))))) apN)) H) ?_)))))))
   rintro _ w3 ⟨hg3,t41,rfl,H⟩
   have gr3:=GrL.add0 gr2 hg3
   have k7:=((hp_b.grown hg1).go hg2 (Dj.new hp_b.lt' (Ge.box hl1))).grown hg3
   have k8:=((hp.g0 hg1).go hg2 (Dj.new hp.lt' (Ge.box hl1))).g0 hg3
   refine z5 qD rfl rfl rfl (qJ rfl jl) rfl (by omega) (fun g2 w4 hB3 hg4 hl2=>?_)
   have hO1:Own vs w4 w.heap.size 9 (some ⟨g2,0,none⟩) 1 ([t41]:List (List UInt8)):=Own.ofBl hB3 (Nat.le_trans (GrL.sizeL gr3) hl2) (by simp [maxLen]) rfl
   have gr4:=GrL.add0 gr3 hg4
   refine zx rfl rfl (jh (k7.grown hg4) rfl (k8.g0 hg4) hO1.rd rfl hdj0_1 (apC (Dn.of (Dj.new k8.lt' (Ge.box hl2)).symm) (apC (Dn.of (Dj.new k7.lt' (Ge.box hl2)).symm) apN)) H) ?_
   rintro _ w5 ⟨hgl1,p_,b9,c5,rfl,hB4,hO2,hi1,dj1,H⟩
   have hi2:InP [(some g_p),(blk a0)] w.heap.size (blk b9):=InP.trans hi1 (apC (InP.mem (List.Mem.head _)) (apC (InP.mem (List.Mem.tail _ (List.Mem.head _))) apN)) (GrL.sizeL gr4)
   have gr5:GrL [(some g_p),(blk a0)] w w5:=GrL.modL gr4 hgl1 (apC (InP.mem (List.Mem.head _)) (apC (InP.mem (List.Mem.tail _ (List.Mem.head _))) apN))
   exact ze (zi (qd rfl ⟨gr5,p_,b9,c5,rfl,hB4,hO2,hi2,dj1,H⟩))
  ·replace H:=H.2 he1
   refine zg rfl (qV (z:=.agg ⟨[.bool false,.slice none 0 0]⟩) Tryz.underlying208 rfl (fun _=>by kernel_rfl) hv_ rfl (tyP_int he1)) (yp (h:=(yp (h:=(ze (za (zm rfl (fun h=>by cases h) (fun _=>zd (zb ?_)))))))))
   rcases PV.strCases v_ with ⟨s,he2⟩ | he2
   ·replace H:=H.1 s he2
    have hv2:=VR.strOut hv_ he2
    refine zg rfl (jf Tryz.underlying169 rfl rfl hv2) (yp (h:=(yp (h:=(ze (za (zm rfl (fun _=>zd (zb (yp (h:=(ze (za (zb (yp (h:=(yp (h:=(zx rfl rfl (W_lex_Quote H) ?_)))))))))))) (fun h=>by cases h))))))))
    rintro _ w6 ⟨hg5,t49,rfl,H⟩
    have gr6:=(GrL.of0 (ps:=[(some g_p),(blk a0)]) hg5)
    have k11:=hp_b.grown hg5
    have k12:=hp.g0 hg5
    refine z5 qD rfl rfl rfl (qJ rfl jl) rfl (by omega) (fun g3 w7 hB5 hg6 hl3=>?_)
    have hO3:Own vs w7 w.heap.size 9 (some ⟨g3,0,none⟩) 1 ([t49]:List (List UInt8)):=Own.ofBl hB5 (Nat.le_trans (GrL.sizeL gr6) hl3) (by simp [maxLen]) rfl
    have gr7:=GrL.add0 gr6 hg6
    refine zx rfl rfl (jh (k11.grown hg6) rfl (k12.g0 hg6) hO3.rd rfl hdj0_1 (apC (Dn.of (Dj.new k12.lt' (Ge.box hl3)).symm) (apC (Dn.of (Dj.new k11.lt' (Ge.box hl3)).symm) apN)) H) ?_
    rintro _ w8 ⟨hgl2,p_2,b8,c3,rfl,hB6,hO4,hi3,dj2,H⟩
    have hi4:InP [(some g_p),(blk a0)] w.heap.size (blk b8):=InP.trans hi3 (apC (InP.mem (List.Mem.head _)) (apC (InP.mem (List.Mem.tail _ (List.Mem.head _))) apN)) (GrL.sizeL gr7)
    have gr8:GrL [(some g_p),(blk a0)] w w8:=GrL.modL gr7 hgl2 (apC (InP.mem (List.Mem.head _)) (apC (InP.mem (List.Mem.tail _ (List.Mem.head _))) apN))
    exact ze (zi (qd rfl ⟨gr8,p_2,b8,c3,rfl,hB6,hO4,hi4,dj2,H⟩))
   ·replace H:=H.2 he2
    refine zg rfl (qV (z:=vs ([]:List UInt8)) Tryz.underlying169 rfl (fun _=>by kernel_rfl) hv_ rfl (tyP_str he2)) (yp (h:=(yp (h:=(ze (za (zm rfl (fun h=>by cases h) (fun _=>zd (zb (zg rfl (assertNoI (z:=.nilIface) Tryz.underlying227 (fun _=>by kernel_rfl) (by decide +kernel) hv_ rfl) (yp (h:=(yp (h:=(ze (za (zm rfl (fun h=>by cases h) (fun _=>zd (zb (zg rfl (assertNoI (z:=.nilIface) Tryz.underlying229 (fun _=>by kernel_rfl) (by decide +kernel) hv_ rfl) (yp (h:=(yp (h:=(ze (za (zm rfl (fun h=>by cases h) (fun _=>zd (zb (zg rfl (assertNoI (z:=.nilIface) Tryz.underlying232 (fun _=>by kernel_rfl) (by decide +kernel) hv_ rfl) (yp (h:=(yp (h:=(ze (za (zm rfl (fun h=>by cases h) (fun _=>zd (zb (yp (h:=(ze (za (zb (yp (h:=(yp (h:=(yp (h:=(zx rfl rfl (W_pval_printer_parts hp_b rfl hp hv_ hdj0_1 (apC (hv_.inp hap0 (InP.mem (List.Mem.head _))) (apC (hv_.inp hap0 (InP.mem (List.Mem.tail _ (List.Mem.head _)))) apN)) H) ?_)))))))))))))))))))))))))))))))))))))))))))))))))))
    rintro _ w9 ⟨hgl3,p_3,c6,d9,rfl,hB7,hO5,hi5,dj3,H⟩
    have hi6:InP [(some g_p),(blk a0)] w.heap.size (blk c6):=InP.trans hi5 (apC (InP.mem (List.Mem.head _)) (apC (InP.mem (List.Mem.tail _ (List.Mem.head _))) apN)) (Nat.le_refl _)
    have gr9:GrL [(some g_p),(blk a0)] w w9:=GrL.modL (GrL.refl _) hgl3 (apC (InP.mem (List.Mem.head _)) (apC (InP.mem (List.Mem.tail _ (List.Mem.head _))) apN))
    exact ze (zi (qd rfl ⟨gr9,p_3,c6,d9,rfl,hB7,hO5,hi6,dj3,H⟩))
set_option maxHeartbeats 8000000 in
theorem jn {w:World} {v_v:OV} {F_v:Nat->Prop} {v_:PV} {K:(List UInt8)->Prop} (hv_:RelD deV w [(v_v,F_v)] [v_]) (H:jb v_ K):Fn Tryz.prog 18 ⟨[v_v.1]⟩ w (fun v w'=>w.grownBy w' none/\∃ (r:List UInt8),v=vs r/\K r):=by
 unfold jb at H
 refine Fn.enter (by kernel_rfl) Tryz.func18 rfl Tryz.ntmps18 rfl ?_
 refine zd (zb (yp (h:=(ze (za (zd (zb (zg rfl (z6 (us:=[.slice none 0 0]) zero153 places153 rfl rfl) (qn (us:=[.slice none 0 0]) rfl rfl rfl (fun g1 w1 hB1 hg1 hl1=>?_))))))))))
 have gr1:=hg1
 refine yp (h:=(ze (za (zd (zb (yp (h:=(yp (h:=(zx rfl rfl (W_val_printer_reprT ((Own.nil vb w1 w.heap.size 5).base (fun _ _=>Nat.zero_le _)) rfl hB1 (hv_.grown gr1) Dj.nr (apC (hv_.new (Ge.le (Ge.box hl1) (Nat.le_refl _))) (apC (DnD.none hv_) apN)) H) ?_))))))))))
 rintro _ w2 ⟨hgl1,t5_,g7,h0,rfl,hB2,hO1,hi1,dj1,H⟩
 have hO2:=hO1.base (InP.toGe hi1 (apC (Ge.le (Ge.box hl1) (Nat.le_refl _)) (apC Ge.none apN)) (qE gr1))
 exact ze (za (zd (zb (yp (h:=(yp (h:=(yp (h:=(zg rfl (zz qD hB2 rfl rfl rfl) (zg rfl (Yld.b2s qD hO2.rd rfl rfl rfl rfl rfl) (yp (h:=(ze (za (zt (zD rfl rfl ⟨(qN gr1 hgl1 (apC (Ge.le (Ge.box hl1) (Nat.le_refl _)) (apC Ge.none apN))),t5_,rfl,H⟩)))))))))))))))))
set_option maxHeartbeats 8000000 in
theorem W_val_weight {w:World} {v_v:OV} {F_v:Nat->Prop} {v_:PV} {most:Int} {K:Int->Prop} (hv_:RelD deV w [(v_v,F_v)] [v_]) (H:M_val_weight v_ most K):Fn Tryz.prog 128 ⟨[v_v.1,.int .i64 most]⟩ w (fun v w'=>w.grownBy w' none/\∃ (r:Int),v=.int .i64 r/\K r):=by
 unfold M_val_weight at H
 refine Fn.enter (by kernel_rfl) Tryz.func128 rfl Tryz.ntmps128 rfl ?_
 refine zd (zb (yp (h:=(ze (za (zd (zb (yp (h:=(ze (za (zd ?_))))))))))))
 obtain ⟨J1,H,hJ1⟩:=H
 refine qo (fun L' w'=>∃ (l:List PV),∃ (A_l:Option Addr),∃ (c_l:Nat),∃ (n_l:Nat),∃ (a7:List VH),L'=[(1,.int .i64 most),(5,.slice A_l n_l c_l)]/\J1 l/\n_l=l.length/\w=w'/\Rd vv w' A_l c_l a7/\RelD deV w' a7 l/\OrD (fun p=>DnD deV [(v_v,F_v)] [v_] p) deV a7 l w.heap.size) ?_ (fun hQ=>?_)
 ·clear H
  rintro _ _ ⟨l,A_l,c_l,n_l,a7,rfl,H,rfl,rfl,k1,k2,or1⟩
  replace H:=hJ1 l H
  refine za (zd (zb (yp (h:=(ze (za (zd (zd (zb (yp (h:=(yp (h:=(yp (h:=(ze (za (WC.block ?_))))))))))))))))))
  obtain ⟨I1,mu1,a9,HR1⟩:=H
  refine z3 (fun n' L' w'=>∃ (n:Int),∃ (t63:Int),n'=mu1 n t63/\L'=[(1,.int .i64 most),(12,.int .i64 n),(61,.slice A_l l.length c_l),(62,.int .i64 (l.length:Int)),(63,.int .i64 t63)]/\I1 n t63/\w.grownBy w' none/\Rd vv w' A_l c_l a7/\RelD deV w' a7 l/\OrD (fun p=>DnD deV [(v_v,F_v)] [v_] p) deV a7 l w.heap.size) _ _ ⟨(1:Int),(0:Int),rfl,rfl,a9,(jH _ _),k1,k2,or1⟩ sb ?_
  clear a9
  rintro _ _ w1 ⟨n,t63,rfl,rfl,hI1,gr1,k3,k4,or2⟩
  have H:=HR1 n t63 hI1
  refine zd (zb (yp (h:=(ze (za (zd (zm rfl (fun b1=>?_) (fun b1=>?_))))))))
  ·replace H:=H.1 (of_decide_eq_true b1)
   refine zo (za (zd (WC.block (zd (zb ?_)))))
   obtain ⟨h1,H⟩:=H
   refine zg rfl (zB qD k3 rfl rfl k2.1.symm rfl h1.1 h1.2) ?_
   obtain ⟨⟨v_el,F_el⟩,eh1,hR1⟩:=RelD.at k4 vh0 PV.nil (j:=t63.toNat) (Nat.lt_of_lt_of_eq (iltN h1 k2.1.symm) k4.1)
   have hv1:RelD deV w1 [(v_el,F_el)] [l.getD t63.toNat PV.nil]:=RelD.cons hR1 RelD.nil
   refine zg rfl (zR (v:=v_el.1) (zM vh0 qD k3 rfl rfl (iltN h1 k2.1.symm)) (congrArg vv eh1)) (yp (h:=(ze (za (zd (zd (zb (yp (h:=(yp (h:=(yp (h:=(ze (za (zm rfl (fun b2=>?_) (fun b2=>?_)))))))))))))))))
   ·replace H:=H.1 (of_decide_eq_true b2)
    exact zd (zb (yp (h:=(yp (h:=(ze (za (zt (zf (zj (zf (zf (zj (zf (zD rfl rfl ⟨gr1,n,rfl,H⟩)))))))))))))))
   ·replace H:=H.2 (of_decide_eq_false b2)
    refine zo (za (zb (yp (h:=(yp (h:=(yp (h:=(yp (h:=?_))))))))))
    obtain ⟨h2,H⟩:=H
    exact zg rfl (Yld.sub rfl rfl h2) (False.elim H)
  ·replace H:=H.2 (of_decide_eq_false b1)
   exact zy (zk (zk (zl (za (zd (zb (yp (h:=(yp (h:=(ze (za (zt (zD rfl rfl ⟨gr1,n,rfl,H⟩))))))))))))))
 ·clear hJ1
  refine zd (zb (yp (h:=(ze (za (WC.block (zd (zb ?_))))))))
  rcases PV.empCases v_ with he1 | he1
  ·replace H:=H.1 he1
   obtain ⟨g_l,e1,e2,hv2,hB1,hR2,hr1,hd1⟩:=VR.empOut hv_ he1
   exact zg rfl (jf Tryz.underlying61 rfl rfl hv2) (yp (h:=(yp (h:=(ze (za (zm rfl (fun _=>zd (zb (yp (h:=(ze (za (zb (yp (h:=(yp (h:=(zg rfl (z9 (o:=0) (by kernel_rfl) rfl) (zg rfl (zz qD hB1 rfl rfl rfl) (yp (h:=(ze (zi (WX.weaken sb (hQ _ _ ⟨([]:List PV),e1,e2,(([]:List PV)).length,([]:List VH),rfl,H,rfl,rfl,hR2,hr1,(fun p_ hp_ q_=>DnD.nil (d:=deV))⟩))))))))))))))))))) (fun h=>by cases h))))))))
  ·replace H:=H.2 he1
   refine zg rfl (qV (z:=.pointer none) Tryz.underlying61 rfl (fun _=>by kernel_rfl) hv_ rfl (tyP_emp he1)) (yp (h:=(yp (h:=(ze (za (zm rfl (fun h=>by cases h) (fun _=>zd (zb ?_)))))))))
   rcases PV.tupCases v_ with ⟨l2,he2⟩ | he2
   ·replace H:=H.1 l2 he2
    obtain ⟨g_t,A_t,c_t,d3,hv3,hB2,hR3,hr2,hd2,hd3,hd4⟩:=VR.tupOut hv_ he2
    exact zg rfl (jf Tryz.underlying155 rfl rfl hv3) (yp (h:=(yp (h:=(ze (za (zm rfl (fun _=>zd (zb (yp (h:=(ze (za (zb (yp (h:=(yp (h:=(zg rfl (z9 (o:=0) (by kernel_rfl) rfl) (zg rfl (zz qD hB2 rfl rfl rfl) (yp (h:=(ze (zi (WX.weaken sb (hQ _ _ ⟨l2.map PA.v,A_t,c_t,(l2.map PA.v).length,d3,rfl,H,rfl,rfl,hR3,hr2,(fun p_ hp_ q_=>hd4 _ (q_))⟩))))))))))))))))))) (fun h=>by cases h))))))))
   ·replace H:=H.2 he2
    exact zg rfl (qV (z:=.pointer none) Tryz.underlying155 rfl (fun _=>by kernel_rfl) hv_ rfl (tyP_tup he2)) (yp (h:=(yp (h:=(ze (za (zm rfl (fun h=>by cases h) (fun _=>zd (zb (zg rfl (qV (z:=.pointer none) Tryz.underlying269 rfl (fun _=>by kernel_rfl) hv_ rfl (tyP_no rfl v_)) (yp (h:=(yp (h:=(ze (za (zm rfl (fun h=>by cases h) (fun _=>zd (zb (zg rfl (qV (z:=.pointer none) Tryz.underlying242 rfl (fun _=>by kernel_rfl) hv_ rfl (tyP_no rfl v_)) (yp (h:=(yp (h:=(ze (za (zm rfl (fun h=>by cases h) (fun _=>zo (zi (WX.weaken sb (hQ _ _ ⟨[],none,0,0,[],rfl,H,rfl,rfl,(Own.nil vv w w.heap.size 32).rd,(RelD.nil (d:=deV) (w:=w)),(fun p_ hp_ q_=>(DnD.nil (d:=deV)))⟩)))))))))))))))))))))))))))))))
set_option maxHeartbeats 8000000 in
theorem W_val_weightT {w:World} {v_v:OV} {F_v:Nat->Prop} {v_:PV} {most:Int} {K:Int->Prop} (hv_:RelD deV w [(v_v,F_v)] [v_]) (H:M_val_weightT v_ most K):Fn Tryz.prog 128 ⟨[v_v.1,.int .i64 most]⟩ w (fun v w'=>w.grownBy w' none/\∃ (r:Int),v=.int .i64 r/\K r):=by
 unfold M_val_weightT at H
 refine Fn.enter (by kernel_rfl) Tryz.func128 rfl Tryz.ntmps128 rfl ?_
 refine zd (zb (yp (h:=(ze (za (zd (zb (yp (h:=(ze (za (zd ?_))))))))))))
 obtain ⟨J1,H,hJ1⟩:=H
 refine qo (fun L' w'=>∃ (l:List PV),∃ (A_l:Option Addr),∃ (c_l:Nat),∃ (n_l:Nat),∃ (a7:List VH),L'=[(1,.int .i64 most),(5,.slice A_l n_l c_l)]/\J1 l/\n_l=l.length/\w=w'/\Rd vv w' A_l c_l a7/\RelD deV w' a7 l/\OrD (fun p=>DnD deV [(v_v,F_v)] [v_] p) deV a7 l w.heap.size) ?_ (fun hQ=>?_)
 ·clear H
  rintro _ _ ⟨l,A_l,c_l,n_l,a7,rfl,H,rfl,rfl,k1,k2,or1⟩
  replace H:=hJ1 l H
  refine za (zd (zb (yp (h:=(ze (za (zd (zd (zb (yp (h:=(yp (h:=(yp (h:=(ze (za (WC.block ?_))))))))))))))))))
  obtain ⟨I1,mu1,a9,HR1⟩:=H
  refine z3 (fun n' L' w'=>∃ (n:Int),∃ (t63:Int),n'=mu1 n t63/\L'=[(1,.int .i64 most),(12,.int .i64 n),(61,.slice A_l l.length c_l),(62,.int .i64 (l.length:Int)),(63,.int .i64 t63)]/\I1 n t63/\w.grownBy w' none/\Rd vv w' A_l c_l a7/\RelD deV w' a7 l/\OrD (fun p=>DnD deV [(v_v,F_v)] [v_] p) deV a7 l w.heap.size) _ _ ⟨(1:Int),(0:Int),rfl,rfl,a9,(jH _ _),k1,k2,or1⟩ sb ?_
  clear a9
  rintro _ _ w1 ⟨n,t63,rfl,rfl,hI1,gr1,k3,k4,or2⟩
  have H:=HR1 n t63 hI1
  refine zd (zb (yp (h:=(ze (za (zd (zm rfl (fun b1=>?_) (fun b1=>?_))))))))
  ·replace H:=H.1 (of_decide_eq_true b1)
   refine zo (za (zd (WC.block (zd (zb ?_)))))
   obtain ⟨h1,H⟩:=H
   refine zg rfl (zB qD k3 rfl rfl k2.1.symm rfl h1.1 h1.2) ?_
   obtain ⟨⟨v_el,F_el⟩,eh1,hR1⟩:=RelD.at k4 vh0 PV.nil (j:=t63.toNat) (Nat.lt_of_lt_of_eq (iltN h1 k2.1.symm) k4.1)
   have hv1:RelD deV w1 [(v_el,F_el)] [l.getD t63.toNat PV.nil]:=RelD.cons hR1 RelD.nil
   refine zg rfl (zR (v:=v_el.1) (zM vh0 qD k3 rfl rfl (iltN h1 k2.1.symm)) (congrArg vv eh1)) (yp (h:=(ze (za (zd (zd (zb (yp (h:=(yp (h:=(yp (h:=(ze (za (zm rfl (fun b2=>?_) (fun b2=>?_)))))))))))))))))
   ·replace H:=H.1 (of_decide_eq_true b2)
    exact zd (zb (yp (h:=(yp (h:=(ze (za (zt (zf (zj (zf (zf (zj (zf (zD rfl rfl ⟨gr1,n,rfl,H⟩)))))))))))))))
   ·replace H:=H.2 (of_decide_eq_false b2)
    refine zo (za (zb (yp (h:=(yp (h:=(yp (h:=(yp (h:=?_))))))))))
    obtain ⟨h2,H⟩:=H
    refine zg rfl (Yld.sub rfl rfl h2) (zx rfl rfl (W_val_weight hv1 H) ?_)
    rintro _ w2 ⟨hg1,t76,rfl,H⟩
    obtain ⟨h3,H⟩:=H
    refine zg rfl (Yld.add rfl rfl h3) (yp (h:=(ze (zi (za (zb ?_))))))
    obtain ⟨h4,H⟩:=H
    exact zg rfl (Yld.add rfl rfl h4) (yp (h:=(ze (zX _ ⟨n+t76,t63+(1:Int),rfl,rfl,H.1,(qG gr1 hg1),(k3.grown hg1),(k4.grown hg1),or2⟩ sb H.2))))
  ·replace H:=H.2 (of_decide_eq_false b1)
   exact zy (zk (zk (zl (za (zd (zb (yp (h:=(yp (h:=(ze (za (zt (zD rfl rfl ⟨gr1,n,rfl,H⟩))))))))))))))
 ·clear hJ1
  refine zd (zb (yp (h:=(ze (za (WC.block (zd (zb ?_))))))))
  rcases PV.empCases v_ with he1 | he1
  ·replace H:=H.1 he1
   obtain ⟨g_l,e1,e2,hv2,hB1,hR2,hr1,hd1⟩:=VR.empOut hv_ he1
   exact zg rfl (jf Tryz.underlying61 rfl rfl hv2) (yp (h:=(yp (h:=(ze (za (zm rfl (fun _=>zd (zb (yp (h:=(ze (za (zb (yp (h:=(yp (h:=(zg rfl (z9 (o:=0) (by kernel_rfl) rfl) (zg rfl (zz qD hB1 rfl rfl rfl) (yp (h:=(ze (zi (WX.weaken sb (hQ _ _ ⟨([]:List PV),e1,e2,(([]:List PV)).length,([]:List VH),rfl,H,rfl,rfl,hR2,hr1,(fun p_ hp_ q_=>DnD.nil (d:=deV))⟩))))))))))))))))))) (fun h=>by cases h))))))))
  ·replace H:=H.2 he1
   refine zg rfl (qV (z:=.pointer none) Tryz.underlying61 rfl (fun _=>by kernel_rfl) hv_ rfl (tyP_emp he1)) (yp (h:=(yp (h:=(ze (za (zm rfl (fun h=>by cases h) (fun _=>zd (zb ?_)))))))))
   rcases PV.tupCases v_ with ⟨l2,he2⟩ | he2
   ·replace H:=H.1 l2 he2
    obtain ⟨g_t,A_t,c_t,d3,hv3,hB2,hR3,hr2,hd2,hd3,hd4⟩:=VR.tupOut hv_ he2
    exact zg rfl (jf Tryz.underlying155 rfl rfl hv3) (yp (h:=(yp (h:=(ze (za (zm rfl (fun _=>zd (zb (yp (h:=(ze (za (zb (yp (h:=(yp (h:=(zg rfl (z9 (o:=0) (by kernel_rfl) rfl) (zg rfl (zz qD hB2 rfl rfl rfl) (yp (h:=(ze (zi (WX.weaken sb (hQ _ _ ⟨l2.map PA.v,A_t,c_t,(l2.map PA.v).length,d3,rfl,H,rfl,rfl,hR3,hr2,(fun p_ hp_ q_=>hd4 _ (q_))⟩))))))))))))))))))) (fun h=>by cases h))))))))
   ·replace H:=H.2 he2
    exact zg rfl (qV (z:=.pointer none) Tryz.underlying155 rfl (fun _=>by kernel_rfl) hv_ rfl (tyP_tup he2)) (yp (h:=(yp (h:=(ze (za (zm rfl (fun h=>by cases h) (fun _=>zd (zb (zg rfl (qV (z:=.pointer none) Tryz.underlying269 rfl (fun _=>by kernel_rfl) hv_ rfl (tyP_no rfl v_)) (yp (h:=(yp (h:=(ze (za (zm rfl (fun h=>by cases h) (fun _=>zd (zb (zg rfl (qV (z:=.pointer none) Tryz.underlying242 rfl (fun _=>by kernel_rfl) hv_ rfl (tyP_no rfl v_)) (yp (h:=(yp (h:=(ze (za (zm rfl (fun h=>by cases h) (fun _=>zo (zi (WX.weaken sb (hQ _ _ ⟨[],none,0,0,[],rfl,H,rfl,rfl,(Own.nil vv w w.heap.size 32).rd,(RelD.nil (d:=deV) (w:=w)),(fun p_ hp_ q_=>(DnD.nil (d:=deV)))⟩)))))))))))))))))))))))))))))))
set_option maxHeartbeats 8000000 in
theorem W_val_Light {w:World} {most:Int} {l:List PV} {A_l:Option Addr} {c_l:Nat} {a7:List VH} {n_l:Nat} {K:Bool->Prop} (hl:Rd vv w A_l c_l a7) (c8:n_l=l.length) (a2:RelD deV w a7 l) (H:M_val_Light most l K):Fn Tryz.prog 70 ⟨[.int .i64 most,.slice A_l n_l c_l]⟩ w (fun v w'=>w.grownBy w' none/\∃ (r:Bool),v=.bool r/\K r):=by
 subst c8
 unfold M_val_Light at H
 refine Fn.enter (by kernel_rfl) Tryz.func70 rfl Tryz.ntmps70 rfl ?_
 replace H:=H (by rw [<-a2.1]; exact Nat.le_trans hl.cap hl.max)
 refine zd (zb (yp (h:=(ze (za (zd (zd (zb (yp (h:=(yp (h:=(yp (h:=(ze (za (WC.block ?_)))))))))))))))))
 obtain ⟨I1,mu1,a9,HR1⟩:=H
 refine z3 (fun n' L' w'=>∃ (most2:Int),∃ (t9:Int),n'=mu1 most2 t9/\L'=[(0,.int .i64 most2),(7,.slice A_l l.length c_l),(8,.int .i64 (l.length:Int)),(9,.int .i64 t9)]/\I1 most2 t9/\w.grownBy w' none) _ _ ⟨most,(0:Int),rfl,rfl,a9,(jH _ _)⟩ sb ?_
 clear a9
 rintro _ _ w1 ⟨most2,t9,rfl,rfl,hI1,gr1⟩
 have H:=HR1 most2 t9 hI1
 refine zd (zb (yp (h:=(ze (za (zd (zm rfl (fun b1=>?_) (fun b1=>?_))))))))
 ·replace H:=H.1 (of_decide_eq_true b1)
  refine zo (za (zd (WC.block (zd (zb ?_)))))
  obtain ⟨h1,H⟩:=H
  refine zg rfl (zB qD (hl.grown gr1) rfl rfl a2.1.symm rfl h1.1 h1.2) ?_
  obtain ⟨⟨v_el,F_el⟩,eh1,hR1⟩:=RelD.at (a2.grown gr1) vh0 PV.nil (j:=t9.toNat) (Nat.lt_of_lt_of_eq (iltN h1 a2.1.symm) (a2.grown gr1).1)
  have hv1:RelD deV w1 [(v_el,F_el)] [l.getD t9.toNat PV.nil]:=RelD.cons hR1 RelD.nil
  refine zg rfl (zR (v:=v_el.1) (zM vh0 qD (hl.grown gr1) rfl rfl (iltN h1 a2.1.symm)) (congrArg vv eh1)) (yp (h:=(ze (za (zd (zb (yp (h:=(yp (h:=(yp (h:=(zx rfl rfl (W_val_weightT hv1 H) ?_)))))))))))))
  rintro _ w2 ⟨hg1,t16,rfl,H⟩
  have gr2:=qG gr1 hg1
  obtain ⟨h2,H⟩:=H
  refine zg rfl (Yld.sub rfl rfl h2) (yp (h:=(ze (za (zd (zb (yp (h:=(yp (h:=(ze (za (zm rfl (fun b2=>?_) (fun b2=>?_))))))))))))))
  ·replace H:=H.1 (of_decide_eq_true b2)
   exact zd (zb (yp (h:=(ze (za (zt (zj (zf (zf (zj (zf (zD rfl rfl ⟨gr2,false,rfl,H⟩))))))))))))
  ·replace H:=H.2 (of_decide_eq_false b2)
   refine zo (zi (za (zb ?_)))
   obtain ⟨h3,H⟩:=H
   exact zg rfl (Yld.add rfl rfl h3) (yp (h:=(ze (zX _ ⟨most2 - t16,t9+(1:Int),rfl,rfl,H.1,gr2⟩ sb H.2))))
 ·replace H:=H.2 (of_decide_eq_false b1)
  exact zy (zk (zk (zl (za (zd (zb (yp (h:=(ze (za (zt (zD rfl rfl ⟨gr1,true,rfl,H⟩))))))))))))
set_option maxHeartbeats 8000000 in
theorem jp {w:World} {s:List PV} {A_s:Option Addr} {c_s:Nat} {c0:List VH} {n_s:Nat} {K:(List PV)->Prop} (hs:Rd vv w A_s c_s c0) (f9:n_s=s.length) (c4:RelD deV w c0 s) (H:qS s K):Fn Tryz.prog 83 ⟨[.slice A_s n_s c_s]⟩ w (fun v w'=>w.grownBy w' none/\∃ (r:List PV),∃ (A_r:Option Addr),∃ (c_r:Nat),∃ (d2:List VH),v=.slice A_r r.length c_r/\Own vv w' w.heap.size 32 A_r c_r d2/\RelD deV w' d2 r/\(∀ p:Option Nat,Lt p w.heap.size->DnD deV c0 s p->DnD deV d2 r p)/\DnD deV d2 r (blk A_r)/\K r):=by
 subst f9
 unfold qS at H
 refine Fn.enter (by kernel_rfl) Tryz.func83 rfl Tryz.ntmps83 rfl ?_
 replace H:=H (by rw [<-c4.1]; exact Nat.le_trans hs.cap hs.max)
 refine zd (zb (yp (h:=(ze (za (zd (zd (zb (yp (h:=(zg rfl (Yld.sleqnil Tryz.underlying27 rfl) (ze (za (zm rfl (fun b1=>?_) (fun b1=>?_)))))))))))))))
 ·replace H:=H.1 (RelD.nilx c4 (hs.nil_of b1))
  exact zd (zb (yp (h:=(ze (za (zt (zf (zD rfl rfl ⟨(jH _ _),[],none,0,[],rfl,(Own.nil vv w w.heap.size 32),(RelD.nil (d:=deV) (w:=w)),(fun p_ hp_ v0_=>have q_:=v0_; (DnD.nil (d:=deV))),DnD.nil,H⟩))))))))
 ·replace H:=H.2
  refine zo (za (zd (zb (z5 (us:=[]) qD rfl rfl rfl jl rfl (by omega) (fun g2 w2 hB2 hg2 hl2=>?_)))))
  have hO2:Own vv w2 w.heap.size 32 (some ⟨g2,0,none⟩) 0 ([]:List VH):=Own.ofBl hB2 (Nat.le_trans (Nat.le_refl _) hl2) (by simp [maxLen]) rfl
  have gr1:=hg2
  have hr1:RelD deV w2 ([]:List VH) ([]:List PV):=RelD.nil
  have nd1:OrD (fun p=>DnD deV c0 s p) deV ([]:List VH) ([]:List PV) w.heap.size:=(fun _ _ _=>DnD.nil)
  have dj1:DnD deV ([]:List VH) ([]:List PV) (blk (some ⟨g2,0,none⟩)):=DnD.nil
  refine yp (h:=?_)
  obtain ⟨h1,H⟩:=H
  have h2:((([]:List VH):List VH).length+c0.length)*16<=140737488355328:=by rw [hr1.1,(c4.grown gr1).1]; exact h1
  refine z4 qD rfl rfl One.vv hO2 rfl rfl (hs.grown gr1) rfl c4.1.symm h2 (jT h2) (qE gr1) (fun e5 f8 w3 hO3 hg3 hk1=>?_)
  have el1:(([]:List VH)++c0).length=(([]:List PV)++s).length:=by rw [List.length_append,List.length_append,hr1.1,(c4.grown gr1).1]
  rw [el1]
  have gr2:=js gr1 hg3 hO2.ge'
  have hr2:RelD deV w3 (([]:List VH)++c0) (([]:List PV)++s):=RelD.append (hr1.go hg3 dj1) (c4.grown gr2)
  have nd2:OrD (fun p=>DnD deV c0 s p) deV (([]:List VH)++c0) (([]:List PV)++s) w.heap.size:=OrD.append hr1.1 nd1 (fun p_ hp_ q_=>q_)
  have dj2:DnD deV (([]:List VH)++c0) (([]:List PV)++s) (blk e5):=(DnD.append hr1.1 (RelD.app hr1 dj1 hk1) (RelD.app (c4.grown gr1) (c4.new hO2.ge') hk1))
  exact yp (h:=(ze (za (zt (zD rfl rfl ⟨gr2,(([]:List PV)++s),e5,f8,(([]:List VH)++c0),rfl,hO3,hr2,(fun p_ hp_ v0_=>nd2 p_ hp_ v0_),dj2,H⟩)))))
end
 
section
open Go Go.RowKit
attribute [local irreducible] WL WC WX WQ WK WJ Yld Eff Ef0 Fn
def qR (data:List PV) (a:Int) (b:Int) (cap0:Bool) (cap1:Bool) (K:(List PV)->Prop):Prop :=
 (data.length<=maxLen ->
 (In .i64 (a+(1:Int))) /\
 Lp2 (fun (i:Int) (data2:List PV) kont1=>data.length=data2.length->((i<b->Lp2 (fun (j:Int) (data3:List PV) kont2=>data.length=data3.length->∃ J1:Bool->Prop,((((decide (a<j))=true->(0<=j/\j<(data.length:Nat)) /\
 (In .i64 (j - (1:Int))) /\
 (0<=j - (1:Int)/\j - (1:Int)<(data.length:Nat)) /\
 jM (data3.getD j.toNat PV.nil) (data3.getD ((j - (1:Int)).toNat) PV.nil) cap0 cap1 (fun (t32:Int) =>
 J1 (decide (t32<(0:Int))))) /\
 ((decide (a<j))=false->J1 false))) /\
 (∀ q1:Bool,J1 q1->((q1=true->(In .i64 (j - (1:Int))) /\
 (In .i64 (j - (1:Int))) /\
 (0<=j - (1:Int)/\j - (1:Int)<(data.length:Nat)) /\
 (0<=j/\j<(data.length:Nat)) /\
 (0<=j/\j<(data.length:Nat)) /\
 (0<=j - (1:Int)/\j - (1:Int)<(data.length:Nat)) /\
 (In .i64 (j - (1:Int))) /\
 kont2 (j - (1:Int)) ((data3.set j.toNat (data3.getD ((j - (1:Int)).toNat) PV.nil)).set ((j - (1:Int)).toNat) (data3.getD j.toNat PV.nil))) /\
 (q1=false->(In .i64 (i+(1:Int))) /\
 kont1 (i+(1:Int)) data3)))) i data2) /\
 (¬ (i<b)->K data2))) (a+(1:Int)) data)
def qQ (data:List PV) (a:Int) (b:Int) (n:Int) (cap0:Bool) (cap1:Bool) (K:(List PV)->Prop):Prop :=
 (data.length<=maxLen ->
 Lp2 (fun (i:Int) (data2:List PV) kont1=>data.length=data2.length->((i<n->(In .i64 (a+i)) /\
 (In .i64 (b+i)) /\
 (In .i64 (b+i)) /\
 (0<=b+i/\b+i<(data.length:Nat)) /\
 (In .i64 (a+i)) /\
 (0<=a+i/\a+i<(data.length:Nat)) /\
 (0<=a+i/\a+i<(data.length:Nat)) /\
 (0<=b+i/\b+i<(data.length:Nat)) /\
 (In .i64 (i+(1:Int))) /\
 kont1 (i+(1:Int)) ((data2.set ((a+i).toNat) (data2.getD ((b+i).toNat) PV.nil)).set ((b+i).toNat) (data2.getD ((a+i).toNat) PV.nil))) /\
 (¬ (i<n)->K data2))) (0:Int) data)
def jd (data:List PV) (a:Int) (m:Int) (b:Int) (cap0:Bool) (cap1:Bool) (K:(List PV)->Prop):Prop :=
 (data.length<=maxLen ->
 (In .i64 (m - a)) /\
 (In .i64 (b - m)) /\
 Lp3 (fun (i:Int) (j:Int) (data2:List PV) kont1=>data.length=data2.length->((¬ (i=j)->((j<i->(In .i64 (m - i)) /\
 qQ data2 (m - i) m j cap0 cap1 (fun (ys:List PV) =>
 (In .i64 (i - j)) /\
 kont1 (i - j) j ys)) /\
 (¬ (j<i)->(In .i64 (m - i)) /\
 (In .i64 (m+j)) /\
 (In .i64 ((m+j) - i)) /\
 qQ data2 (m - i) ((m+j) - i) i cap0 cap1 (fun (ys2:List PV) =>
 (In .i64 (j - i)) /\
 kont1 i (j - i) ys2)))) /\
 (i=j->(In .i64 (m - i)) /\
 qQ data2 (m - i) m i cap0 cap1 (fun (ys3:List PV) =>
 K ys3)))) (m - a) (b - m) data)
def qW (MR:(List PV)->Int->Int->Int->Bool->Bool->((List PV)->Prop)->Prop) (data:List PV) (a:Int) (m:Int) (b:Int) (cap0:Bool) (cap1:Bool) (K:(List PV)->Prop):Prop :=
 (data.length<=maxLen ->
 (In .i64 (m - a)) /\
 (((m - a)=(1:Int)->Lp2 (fun (i:Int) (j:Int) kont1=>((i<j->(In .i64 (i+j)) /\
 (In .u64 (i+j)) /\
 (In .i64 (shrV .u64 (i+j) 1)) /\
 (0<=shrV .u64 (i+j) 1/\shrV .u64 (i+j) 1<(data.length:Nat)) /\
 (0<=a/\a<(data.length:Nat)) /\
 jM (data.getD ((shrV .u64 (i+j) 1).toNat) PV.nil) (data.getD a.toNat PV.nil) cap0 cap1 (fun (t49:Int) =>
 ((t49<(0:Int)->(In .i64 ((shrV .u64 (i+j) 1)+(1:Int))) /\
 kont1 ((shrV .u64 (i+j) 1)+(1:Int)) j) /\
 (¬ (t49<(0:Int))->kont1 i (shrV .u64 (i+j) 1))))) /\
 (¬ (i<j)->Lp2 (fun (k:Int) (data2:List PV) kont2=>data.length=data2.length->(In .i64 (i - (1:Int))) /\
 ((k<(i - (1:Int))->(In .i64 (k+(1:Int))) /\
 (In .i64 (k+(1:Int))) /\
 (0<=k+(1:Int)/\k+(1:Int)<(data.length:Nat)) /\
 (0<=k/\k<(data.length:Nat)) /\
 (0<=k/\k<(data.length:Nat)) /\
 (0<=k+(1:Int)/\k+(1:Int)<(data.length:Nat)) /\
 (In .i64 (k+(1:Int))) /\
 kont2 (k+(1:Int)) ((data2.set k.toNat (data2.getD ((k+(1:Int)).toNat) PV.nil)).set ((k+(1:Int)).toNat) (data2.getD k.toNat PV.nil))) /\
 (¬ (k<(i - (1:Int)))->K data2))) a data))) m b) /\
 (¬ ((m - a)=(1:Int))->(In .i64 (b - m)) /\
 (((b - m)=(1:Int)->Lp2 (fun (i2:Int) (j2:Int) kont3=>((i2<j2->(In .i64 (i2+j2)) /\
 (In .u64 (i2+j2)) /\
 (In .i64 (shrV .u64 (i2+j2) 1)) /\
 (0<=m/\m<(data.length:Nat)) /\
 (0<=shrV .u64 (i2+j2) 1/\shrV .u64 (i2+j2) 1<(data.length:Nat)) /\
 jM (data.getD m.toNat PV.nil) (data.getD ((shrV .u64 (i2+j2) 1).toNat) PV.nil) cap0 cap1 (fun (t101:Int) =>
 ((¬ (t101<(0:Int))->(In .i64 ((shrV .u64 (i2+j2) 1)+(1:Int))) /\
 kont3 ((shrV .u64 (i2+j2) 1)+(1:Int)) j2) /\
 (t101<(0:Int)->kont3 i2 (shrV .u64 (i2+j2) 1))))) /\
 (¬ (i2<j2)->Lp2 (fun (k_2:Int) (data3:List PV) kont4=>data.length=data3.length->((i2<k_2->(In .i64 (k_2 - (1:Int))) /\
 (In .i64 (k_2 - (1:Int))) /\
 (0<=k_2 - (1:Int)/\k_2 - (1:Int)<(data.length:Nat)) /\
 (0<=k_2/\k_2<(data.length:Nat)) /\
 (0<=k_2/\k_2<(data.length:Nat)) /\
 (0<=k_2 - (1:Int)/\k_2 - (1:Int)<(data.length:Nat)) /\
 (In .i64 (k_2 - (1:Int))) /\
 kont4 (k_2 - (1:Int)) ((data3.set k_2.toNat (data3.getD ((k_2 - (1:Int)).toNat) PV.nil)).set ((k_2 - (1:Int)).toNat) (data3.getD k_2.toNat PV.nil))) /\
 (¬ (i2<k_2)->K data3))) m data))) a m) /\
 (¬ ((b - m)=(1:Int))->(In .i64 (a+b)) /\
 (In .u64 (a+b)) /\
 (In .i64 (shrV .u64 (a+b) 1)) /\
 (In .i64 ((shrV .u64 (a+b) 1)+m)) /\
 ∃ J1:Int->Int->Prop,((((shrV .u64 (a+b) 1)<m->(In .i64 (((shrV .u64 (a+b) 1)+m) - b)) /\
 J1 (((shrV .u64 (a+b) 1)+m) - b) (shrV .u64 (a+b) 1)) /\
 (¬ ((shrV .u64 (a+b) 1)<m)->J1 a m))) /\
 (∀ start:Int,∀ r:Int,J1 start r->(In .i64 (((shrV .u64 (a+b) 1)+m) - (1:Int))) /\
 Lp2 (fun (start2:Int) (r2:Int) kont5=>((start2<r2->(In .i64 (start2+r2)) /\
 (In .u64 (start2+r2)) /\
 (In .i64 (shrV .u64 (start2+r2) 1)) /\
 (In .i64 ((((shrV .u64 (a+b) 1)+m) - (1:Int)) - (shrV .u64 (start2+r2) 1))) /\
 (0<=(((shrV .u64 (a+b) 1)+m) - (1:Int)) - (shrV .u64 (start2+r2) 1)/\(((shrV .u64 (a+b) 1)+m) - (1:Int)) - (shrV .u64 (start2+r2) 1)<(data.length:Nat)) /\
 (0<=shrV .u64 (start2+r2) 1/\shrV .u64 (start2+r2) 1<(data.length:Nat)) /\
 jM (data.getD (((((shrV .u64 (a+b) 1)+m) - (1:Int)) - (shrV .u64 (start2+r2) 1)).toNat) PV.nil) (data.getD ((shrV .u64 (start2+r2) 1).toNat) PV.nil) cap0 cap1 (fun (t169:Int) =>
 ((¬ (t169<(0:Int))->(In .i64 ((shrV .u64 (start2+r2) 1)+(1:Int))) /\
 kont5 ((shrV .u64 (start2+r2) 1)+(1:Int)) r2) /\
 (t169<(0:Int)->kont5 start2 (shrV .u64 (start2+r2) 1))))) /\
 (¬ (start2<r2)->(In .i64 (((shrV .u64 (a+b) 1)+m) - start2)) /\
 ∃ J2:(List PV)->Prop,(((((decide (start2<m)) && (decide (m<(((shrV .u64 (a+b) 1)+m) - start2))))=true->jd data start2 m (((shrV .u64 (a+b) 1)+m) - start2) cap0 cap1 (fun (ys3:List PV) =>
 J2 ys3)) /\
 (((decide (start2<m)) && (decide (m<(((shrV .u64 (a+b) 1)+m) - start2))))=false->J2 data))) /\
 (∀ xs:List PV,J2 xs->data.length=xs.length->∃ J3:(List PV)->Prop,(((((decide (a<start2)) && (decide (start2<(shrV .u64 (a+b) 1))))=true->MR xs a start2 (shrV .u64 (a+b) 1) cap0 cap1 (fun (ys2:List PV) =>
 J3 ys2)) /\
 (((decide (a<start2)) && (decide (start2<(shrV .u64 (a+b) 1))))=false->J3 xs))) /\
 (∀ xs2:List PV,J3 xs2->data.length=xs2.length->((((decide ((shrV .u64 (a+b) 1)<(((shrV .u64 (a+b) 1)+m) - start2))) && (decide ((((shrV .u64 (a+b) 1)+m) - start2)<b)))=true->MR xs2 (shrV .u64 (a+b) 1) (((shrV .u64 (a+b) 1)+m) - start2) b cap0 cap1 (fun (ys:List PV) =>
 K ys)) /\
 (((decide ((shrV .u64 (a+b) 1)<(((shrV .u64 (a+b) 1)+m) - start2))) && (decide ((((shrV .u64 (a+b) 1)+m) - start2)<b)))=false->K xs2))))))) start r))))))
def qT:Nat->(List PV)->Int->Int->Int->Bool->Bool->((List PV)->Prop)->Prop
 | 0=>fun _ _ _ _ _ _ _=>False
 | n+1=>qW (qT n)
def jm (data:List PV) (a:Int) (m:Int) (b:Int) (cap0:Bool) (cap1:Bool) (K:(List PV)->Prop):Prop:=∃ n,qT n data a m b cap0 cap1 K
def je (data:List PV) (n:Int) (cap0:Bool) (cap1:Bool) (K:(List PV)->Prop):Prop :=
 (data.length<=maxLen ->
 Lp3 (fun (a:Int) (b:Int) (data2:List PV) kont1=>data.length=data2.length->((b<=n->qR data2 a b cap0 cap1 (fun (ys:List PV) =>
 (In .i64 (b+(20:Int))) /\
 kont1 b (b+(20:Int)) ys)) /\
 (¬ (b<=n)->qR data2 a n cap0 cap1 (fun (ys2:List PV) =>
 Lp2 (fun (blockSize:Int) (data3:List PV) kont2=>data.length=data3.length->((blockSize<n->(In .i64 ((2:Int)*blockSize)) /\
 Lp3 (fun (a2:Int) (b_2:Int) (data4:List PV) kont3=>data.length=data4.length->((b_2<=n->(In .i64 (a2+blockSize)) /\
 jm data4 a2 (a2+blockSize) b_2 cap0 cap1 (fun (ys3:List PV) =>
 (In .i64 ((2:Int)*blockSize)) /\
 (In .i64 (b_2+((2:Int)*blockSize))) /\
 kont3 b_2 (b_2+((2:Int)*blockSize)) ys3)) /\
 (¬ (b_2<=n)->∃ J1:(List PV)->Prop,((In .i64 (a2+blockSize)) /\
 (((a2+blockSize)<n->jm data4 a2 (a2+blockSize) n cap0 cap1 (fun (ys4:List PV) =>
 J1 ys4)) /\
 (¬ ((a2+blockSize)<n)->J1 data4))) /\
 (∀ xs:List PV,J1 xs->data.length=xs.length->(In .i64 (blockSize*(2:Int))) /\
 kont2 (blockSize*(2:Int)) xs)))) (0:Int) ((2:Int)*blockSize) data3) /\
 (¬ (blockSize<n)->K data3))) (20:Int) ys2)))) (0:Int) (20:Int) data)
def qU (x:List PV) (cap0:Bool) (cap1:Bool) (K:(List PV)->Prop):Prop :=
 (x.length<=maxLen ->
 je x (x.length:Int) cap0 cap1 (fun (ys:List PV) =>
 K ys))
def M_list_Sorted (l:List PV) (back:Bool) (K:(List PV)->Er->Prop):Prop :=
 (l.length<=maxLen ->
 M_val_Light (4096:Int) l (fun (t9:Bool) =>
 (((!t9)=true->K [] (Er.e 7)) /\
 ((!t9)=false->qS l (fun (out:List PV) =>
 qU out back false (fun (ys:List PV) =>
 K ys Er.ok))))))
set_option maxHeartbeats 8000000 in
theorem jr {S:List Nat} {B:Nat} {w:World} {data:List PV} {a0:Option Addr} {a5:Nat} {a1:List VH} {a:Int} {b:Int} {a6:Nat} {cap0:Bool} {a7:Nat} {cap1:Bool} {b0:Nat} {K:(List PV)->Prop} (hG:GB S B w) (hB:B<=w.heap.size) (hP:AllP (fun p=>Ge p B) [(blk a0)]) (hS3:3∈S) (hS7:7∈S) (hdata:Own vv w 0 32 a0 a5 a1) (c0:b0=data.length) (a8:RelD deV w a1 data) (hcap0:Bl w a6 4 [.bool cap0]) (hcap1:Bl w a7 4 [.bool cap1]) (hap0:AllP (DnD deV a1 data) [(blk a0)]) (hap1:AllP (Dj (some a6)) [(blk a0)]) (hap2:AllP (Dj (some a7)) [(blk a0)]) (H:qR data a b cap0 cap1 K):Fn Tryz.prog 204 ⟨[.slice a0 b0 a5,.int .i64 a,.int .i64 b,.func (.func 150) #[] #[.pointer (some ⟨a6,0,none⟩),.pointer (some ⟨a7,0,none⟩)]]⟩ w (fun v w'=>GrL [(blk a0)] w w'/\∃ (ys:List PV),∃ (c1:List VH),v=.tuple #[]/\Own vv w' 0 32 a0 a5 c1/\c1.length=data.length/\RelD deV w' c1 ys/\(∀ p:Option Nat,Lt p w.heap.size->DnD deV a1 data p->DnD deV c1 ys p)/\DnD deV c1 ys (blk a0)/\K ys):=by
 subst c0
 unfold qR at H
 refine Fn.enter (by kernel_rfl) Tryz.func204 rfl Tryz.ntmps204 rfl ?_
 replace H:=H (by rw [<-a8.1]; exact Nat.le_trans hdata.rd.cap hdata.rd.max)
 have hNoAt:AllP (NoAt w) [(blk a0)]:=(apC (NoAt.own hdata rfl) apN)
 refine zd (zb (yp (h:=?_)))
 obtain ⟨h1,H⟩:=H
 refine zg rfl (Yld.add rfl rfl h1) (yp (h:=(ze (za (WC.block ?_)))))
 obtain ⟨I1,mu1,c4,HR1⟩:=H
 refine z3 (fun n' L' w'=>∃ (i:Int),∃ (data2:List PV),∃ (hs:List VH),n'=mu1 i data2/\L'=[(0,.slice a0 data.length a5),(1,.int .i64 a),(2,.int .i64 b),(3,.func (.func 150) #[] #[.pointer (some ⟨a6,0,none⟩),.pointer (some ⟨a7,0,none⟩)]),(8,.int .i64 i)]/\I1 i data2/\data.length=data2.length/\GrL [(blk a0)] w w'/\Own vv w' 0 32 a0 a5 hs/\RelD deV w' hs data2/\DnD deV hs data2 (blk a0)/\OrD (fun p=>DnD deV a1 data p) deV hs data2 w.heap.size) _ _ ⟨a+(1:Int),data,a1,rfl,rfl,c4,rfl,(GrL.refl _),hdata,a8,(hap0 _ (List.Mem.head _)),(fun p_ hp_ q_=>q_)⟩ sb ?_
 clear c4
 rintro _ _ w1 ⟨i,data2,hs,rfl,rfl,hI1,a3,gr1,k1,k2,dj1,or1⟩
 have H:=HR1 i data2 hI1
 replace H:=H a3
 refine zd (zd (zb (yp (h:=(yp (h:=(yp (h:=(ze (za (zm rfl (fun b1=>?_) (fun b1=>?_))))))))))))
 ·replace H:=H.1 (of_decide_eq_true b1)
  refine zo (za (zd (WC.block (zd (zb (yp (h:=(yp (h:=(ze (za (WC.block ?_))))))))))))
  obtain ⟨I2,mu2,c9,HR2⟩:=H
  refine z3 (fun n' L' w'=>∃ (j:Int),∃ (data3:List PV),∃ (hs2:List VH),n'=mu2 j data3/\L'=[(0,.slice a0 data.length a5),(1,.int .i64 a),(2,.int .i64 b),(3,.func (.func 150) #[] #[.pointer (some ⟨a6,0,none⟩),.pointer (some ⟨a7,0,none⟩)]),(8,.int .i64 i),(9,.int .i64 j)]/\I2 j data3/\data.length=data3.length/\GrL [(blk a0)] w w'/\Own vv w' 0 32 a0 a5 hs2/\RelD deV w' hs2 data3/\DnD deV hs2 data3 (blk a0)/\OrD (fun p=>DnD deV a1 data p) deV hs2 data3 w.heap.size) _ _ ⟨i,data2,hs,rfl,rfl,c9,((a3.trans k2.1.symm).trans k2.1),gr1,k1,k2,dj1,or1⟩ sb ?_
  clear c9
  rintro _ _ w2 ⟨j,data3,hs2,rfl,rfl,hI2,a4,gr2,k3,k4,dj2,or2⟩
  have H:=HR2 j data3 hI2
  replace H:=H a4
  refine zd (zd (zW (fun k => !(Nat.beq k 14)) (LD [8,13] (fun w'=>Rd vv w' a0 a5 hs2)) jx (by kernel_rfl) (fun k w' h _=>(jQ h k3.rd)) (zA rfl rfl (fun w' hw'=>zh qD rfl) (zA rfl rfl (fun w' hw'=>zh qD rfl) (zA rfl rfl (fun w' hw'=>zh qD rfl) (zA rfl rfl (fun w' hw'=>zh qD rfl) ?_))))))
  obtain ⟨J1,H,hJ1⟩:=H
  refine qr 13 (fun L' w'=>∃ q1:Bool,L'=[(34,.bool q1),(0,.slice a0 data.length a5),(1,.int .i64 a),(2,.int .i64 b),(3,.func (.func 150) #[] #[.pointer (some ⟨a6,0,none⟩),.pointer (some ⟨a7,0,none⟩)]),(8,.int .i64 i),(9,.int .i64 j)]/\J1 q1/\GrL [(blk a0)] w w'/\Own vv w' 0 32 a0 a5 hs2/\RelD deV w' hs2 data3) ?_ (fun hQ=>?_)
  ·clear H
   rintro _ w3 ⟨q1,rfl,H,gr3,k5,k6⟩
   replace H:=hJ1 q1 H
   refine qh (za (zm rfl (fun b2=>?_) (fun b2=>?_)))
   ·replace H:=H.1 (b2)
    refine zo (za (zd (WC.block (zW (fun k => !(Nat.beq k 15 || Nat.beq k 17)) (LD [9,13] (fun w'=>Rd vv w' a0 a5 hs2)) jx (by kernel_rfl) (fun k w' h _=>(jQ h k5.rd)) (zA rfl rfl (fun w' hw'=>zh qD rfl) (zA rfl rfl (fun w' hw'=>zh qD rfl) (zA rfl rfl (fun w' hw'=>zh qD rfl) (zA rfl rfl (fun w' hw'=>zh qD rfl) ?_))))))))
    obtain ⟨h2,H⟩:=H
    refine zA rfl rfl (fun w' hw'=>Yld.sub rfl rfl h2) (zA rfl rfl (fun w' hw'=>zh qD rfl) (zA rfl rfl (fun w' hw'=>zh qD rfl) ?_))
    obtain ⟨h3,H⟩:=H
    refine zA rfl rfl (fun w' hw'=>Yld.sub rfl rfl h3) ?_
    obtain ⟨h4,H⟩:=H
    refine zA rfl rfl (fun w' hw'=>zB qD k5.rd rfl rfl (a4.trans k4.1.symm) rfl h4.1 h4.2) ?_
    obtain ⟨⟨v_el,F_el⟩,eh1,hR1⟩:=RelD.at k6 vh0 PV.nil (j:=(j - (1:Int)).toNat) (Nat.lt_of_lt_of_eq (iltN h4 (a4.trans k4.1.symm)) k6.1)
    have hv1:RelD deV w3 [(v_el,F_el)] [data3.getD ((j - (1:Int)).toNat) PV.nil]:=RelD.cons hR1 RelD.nil
    refine zA rfl rfl (fun w' hw'=>zR (v:=v_el.1) (zM vh0 qD (hw' rfl) rfl rfl (iltN h4 (a4.trans k4.1.symm))) (congrArg vv eh1)) (zA rfl rfl (fun w' hw'=>zh qD rfl) (zA rfl rfl (fun w' hw'=>zh qD rfl) ?_))
    obtain ⟨h5,H⟩:=H
    refine zA rfl rfl (fun w' hw'=>zB qD k5.rd rfl rfl (a4.trans k4.1.symm) rfl h5.1 h5.2) ?_
    obtain ⟨⟨v_el2,F_el2⟩,eh2,hR2⟩:=RelD.at k6 vh0 PV.nil (j:=j.toNat) (Nat.lt_of_lt_of_eq (iltN h5 (a4.trans k4.1.symm)) k6.1)
    have hv2:RelD deV w3 [(v_el2,F_el2)] [data3.getD j.toNat PV.nil]:=RelD.cons hR2 RelD.nil
    refine zA rfl rfl (fun w' hw'=>zR (v:=v_el2.1) (zM vh0 qD (hw' rfl) rfl rfl (iltN h5 (a4.trans k4.1.symm))) (congrArg vv eh2)) ?_
    obtain ⟨h6,H⟩:=H
    refine zA rfl rfl (fun w' hw'=>zB qD k5.rd rfl rfl (a4.trans k4.1.symm) rfl h6.1 h6.2) (qw rfl (qk (v:=((v_el,F_el):VH)) one32 One.vv k5 rfl rfl (iltN h6 (a4.trans k4.1.symm))) (fun w' h=>qm (by kernel_rfl)) ?_)
    rintro w5 ⟨hO1,hg2⟩
    have gr4:GrL [(blk a0)] w w5:=GrL.mod gr3 hg2 (InP.mem (List.Mem.head _))
    have hr1:RelD deV w5 (hs2.set j.toNat (v_el,F_el)) (data3.set j.toNat (data3.getD ((j - (1:Int)).toNat) PV.nil)):=RelD.set (k6.go hg2 dj2) (RelD.one (hv1.go hg2 (DnD.cons (DnD.at dj2 k6.1 (Nat.lt_of_lt_of_eq (iltN h4 (a4.trans k4.1.symm)) k6.1) eh1) DnD.nil))) j.toNat
    have nd1:OrD (fun p=>DnD deV a1 data p) deV (hs2.set j.toNat (v_el,F_el)) (data3.set j.toNat (data3.getD ((j - (1:Int)).toNat) PV.nil)) w.heap.size:=fun p_ hp_ q_=>DnD.set (or2 p_ hp_ q_) (DnD.one (DnD.cons (DnD.at (or2 p_ hp_ q_) k6.1 (Nat.lt_of_lt_of_eq (iltN h4 (a4.trans k4.1.symm)) k6.1) eh1) DnD.nil)) j.toNat
    have dj3:DnD deV (hs2.set j.toNat (v_el,F_el)) (data3.set j.toNat (data3.getD ((j - (1:Int)).toNat) PV.nil)) (blk a0):=(DnD.set dj2 (DnD.one (DnD.cons (DnD.at dj2 k6.1 (Nat.lt_of_lt_of_eq (iltN h4 (a4.trans k4.1.symm)) k6.1) eh1) DnD.nil)) j.toNat)
    obtain ⟨h7,H⟩:=H
    refine zA rfl rfl (fun w' hw'=>zB qD hO1.rd rfl rfl ((a4.trans k4.1.symm).trans List.length_set.symm) rfl h7.1 h7.2) (qw rfl (qk (v:=((v_el2,F_el2):VH)) one32 One.vv hO1 rfl rfl (iltN h7 ((a4.trans k4.1.symm).trans List.length_set.symm))) (fun w' h=>qm (by kernel_rfl)) ?_)
    rintro w7 ⟨hO2,hg4⟩
    have gr5:GrL [(blk a0)] w w7:=GrL.mod gr4 hg4 (InP.mem (List.Mem.head _))
    have hr2:RelD deV w7 ((hs2.set j.toNat (v_el,F_el)).set ((j - (1:Int)).toNat) (v_el2,F_el2)) ((data3.set j.toNat (data3.getD ((j - (1:Int)).toNat) PV.nil)).set ((j - (1:Int)).toNat) (data3.getD j.toNat PV.nil)):=RelD.set (hr1.go hg4 dj3) (RelD.one ((hv2.go hg2 (DnD.cons (DnD.at dj2 k6.1 (Nat.lt_of_lt_of_eq (iltN h5 (a4.trans k4.1.symm)) k6.1) eh2) DnD.nil)).go hg4 (DnD.cons (DnD.at dj2 k6.1 (Nat.lt_of_lt_of_eq (iltN h5 (a4.trans k4.1.symm)) k6.1) eh2) DnD.nil))) ((j - (1:Int)).toNat)
    have nd2:OrD (fun p=>DnD deV a1 data p) deV ((hs2.set j.toNat (v_el,F_el)).set ((j - (1:Int)).toNat) (v_el2,F_el2)) ((data3.set j.toNat (data3.getD ((j - (1:Int)).toNat) PV.nil)).set ((j - (1:Int)).toNat) (data3.getD j.toNat PV.nil)) w.heap.size:=fun p_ hp_ q_=>DnD.set (nd1 p_ hp_ q_) (DnD.one (DnD.cons (DnD.at (or2 p_ hp_ q_) k6.1 (Nat.lt_of_lt_of_eq (iltN h5 (a4.trans k4.1.symm)) k6.1) eh2) DnD.nil)) ((j - (1:Int)).toNat)
    have dj4:DnD deV ((hs2.set j.toNat (v_el,F_el)).set ((j - (1:Int)).toNat) (v_el2,F_el2)) ((data3.set j.toNat (data3.getD ((j - (1:Int)).toNat) PV.nil)).set ((j - (1:Int)).toNat) (data3.getD j.toNat PV.nil)) (blk a0):=(DnD.set dj3 (DnD.one (DnD.cons (DnD.at dj2 k6.1 (Nat.lt_of_lt_of_eq (iltN h5 (a4.trans k4.1.symm)) k6.1) eh2) DnD.nil)) ((j - (1:Int)).toNat))
    refine qh (zi (za (zb (yp (h:=?_)))))
    obtain ⟨h8,H⟩:=H
    exact zg rfl (Yld.sub rfl rfl h8) (yp (h:=(ze (zX _ ⟨j - (1:Int),(data3.set j.toNat (data3.getD ((j - (1:Int)).toNat) PV.nil)).set ((j - (1:Int)).toNat) (data3.getD j.toNat PV.nil),(hs2.set j.toNat (v_el,F_el)).set ((j - (1:Int)).toNat) (v_el2,F_el2),rfl,rfl,H.1,((((a4.trans k4.1.symm).trans List.length_set.symm).trans List.length_set.symm).trans hr2.1),gr5,hO2,hr2,dj4,nd2⟩ sb H.2))))
   ·replace H:=H.2 (b2)
    refine zy (zk (zk (zl (zi (za (zb (yp (h:=?_))))))))
    obtain ⟨h9,H⟩:=H
    exact zg rfl (Yld.add rfl rfl h9) (yp (h:=(ze (zX _ ⟨i+(1:Int),data3,hs2,rfl,rfl,H.1,((a4.trans k4.1.symm).trans k6.1),gr3,k5,k6,dj2,or2⟩ sb H.2))))
  ·clear hJ1
   rcases Bool.eq_false_or_eq_true (decide (a<j)) with b3 | b3
   ·replace H:=H.1 b3
    refine zU rfl (qF rfl rfl (okb b3)) rfl (fun w' hw'=>zh qD rfl) (zU rfl (qF rfl rfl (okb b3)) rfl (fun w' hw'=>zh qD rfl) (zU rfl (qF rfl rfl (okb b3)) rfl (fun w' hw'=>zh qD rfl) ?_))
    obtain ⟨h10,H⟩:=H
    refine zU rfl (qF rfl rfl (okb b3)) rfl (fun w' hw'=>zB qD k3.rd rfl rfl (a4.trans k4.1.symm) rfl h10.1 h10.2) ?_
    obtain ⟨⟨v_el3,F_el3⟩,eh3,hR3⟩:=RelD.at k4 vh0 PV.nil (j:=j.toNat) (Nat.lt_of_lt_of_eq (iltN h10 (a4.trans k4.1.symm)) k4.1)
    have hv3:RelD deV w2 [(v_el3,F_el3)] [data3.getD j.toNat PV.nil]:=RelD.cons hR3 RelD.nil
    refine zU rfl (qF rfl rfl (okb b3)) rfl (fun w' hw'=>zR (v:=v_el3.1) (zM vh0 qD (hw' rfl) rfl rfl (iltN h10 (a4.trans k4.1.symm))) (congrArg vv eh3)) (zU rfl (qF rfl rfl (okb b3)) rfl (fun w' hw'=>zh qD rfl) (zU rfl (qF rfl rfl (okb b3)) rfl (fun w' hw'=>zh qD rfl) ?_))
    obtain ⟨h11,H⟩:=H
    refine zU rfl (qF rfl rfl (okb b3)) rfl (fun w' hw'=>Yld.sub rfl rfl h11) ?_
    obtain ⟨h12,H⟩:=H
    refine zU rfl (qF rfl rfl (okb b3)) rfl (fun w' hw'=>zB qD k3.rd rfl rfl (a4.trans k4.1.symm) rfl h12.1 h12.2) ?_
    obtain ⟨⟨v_el4,F_el4⟩,eh4,hR4⟩:=RelD.at k4 vh0 PV.nil (j:=(j - (1:Int)).toNat) (Nat.lt_of_lt_of_eq (iltN h12 (a4.trans k4.1.symm)) k4.1)
    have hv4:RelD deV w2 [(v_el4,F_el4)] [data3.getD ((j - (1:Int)).toNat) PV.nil]:=RelD.cons hR4 RelD.nil
    refine zU rfl (qF rfl rfl (okb b3)) rfl (fun w' hw'=>zR (v:=v_el4.1) (zM vh0 qD (hw' rfl) rfl rfl (iltN h12 (a4.trans k4.1.symm))) (congrArg vv eh4)) (WJ.callvw rfl (qF rfl rfl (okb b3)) rfl rfl rfl (ky (hG.goL gr2 hP).ok hS3 hS7 hv3 hv4 (hcap0.goL gr2 hap1) (hcap1.goL gr2 hap2) H) (fun v w' h w2 e=>DD.keep (Rd.grown k3.rd (jo h.1 e))) ?_)
    rintro _ w8 ⟨hg5,t32,rfl,H⟩
    have k14:=hv3.grown hg5
    have k15:=hv4.grown hg5
    exact zU rfl (qF rfl rfl (okb b3)) rfl (fun w' hw'=>zh qD rfl) (zA rfl rfl (fun w' hw'=>zQ (okb b3) rfl) (WJ.weaken sb (hQ _ _ ⟨decide (t32<(0:Int)),rfl,H,(GrL.add0 gr2 hg5),(k3.grown hg5),(k4.grown hg5)⟩)))
   ·replace H:=H.2 b3
    exact zS rfl rfl (okb b3) rfl (zS rfl rfl (okb b3) rfl (zS rfl rfl (okb b3) rfl (zS rfl rfl (okb b3) rfl (zS rfl rfl (okb b3) rfl (zS rfl rfl (okb b3) rfl (zS rfl rfl (okb b3) rfl (zS rfl rfl (okb b3) rfl (zS rfl rfl (okb b3) rfl (zS rfl rfl (okb b3) rfl (zS rfl rfl (okb b3) rfl (zS rfl rfl (okb b3) rfl (zA rfl rfl (fun w' hw'=>zK (okb b3) rfl) (WJ.weaken sb (hQ _ _ ⟨false,rfl,H,gr2,k3,k4⟩))))))))))))))
 ·replace H:=H.2 (of_decide_eq_false b1)
  exact zy (zk (zk (zl (qd rfl ⟨gr1,data2,hs,rfl,k1,(a3.trans k2.1.symm).symm,k2,(fun p_ hp_ v0_=>or1 p_ hp_ v0_),dj1,H⟩))))
set_option maxHeartbeats 8000000 in
theorem jj {w:World} {data:List PV} {a0:Option Addr} {a5:Nat} {a1:List VH} {a:Int} {b:Int} {n:Int} {a6:Nat} {cap0:Bool} {a7:Nat} {cap1:Bool} {b0:Nat} {K:(List PV)->Prop} (hdata:Own vv w 0 32 a0 a5 a1) (c0:b0=data.length) (a8:RelD deV w a1 data) (hcap0:Bl w a6 4 [.bool cap0]) (hcap1:Bl w a7 4 [.bool cap1]) (hap0:AllP (DnD deV a1 data) [(blk a0)]) (hap1:AllP (Dj (some a6)) [(blk a0)]) (hap2:AllP (Dj (some a7)) [(blk a0)]) (H:qQ data a b n cap0 cap1 K):Fn Tryz.prog 228 ⟨[.slice a0 b0 a5,.int .i64 a,.int .i64 b,.int .i64 n,.func (.func 150) #[] #[.pointer (some ⟨a6,0,none⟩),.pointer (some ⟨a7,0,none⟩)]]⟩ w (fun v w'=>GrL [(blk a0)] w w'/\∃ (ys:List PV),∃ (c1:List VH),v=.tuple #[]/\Own vv w' 0 32 a0 a5 c1/\c1.length=data.length/\RelD deV w' c1 ys/\(∀ p:Option Nat,Lt p w.heap.size->DnD deV a1 data p->DnD deV c1 ys p)/\DnD deV c1 ys (blk a0)/\K ys):=by
 subst c0
 unfold qQ at H
 refine Fn.enter (by kernel_rfl) Tryz.func228 rfl Tryz.ntmps228 rfl ?_
 replace H:=H (by rw [<-a8.1]; exact Nat.le_trans hdata.rd.cap hdata.rd.max)
 have hNoAt:AllP (NoAt w) [(blk a0)]:=(apC (NoAt.own hdata rfl) apN)
 refine zd (zb (yp (h:=(ze (za (WC.block ?_))))))
 obtain ⟨I1,mu1,c4,HR1⟩:=H
 refine z3 (fun n' L' w'=>∃ (i:Int),∃ (data2:List PV),∃ (hs:List VH),n'=mu1 i data2/\L'=[(0,.slice a0 data.length a5),(1,.int .i64 a),(2,.int .i64 b),(3,.int .i64 n),(10,.int .i64 i)]/\I1 i data2/\data.length=data2.length/\GrL [(blk a0)] w w'/\Own vv w' 0 32 a0 a5 hs/\RelD deV w' hs data2/\DnD deV hs data2 (blk a0)/\OrD (fun p=>DnD deV a1 data p) deV hs data2 w.heap.size) _ _ ⟨(0:Int),data,a1,rfl,rfl,c4,rfl,(GrL.refl _),hdata,a8,(hap0 _ (List.Mem.head _)),(fun p_ hp_ q_=>q_)⟩ sb ?_
 clear c4
 rintro _ _ w1 ⟨i,data2,hs,rfl,rfl,hI1,a3,gr1,k1,k2,dj1,or1⟩
 have H:=HR1 i data2 hI1
 replace H:=H a3
 refine zd (zd (zb (yp (h:=(yp (h:=(yp (h:=(ze (za (zm rfl (fun b1=>?_) (fun b1=>?_))))))))))))
 ·replace H:=H.1 (of_decide_eq_true b1)
  refine zo (za (zd (WC.block (zW (fun k => !(Nat.beq k 21 || Nat.beq k 23)) (LD [13,19] (fun w'=>Rd vv w' a0 a5 hs)) jx (by kernel_rfl) (fun k w' h _=>(jQ h k1.rd)) (zA rfl rfl (fun w' hw'=>zh qD rfl) (zA rfl rfl (fun w' hw'=>zh qD rfl) (zA rfl rfl (fun w' hw'=>zh qD rfl) ?_)))))))
  obtain ⟨h1,H⟩:=H
  refine zA rfl rfl (fun w' hw'=>Yld.add rfl rfl h1) (zA rfl rfl (fun w' hw'=>zh qD rfl) (zA rfl rfl (fun w' hw'=>zh qD rfl) (zA rfl rfl (fun w' hw'=>zh qD rfl) ?_)))
  obtain ⟨h2,H⟩:=H
  refine zA rfl rfl (fun w' hw'=>Yld.add rfl rfl h2) (zA rfl rfl (fun w' hw'=>zh qD rfl) (zA rfl rfl (fun w' hw'=>zh qD rfl) (zA rfl rfl (fun w' hw'=>zh qD rfl) ?_)))
  obtain ⟨h3,H⟩:=H
  refine zA rfl rfl (fun w' hw'=>Yld.add rfl rfl h3) ?_
  obtain ⟨h4,H⟩:=H
  refine zA rfl rfl (fun w' hw'=>zB qD k1.rd rfl rfl (a3.trans k2.1.symm) rfl h4.1 h4.2) ?_
  obtain ⟨⟨v_el,F_el⟩,eh1,hR1⟩:=RelD.at k2 vh0 PV.nil (j:=(b+i).toNat) (Nat.lt_of_lt_of_eq (iltN h4 (a3.trans k2.1.symm)) k2.1)
  have hv1:RelD deV w1 [(v_el,F_el)] [data2.getD ((b+i).toNat) PV.nil]:=RelD.cons hR1 RelD.nil
  refine zA rfl rfl (fun w' hw'=>zR (v:=v_el.1) (zM vh0 qD (hw' rfl) rfl rfl (iltN h4 (a3.trans k2.1.symm))) (congrArg vv eh1)) (zA rfl rfl (fun w' hw'=>zh qD rfl) (zA rfl rfl (fun w' hw'=>zh qD rfl) (zA rfl rfl (fun w' hw'=>zh qD rfl) ?_)))
  obtain ⟨h5,H⟩:=H
  refine zA rfl rfl (fun w' hw'=>Yld.add rfl rfl h5) ?_
  obtain ⟨h6,H⟩:=H
  refine zA rfl rfl (fun w' hw'=>zB qD k1.rd rfl rfl (a3.trans k2.1.symm) rfl h6.1 h6.2) ?_
  obtain ⟨⟨v_el2,F_el2⟩,eh2,hR2⟩:=RelD.at k2 vh0 PV.nil (j:=(a+i).toNat) (Nat.lt_of_lt_of_eq (iltN h6 (a3.trans k2.1.symm)) k2.1)
  have hv2:RelD deV w1 [(v_el2,F_el2)] [data2.getD ((a+i).toNat) PV.nil]:=RelD.cons hR2 RelD.nil
  refine zA rfl rfl (fun w' hw'=>zR (v:=v_el2.1) (zM vh0 qD (hw' rfl) rfl rfl (iltN h6 (a3.trans k2.1.symm))) (congrArg vv eh2)) ?_
  obtain ⟨h7,H⟩:=H
  refine zA rfl rfl (fun w' hw'=>zB qD k1.rd rfl rfl (a3.trans k2.1.symm) rfl h7.1 h7.2) (qw rfl (qk (v:=((v_el,F_el):VH)) one32 One.vv k1 rfl rfl (iltN h7 (a3.trans k2.1.symm))) (fun w' h=>qm (by kernel_rfl)) ?_)
  rintro w3 ⟨hO1,hg2⟩
  have gr2:GrL [(blk a0)] w w3:=GrL.mod gr1 hg2 (InP.mem (List.Mem.head _))
  have hr1:RelD deV w3 (hs.set ((a+i).toNat) (v_el,F_el)) (data2.set ((a+i).toNat) (data2.getD ((b+i).toNat) PV.nil)):=RelD.set (k2.go hg2 dj1) (RelD.one (hv1.go hg2 (DnD.cons (DnD.at dj1 k2.1 (Nat.lt_of_lt_of_eq (iltN h4 (a3.trans k2.1.symm)) k2.1) eh1) DnD.nil))) ((a+i).toNat)
  have nd1:OrD (fun p=>DnD deV a1 data p) deV (hs.set ((a+i).toNat) (v_el,F_el)) (data2.set ((a+i).toNat) (data2.getD ((b+i).toNat) PV.nil)) w.heap.size:=fun p_ hp_ q_=>DnD.set (or1 p_ hp_ q_) (DnD.one (DnD.cons (DnD.at (or1 p_ hp_ q_) k2.1 (Nat.lt_of_lt_of_eq (iltN h4 (a3.trans k2.1.symm)) k2.1) eh1) DnD.nil)) ((a+i).toNat)
  have dj2:DnD deV (hs.set ((a+i).toNat) (v_el,F_el)) (data2.set ((a+i).toNat) (data2.getD ((b+i).toNat) PV.nil)) (blk a0):=(DnD.set dj1 (DnD.one (DnD.cons (DnD.at dj1 k2.1 (Nat.lt_of_lt_of_eq (iltN h4 (a3.trans k2.1.symm)) k2.1) eh1) DnD.nil)) ((a+i).toNat))
  obtain ⟨h8,H⟩:=H
  refine zA rfl rfl (fun w' hw'=>zB qD hO1.rd rfl rfl ((a3.trans k2.1.symm).trans List.length_set.symm) rfl h8.1 h8.2) (qw rfl (qk (v:=((v_el2,F_el2):VH)) one32 One.vv hO1 rfl rfl (iltN h8 ((a3.trans k2.1.symm).trans List.length_set.symm))) (fun w' h=>qm (by kernel_rfl)) ?_)
  rintro w5 ⟨hO2,hg4⟩
  have gr3:GrL [(blk a0)] w w5:=GrL.mod gr2 hg4 (InP.mem (List.Mem.head _))
  have hr2:RelD deV w5 ((hs.set ((a+i).toNat) (v_el,F_el)).set ((b+i).toNat) (v_el2,F_el2)) ((data2.set ((a+i).toNat) (data2.getD ((b+i).toNat) PV.nil)).set ((b+i).toNat) (data2.getD ((a+i).toNat) PV.nil)):=RelD.set (hr1.go hg4 dj2) (RelD.one ((hv2.go hg2 (DnD.cons (DnD.at dj1 k2.1 (Nat.lt_of_lt_of_eq (iltN h6 (a3.trans k2.1.symm)) k2.1) eh2) DnD.nil)).go hg4 (DnD.cons (DnD.at dj1 k2.1 (Nat.lt_of_lt_of_eq (iltN h6 (a3.trans k2.1.symm)) k2.1) eh2) DnD.nil))) ((b+i).toNat)
  have nd2:OrD (fun p=>DnD deV a1 data p) deV ((hs.set ((a+i).toNat) (v_el,F_el)).set ((b+i).toNat) (v_el2,F_el2)) ((data2.set ((a+i).toNat) (data2.getD ((b+i).toNat) PV.nil)).set ((b+i).toNat) (data2.getD ((a+i).toNat) PV.nil)) w.heap.size:=fun p_ hp_ q_=>DnD.set (nd1 p_ hp_ q_) (DnD.one (DnD.cons (DnD.at (or1 p_ hp_ q_) k2.1 (Nat.lt_of_lt_of_eq (iltN h6 (a3.trans k2.1.symm)) k2.1) eh2) DnD.nil)) ((b+i).toNat)
  have dj3:DnD deV ((hs.set ((a+i).toNat) (v_el,F_el)).set ((b+i).toNat) (v_el2,F_el2)) ((data2.set ((a+i).toNat) (data2.getD ((b+i).toNat) PV.nil)).set ((b+i).toNat) (data2.getD ((a+i).toNat) PV.nil)) (blk a0):=(DnD.set dj2 (DnD.one (DnD.cons (DnD.at dj1 k2.1 (Nat.lt_of_lt_of_eq (iltN h6 (a3.trans k2.1.symm)) k2.1) eh2) DnD.nil)) ((b+i).toNat))
  refine qh (zi (za (zb (yp (h:=?_)))))
  obtain ⟨h9,H⟩:=H
  exact zg rfl (Yld.add rfl rfl h9) (yp (h:=(ze (zX _ ⟨i+(1:Int),(data2.set ((a+i).toNat) (data2.getD ((b+i).toNat) PV.nil)).set ((b+i).toNat) (data2.getD ((a+i).toNat) PV.nil),(hs.set ((a+i).toNat) (v_el,F_el)).set ((b+i).toNat) (v_el2,F_el2),rfl,rfl,H.1,((((a3.trans k2.1.symm).trans List.length_set.symm).trans List.length_set.symm).trans hr2.1),gr3,hO2,hr2,dj3,nd2⟩ sb H.2))))
 ·replace H:=H.2 (of_decide_eq_false b1)
  exact zy (zk (zk (zl (qd rfl ⟨gr1,data2,hs,rfl,k1,(a3.trans k2.1.symm).symm,k2,(fun p_ hp_ v0_=>or1 p_ hp_ v0_),dj1,H⟩))))
set_option maxHeartbeats 8000000 in
theorem jZ {w:World} {data:List PV} {a0:Option Addr} {a5:Nat} {a1:List VH} {a:Int} {m:Int} {b:Int} {a6:Nat} {cap0:Bool} {a7:Nat} {cap1:Bool} {b0:Nat} {K:(List PV)->Prop} (hdata:Own vv w 0 32 a0 a5 a1) (c0:b0=data.length) (a8:RelD deV w a1 data) (hcap0:Bl w a6 4 [.bool cap0]) (hcap1:Bl w a7 4 [.bool cap1]) (hap0:AllP (DnD deV a1 data) [(blk a0)]) (hap1:AllP (Dj (some a6)) [(blk a0)]) (hap2:AllP (Dj (some a7)) [(blk a0)]) (H:jd data a m b cap0 cap1 K):Fn Tryz.prog 218 ⟨[.slice a0 b0 a5,.int .i64 a,.int .i64 m,.int .i64 b,.func (.func 150) #[] #[.pointer (some ⟨a6,0,none⟩),.pointer (some ⟨a7,0,none⟩)]]⟩ w (fun v w'=>GrL [(blk a0)] w w'/\∃ (ys4:List PV),∃ (a9:List VH),v=.tuple #[]/\Own vv w' 0 32 a0 a5 a9/\a9.length=data.length/\RelD deV w' a9 ys4/\(∀ p:Option Nat,Lt p w.heap.size->DnD deV a1 data p->DnD deV a9 ys4 p)/\DnD deV a9 ys4 (blk a0)/\K ys4):=by
 subst c0
 unfold jd at H
 refine Fn.enter (by kernel_rfl) Tryz.func218 rfl Tryz.ntmps218 rfl ?_
 replace H:=H (by rw [<-a8.1]; exact Nat.le_trans hdata.rd.cap hdata.rd.max)
 have hNoAt:AllP (NoAt w) [(blk a0)]:=(apC (NoAt.own hdata rfl) apN)
 refine zd (zb (yp (h:=(yp (h:=?_)))))
 obtain ⟨h1,H⟩:=H
 refine zg rfl (Yld.sub rfl rfl h1) (yp (h:=(ze (za (zd (zb (yp (h:=(yp (h:=?_))))))))))
 obtain ⟨h2,H⟩:=H
 refine zg rfl (Yld.sub rfl rfl h2) (yp (h:=(ze (za (zd (WC.block ?_))))))
 obtain ⟨I1,mu1,c4,HR1⟩:=H
 refine z3 (fun n' L' w'=>∃ (i:Int),∃ (j:Int),∃ (data2:List PV),∃ (hs:List VH),n'=mu1 i j data2/\L'=[(0,.slice a0 data.length a5),(2,.int .i64 m),(4,.func (.func 150) #[] #[.pointer (some ⟨a6,0,none⟩),.pointer (some ⟨a7,0,none⟩)]),(10,.int .i64 i),(11,.int .i64 j)]/\I1 i j data2/\data.length=data2.length/\GrL [(blk a0)] w w'/\Own vv w' 0 32 a0 a5 hs/\RelD deV w' hs data2/\DnD deV hs data2 (blk a0)/\OrD (fun p=>DnD deV a1 data p) deV hs data2 w.heap.size) _ _ ⟨m - a,b - m,data,a1,rfl,rfl,c4,rfl,(GrL.refl _),hdata,a8,(hap0 _ (List.Mem.head _)),(fun p_ hp_ q_=>q_)⟩ sb ?_
 clear c4
 rintro _ _ w1 ⟨i,j,data2,hs,rfl,rfl,hI1,a3,gr1,k1,k2,dj1,or1⟩
 have H:=HR1 i j data2 hI1
 replace H:=H a3
 refine zd (zd (zb (yp (h:=(yp (h:=(yp (h:=(ze (za (zm rfl (fun b1=>?_) (fun b1=>?_))))))))))))
 ·replace H:=H.1 (jw b1)
  refine zo (za (WC.block (zd (zb (yp (h:=(yp (h:=(yp (h:=(ze (za (zm rfl (fun b2=>?_) (fun b2=>?_))))))))))))))
  ·replace H:=H.1 (of_decide_eq_true b2)
   refine zd (zb (yp (h:=(yp (h:=(yp (h:=?_)))))))
   obtain ⟨h3,H⟩:=H
   refine zg rfl (Yld.sub rfl rfl h3) (yp (h:=(yp (h:=(yp (h:=(zx rfl rfl (jj k1 ((a3.trans k2.1.symm).trans k2.1) k2 (hcap0.goL gr1 hap1) (hcap1.goL gr1 hap2) (apC dj1 apN) (apC (InP.dj (InP.mem (List.Mem.head _)) hcap0.lt' hap1).symm apN) (apC (InP.dj (InP.mem (List.Mem.head _)) hcap1.lt' hap2).symm apN) H) ?_)))))))
   rintro _ w2 ⟨hgl1,ys,c1,rfl,hO1,hl1,hr1,ho1,dj2,H⟩
   have gr2:GrL [(blk a0)] w w2:=GrL.modL gr1 hgl1 (apC (InP.mem (List.Mem.head _)) apN)
   have k3:=k2.goL hgl1 (apC dj1 apN)
   refine ze (za (zb (yp (h:=(yp (h:=?_))))))
   obtain ⟨h4,H⟩:=H
   exact zg rfl (Yld.sub rfl rfl h4) (yp (h:=(ze (zi (zX _ ⟨i - j,j,ys,c1,rfl,rfl,H.1,(((a3.trans k2.1.symm).trans (k2.1.trans hl1.symm)).trans hr1.1),gr2,hO1,hr1,dj2,(fun p_ hp_ q_=>ho1 p_ (fun g_ e_=>Nat.lt_of_lt_of_le (hp_ g_ e_) (GrL.sizeL gr1)) (or1 p_ hp_ q_))⟩ sb H.2)))))
  ·replace H:=H.2 (of_decide_eq_false b2)
   refine zd (zb (yp (h:=(yp (h:=(yp (h:=?_)))))))
   obtain ⟨h5,H⟩:=H
   refine zg rfl (Yld.sub rfl rfl h5) (yp (h:=(yp (h:=?_))))
   obtain ⟨h6,H⟩:=H
   refine zg rfl (Yld.add rfl rfl h6) (yp (h:=?_))
   obtain ⟨h7,H⟩:=H
   refine zg rfl (Yld.sub rfl rfl h7) (yp (h:=(yp (h:=(zx rfl rfl (jj k1 ((a3.trans k2.1.symm).trans k2.1) k2 (hcap0.goL gr1 hap1) (hcap1.goL gr1 hap2) (apC dj1 apN) (apC (InP.dj (InP.mem (List.Mem.head _)) hcap0.lt' hap1).symm apN) (apC (InP.dj (InP.mem (List.Mem.head _)) hcap1.lt' hap2).symm apN) H) ?_)))))
   rintro _ w3 ⟨hgl2,ys2,c2,rfl,hO2,hl2,hr2,ho2,dj3,H⟩
   have gr3:GrL [(blk a0)] w w3:=GrL.modL gr1 hgl2 (apC (InP.mem (List.Mem.head _)) apN)
   have k4:=k2.goL hgl2 (apC dj1 apN)
   refine ze (za (zb (yp (h:=(yp (h:=?_))))))
   obtain ⟨h8,H⟩:=H
   exact zg rfl (Yld.sub rfl rfl h8) (yp (h:=(ze (zi (zX _ ⟨i,j - i,ys2,c2,rfl,rfl,H.1,(((a3.trans k2.1.symm).trans (k2.1.trans hl2.symm)).trans hr2.1),gr3,hO2,hr2,dj3,(fun p_ hp_ q_=>ho2 p_ (fun g_ e_=>Nat.lt_of_lt_of_le (hp_ g_ e_) (GrL.sizeL gr1)) (or1 p_ hp_ q_))⟩ sb H.2)))))
 ·replace H:=H.2 (jq b1)
  refine zy (zk (zk (zl (za (zb (yp (h:=(yp (h:=(yp (h:=?_)))))))))))
  obtain ⟨h9,H⟩:=H
  refine zg rfl (Yld.sub rfl rfl h9) (yp (h:=(yp (h:=(yp (h:=(zx rfl rfl (jj k1 ((a3.trans k2.1.symm).trans k2.1) k2 (hcap0.goL gr1 hap1) (hcap1.goL gr1 hap2) (apC dj1 apN) (apC (InP.dj (InP.mem (List.Mem.head _)) hcap0.lt' hap1).symm apN) (apC (InP.dj (InP.mem (List.Mem.head _)) hcap1.lt' hap2).symm apN) H) ?_)))))))
  rintro _ w4 ⟨hgl3,ys3,c6,rfl,hO3,hl3,hr3,ho3,dj4,H⟩
  have gr4:GrL [(blk a0)] w w4:=GrL.modL gr1 hgl3 (apC (InP.mem (List.Mem.head _)) apN)
  have k5:=k2.goL hgl3 (apC dj1 apN)
  exact ze (qd rfl ⟨gr4,ys3,c6,rfl,hO3,((a3.trans k2.1.symm).trans (k2.1.trans hl3.symm)).symm,hr3,(fun p_ hp_ v0_=>have q_:=v0_; ho3 p_ (fun g_ e_=>Nat.lt_of_lt_of_le (hp_ g_ e_) (GrL.sizeL gr1)) (or1 p_ hp_ q_)),dj4,H⟩)
set_option maxHeartbeats 8000000 in
theorem jO {S:List Nat} {B:Nat} {MR:(List PV)->Int->Int->Int->Bool->Bool->((List PV)->Prop)->Prop} (WR:∀ {B:Nat} {w:World} {data:List PV} {a0:Option Addr} {a5:Nat} {a1:List VH} {a:Int} {m:Int} {b:Int} {a6:Nat} {cap0:Bool} {a7:Nat} {cap1:Bool} {b0:Nat} {K:(List PV)->Prop} (hG:GB S B w) (hB:B<=w.heap.size) (hP:AllP (fun p=>Ge p B) [(blk a0)]) (hS3:3∈S) (hS7:7∈S) (hdata:Own vv w 0 32 a0 a5 a1) (c0:b0=data.length) (a8:RelD deV w a1 data) (hcap0:Bl w a6 4 [.bool cap0]) (hcap1:Bl w a7 4 [.bool cap1]) (hap0:AllP (DnD deV a1 data) [(blk a0)]) (hap1:AllP (Dj (some a6)) [(blk a0)]) (hap2:AllP (Dj (some a7)) [(blk a0)]) (H:MR data a m b cap0 cap1 K),Fn Tryz.prog 205 ⟨[.slice a0 b0 a5,.int .i64 a,.int .i64 m,.int .i64 b,.func (.func 150) #[] #[.pointer (some ⟨a6,0,none⟩),.pointer (some ⟨a7,0,none⟩)]]⟩ w (fun v w'=>GrL [(blk a0)] w w'/\∃ (ys4:List PV),∃ (a9:List VH),v=.tuple #[]/\Own vv w' 0 32 a0 a5 a9/\a9.length=data.length/\RelD deV w' a9 ys4/\(∀ p:Option Nat,Lt p w.heap.size->DnD deV a1 data p->DnD deV a9 ys4 p)/\DnD deV a9 ys4 (blk a0)/\K ys4)) {w:World} {data:List PV} {a0:Option Addr} {a5:Nat} {a1:List VH} {a:Int} {m:Int} {b:Int} {a6:Nat} {cap0:Bool} {a7:Nat} {cap1:Bool} {b0:Nat} {K:(List PV)->Prop} (hG:GB S B w) (hB:B<=w.heap.size) (hP:AllP (fun p=>Ge p B) [(blk a0)]) (hS3:3∈S) (hS7:7∈S) (hdata:Own vv w 0 32 a0 a5 a1) (c0:b0=data.length) (a8:RelD deV w a1 data) (hcap0:Bl w a6 4 [.bool cap0]) (hcap1:Bl w a7 4 [.bool cap1]) (hap0:AllP (DnD deV a1 data) [(blk a0)]) (hap1:AllP (Dj (some a6)) [(blk a0)]) (hap2:AllP (Dj (some a7)) [(blk a0)]) (H:qW MR data a m b cap0 cap1 K):Fn Tryz.prog 205 ⟨[.slice a0 b0 a5,.int .i64 a,.int .i64 m,.int .i64 b,.func (.func 150) #[] #[.pointer (some ⟨a6,0,none⟩),.pointer (some ⟨a7,0,none⟩)]]⟩ w (fun v w'=>GrL [(blk a0)] w w'/\∃ (ys4:List PV),∃ (a9:List VH),v=.tuple #[]/\Own vv w' 0 32 a0 a5 a9/\a9.length=data.length/\RelD deV w' a9 ys4/\(∀ p:Option Nat,Lt p w.heap.size->DnD deV a1 data p->DnD deV a9 ys4 p)/\DnD deV a9 ys4 (blk a0)/\K ys4):=by
 subst c0
 unfold qW at H
 refine Fn.enter (by kernel_rfl) Tryz.func205 rfl Tryz.ntmps205 rfl ?_
 replace H:=H (by rw [<-a8.1]; exact Nat.le_trans hdata.rd.cap hdata.rd.max)
 have hNoAt:AllP (NoAt w) [(blk a0)]:=(apC (NoAt.own hdata rfl) apN)
 refine zd (zd (zb (yp (h:=(yp (h:=?_))))))
 obtain ⟨h1,H⟩:=H
 refine zg rfl (Yld.sub rfl rfl h1) (yp (h:=(ze (za (zm rfl (fun b1=>?_) (fun b1=>?_))))))
 ·replace H:=H.1 (of_decide_eq_true b1)
  refine zd (zb (yp (h:=(yp (h:=(ze (za (zd (zb (yp (h:=(yp (h:=(ze (za (zd (WC.block ?_)))))))))))))))))
  obtain ⟨I1,mu1,c4,HR1⟩:=H
  refine z3 (fun n' L' w'=>∃ (i:Int),∃ (j:Int),n'=mu1 i j/\L'=[(0,.slice a0 data.length a5),(1,.int .i64 a),(4,.func (.func 150) #[] #[.pointer (some ⟨a6,0,none⟩),.pointer (some ⟨a7,0,none⟩)]),(10,.int .i64 i),(11,.int .i64 j)]/\I1 i j/\GrL [(blk a0)] w w'/\Own vv w' 0 32 a0 a5 a1/\RelD deV w' a1 data) _ _ ⟨m,b,rfl,rfl,c4,(GrL.refl _),hdata,a8⟩ sb ?_
  clear c4
  rintro _ _ w1 ⟨i,j,rfl,rfl,hI1,gr1,k1,k2⟩
  have H:=HR1 i j hI1
  refine zd (zd (zb (yp (h:=(yp (h:=(yp (h:=(ze (za (zm rfl (fun b2=>?_) (fun b2=>?_))))))))))))
  ·replace H:=H.1 (of_decide_eq_true b2)
   refine zo (za (WC.block (zd (zb (yp (h:=(yp (h:=?_))))))))
   obtain ⟨h2,H⟩:=H
   refine zg rfl (Yld.add rfl rfl h2) ?_
   obtain ⟨h3,H⟩:=H
   refine zg rfl (zw qD rfl rfl rfl h3) (zg rfl (zL rfl rfl (by omega)) ?_)
   obtain ⟨h4,H⟩:=H
   refine zg rfl (zw qD rfl rfl rfl h4) (yp (h:=(ze (za (zd (zW (fun k => !(Nat.beq k 9)) (LD [4,8] (fun w'=>Rd vv w' a0 a5 a1)) jx (by kernel_rfl) (fun k w' h _=>(jQ h k1.rd)) (zA rfl rfl (fun w' hw'=>zh qD rfl) (zA rfl rfl (fun w' hw'=>zh qD rfl) (zA rfl rfl (fun w' hw'=>zh qD rfl) ?_)))))))))
   obtain ⟨h5,H⟩:=H
   refine zA rfl rfl (fun w' hw'=>zB qD k1.rd rfl rfl a8.1.symm rfl h5.1 h5.2) ?_
   obtain ⟨⟨v_el,F_el⟩,eh1,hR1⟩:=RelD.at k2 vh0 PV.nil (j:=(shrV .u64 (i+j) 1).toNat) (Nat.lt_of_lt_of_eq (iltN h5 a8.1.symm) k2.1)
   have hv1:RelD deV w1 [(v_el,F_el)] [data.getD ((shrV .u64 (i+j) 1).toNat) PV.nil]:=RelD.cons hR1 RelD.nil
   refine zA rfl rfl (fun w' hw'=>zR (v:=v_el.1) (zM vh0 qD (hw' rfl) rfl rfl (iltN h5 a8.1.symm)) (congrArg vv eh1)) (zA rfl rfl (fun w' hw'=>zh qD rfl) (zA rfl rfl (fun w' hw'=>zh qD rfl) ?_))
   obtain ⟨h6,H⟩:=H
   refine zA rfl rfl (fun w' hw'=>zB qD k1.rd rfl rfl a8.1.symm rfl h6.1 h6.2) ?_
   obtain ⟨⟨v_el2,F_el2⟩,eh2,hR2⟩:=RelD.at k2 vh0 PV.nil (j:=a.toNat) (Nat.lt_of_lt_of_eq (iltN h6 a8.1.symm) k2.1)
   have hv2:RelD deV w1 [(v_el2,F_el2)] [data.getD a.toNat PV.nil]:=RelD.cons hR2 RelD.nil
   refine zA rfl rfl (fun w' hw'=>zR (v:=v_el2.1) (zM vh0 qD (hw' rfl) rfl rfl (iltN h6 a8.1.symm)) (congrArg vv eh2)) (WJ.callv rfl rfl rfl rfl (ky (hG.goL gr1 hP).ok hS3 hS7 hv1 hv2 (hcap0.goL gr1 hap1) (hcap1.goL gr1 hap2) H) (fun v w' h w2 e=>DD.keep (Rd.grown k1.rd (jo h.1 e))) ?_)
   rintro _ w2 ⟨hg1,t49,rfl,H⟩
   have gr2:=GrL.add0 gr1 hg1
   have k3:=k1.grown hg1
   have k4:=k2.grown hg1
   refine zA rfl rfl (fun w' hw'=>zh qD rfl) (qh (za (zm rfl (fun b3=>?_) (fun b3=>?_))))
   ·replace H:=H.1 (of_decide_eq_true b3)
    refine zb (yp (h:=?_))
    obtain ⟨h7,H⟩:=H
    exact zg rfl (Yld.add rfl rfl h7) (yp (h:=(ze (zi (zX _ ⟨(shrV .u64 (i+j) 1)+(1:Int),j,rfl,rfl,H.1,gr2,k3,k4⟩ sb H.2)))))
   ·replace H:=H.2 (of_decide_eq_false b3)
    exact zb (yp (h:=(yp (h:=(ze (zi (zX _ ⟨i,shrV .u64 (i+j) 1,rfl,rfl,H.1,gr2,k3,k4⟩ sb H.2)))))))
  ·replace H:=H.2 (of_decide_eq_false b2)
   refine zy (zk (zk (zl (za (zd (zd (zb (yp (h:=(yp (h:=(ze (za (WC.block ?_))))))))))))))
   obtain ⟨I2,mu2,c9,HR2⟩:=H
   refine z3 (fun n' L' w'=>∃ (k:Int),∃ (data2:List PV),∃ (hs:List VH),n'=mu2 k data2/\L'=[(0,.slice a0 data.length a5),(10,.int .i64 i),(13,.int .i64 k)]/\I2 k data2/\data.length=data2.length/\GrL [(blk a0)] w w'/\Own vv w' 0 32 a0 a5 hs/\RelD deV w' hs data2/\DnD deV hs data2 (blk a0)/\OrD (fun p=>DnD deV a1 data p) deV hs data2 w.heap.size) _ _ ⟨a,data,a1,rfl,rfl,c9,rfl,gr1,k1,k2,(hap0 _ (List.Mem.head _)),(fun p_ hp_ q_=>q_)⟩ sb ?_
   clear c9
   rintro _ _ w3 ⟨k,data2,hs,rfl,rfl,hI2,a3,gr3,k5,k6,dj1,or1⟩
   have H:=HR2 k data2 hI2
   replace H:=H a3
   refine zd (zd (zb (yp (h:=(yp (h:=?_))))))
   obtain ⟨h8,H⟩:=H
   refine zg rfl (Yld.sub rfl rfl h8) (yp (h:=(ze (za (zm rfl (fun b4=>?_) (fun b4=>?_))))))
   ·replace H:=H.1 (of_decide_eq_true b4)
    refine zo (za (zd (WC.block (zW (fun k => !(Nat.beq k 15 || Nat.beq k 17)) (LD [9,13] (fun w'=>Rd vv w' a0 a5 hs)) jx (by kernel_rfl) (fun k w' h _=>(jQ h k5.rd)) (zA rfl rfl (fun w' hw'=>zh qD rfl) (zA rfl rfl (fun w' hw'=>zh qD rfl) (zA rfl rfl (fun w' hw'=>zh qD rfl) (zA rfl rfl (fun w' hw'=>zh qD rfl) ?_))))))))
    obtain ⟨h9,H⟩:=H
    refine zA rfl rfl (fun w' hw'=>Yld.add rfl rfl h9) (zA rfl rfl (fun w' hw'=>zh qD rfl) (zA rfl rfl (fun w' hw'=>zh qD rfl) ?_))
    obtain ⟨h10,H⟩:=H
    refine zA rfl rfl (fun w' hw'=>Yld.add rfl rfl h10) ?_
    obtain ⟨h11,H⟩:=H
    refine zA rfl rfl (fun w' hw'=>zB qD k5.rd rfl rfl (a3.trans k6.1.symm) rfl h11.1 h11.2) ?_
    obtain ⟨⟨v_el3,F_el3⟩,eh3,hR3⟩:=RelD.at k6 vh0 PV.nil (j:=(k+(1:Int)).toNat) (Nat.lt_of_lt_of_eq (iltN h11 (a3.trans k6.1.symm)) k6.1)
    have hv3:RelD deV w3 [(v_el3,F_el3)] [data2.getD ((k+(1:Int)).toNat) PV.nil]:=RelD.cons hR3 RelD.nil
    refine zA rfl rfl (fun w' hw'=>zR (v:=v_el3.1) (zM vh0 qD (hw' rfl) rfl rfl (iltN h11 (a3.trans k6.1.symm))) (congrArg vv eh3)) (zA rfl rfl (fun w' hw'=>zh qD rfl) (zA rfl rfl (fun w' hw'=>zh qD rfl) ?_))
    obtain ⟨h12,H⟩:=H
    refine zA rfl rfl (fun w' hw'=>zB qD k5.rd rfl rfl (a3.trans k6.1.symm) rfl h12.1 h12.2) ?_
    obtain ⟨⟨v_el4,F_el4⟩,eh4,hR4⟩:=RelD.at k6 vh0 PV.nil (j:=k.toNat) (Nat.lt_of_lt_of_eq (iltN h12 (a3.trans k6.1.symm)) k6.1)
    have hv4:RelD deV w3 [(v_el4,F_el4)] [data2.getD k.toNat PV.nil]:=RelD.cons hR4 RelD.nil
    refine zA rfl rfl (fun w' hw'=>zR (v:=v_el4.1) (zM vh0 qD (hw' rfl) rfl rfl (iltN h12 (a3.trans k6.1.symm))) (congrArg vv eh4)) ?_
    obtain ⟨h13,H⟩:=H
    refine zA rfl rfl (fun w' hw'=>zB qD k5.rd rfl rfl (a3.trans k6.1.symm) rfl h13.1 h13.2) (qw rfl (qk (v:=((v_el3,F_el3):VH)) one32 One.vv k5 rfl rfl (iltN h13 (a3.trans k6.1.symm))) (fun w' h=>qm (by kernel_rfl)) ?_)
    rintro w5 ⟨hO1,hg3⟩
    have gr4:GrL [(blk a0)] w w5:=GrL.mod gr3 hg3 (InP.mem (List.Mem.head _))
    have hr1:RelD deV w5 (hs.set k.toNat (v_el3,F_el3)) (data2.set k.toNat (data2.getD ((k+(1:Int)).toNat) PV.nil)):=RelD.set (k6.go hg3 dj1) (RelD.one (hv3.go hg3 (DnD.cons (DnD.at dj1 k6.1 (Nat.lt_of_lt_of_eq (iltN h11 (a3.trans k6.1.symm)) k6.1) eh3) DnD.nil))) k.toNat
    have nd1:OrD (fun p=>DnD deV a1 data p) deV (hs.set k.toNat (v_el3,F_el3)) (data2.set k.toNat (data2.getD ((k+(1:Int)).toNat) PV.nil)) w.heap.size:=fun p_ hp_ q_=>DnD.set (or1 p_ hp_ q_) (DnD.one (DnD.cons (DnD.at (or1 p_ hp_ q_) k6.1 (Nat.lt_of_lt_of_eq (iltN h11 (a3.trans k6.1.symm)) k6.1) eh3) DnD.nil)) k.toNat
    have dj2:DnD deV (hs.set k.toNat (v_el3,F_el3)) (data2.set k.toNat (data2.getD ((k+(1:Int)).toNat) PV.nil)) (blk a0):=(DnD.set dj1 (DnD.one (DnD.cons (DnD.at dj1 k6.1 (Nat.lt_of_lt_of_eq (iltN h11 (a3.trans k6.1.symm)) k6.1) eh3) DnD.nil)) k.toNat)
    obtain ⟨h14,H⟩:=H
    refine zA rfl rfl (fun w' hw'=>zB qD hO1.rd rfl rfl ((a3.trans k6.1.symm).trans List.length_set.symm) rfl h14.1 h14.2) (qw rfl (qk (v:=((v_el4,F_el4):VH)) one32 One.vv hO1 rfl rfl (iltN h14 ((a3.trans k6.1.symm).trans List.length_set.symm))) (fun w' h=>qm (by kernel_rfl)) ?_)
    rintro w7 ⟨hO2,hg5⟩
    have gr5:GrL [(blk a0)] w w7:=GrL.mod gr4 hg5 (InP.mem (List.Mem.head _))
    have hr2:RelD deV w7 ((hs.set k.toNat (v_el3,F_el3)).set ((k+(1:Int)).toNat) (v_el4,F_el4)) ((data2.set k.toNat (data2.getD ((k+(1:Int)).toNat) PV.nil)).set ((k+(1:Int)).toNat) (data2.getD k.toNat PV.nil)):=RelD.set (hr1.go hg5 dj2) (RelD.one ((hv4.go hg3 (DnD.cons (DnD.at dj1 k6.1 (Nat.lt_of_lt_of_eq (iltN h12 (a3.trans k6.1.symm)) k6.1) eh4) DnD.nil)).go hg5 (DnD.cons (DnD.at dj1 k6.1 (Nat.lt_of_lt_of_eq (iltN h12 (a3.trans k6.1.symm)) k6.1) eh4) DnD.nil))) ((k+(1:Int)).toNat)
    have nd2:OrD (fun p=>DnD deV a1 data p) deV ((hs.set k.toNat (v_el3,F_el3)).set ((k+(1:Int)).toNat) (v_el4,F_el4)) ((data2.set k.toNat (data2.getD ((k+(1:Int)).toNat) PV.nil)).set ((k+(1:Int)).toNat) (data2.getD k.toNat PV.nil)) w.heap.size:=fun p_ hp_ q_=>DnD.set (nd1 p_ hp_ q_) (DnD.one (DnD.cons (DnD.at (or1 p_ hp_ q_) k6.1 (Nat.lt_of_lt_of_eq (iltN h12 (a3.trans k6.1.symm)) k6.1) eh4) DnD.nil)) ((k+(1:Int)).toNat)
    have dj3:DnD deV ((hs.set k.toNat (v_el3,F_el3)).set ((k+(1:Int)).toNat) (v_el4,F_el4)) ((data2.set k.toNat (data2.getD ((k+(1:Int)).toNat) PV.nil)).set ((k+(1:Int)).toNat) (data2.getD k.toNat PV.nil)) (blk a0):=(DnD.set dj2 (DnD.one (DnD.cons (DnD.at dj1 k6.1 (Nat.lt_of_lt_of_eq (iltN h12 (a3.trans k6.1.symm)) k6.1) eh4) DnD.nil)) ((k+(1:Int)).toNat))
    refine qh (zi (za (zb (yp (h:=?_)))))
    obtain ⟨h15,H⟩:=H
    exact zg rfl (Yld.add rfl rfl h15) (yp (h:=(ze (zX _ ⟨k+(1:Int),(data2.set k.toNat (data2.getD ((k+(1:Int)).toNat) PV.nil)).set ((k+(1:Int)).toNat) (data2.getD k.toNat PV.nil),(hs.set k.toNat (v_el3,F_el3)).set ((k+(1:Int)).toNat) (v_el4,F_el4),rfl,rfl,H.1,((((a3.trans k6.1.symm).trans List.length_set.symm).trans List.length_set.symm).trans hr2.1),gr5,hO2,hr2,dj3,nd2⟩ sb H.2))))
   ·replace H:=H.2 (of_decide_eq_false b4)
    exact zy (zk (zk (zl (za (zt (zf (WX.ret0 rfl ⟨gr3,data2,hs,rfl,k5,(a3.trans k6.1.symm).symm,k6,(fun p_ hp_ v0_=>or1 p_ hp_ v0_),dj1,H⟩)))))))
 ·replace H:=H.2 (of_decide_eq_false b1)
  refine zo (za (zd (zd (zb (yp (h:=(yp (h:=?_))))))))
  obtain ⟨h16,H⟩:=H
  refine zg rfl (Yld.sub rfl rfl h16) (yp (h:=(ze (za (zm rfl (fun b5=>?_) (fun b5=>?_))))))
  ·replace H:=H.1 (of_decide_eq_true b5)
   refine zd (zb (yp (h:=(yp (h:=(ze (za (zd (zb (yp (h:=(yp (h:=(ze (za (zd (WC.block ?_)))))))))))))))))
   obtain ⟨I3,mu3,d2,HR3⟩:=H
   refine z3 (fun n' L' w'=>∃ (i2:Int),∃ (j2:Int),n'=mu3 i2 j2/\L'=[(0,.slice a0 data.length a5),(2,.int .i64 m),(4,.func (.func 150) #[] #[.pointer (some ⟨a6,0,none⟩),.pointer (some ⟨a7,0,none⟩)]),(14,.int .i64 i2),(15,.int .i64 j2)]/\I3 i2 j2/\GrL [(blk a0)] w w'/\Own vv w' 0 32 a0 a5 a1/\RelD deV w' a1 data) _ _ ⟨a,m,rfl,rfl,d2,(GrL.refl _),hdata,a8⟩ sb ?_
   clear d2
   rintro _ _ w8 ⟨i2,j2,rfl,rfl,hI3,gr6,k12,k13⟩
   have H:=HR3 i2 j2 hI3
   refine zd (zd (zb (yp (h:=(yp (h:=(yp (h:=(ze (za (zm rfl (fun b6=>?_) (fun b6=>?_))))))))))))
   ·replace H:=H.1 (of_decide_eq_true b6)
    refine zo (za (WC.block (zd (zb (yp (h:=(yp (h:=?_))))))))
    obtain ⟨h17,H⟩:=H
    refine zg rfl (Yld.add rfl rfl h17) ?_
    obtain ⟨h18,H⟩:=H
    refine zg rfl (zw qD rfl rfl rfl h18) (zg rfl (zL rfl rfl (by omega)) ?_)
    obtain ⟨h19,H⟩:=H
    refine zg rfl (zw qD rfl rfl rfl h19) (yp (h:=(ze (za (zd (zW (fun k => !(Nat.beq k 9)) (LD [4,8] (fun w'=>Rd vv w' a0 a5 a1)) jx (by kernel_rfl) (fun k w' h _=>(jQ h k12.rd)) (zA rfl rfl (fun w' hw'=>zh qD rfl) (zA rfl rfl (fun w' hw'=>zh qD rfl) (zA rfl rfl (fun w' hw'=>zh qD rfl) ?_)))))))))
    obtain ⟨h20,H⟩:=H
    refine zA rfl rfl (fun w' hw'=>zB qD k12.rd rfl rfl a8.1.symm rfl h20.1 h20.2) ?_
    obtain ⟨⟨v_el5,F_el5⟩,eh5,hR5⟩:=RelD.at k13 vh0 PV.nil (j:=m.toNat) (Nat.lt_of_lt_of_eq (iltN h20 a8.1.symm) k13.1)
    have hv5:RelD deV w8 [(v_el5,F_el5)] [data.getD m.toNat PV.nil]:=RelD.cons hR5 RelD.nil
    refine zA rfl rfl (fun w' hw'=>zR (v:=v_el5.1) (zM vh0 qD (hw' rfl) rfl rfl (iltN h20 a8.1.symm)) (congrArg vv eh5)) (zA rfl rfl (fun w' hw'=>zh qD rfl) (zA rfl rfl (fun w' hw'=>zh qD rfl) ?_))
    obtain ⟨h21,H⟩:=H
    refine zA rfl rfl (fun w' hw'=>zB qD k12.rd rfl rfl a8.1.symm rfl h21.1 h21.2) ?_
    obtain ⟨⟨v_el6,F_el6⟩,eh6,hR6⟩:=RelD.at k13 vh0 PV.nil (j:=(shrV .u64 (i2+j2) 1).toNat) (Nat.lt_of_lt_of_eq (iltN h21 a8.1.symm) k13.1)
    have hv6:RelD deV w8 [(v_el6,F_el6)] [data.getD ((shrV .u64 (i2+j2) 1).toNat) PV.nil]:=RelD.cons hR6 RelD.nil
    refine zA rfl rfl (fun w' hw'=>zR (v:=v_el6.1) (zM vh0 qD (hw' rfl) rfl rfl (iltN h21 a8.1.symm)) (congrArg vv eh6)) (WJ.callv rfl rfl rfl rfl (ky (hG.goL gr6 hP).ok hS3 hS7 hv5 hv6 (hcap0.goL gr6 hap1) (hcap1.goL gr6 hap2) H) (fun v w' h w2 e=>DD.keep (Rd.grown k12.rd (jo h.1 e))) ?_)
    rintro _ w9 ⟨hg6,t101,rfl,H⟩
    have gr7:=GrL.add0 gr6 hg6
    have k14:=k12.grown hg6
    have k15:=k13.grown hg6
    refine zA rfl rfl (fun w' hw'=>zh qD rfl) (zA rfl rfl (fun w' hw'=>zh qD rfl) (qh (za (zm rfl (fun b7=>?_) (fun b7=>?_)))))
    ·replace H:=H.1 (jw b7)
     refine zb (yp (h:=?_))
     obtain ⟨h22,H⟩:=H
     exact zg rfl (Yld.add rfl rfl h22) (yp (h:=(ze (zi (zX _ ⟨(shrV .u64 (i2+j2) 1)+(1:Int),j2,rfl,rfl,H.1,gr7,k14,k15⟩ sb H.2)))))
    ·replace H:=H.2 (jq b7)
     exact zb (yp (h:=(yp (h:=(ze (zi (zX _ ⟨i2,shrV .u64 (i2+j2) 1,rfl,rfl,H.1,gr7,k14,k15⟩ sb H.2)))))))
   ·replace H:=H.2 (of_decide_eq_false b6)
    refine zy (zk (zk (zl (za (zd (zd (zb (yp (h:=(yp (h:=(ze (za (WC.block ?_))))))))))))))
    obtain ⟨I4,mu4,e1,HR4⟩:=H
    refine z3 (fun n' L' w'=>∃ (k_2:Int),∃ (data3:List PV),∃ (hs2:List VH),n'=mu4 k_2 data3/\L'=[(0,.slice a0 data.length a5),(14,.int .i64 i2),(17,.int .i64 k_2)]/\I4 k_2 data3/\data.length=data3.length/\GrL [(blk a0)] w w'/\Own vv w' 0 32 a0 a5 hs2/\RelD deV w' hs2 data3/\DnD deV hs2 data3 (blk a0)/\OrD (fun p=>DnD deV a1 data p) deV hs2 data3 w.heap.size) _ _ ⟨m,data,a1,rfl,rfl,e1,rfl,gr6,k12,k13,(hap0 _ (List.Mem.head _)),(fun p_ hp_ q_=>q_)⟩ sb ?_
    clear e1
    rintro _ _ w10 ⟨k_2,data3,hs2,rfl,rfl,hI4,a4,gr8,k16,k17,dj4,or2⟩
    have H:=HR4 k_2 data3 hI4
    replace H:=H a4
    refine zd (zd (zb (yp (h:=(yp (h:=(yp (h:=(ze (za (zm rfl (fun b8=>?_) (fun b8=>?_))))))))))))
    ·replace H:=H.1 (of_decide_eq_true b8)
     refine zo (za (zd (WC.block (zW (fun k => !(Nat.beq k 15 || Nat.beq k 17)) (LD [9,13] (fun w'=>Rd vv w' a0 a5 hs2)) jx (by kernel_rfl) (fun k w' h _=>(jQ h k16.rd)) (zA rfl rfl (fun w' hw'=>zh qD rfl) (zA rfl rfl (fun w' hw'=>zh qD rfl) (zA rfl rfl (fun w' hw'=>zh qD rfl) (zA rfl rfl (fun w' hw'=>zh qD rfl) ?_))))))))
     obtain ⟨h23,H⟩:=H
     refine zA rfl rfl (fun w' hw'=>Yld.sub rfl rfl h23) (zA rfl rfl (fun w' hw'=>zh qD rfl) (zA rfl rfl (fun w' hw'=>zh qD rfl) ?_))
     obtain ⟨h24,H⟩:=H
     refine zA rfl rfl (fun w' hw'=>Yld.sub rfl rfl h24) ?_
     obtain ⟨h25,H⟩:=H
     refine zA rfl rfl (fun w' hw'=>zB qD k16.rd rfl rfl (a4.trans k17.1.symm) rfl h25.1 h25.2) ?_
     obtain ⟨⟨v_el7,F_el7⟩,eh7,hR7⟩:=RelD.at k17 vh0 PV.nil (j:=(k_2 - (1:Int)).toNat) (Nat.lt_of_lt_of_eq (iltN h25 (a4.trans k17.1.symm)) k17.1)
     have hv7:RelD deV w10 [(v_el7,F_el7)] [data3.getD ((k_2 - (1:Int)).toNat) PV.nil]:=RelD.cons hR7 RelD.nil
     refine zA rfl rfl (fun w' hw'=>zR (v:=v_el7.1) (zM vh0 qD (hw' rfl) rfl rfl (iltN h25 (a4.trans k17.1.symm))) (congrArg vv eh7)) (zA rfl rfl (fun w' hw'=>zh qD rfl) (zA rfl rfl (fun w' hw'=>zh qD rfl) ?_))
     obtain ⟨h26,H⟩:=H
     refine zA rfl rfl (fun w' hw'=>zB qD k16.rd rfl rfl (a4.trans k17.1.symm) rfl h26.1 h26.2) ?_
     obtain ⟨⟨v_el8,F_el8⟩,eh8,hR8⟩:=RelD.at k17 vh0 PV.nil (j:=k_2.toNat) (Nat.lt_of_lt_of_eq (iltN h26 (a4.trans k17.1.symm)) k17.1)
     have hv8:RelD deV w10 [(v_el8,F_el8)] [data3.getD k_2.toNat PV.nil]:=RelD.cons hR8 RelD.nil
     refine zA rfl rfl (fun w' hw'=>zR (v:=v_el8.1) (zM vh0 qD (hw' rfl) rfl rfl (iltN h26 (a4.trans k17.1.symm))) (congrArg vv eh8)) ?_
     obtain ⟨h27,H⟩:=H
     refine zA rfl rfl (fun w' hw'=>zB qD k16.rd rfl rfl (a4.trans k17.1.symm) rfl h27.1 h27.2) (qw rfl (qk (v:=((v_el7,F_el7):VH)) one32 One.vv k16 rfl rfl (iltN h27 (a4.trans k17.1.symm))) (fun w' h=>qm (by kernel_rfl)) ?_)
     rintro w12 ⟨hO3,hg8⟩
     have gr9:GrL [(blk a0)] w w12:=GrL.mod gr8 hg8 (InP.mem (List.Mem.head _))
     have hr3:RelD deV w12 (hs2.set k_2.toNat (v_el7,F_el7)) (data3.set k_2.toNat (data3.getD ((k_2 - (1:Int)).toNat) PV.nil)):=RelD.set (k17.go hg8 dj4) (RelD.one (hv7.go hg8 (DnD.cons (DnD.at dj4 k17.1 (Nat.lt_of_lt_of_eq (iltN h25 (a4.trans k17.1.symm)) k17.1) eh7) DnD.nil))) k_2.toNat
     have nd3:OrD (fun p=>DnD deV a1 data p) deV (hs2.set k_2.toNat (v_el7,F_el7)) (data3.set k_2.toNat (data3.getD ((k_2 - (1:Int)).toNat) PV.nil)) w.heap.size:=fun p_ hp_ q_=>DnD.set (or2 p_ hp_ q_) (DnD.one (DnD.cons (DnD.at (or2 p_ hp_ q_) k17.1 (Nat.lt_of_lt_of_eq (iltN h25 (a4.trans k17.1.symm)) k17.1) eh7) DnD.nil)) k_2.toNat
     have dj5:DnD deV (hs2.set k_2.toNat (v_el7,F_el7)) (data3.set k_2.toNat (data3.getD ((k_2 - (1:Int)).toNat) PV.nil)) (blk a0):=(DnD.set dj4 (DnD.one (DnD.cons (DnD.at dj4 k17.1 (Nat.lt_of_lt_of_eq (iltN h25 (a4.trans k17.1.symm)) k17.1) eh7) DnD.nil)) k_2.toNat)
     obtain ⟨h28,H⟩:=H
     refine zA rfl rfl (fun w' hw'=>zB qD hO3.rd rfl rfl ((a4.trans k17.1.symm).trans List.length_set.symm) rfl h28.1 h28.2) (qw rfl (qk (v:=((v_el8,F_el8):VH)) one32 One.vv hO3 rfl rfl (iltN h28 ((a4.trans k17.1.symm).trans List.length_set.symm))) (fun w' h=>qm (by kernel_rfl)) ?_)
     rintro w14 ⟨hO4,hg10⟩
     have gr10:GrL [(blk a0)] w w14:=GrL.mod gr9 hg10 (InP.mem (List.Mem.head _))
     have hr4:RelD deV w14 ((hs2.set k_2.toNat (v_el7,F_el7)).set ((k_2 - (1:Int)).toNat) (v_el8,F_el8)) ((data3.set k_2.toNat (data3.getD ((k_2 - (1:Int)).toNat) PV.nil)).set ((k_2 - (1:Int)).toNat) (data3.getD k_2.toNat PV.nil)):=RelD.set (hr3.go hg10 dj5) (RelD.one ((hv8.go hg8 (DnD.cons (DnD.at dj4 k17.1 (Nat.lt_of_lt_of_eq (iltN h26 (a4.trans k17.1.symm)) k17.1) eh8) DnD.nil)).go hg10 (DnD.cons (DnD.at dj4 k17.1 (Nat.lt_of_lt_of_eq (iltN h26 (a4.trans k17.1.symm)) k17.1) eh8) DnD.nil))) ((k_2 - (1:Int)).toNat)
     have nd4:OrD (fun p=>DnD deV a1 data p) deV ((hs2.set k_2.toNat (v_el7,F_el7)).set ((k_2 - (1:Int)).toNat) (v_el8,F_el8)) ((data3.set k_2.toNat (data3.getD ((k_2 - (1:Int)).toNat) PV.nil)).set ((k_2 - (1:Int)).toNat) (data3.getD k_2.toNat PV.nil)) w.heap.size:=fun p_ hp_ q_=>DnD.set (nd3 p_ hp_ q_) (DnD.one (DnD.cons (DnD.at (or2 p_ hp_ q_) k17.1 (Nat.lt_of_lt_of_eq (iltN h26 (a4.trans k17.1.symm)) k17.1) eh8) DnD.nil)) ((k_2 - (1:Int)).toNat)
     have dj6:DnD deV ((hs2.set k_2.toNat (v_el7,F_el7)).set ((k_2 - (1:Int)).toNat) (v_el8,F_el8)) ((data3.set k_2.toNat (data3.getD ((k_2 - (1:Int)).toNat) PV.nil)).set ((k_2 - (1:Int)).toNat) (data3.getD k_2.toNat PV.nil)) (blk a0):=(DnD.set dj5 (DnD.one (DnD.cons (DnD.at dj4 k17.1 (Nat.lt_of_lt_of_eq (iltN h26 (a4.trans k17.1.symm)) k17.1) eh8) DnD.nil)) ((k_2 - (1:Int)).toNat))
     refine qh (zi (za (zb (yp (h:=?_)))))
     obtain ⟨h29,H⟩:=H
     exact zg rfl (Yld.sub rfl rfl h29) (yp (h:=(ze (zX _ ⟨k_2 - (1:Int),(data3.set k_2.toNat (data3.getD ((k_2 - (1:Int)).toNat) PV.nil)).set ((k_2 - (1:Int)).toNat) (data3.getD k_2.toNat PV.nil),(hs2.set k_2.toNat (v_el7,F_el7)).set ((k_2 - (1:Int)).toNat) (v_el8,F_el8),rfl,rfl,H.1,((((a4.trans k17.1.symm).trans List.length_set.symm).trans List.length_set.symm).trans hr4.1),gr10,hO4,hr4,dj6,nd4⟩ sb H.2))))
    ·replace H:=H.2 (of_decide_eq_false b8)
     exact zy (zk (zk (zl (za (zt (zf (WX.ret0 rfl ⟨gr8,data3,hs2,rfl,k16,(a4.trans k17.1.symm).symm,k17,(fun p_ hp_ v0_=>or2 p_ hp_ v0_),dj4,H⟩)))))))
  ·replace H:=H.2 (of_decide_eq_false b5)
   refine zo (za (zd (zb (yp (h:=(yp (h:=?_)))))))
   obtain ⟨h30,H⟩:=H
   refine zg rfl (Yld.add rfl rfl h30) ?_
   obtain ⟨h31,H⟩:=H
   refine zg rfl (zw qD rfl rfl rfl h31) (zg rfl (zL rfl rfl (by omega)) ?_)
   obtain ⟨h32,H⟩:=H
   refine zg rfl (zw qD rfl rfl rfl h32) (yp (h:=(ze (za (zd (zb (yp (h:=(yp (h:=?_))))))))))
   obtain ⟨h33,H⟩:=H
   refine zg rfl (Yld.add rfl rfl h33) (yp (h:=(ze (za (zd (zb (yp (h:=(yp (h:=(ze (za (zd ?_)))))))))))))
   obtain ⟨J1,H,hJ1⟩:=H
   refine qo (fun L' w'=>∃ (start:Int),∃ (r:Int),L'=[(0,.slice a0 data.length a5),(1,.int .i64 a),(2,.int .i64 m),(3,.int .i64 b),(4,.func (.func 150) #[] #[.pointer (some ⟨a6,0,none⟩),.pointer (some ⟨a7,0,none⟩)]),(18,.int .i64 (shrV .u64 (a+b) 1)),(19,.int .i64 ((shrV .u64 (a+b) 1)+m)),(20,.int .i64 start),(21,.int .i64 r)]/\J1 start r/\w=w') ?_ (fun hQ=>?_)
   ·clear H
    rintro _ _ ⟨start,r,rfl,H,rfl⟩
    replace H:=hJ1 start r H
    refine za (zd (zb (yp (h:=?_))))
    obtain ⟨h34,H⟩:=H
    refine zg rfl (Yld.sub rfl rfl h34) (yp (h:=(ze (za (zd (WC.block ?_))))))
    obtain ⟨I5,mu5,e2,HR5⟩:=H
    refine z3 (fun n' L' w'=>∃ (start2:Int),∃ (r2:Int),n'=mu5 start2 r2/\L'=[(0,.slice a0 data.length a5),(1,.int .i64 a),(2,.int .i64 m),(3,.int .i64 b),(4,.func (.func 150) #[] #[.pointer (some ⟨a6,0,none⟩),.pointer (some ⟨a7,0,none⟩)]),(18,.int .i64 (shrV .u64 (a+b) 1)),(19,.int .i64 ((shrV .u64 (a+b) 1)+m)),(20,.int .i64 start2),(21,.int .i64 r2),(22,.int .i64 (((shrV .u64 (a+b) 1)+m) - (1:Int)))]/\I5 start2 r2/\GrL [(blk a0)] w w'/\Own vv w' 0 32 a0 a5 a1/\RelD deV w' a1 data) _ _ ⟨start,r,rfl,rfl,e2,(GrL.refl _),hdata,a8⟩ sb ?_
    clear e2
    rintro _ _ w15 ⟨start2,r2,rfl,rfl,hI5,gr11,k23,k24⟩
    have H:=HR5 start2 r2 hI5
    refine zd (zd (zb (yp (h:=(yp (h:=(yp (h:=(ze (za (zm rfl (fun b9=>?_) (fun b9=>?_))))))))))))
    ·replace H:=H.1 (of_decide_eq_true b9)
     refine zo (za (WC.block (zd (zb (yp (h:=(yp (h:=?_))))))))
     obtain ⟨h35,H⟩:=H
     refine zg rfl (Yld.add rfl rfl h35) ?_
     obtain ⟨h36,H⟩:=H
     refine zg rfl (zw qD rfl rfl rfl h36) (zg rfl (zL rfl rfl (by omega)) ?_)
     obtain ⟨h37,H⟩:=H
     refine zg rfl (zw qD rfl rfl rfl h37) (yp (h:=(ze (za (zd (zW (fun k => !(Nat.beq k 11)) (LD [6,10] (fun w'=>Rd vv w' a0 a5 a1)) jx (by kernel_rfl) (fun k w' h _=>(jQ h k23.rd)) (zA rfl rfl (fun w' hw'=>zh qD rfl) (zA rfl rfl (fun w' hw'=>zh qD rfl) (zA rfl rfl (fun w' hw'=>zh qD rfl) (zA rfl rfl (fun w' hw'=>zh qD rfl) ?_))))))))))
     obtain ⟨h38,H⟩:=H
     refine zA rfl rfl (fun w' hw'=>Yld.sub rfl rfl h38) ?_
     obtain ⟨h39,H⟩:=H
     refine zA rfl rfl (fun w' hw'=>zB qD k23.rd rfl rfl a8.1.symm rfl h39.1 h39.2) ?_
     obtain ⟨⟨v_el9,F_el9⟩,eh9,hR9⟩:=RelD.at k24 vh0 PV.nil (j:=((((shrV .u64 (a+b) 1)+m) - (1:Int)) - (shrV .u64 (start2+r2) 1)).toNat) (Nat.lt_of_lt_of_eq (iltN h39 a8.1.symm) k24.1)
     have hv9:RelD deV w15 [(v_el9,F_el9)] [data.getD (((((shrV .u64 (a+b) 1)+m) - (1:Int)) - (shrV .u64 (start2+r2) 1)).toNat) PV.nil]:=RelD.cons hR9 RelD.nil
     refine zA rfl rfl (fun w' hw'=>zR (v:=v_el9.1) (zM vh0 qD (hw' rfl) rfl rfl (iltN h39 a8.1.symm)) (congrArg vv eh9)) (zA rfl rfl (fun w' hw'=>zh qD rfl) (zA rfl rfl (fun w' hw'=>zh qD rfl) ?_))
     obtain ⟨h40,H⟩:=H
     refine zA rfl rfl (fun w' hw'=>zB qD k23.rd rfl rfl a8.1.symm rfl h40.1 h40.2) ?_
     obtain ⟨⟨v_el10,F_el10⟩,eh10,hR10⟩:=RelD.at k24 vh0 PV.nil (j:=(shrV .u64 (start2+r2) 1).toNat) (Nat.lt_of_lt_of_eq (iltN h40 a8.1.symm) k24.1)
     have hv10:RelD deV w15 [(v_el10,F_el10)] [data.getD ((shrV .u64 (start2+r2) 1).toNat) PV.nil]:=RelD.cons hR10 RelD.nil
     refine zA rfl rfl (fun w' hw'=>zR (v:=v_el10.1) (zM vh0 qD (hw' rfl) rfl rfl (iltN h40 a8.1.symm)) (congrArg vv eh10)) (WJ.callv rfl rfl rfl rfl (ky (hG.goL gr11 hP).ok hS3 hS7 hv9 hv10 (hcap0.goL gr11 hap1) (hcap1.goL gr11 hap2) H) (fun v w' h w2 e=>DD.keep (Rd.grown k23.rd (jo h.1 e))) ?_)
     rintro _ w16 ⟨hg11,t169,rfl,H⟩
     have gr12:=GrL.add0 gr11 hg11
     have k25:=k23.grown hg11
     have k26:=k24.grown hg11
     refine zA rfl rfl (fun w' hw'=>zh qD rfl) (zA rfl rfl (fun w' hw'=>zh qD rfl) (qh (za (zm rfl (fun b10=>?_) (fun b10=>?_)))))
     ·replace H:=H.1 (jw b10)
      refine zb (yp (h:=?_))
      obtain ⟨h41,H⟩:=H
      exact zg rfl (Yld.add rfl rfl h41) (yp (h:=(ze (zi (zX _ ⟨(shrV .u64 (start2+r2) 1)+(1:Int),r2,rfl,rfl,H.1,gr12,k25,k26⟩ sb H.2)))))
     ·replace H:=H.2 (jq b10)
      exact zb (yp (h:=(yp (h:=(ze (zi (zX _ ⟨start2,shrV .u64 (start2+r2) 1,rfl,rfl,H.1,gr12,k25,k26⟩ sb H.2)))))))
    ·replace H:=H.2 (of_decide_eq_false b9)
     refine zy (zk (zk (zl (za (zd (zb (yp (h:=(yp (h:=?_))))))))))
     obtain ⟨h42,H⟩:=H
     refine zg rfl (Yld.sub rfl rfl h42) (yp (h:=(ze (za (zd ?_)))))
     obtain ⟨J2,H,hJ2⟩:=H
     refine qo (fun L' w'=>∃ (xs:List PV),∃ (hs3:List VH),L'=[(0,.slice a0 data.length a5),(1,.int .i64 a),(3,.int .i64 b),(4,.func (.func 150) #[] #[.pointer (some ⟨a6,0,none⟩),.pointer (some ⟨a7,0,none⟩)]),(18,.int .i64 (shrV .u64 (a+b) 1)),(20,.int .i64 start2),(24,.int .i64 (((shrV .u64 (a+b) 1)+m) - start2))]/\J2 xs/\data.length=xs.length/\GrL [(blk a0)] w w'/\Own vv w' 0 32 a0 a5 hs3/\RelD deV w' hs3 xs/\DnD deV hs3 xs (blk a0)/\OrD (fun p=>DnD deV a1 data p) deV hs3 xs w.heap.size) ?_ (fun hQ=>?_)
     ·clear H
      rintro _ w17 ⟨xs,hs3,rfl,H,c5,gr13,k27,k28,dj7,or3⟩
      replace H:=hJ2 xs H
      replace H:=H c5
      refine za (zd ?_)
      obtain ⟨J3,H,hJ3⟩:=H
      refine qo (fun L' w'=>∃ (xs2:List PV),∃ (hs4:List VH),L'=[(0,.slice a0 data.length a5),(3,.int .i64 b),(4,.func (.func 150) #[] #[.pointer (some ⟨a6,0,none⟩),.pointer (some ⟨a7,0,none⟩)]),(18,.int .i64 (shrV .u64 (a+b) 1)),(24,.int .i64 (((shrV .u64 (a+b) 1)+m) - start2))]/\J3 xs2/\data.length=xs2.length/\GrL [(blk a0)] w w'/\Own vv w' 0 32 a0 a5 hs4/\RelD deV w' hs4 xs2/\DnD deV hs4 xs2 (blk a0)/\OrD (fun p=>DnD deV a1 data p) deV hs4 xs2 w.heap.size) ?_ (fun hQ=>?_)
      ·clear H
       rintro _ w18 ⟨xs2,hs4,rfl,H,c8,gr14,k29,k30,dj8,or4⟩
       replace H:=hJ3 xs2 H
       replace H:=H c8
       refine za (zd (zb (yp (h:=(yp (h:=(yp (h:=(yp (h:=(zV 4 (fun L' w'=>∃ q1:Bool,L'=[(213,.bool q1),(0,.slice a0 data.length a5),(3,.int .i64 b),(4,.func (.func 150) #[] #[.pointer (some ⟨a6,0,none⟩),.pointer (some ⟨a7,0,none⟩)]),(18,.int .i64 (shrV .u64 (a+b) 1)),(24,.int .i64 (((shrV .u64 (a+b) 1)+m) - start2))]/\((decide ((shrV .u64 (a+b) 1)<(((shrV .u64 (a+b) 1)+m) - start2))) && (decide ((((shrV .u64 (a+b) 1)+m) - start2)<b)))=q1/\w18=w') ?_ (fun hQ=>?_))))))))))))
       ·rintro _ _ ⟨q1,rfl,rfl,rfl⟩
        refine ze (za (zm rfl (fun b11=>?_) (fun b11=>?_)))
        ·replace H:=H.1 (b11)
         refine zb (yp (h:=(yp (h:=(yp (h:=(yp (h:=(yp (h:=(zx rfl rfl (WR (hG.goL gr14 hP) (Nat.le_trans hB (GrL.sizeL gr14)) (apC (InP.toGe (InP.mem (List.Mem.head _)) hP hB) apN) hS3 hS7 k29 ((c8.trans k30.1.symm).trans k30.1) k30 (hcap0.goL gr14 hap1) (hcap1.goL gr14 hap2) (apC dj8 apN) (apC (InP.dj (InP.mem (List.Mem.head _)) hcap0.lt' hap1).symm apN) (apC (InP.dj (InP.mem (List.Mem.head _)) hcap1.lt' hap2).symm apN) H) ?_)))))))))))
         rintro _ w19 ⟨hgl1,ys,c1,rfl,hO5,hl1,hr5,ho1,dj9,H⟩
         have gr15:GrL [(blk a0)] w w19:=GrL.modL gr14 hgl1 (apC (InP.mem (List.Mem.head _)) apN)
         have k31:=k30.goL hgl1 (apC dj8 apN)
         exact ze (qd rfl ⟨gr15,ys,c1,rfl,hO5,((c8.trans k30.1.symm).trans (k30.1.trans hl1.symm)).symm,hr5,(fun p_ hp_ v0_=>have q_:=v0_; ho1 p_ (fun g_ e_=>Nat.lt_of_lt_of_le (hp_ g_ e_) (GrL.sizeL gr14)) (or4 p_ hp_ q_)),dj9,H⟩)
        ·replace H:=H.2 (b11)
         exact zo (qd rfl ⟨gr14,xs2,hs4,rfl,k29,(c8.trans k30.1.symm).symm,k30,(fun p_ hp_ v0_=>or4 p_ hp_ v0_),dj8,H⟩)
       ·clear H
        rcases Bool.eq_false_or_eq_true (decide ((shrV .u64 (a+b) 1)<(((shrV .u64 (a+b) 1)+m) - start2))) with b12 | b12
        ·exact gp b12 (h:=(gp b12 (h:=(gp b12 (h:=(zg rfl (zQ (okb b12) rfl) (wk (hQ _ _ ⟨decide ((((shrV .u64 (a+b) 1)+m) - start2)<b),rfl,by rw [b12] <;> rfl,rfl⟩))))))))
        ·exact gn b12 (h:=(gn b12 (h:=(gn b12 (h:=(zg rfl (zK (okb b12) rfl) (wk (hQ _ _ ⟨false,rfl,by rw [b12] <;> rfl,rfl⟩))))))))
      ·clear hJ3
       refine zd (zb (yp (h:=(yp (h:=(yp (h:=(yp (h:=(zV 4 (fun L' w'=>∃ q2:Bool,L'=[(199,.bool q2),(0,.slice a0 data.length a5),(1,.int .i64 a),(3,.int .i64 b),(4,.func (.func 150) #[] #[.pointer (some ⟨a6,0,none⟩),.pointer (some ⟨a7,0,none⟩)]),(18,.int .i64 (shrV .u64 (a+b) 1)),(20,.int .i64 start2),(24,.int .i64 (((shrV .u64 (a+b) 1)+m) - start2))]/\((decide (a<start2)) && (decide (start2<(shrV .u64 (a+b) 1))))=q2/\w17=w') ?_ (fun hQ=>?_)))))))))))
       ·rintro _ _ ⟨q2,rfl,rfl,rfl⟩
        refine ze (za (zm rfl (fun b13=>?_) (fun b13=>?_)))
        ·replace H:=H.1 (b13)
         refine zb (yp (h:=(yp (h:=(yp (h:=(yp (h:=(yp (h:=(zx rfl rfl (WR (hG.goL gr13 hP) (Nat.le_trans hB (GrL.sizeL gr13)) (apC (InP.toGe (InP.mem (List.Mem.head _)) hP hB) apN) hS3 hS7 k27 ((c5.trans k28.1.symm).trans k28.1) k28 (hcap0.goL gr13 hap1) (hcap1.goL gr13 hap2) (apC dj7 apN) (apC (InP.dj (InP.mem (List.Mem.head _)) hcap0.lt' hap1).symm apN) (apC (InP.dj (InP.mem (List.Mem.head _)) hcap1.lt' hap2).symm apN) H) ?_)))))))))))
         rintro _ w20 ⟨hgl2,ys2,c2,rfl,hO6,hl2,hr6,ho2,dj10,H⟩
         have gr16:GrL [(blk a0)] w w20:=GrL.modL gr13 hgl2 (apC (InP.mem (List.Mem.head _)) apN)
         have k32:=k28.goL hgl2 (apC dj7 apN)
         exact ze (WX.weaken sb (hQ _ _ ⟨ys2,c2,rfl,H,(((c5.trans k28.1.symm).trans (k28.1.trans hl2.symm)).trans hr6.1),gr16,hO6,hr6,dj10,(fun p_ hp_ q_=>ho2 p_ (fun g_ e_=>Nat.lt_of_lt_of_le (hp_ g_ e_) (GrL.sizeL gr13)) (or3 p_ hp_ q_))⟩))
        ·replace H:=H.2 (b13)
         exact zo (WX.weaken sb (hQ _ _ ⟨xs,hs3,rfl,H,((c5.trans k28.1.symm).trans k28.1),gr13,k27,k28,dj7,or3⟩))
       ·clear H
        rcases Bool.eq_false_or_eq_true (decide (a<start2)) with b14 | b14
        ·exact gp b14 (h:=(gp b14 (h:=(gp b14 (h:=(zg rfl (zQ (okb b14) rfl) (wk (hQ _ _ ⟨decide (start2<(shrV .u64 (a+b) 1)),rfl,by rw [b14] <;> rfl,rfl⟩))))))))
        ·exact gn b14 (h:=(gn b14 (h:=(gn b14 (h:=(zg rfl (zK (okb b14) rfl) (wk (hQ _ _ ⟨false,rfl,by rw [b14] <;> rfl,rfl⟩))))))))
     ·clear hJ2
      refine zd (zb (yp (h:=(yp (h:=(yp (h:=(yp (h:=(zV 4 (fun L' w'=>∃ q3:Bool,L'=[(185,.bool q3),(0,.slice a0 data.length a5),(1,.int .i64 a),(2,.int .i64 m),(3,.int .i64 b),(4,.func (.func 150) #[] #[.pointer (some ⟨a6,0,none⟩),.pointer (some ⟨a7,0,none⟩)]),(18,.int .i64 (shrV .u64 (a+b) 1)),(20,.int .i64 start2),(24,.int .i64 (((shrV .u64 (a+b) 1)+m) - start2))]/\((decide (start2<m)) && (decide (m<(((shrV .u64 (a+b) 1)+m) - start2))))=q3/\w15=w') ?_ (fun hQ=>?_)))))))))))
      ·rintro _ _ ⟨q3,rfl,rfl,rfl⟩
       refine ze (za (zm rfl (fun b15=>?_) (fun b15=>?_)))
       ·replace H:=H.1 (b15)
        refine zb (yp (h:=(yp (h:=(yp (h:=(yp (h:=(yp (h:=(zx rfl rfl (jZ k23 rfl k24 (hcap0.goL gr11 hap1) (hcap1.goL gr11 hap2) (apC (hap0 _ (List.Mem.head _)) apN) (apC (InP.dj (InP.mem (List.Mem.head _)) hcap0.lt' hap1).symm apN) (apC (InP.dj (InP.mem (List.Mem.head _)) hcap1.lt' hap2).symm apN) H) ?_)))))))))))
        rintro _ w21 ⟨hgl3,ys3,c6,rfl,hO7,hl3,hr7,ho3,dj11,H⟩
        have gr17:GrL [(blk a0)] w w21:=GrL.modL gr11 hgl3 (apC (InP.mem (List.Mem.head _)) apN)
        have k33:=k24.goL hgl3 (apC (hap0 _ (List.Mem.head _)) apN)
        exact ze (WX.weaken sb (hQ _ _ ⟨ys3,c6,rfl,H,((a8.1.symm.trans (k24.1.trans hl3.symm)).trans hr7.1),gr17,hO7,hr7,dj11,(fun p_ hp_ q_=>ho3 p_ (fun g_ e_=>Nat.lt_of_lt_of_le (hp_ g_ e_) (GrL.sizeL gr11)) (q_))⟩))
       ·replace H:=H.2 (b15)
        exact zo (WX.weaken sb (hQ _ _ ⟨data,a1,rfl,H,rfl,gr11,k23,k24,(hap0 _ (List.Mem.head _)),(fun p_ hp_ q_=>q_)⟩))
      ·clear H
       rcases Bool.eq_false_or_eq_true (decide (start2<m)) with b16 | b16
       ·exact gp b16 (h:=(gp b16 (h:=(gp b16 (h:=(zg rfl (zQ (okb b16) rfl) (wk (hQ _ _ ⟨decide (m<(((shrV .u64 (a+b) 1)+m) - start2)),rfl,by rw [b16] <;> rfl,rfl⟩))))))))
       ·exact gn b16 (h:=(gn b16 (h:=(gn b16 (h:=(zg rfl (zK (okb b16) rfl) (wk (hQ _ _ ⟨false,rfl,by rw [b16] <;> rfl,rfl⟩))))))))
   ·clear hJ1
    refine zd (zb (yp (h:=(yp (h:=(yp (h:=(ze (za (zm rfl (fun b17=>?_) (fun b17=>?_)))))))))))
    ·replace H:=H.1 (of_decide_eq_true b17)
     refine zd (zb (yp (h:=(yp (h:=?_)))))
     obtain ⟨h43,H⟩:=H
     exact zg rfl (Yld.sub rfl rfl h43) (yp (h:=(ze (za (zb (yp (h:=(yp (h:=(ze (WX.weaken sb (hQ _ _ ⟨((shrV .u64 (a+b) 1)+m) - b,shrV .u64 (a+b) 1,rfl,H,rfl⟩))))))))))))
    ·replace H:=H.2 (of_decide_eq_false b17)
     exact zd (zb (yp (h:=(yp (h:=(ze (za (zb (yp (h:=(yp (h:=(ze (WX.weaken sb (hQ _ _ ⟨a,m,rfl,H,rfl⟩)))))))))))))))
theorem jt {S:List Nat}:∀ (n:Nat) {B:Nat} {w:World} {data:List PV} {a0:Option Addr} {a5:Nat} {a1:List VH} {a:Int} {m:Int} {b:Int} {a6:Nat} {cap0:Bool} {a7:Nat} {cap1:Bool} {b0:Nat} {K:(List PV)->Prop} (hG:GB S B w) (hB:B<=w.heap.size) (hP:AllP (fun p=>Ge p B) [(blk a0)]) (hS3:3∈S) (hS7:7∈S) (hdata:Own vv w 0 32 a0 a5 a1) (c0:b0=data.length) (a8:RelD deV w a1 data) (hcap0:Bl w a6 4 [.bool cap0]) (hcap1:Bl w a7 4 [.bool cap1]) (hap0:AllP (DnD deV a1 data) [(blk a0)]) (hap1:AllP (Dj (some a6)) [(blk a0)]) (hap2:AllP (Dj (some a7)) [(blk a0)]) (H:qT n data a m b cap0 cap1 K),Fn Tryz.prog 205 ⟨[.slice a0 b0 a5,.int .i64 a,.int .i64 m,.int .i64 b,.func (.func 150) #[] #[.pointer (some ⟨a6,0,none⟩),.pointer (some ⟨a7,0,none⟩)]]⟩ w (fun v w'=>GrL [(blk a0)] w w'/\∃ (ys4:List PV),∃ (a9:List VH),v=.tuple #[]/\Own vv w' 0 32 a0 a5 a9/\a9.length=data.length/\RelD deV w' a9 ys4/\(∀ p:Option Nat,Lt p w.heap.size->DnD deV a1 data p->DnD deV a9 ys4 p)/\DnD deV a9 ys4 (blk a0)/\K ys4)
 | 0=>by
  intros
  rename_i H
  exact (show False from H).elim
 | n+1=>jO (MR:=qT n) (jt n)
theorem ju {S:List Nat} {B:Nat} {w:World} {data:List PV} {a0:Option Addr} {a5:Nat} {a1:List VH} {a:Int} {m:Int} {b:Int} {a6:Nat} {cap0:Bool} {a7:Nat} {cap1:Bool} {b0:Nat} {K:(List PV)->Prop} (hG:GB S B w) (hB:B<=w.heap.size) (hP:AllP (fun p=>Ge p B) [(blk a0)]) (hS3:3∈S) (hS7:7∈S) (hdata:Own vv w 0 32 a0 a5 a1) (c0:b0=data.length) (a8:RelD deV w a1 data) (hcap0:Bl w a6 4 [.bool cap0]) (hcap1:Bl w a7 4 [.bool cap1]) (hap0:AllP (DnD deV a1 data) [(blk a0)]) (hap1:AllP (Dj (some a6)) [(blk a0)]) (hap2:AllP (Dj (some a7)) [(blk a0)]) (H:jm data a m b cap0 cap1 K):Fn Tryz.prog 205 ⟨[.slice a0 b0 a5,.int .i64 a,.int .i64 m,.int .i64 b,.func (.func 150) #[] #[.pointer (some ⟨a6,0,none⟩),.pointer (some ⟨a7,0,none⟩)]]⟩ w (fun v w'=>GrL [(blk a0)] w w'/\∃ (ys4:List PV),∃ (a9:List VH),v=.tuple #[]/\Own vv w' 0 32 a0 a5 a9/\a9.length=data.length/\RelD deV w' a9 ys4/\(∀ p:Option Nat,Lt p w.heap.size->DnD deV a1 data p->DnD deV a9 ys4 p)/\DnD deV a9 ys4 (blk a0)/\K ys4):=by
 obtain ⟨n,H⟩:=H
 exact jt n hG hB hP hS3 hS7 hdata c0 a8 hcap0 hcap1 hap0 hap1 hap2 H
set_option maxHeartbeats 8000000 in
theorem j0 {S:List Nat} {B:Nat} {w:World} {data:List PV} {a0:Option Addr} {a5:Nat} {a1:List VH} {n:Int} {a6:Nat} {cap0:Bool} {a7:Nat} {cap1:Bool} {b0:Nat} {K:(List PV)->Prop} (hG:GB S B w) (hB:B<=w.heap.size) (hP:AllP (fun p=>Ge p B) [(blk a0)]) (hS3:3∈S) (hS7:7∈S) (hdata:Own vv w 0 32 a0 a5 a1) (c0:b0=data.length) (a8:RelD deV w a1 data) (hcap0:Bl w a6 4 [.bool cap0]) (hcap1:Bl w a7 4 [.bool cap1]) (hap0:AllP (DnD deV a1 data) [(blk a0)]) (hap1:AllP (Dj (some a6)) [(blk a0)]) (hap2:AllP (Dj (some a7)) [(blk a0)]) (H:je data n cap0 cap1 K):Fn Tryz.prog 187 ⟨[.slice a0 b0 a5,.int .i64 n,.func (.func 150) #[] #[.pointer (some ⟨a6,0,none⟩),.pointer (some ⟨a7,0,none⟩)]]⟩ w (fun v w'=>GrL [(blk a0)] w w'/\∃ (ys5:List PV),∃ (c7:List VH),v=.tuple #[]/\Own vv w' 0 32 a0 a5 c7/\c7.length=data.length/\RelD deV w' c7 ys5/\(∀ p:Option Nat,Lt p w.heap.size->DnD deV a1 data p->DnD deV c7 ys5 p)/\DnD deV c7 ys5 (blk a0)/\K ys5):=by
 subst c0
 unfold je at H
 refine Fn.enter (by kernel_rfl) Tryz.func187 rfl Tryz.ntmps187 rfl ?_
 replace H:=H (by rw [<-a8.1]; exact Nat.le_trans hdata.rd.cap hdata.rd.max)
 have hNoAt:AllP (NoAt w) [(blk a0)]:=(apC (NoAt.own hdata rfl) apN)
 refine zd (zb (yp (h:=(ze (za (zd (zb (yp (h:=(yp (h:=(yp (h:=(ze (za (zd (WC.block ?_)))))))))))))))))
 obtain ⟨I1,mu1,c4,HR1⟩:=H
 refine z3 (fun n' L' w'=>∃ (a:Int),∃ (b:Int),∃ (data2:List PV),∃ (hs:List VH),n'=mu1 a b data2/\L'=[(0,.slice a0 data.length a5),(1,.int .i64 n),(2,.func (.func 150) #[] #[.pointer (some ⟨a6,0,none⟩),.pointer (some ⟨a7,0,none⟩)]),(6,.int .i64 (20:Int)),(7,.int .i64 a),(8,.int .i64 b)]/\I1 a b data2/\data.length=data2.length/\GrL [(blk a0)] w w'/\Own vv w' 0 32 a0 a5 hs/\RelD deV w' hs data2/\DnD deV hs data2 (blk a0)/\OrD (fun p=>DnD deV a1 data p) deV hs data2 w.heap.size) _ _ ⟨(0:Int),(20:Int),data,a1,rfl,rfl,c4,rfl,(GrL.refl _),hdata,a8,(hap0 _ (List.Mem.head _)),(fun p_ hp_ q_=>q_)⟩ sb ?_
 clear c4
 rintro _ _ w1 ⟨a,b,data2,hs,rfl,rfl,hI1,a3,gr1,k1,k2,dj1,or1⟩
 have H:=HR1 a b data2 hI1
 replace H:=H a3
 refine zd (zd (zb (yp (h:=(yp (h:=(yp (h:=(ze (za (zm rfl (fun b1=>?_) (fun b1=>?_))))))))))))
 ·replace H:=H.1 (of_decide_eq_true b1)
  refine zo (za (WC.block (zd (zb (yp (h:=(yp (h:=(yp (h:=(yp (h:=(zx rfl rfl (jr (hG.goL gr1 hP) (Nat.le_trans hB (GrL.sizeL gr1)) (apC (InP.toGe (InP.mem (List.Mem.head _)) hP hB) apN) hS3 hS7 k1 ((a3.trans k2.1.symm).trans k2.1) k2 (hcap0.goL gr1 hap1) (hcap1.goL gr1 hap2) (apC dj1 apN) (apC (InP.dj (InP.mem (List.Mem.head _)) hcap0.lt' hap1).symm apN) (apC (InP.dj (InP.mem (List.Mem.head _)) hcap1.lt' hap2).symm apN) H) ?_)))))))))))))
  rintro _ w2 ⟨hgl1,ys,c1,rfl,hO1,hl1,hr1,ho1,dj2,H⟩
  have gr2:GrL [(blk a0)] w w2:=GrL.modL gr1 hgl1 (apC (InP.mem (List.Mem.head _)) apN)
  have k3:=k2.goL hgl1 (apC dj1 apN)
  refine ze (za (zd (zb (yp (h:=(yp (h:=(ze (za (zb (yp (h:=(yp (h:=?_))))))))))))))
  obtain ⟨h1,H⟩:=H
  exact zg rfl (Yld.add rfl rfl h1) (yp (h:=(ze (zi (zX _ ⟨b,b+(20:Int),ys,c1,rfl,rfl,H.1,(((a3.trans k2.1.symm).trans (k2.1.trans hl1.symm)).trans hr1.1),gr2,hO1,hr1,dj2,(fun p_ hp_ q_=>ho1 p_ (fun g_ e_=>Nat.lt_of_lt_of_le (hp_ g_ e_) (GrL.sizeL gr1)) (or1 p_ hp_ q_))⟩ sb H.2)))))
 ·replace H:=H.2 (of_decide_eq_false b1)
  refine zy (zk (zk (zl (za (zd (zb (yp (h:=(yp (h:=(yp (h:=(yp (h:=(zx rfl rfl (jr (hG.goL gr1 hP) (Nat.le_trans hB (GrL.sizeL gr1)) (apC (InP.toGe (InP.mem (List.Mem.head _)) hP hB) apN) hS3 hS7 k1 ((a3.trans k2.1.symm).trans k2.1) k2 (hcap0.goL gr1 hap1) (hcap1.goL gr1 hap2) (apC dj1 apN) (apC (InP.dj (InP.mem (List.Mem.head _)) hcap0.lt' hap1).symm apN) (apC (InP.dj (InP.mem (List.Mem.head _)) hcap1.lt' hap2).symm apN) H) ?_)))))))))))))))
  rintro _ w3 ⟨hgl2,ys2,c2,rfl,hO2,hl2,hr2,ho2,dj3,H⟩
  have gr3:GrL [(blk a0)] w w3:=GrL.modL gr1 hgl2 (apC (InP.mem (List.Mem.head _)) apN)
  have k4:=k2.goL hgl2 (apC dj1 apN)
  refine ze (za (WC.block ?_))
  obtain ⟨I2,mu2,c9,HR2⟩:=H
  refine z3 (fun n' L' w'=>∃ (blockSize:Int),∃ (data3:List PV),∃ (hs2:List VH),n'=mu2 blockSize data3/\L'=[(0,.slice a0 data.length a5),(1,.int .i64 n),(2,.func (.func 150) #[] #[.pointer (some ⟨a6,0,none⟩),.pointer (some ⟨a7,0,none⟩)]),(6,.int .i64 blockSize)]/\I2 blockSize data3/\data.length=data3.length/\GrL [(blk a0)] w w'/\Own vv w' 0 32 a0 a5 hs2/\RelD deV w' hs2 data3/\DnD deV hs2 data3 (blk a0)/\OrD (fun p=>DnD deV a1 data p) deV hs2 data3 w.heap.size) _ _ ⟨(20:Int),ys2,c2,rfl,rfl,c9,(((a3.trans k2.1.symm).trans (k2.1.trans hl2.symm)).trans hr2.1),gr3,hO2,hr2,dj3,(fun p_ hp_ q_=>ho2 p_ (fun g_ e_=>Nat.lt_of_lt_of_le (hp_ g_ e_) (GrL.sizeL gr1)) (or1 p_ hp_ q_))⟩ sb ?_
  clear c9
  rintro _ _ w4 ⟨blockSize,data3,hs2,rfl,rfl,hI2,a4,gr4,k5,k6,dj4,or2⟩
  have H:=HR2 blockSize data3 hI2
  replace H:=H a4
  refine zd (zd (zb (yp (h:=(yp (h:=(yp (h:=(ze (za (zm rfl (fun b2=>?_) (fun b2=>?_))))))))))))
  ·replace H:=H.1 (of_decide_eq_true b2)
   refine zo (za (WC.block (zd (zb (yp (h:=?_))))))
   obtain ⟨h2,H⟩:=H
   refine zg rfl (zN rfl rfl h2) (yp (h:=(yp (h:=(ze (za (zd (WC.block ?_))))))))
   obtain ⟨I3,mu3,d2,HR3⟩:=H
   refine z3 (fun n' L' w'=>∃ (a2:Int),∃ (b_2:Int),∃ (data4:List PV),∃ (hs3:List VH),n'=mu3 a2 b_2 data4/\L'=[(0,.slice a0 data.length a5),(1,.int .i64 n),(2,.func (.func 150) #[] #[.pointer (some ⟨a6,0,none⟩),.pointer (some ⟨a7,0,none⟩)]),(6,.int .i64 blockSize),(7,.int .i64 a2),(8,.int .i64 b_2)]/\I3 a2 b_2 data4/\data.length=data4.length/\GrL [(blk a0)] w w'/\Own vv w' 0 32 a0 a5 hs3/\RelD deV w' hs3 data4/\DnD deV hs3 data4 (blk a0)/\OrD (fun p=>DnD deV a1 data p) deV hs3 data4 w.heap.size) _ _ ⟨(0:Int),(2:Int)*blockSize,data3,hs2,rfl,rfl,d2,((a4.trans k6.1.symm).trans k6.1),gr4,k5,k6,dj4,or2⟩ sb ?_
   clear d2
   rintro _ _ w5 ⟨a2,b_2,data4,hs3,rfl,rfl,hI3,c3,gr5,k7,k8,dj5,or3⟩
   have H:=HR3 a2 b_2 data4 hI3
   replace H:=H c3
   refine zd (zd (zb (yp (h:=(yp (h:=(yp (h:=(ze (za (zm rfl (fun b3=>?_) (fun b3=>?_))))))))))))
   ·replace H:=H.1 (of_decide_eq_true b3)
    refine zo (za (WC.block (zd (zb (yp (h:=(yp (h:=(yp (h:=(yp (h:=?_))))))))))))
    obtain ⟨h3,H⟩:=H
    refine zg rfl (Yld.add rfl rfl h3) (yp (h:=(yp (h:=(zx rfl rfl (ju (hG.goL gr5 hP) (Nat.le_trans hB (GrL.sizeL gr5)) (apC (InP.toGe (InP.mem (List.Mem.head _)) hP hB) apN) hS3 hS7 k7 ((c3.trans k8.1.symm).trans k8.1) k8 (hcap0.goL gr5 hap1) (hcap1.goL gr5 hap2) (apC dj5 apN) (apC (InP.dj (InP.mem (List.Mem.head _)) hcap0.lt' hap1).symm apN) (apC (InP.dj (InP.mem (List.Mem.head _)) hcap1.lt' hap2).symm apN) H) ?_)))))
    rintro _ w6 ⟨hgl3,ys3,c6,rfl,hO3,hl3,hr3,ho3,dj6,H⟩
    have gr6:GrL [(blk a0)] w w6:=GrL.modL gr5 hgl3 (apC (InP.mem (List.Mem.head _)) apN)
    have k9:=k8.goL hgl3 (apC dj5 apN)
    refine ze (za (zd (zb (yp (h:=(yp (h:=(ze (za (zb (yp (h:=(yp (h:=?_))))))))))))))
    obtain ⟨h4,H⟩:=H
    refine zg rfl (zN rfl rfl h4) ?_
    obtain ⟨h5,H⟩:=H
    exact zg rfl (Yld.add rfl rfl h5) (yp (h:=(ze (zi (zX _ ⟨b_2,b_2+((2:Int)*blockSize),ys3,c6,rfl,rfl,H.1,(((c3.trans k8.1.symm).trans (k8.1.trans hl3.symm)).trans hr3.1),gr6,hO3,hr3,dj6,(fun p_ hp_ q_=>ho3 p_ (fun g_ e_=>Nat.lt_of_lt_of_le (hp_ g_ e_) (GrL.sizeL gr5)) (or3 p_ hp_ q_))⟩ sb H.2)))))
   ·replace H:=H.2 (of_decide_eq_false b3)
    refine zy (zk (zk (zl (za (zd ?_)))))
    obtain ⟨J1,H,hJ1⟩:=H
    refine qo (fun L' w'=>∃ (xs:List PV),∃ (hs4:List VH),L'=[(0,.slice a0 data.length a5),(1,.int .i64 n),(2,.func (.func 150) #[] #[.pointer (some ⟨a6,0,none⟩),.pointer (some ⟨a7,0,none⟩)]),(6,.int .i64 blockSize)]/\J1 xs/\data.length=xs.length/\GrL [(blk a0)] w w'/\Own vv w' 0 32 a0 a5 hs4/\RelD deV w' hs4 xs/\DnD deV hs4 xs (blk a0)/\OrD (fun p=>DnD deV a1 data p) deV hs4 xs w.heap.size) ?_ (fun hQ=>?_)
    ·clear H
     rintro _ w7 ⟨xs,hs4,rfl,H,c5,gr7,k10,k11,dj7,or4⟩
     replace H:=hJ1 xs H
     replace H:=H c5
     refine za (zb (yp (h:=?_)))
     obtain ⟨h6,H⟩:=H
     exact zg rfl (zN rfl rfl h6) (yp (h:=(ze (zi (zX _ ⟨blockSize*(2:Int),xs,hs4,rfl,rfl,H.1,((c5.trans k11.1.symm).trans k11.1),gr7,k10,k11,dj7,or4⟩ sb H.2)))))
    ·clear hJ1
     refine zd (zb (yp (h:=(yp (h:=?_)))))
     obtain ⟨h7,H⟩:=H
     refine zg rfl (Yld.add rfl rfl h7) (yp (h:=(ze (za (zd (zb (yp (h:=(yp (h:=(yp (h:=(ze (za (zm rfl (fun b4=>?_) (fun b4=>?_))))))))))))))))
     ·replace H:=H.1 (of_decide_eq_true b4)
      refine zb (yp (h:=(yp (h:=(yp (h:=(yp (h:=(yp (h:=(zx rfl rfl (ju (hG.goL gr5 hP) (Nat.le_trans hB (GrL.sizeL gr5)) (apC (InP.toGe (InP.mem (List.Mem.head _)) hP hB) apN) hS3 hS7 k7 ((c3.trans k8.1.symm).trans k8.1) k8 (hcap0.goL gr5 hap1) (hcap1.goL gr5 hap2) (apC dj5 apN) (apC (InP.dj (InP.mem (List.Mem.head _)) hcap0.lt' hap1).symm apN) (apC (InP.dj (InP.mem (List.Mem.head _)) hcap1.lt' hap2).symm apN) H) ?_)))))))))))
      rintro _ w8 ⟨hgl4,ys4,a9,rfl,hO4,hl4,hr4,ho4,dj8,H⟩
      have gr8:GrL [(blk a0)] w w8:=GrL.modL gr5 hgl4 (apC (InP.mem (List.Mem.head _)) apN)
      have k12:=k8.goL hgl4 (apC dj5 apN)
      exact ze (WX.weaken sb (hQ _ _ ⟨ys4,a9,rfl,H,(((c3.trans k8.1.symm).trans (k8.1.trans hl4.symm)).trans hr4.1),gr8,hO4,hr4,dj8,(fun p_ hp_ q_=>ho4 p_ (fun g_ e_=>Nat.lt_of_lt_of_le (hp_ g_ e_) (GrL.sizeL gr5)) (or3 p_ hp_ q_))⟩))
     ·replace H:=H.2 (of_decide_eq_false b4)
      exact zo (WX.weaken sb (hQ _ _ ⟨data4,hs3,rfl,H,((c3.trans k8.1.symm).trans k8.1),gr5,k7,k8,dj5,or3⟩))
  ·replace H:=H.2 (of_decide_eq_false b2)
   exact zy (zk (zk (zl (qd rfl ⟨gr4,data3,hs2,rfl,k5,(a4.trans k6.1.symm).symm,k6,(fun p_ hp_ v0_=>or2 p_ hp_ v0_),dj4,H⟩))))
set_option maxHeartbeats 8000000 in
theorem jG {S:List Nat} {B:Nat} {w:World} {x:List PV} {A_x:Option Addr} {c_x:Nat} {d4:List VH} {a6:Nat} {cap0:Bool} {a7:Nat} {cap1:Bool} {n_x:Nat} {K:(List PV)->Prop} (hG:GB S B w) (hB:B<=w.heap.size) (hP:AllP (fun p=>Ge p B) [(blk A_x)]) (hS3:3∈S) (hS7:7∈S) (hx:Own vv w 0 32 A_x c_x d4) (e4:n_x=x.length) (d3:RelD deV w d4 x) (hcap0:Bl w a6 4 [.bool cap0]) (hcap1:Bl w a7 4 [.bool cap1]) (hap0:AllP (DnD deV d4 x) [(blk A_x)]) (hap1:AllP (Dj (some a6)) [(blk A_x)]) (hap2:AllP (Dj (some a7)) [(blk A_x)]) (H:qU x cap0 cap1 K):Fn Tryz.prog 149 ⟨[.slice A_x n_x c_x,.func (.func 150) #[] #[.pointer (some ⟨a6,0,none⟩),.pointer (some ⟨a7,0,none⟩)]]⟩ w (fun v w'=>GrL [(blk A_x)] w w'/\∃ (ys2:List PV),∃ (c2:List VH),v=.tuple #[]/\Own vv w' 0 32 A_x c_x c2/\c2.length=x.length/\RelD deV w' c2 ys2/\(∀ p:Option Nat,Lt p w.heap.size->DnD deV d4 x p->DnD deV c2 ys2 p)/\DnD deV c2 ys2 (blk A_x)/\K ys2):=by
 subst e4
 unfold qU at H
 refine Fn.enter (by kernel_rfl) Tryz.func149 rfl Tryz.ntmps149 rfl ?_
 replace H:=H (by rw [<-d3.1]; exact Nat.le_trans hx.rd.cap hx.rd.max)
 have hNoAt:AllP (NoAt w) [(blk A_x)]:=(apC (NoAt.own hx rfl) apN)
 refine zb (yp (h:=(yp (h:=(yp (h:=(yp (h:=(zx rfl rfl (j0 hG (Nat.le_trans hB (Nat.le_refl _)) (apC (InP.toGe (InP.mem (List.Mem.head _)) hP hB) apN) hS3 hS7 hx rfl d3 hcap0 hcap1 (apC (hap0 _ (List.Mem.head _)) apN) (apC (InP.dj (InP.mem (List.Mem.head _)) hcap0.lt' hap1).symm apN) (apC (InP.dj (InP.mem (List.Mem.head _)) hcap1.lt' hap2).symm apN) H) ?_)))))))))
 rintro _ w1 ⟨hgl1,ys,c1,rfl,hO1,hl1,hr1,ho1,dj1,H⟩
 have gr1:GrL [(blk A_x)] w w1:=GrL.modL (GrL.refl _) hgl1 (apC (InP.mem (List.Mem.head _)) apN)
 have k1:=d3.goL hgl1 (apC (hap0 _ (List.Mem.head _)) apN)
 exact ze (qd rfl ⟨gr1,ys,c1,rfl,hO1,(d3.1.symm.trans (d3.1.trans hl1.symm)).symm,hr1,(fun p_ hp_ v0_=>have q_:=v0_; ho1 p_ (fun g_ e_=>Nat.lt_of_lt_of_le (hp_ g_ e_) (Nat.le_refl _)) (q_)),dj1,H⟩)
set_option maxHeartbeats 8000000 in
theorem W_list_Sorted {S:List Nat} {w:World} {l:List PV} {A_l:Option Addr} {c_l:Nat} {d7:List VH} {back:Bool} {n_l:Nat} {K:(List PV)->Er->Prop} (hG:GOK S w) (hS3:3∈S) (hS7:7∈S) (hl:Rd vv w A_l c_l d7) (e3:n_l=l.length) (d6:RelD deV w d7 l) (H:M_list_Sorted l back K):Fn Tryz.prog 86 ⟨[.slice A_l n_l c_l,.bool back]⟩ w (fun v w'=>w.grownBy w' none/\∃ (r0:List PV),∃ (d5:Option Addr),∃ (e0:Nat),∃ (d1:List VH),∃ (v_r1:Value),∃ (r1:Er),v=.tuple #[.slice d5 r0.length e0,v_r1]/\Own vv w' w.heap.size 32 d5 e0 d1/\RelD deV w' d1 r0/\(∀ p:Option Nat,Lt p w.heap.size->DnD deV d7 l p->DnD deV d1 r0 p)/\DnD deV d1 r0 (blk d5)/\ErrR S w' v_r1 r1/\K r0 r1):=by
 subst e3
 unfold M_list_Sorted at H
 refine Fn.enter (by kernel_rfl) Tryz.func86 rfl Tryz.ntmps86 rfl ?_
 replace H:=H (by rw [<-d6.1]; exact Nat.le_trans hl.cap hl.max)
 refine zd (zb (qn (us:=[.bool back]) rfl rfl rfl (fun g1 w1 hB1 hg1 hl1=>?_)))
 have gr1:=hg1
 refine yp (h:=(yp (h:=(ze (za (zd (zd (zb (yp (h:=(zx rfl rfl (W_val_Light (hl.grown gr1) rfl (d6.grown gr1) H) ?_)))))))))))
 rintro _ w2 ⟨hg2,t9,rfl,H⟩
 have gr2:=qG gr1 hg2
 have k1:=hB1.g0 hg2
 refine yp (h:=(ze (za (zm rfl (fun b1=>?_) (fun b1=>?_)))))
 ·replace H:=H.1 (b1)
  refine zd (qq jx (by kernel_rfl) ?_)
  obtain ⟨vE1,_,hE1⟩:=GOK.get (hG.grown gr2) 7 1 hS7 rfl rfl
  exact qc rfl (Yld.cell qD (ErrR.cell hE1 rfl) rfl rfl) (qc rfl (zh qD rfl) (qc rfl (zh qD rfl) (qC (za (zt (zf (z8 rfl rfl rfl ⟨gr2,[],none,0,[],vE1,(Er.e 7),rfl,(Own.nil vv w2 w.heap.size 32),(RelD.nil (d:=deV) (w:=w2)),(fun p_ hp_ v0_=>have q_:=v0_; (DnD.nil (d:=deV))),DnD.nil,hE1,H⟩)))))))
 ·replace H:=H.2 (b1)
  refine zo (za (zd (zb (yp (h:=(zx rfl rfl (jp (hl.grown gr2) rfl (d6.grown gr2) H) ?_))))))
  rintro _ w3 ⟨hg3,out,d8,d9,e5,rfl,hout,d0,ho1,dj1,H⟩
  have hb1:=hout.ge'
  have k2:=hout.base (fun g hg=>Nat.le_trans (qE gr2) (hb1 g hg))
  have gr3:=qG gr2 hg3
  have k3:=k1.g0 hg3
  refine yp (h:=(ze (za (zd (zb (WL.alloc rfl zero4 (fun g2 w4 hB2 hg4 hl2=>qp one4 rfl rfl rfl hB2 (by simp) (fun w5 hB4 hg5=>?_))))))))
  have hB3:Bl w5 g2 4 [.bool false]:=hB4
  have gr5:=js (qG gr3 hg4) hg5 (Ge.le (Ge.box hl2) (qE gr3))
  have k7:=(k3.g0 hg4).go hg5 (Dj.new k3.lt' (Ge.box hl2))
  have k8:=(k2.grown hg4).go hg5 (Dj.new k2.lt' (Ge.box hl2))
  have k9:=(d0.grown hg4).go hg5 (d0.new (Ge.box hl2))
  refine ze (za (zd (zb (yp (h:=(zg rfl (Yld.mkf rfl) (zx rfl rfl (jG (GB.grown hG gr5) (qE gr5) (apC k8.ge' apN) hS3 hS7 (k8.base (fun _ _=>Nat.zero_le _)) rfl k9 k7 hB3 (apC dj1 apN) (apC (Dj.new k1.lt' hb1) apN) (apC (Dj.new k2.lt' (Ge.box hl2)).symm apN) H) ?_)))))))
  rintro _ w6 ⟨hgl1,ys,c1,rfl,hO1,hl3,hr1,ho2,dj2,H⟩
  have k10:=k9.goL hgl1 (apC dj1 apN)
  exact ze (za (zd (zd (zb (zg rfl (zz qD (hB3.goL hgl1 (apC (Dj.new k2.lt' (Ge.box hl2)).symm apN)) rfl rfl rfl) (ze (za (zm rfl (fun h=>by cases h) (fun _=>zo (za (zd (zb (yp (h:=(yp (h:=(yp (h:=(ze (za (zt (z8 rfl rfl rfl ⟨(qN gr5 hgl1 (apC k8.ge' apN)),ys,d8,d9,c1,.nilIface,Er.ok,(by rw [((d0.1.symm.trans (k9.1.trans hl3.symm)).trans hr1.1)]),(hO1.base k8.ge'),hr1,(fun p_ hp_ v0_=>have q_:=v0_; ho2 p_ (fun g_ e_=>Nat.lt_of_lt_of_le (hp_ g_ e_) (qE gr5)) (ho1 p_ (fun g_ e_=>Nat.lt_of_lt_of_le (hp_ g_ e_) (qE gr2)) (q_))),dj2,(ErrR.okR (S:=S) (w:=w6)),H⟩))))))))))))))))))))))
end
 
section
section
variable {α:Type}
theorem getD_setY (l:List α) (i j:Nat) (a d:α):(l.set i a).getD j d=if i=j/\i<l.length then a else l.getD j d:=by
 simp only [List.getD,List.getElem?_set]
 by_cases h:i=j
 ·subst h
  by_cases h2:i<l.length
  ·simp [h2]
  ·simp [h2]
 ·simp [h]
def sySwp (d:α) (l:List α) (i j:Nat):List α:=(l.set i (l.getD j d)).set j (l.getD i d)
theorem sySwp_len (d:α) (l:List α) (i j:Nat):(sySwp d l i j).length=l.length:=by simp [sySwp]
theorem sySwp_get (d:α) (l:List α) {i j:Nat} (hi:i<l.length) (hj:j<l.length) (k:Nat):(sySwp d l i j).getD k d=if k=j then l.getD i d else if k=i then l.getD j d else l.getD k d:=by
 unfold sySwp
 rw [getD_setY,getD_setY]
 simp only [List.length_set]
 by_cases h1:j=k
 ·subst h1; simp [hj]
 ·have h1':¬ k=j:=fun e=>h1 e.symm
  by_cases h2:i=k
  ·subst h2; simp [h1,h1',hi]
  ·have h2':¬ k=i:=fun e=>h2 e.symm
   simp [h1,h2,h1',h2']
theorem set_permY (d:α):∀ (l:List α) (i:Nat) (x:α),i<l.length->(l.getD i d :: l.set i x).Perm (x :: l)
 | [],_,_,h=>by simp at h
 | a :: l,0,x,_=>by simp [List.getD]; exact List.Perm.swap _ _ _
 | a :: l,i+1,x,h=>by
  have:=set_permY d l i x (by simpa using h)
  simp only [List.set_cons_succ]
  refine (List.Perm.swap _ _ _).trans ?_
  refine List.Perm.trans ?_ (List.Perm.swap _ _ _)
  refine List.Perm.cons _ ?_
  simpa [List.getD] using this
theorem sySwp_perm (d:α) (l:List α) {i j:Nat} (hi:i<l.length) (hj:j<l.length):(sySwp d l i j).Perm l:=by
 unfold sySwp
 have h1:=set_permY d l i (l.getD j d) hi
 have h2:=set_permY d (l.set i (l.getD j d)) j (l.getD i d) (by simpa using hj)
 have e:(l.set i (l.getD j d)).getD j d=l.getD j d:=by
  rw [getD_setY]; split <;> rfl
 rw [e] at h2
 exact (List.perm_cons _).1 (h2.trans h1)
structure SyO (d:α) (l l':List α) (a b:Nat):Prop where
 len:l'.length=l.length
 perm:l'.Perm l
 out:∀ k,k<a∨b<=k->l'.getD k d=l.getD k d
 ins:∀ k,a<=k->k<b->∃ k',a<=k'/\k'<b/\l'.getD k d=l.getD k' d
theorem SyO.refl (d:α) (l:List α) (a b:Nat):SyO d l l a b:=⟨rfl,List.Perm.refl _,fun _ _=>rfl,fun k h1 h2=>⟨k,h1,h2,rfl⟩⟩
variable {d:α} {l l' l'':List α} {a b a' b' m n:Nat}
theorem SyO.trans (h:SyO d l l' a b) (k:SyO d l' l'' a b):SyO d l l'' a b :=
 ⟨k.len.trans h.len,k.perm.trans h.perm,fun i hi=>(k.out i hi).trans (h.out i hi),fun i h1 h2=>by
  obtain ⟨j,h3,h4,e⟩:=k.ins i h1 h2
  obtain ⟨j',h5,h6,e'⟩:=h.ins j h3 h4
  exact ⟨j',h5,h6,e.trans e'⟩⟩
theorem SyO.wide (h:SyO d l l' a b) (h1:a'<=a) (h2:b<=b'):SyO d l l' a' b' :=
 ⟨h.len,h.perm,fun i hi=>h.out i (by omega),fun i h3 h4=>by
  by_cases hi:a<=i/\i<b
  ·obtain ⟨j,h5,h6,e⟩:=h.ins i hi.1 hi.2
   exact ⟨j,by omega,by omega,e⟩
  ·exact ⟨i,h3,h4,h.out i (by omega)⟩⟩
theorem SyO.sySwp {i j:Nat} (hi:i<l.length) (hj:j<l.length) (h1:a<=i) (h2:i<b) (h3:a<=j) (h4:j<b):SyO d l (sySwp d l i j) a b :=
 ⟨sySwp_len _ _ _ _,sySwp_perm _ _ hi hj,fun k hk=>by rw [sySwp_get d l hi hj,if_neg (by omega),if_neg (by omega)],fun k h5 h6=>by
  rw [sySwp_get d l hi hj]
  by_cases e1:k=j
  ·rw [if_pos e1]; exact ⟨i,h1,h2,rfl⟩
  ·rw [if_neg e1]
   by_cases e2:k=i
   ·rw [if_pos e2]; exact ⟨j,h3,h4,rfl⟩
   ·rw [if_neg e2]; exact ⟨k,h5,h6,rfl⟩⟩
structure SyR (d:α) (l l':List α) (a m b:Nat):Prop where
 len:l'.length=l.length
 perm:l'.Perm l
 out:∀ k,k<a∨b<=k->l'.getD k d=l.getD k d
 lo:∀ k,a<=k->k<a+(b - m)->l'.getD k d=l.getD (k - a+m) d
 hi:∀ k,a+(b - m)<=k->k<b->l'.getD k d=l.getD (k - (b - m)) d
theorem SyR.toOut (h:SyR d l l' a m b) (h1:a<=m) (h2:m<=b):SyO d l l' a b :=
 ⟨h.len,h.perm,h.out,fun k h3 h4=>by
  by_cases hk:k<a+(b - m)
  ·exact ⟨k - a+m,by omega,by omega,h.lo k h3 hk⟩
  ·exact ⟨k - (b - m),by omega,by omega,h.hi k (by omega) h4⟩⟩
variable (lt:α->α->Bool)
def jB (d:α) (l:List α) (a b:Nat):Prop:=∀ i j,a<=i->i<j->j<b->lt (l.getD j d) (l.getD i d)=false
structure SyOrd:Prop where
 tot:∀ x y,lt x y=true->lt y x=false
 tr:∀ x y z,lt y x=false->lt z y=false->lt z x=false
variable {lt}
theorem jB.sub (h:jB lt d l a b) (h1:a<=a') (h2:b'<=b):jB lt d l a' b':=fun i j h3 h4 h5=>h i j (by omega) h4 (by omega)
theorem jB.join (_ho:SyOrd lt) (h1:jB lt d l a m) (h2:jB lt d l m b) (h:∀ i j,a<=i->i<m->m<=j->j<b->lt (l.getD j d) (l.getD i d)=false):jB lt d l a b:=fun i j h3 h4 h5=>by
 by_cases hj:j<m
 ·exact h1 i j h3 h4 hj
 ·by_cases hi:i<m
  ·exact h i j h3 hi (by omega) h5
  ·exact h2 i j (by omega) h4 h5
theorem jB.out (h:jB lt d l a b) (k:SyO d l l' a' b') (hd:b'<=a∨b<=a'):jB lt d l' a b:=fun i j h1 h2 h3=>by
 rw [k.out i (by omega),k.out j (by omega)]; exact h i j h1 h2 h3
theorem jB.le (ho:SyOrd lt) (h:jB lt d l a b) {i j:Nat} (h1:a<=i) (h2:i<=j) (h3:j<b):lt (l.getD j d) (l.getD i d)=false:=by
 rcases Nat.lt_or_ge i j with h4 | h4
 ·exact h i j h1 h4 h3
 ·have:i=j:=by omega
  subst this
  cases hq:lt (l.getD i d) (l.getD i d) with
  | false=>rfl
  | true=>exact absurd (ho.tot _ _ hq) (by rw [hq]; simp)
structure SyC (lt:α->α->Bool) (d:α) (l l':List α) (a m b s e:Nat):Prop where
 h1:jB lt d l a m
 h2:jB lt d l m b
 rot:SyR d l l' s m e
 hs:a<=s/\s<=m/\m<=e/\e<=b
 x:a<s->e<b->lt (l.getD e d) (l.getD (s - 1) d)=false
 y:s<m->m<e->lt (l.getD (e - 1) d) (l.getD s d)=true
theorem SyC.fin (ho:SyOrd lt) {s e:Nat} (h:SyC lt d l l' a m b s e):jB lt d l' a s/\jB lt d l' s (s+(e - m))/\jB lt d l' (s+(e - m)) e/\jB lt d l' e b/\∀ i j,a<=i->i<s+(e - m)->s+(e - m)<=j->j<b->lt (l'.getD j d) (l'.getD i d)=false:=by
 obtain ⟨h1,h2,rot,hs,hx,hy⟩:=h
 refine ⟨fun i j h3 h4 h5=>?_,fun i j h3 h4 h5=>?_,fun i j h3 h4 h5=>?_,fun i j h3 h4 h5=>?_,fun i j h3 h4 h5 h6=>?_⟩
 ·rw [rot.out i (by omega),rot.out j (by omega)]; exact h1 i j h3 h4 (by omega)
 ·rw [rot.lo i h3 (by omega),rot.lo j (by omega) h5]; exact h2 _ _ (by omega) (by omega) (by omega)
 ·rw [rot.hi i h3 (by omega),rot.hi j (by omega) h5]; exact h1 _ _ (by omega) (by omega) (by omega)
 ·rw [rot.out i (by omega),rot.out j (by omega)]; exact h2 i j (by omega) h4 h5
 ·by_cases hi:i<s
  ·rw [rot.out i (by omega)]
   by_cases hj:j<e
   ·rw [rot.hi j h5 hj]; exact h1 i _ h3 (by omega) (by omega)
   ·rw [rot.out j (by omega)]
    exact ho.tr _ _ _ (ho.tr _ _ _ (h1.le ho (i:=i) (j:=s - 1) h3 (by omega) (by omega)) (hx (by omega) (by omega))) (h2.le ho (i:=e) (j:=j) (by omega) (by omega) h6)
  ·rw [rot.lo i (by omega) h4]
   by_cases hj:j<e
   ·rw [rot.hi j h5 hj]
    exact ho.tr _ _ _ (ho.tr _ _ _ (h2.le ho (i:=i - s+m) (j:=e - 1) (by omega) (by omega) (by omega)) (ho.tot _ _ (hy (by omega) (by omega)))) (h1.le ho (i:=s) (j:=j - (e - m)) (by omega) (by omega) (by omega))
   ·rw [rot.out j (by omega)]; exact h2 _ _ (by omega) (by omega) h6
def SyM (lt:α->α->Bool) (d:α) (l l':List α) (a b:Nat):Prop:=SyO d l l' a b/\jB lt d l' a b
theorem SyC.halves (ho:SyOrd lt) {s e q:Nat} {l1 l2:List α} (h:SyC lt d l l' a m b s e) (hq:q=s+(e - m)) (k1:SyM lt d l' l1 a q) (k2:SyM lt d l1 l2 q b):SyM lt d l l2 a b:=by
 obtain ⟨_,_,_,_,cr⟩:=h.fin ho
 have hs:=h.hs
 refine ⟨((h.rot.toOut hs.2.1 hs.2.2.1).wide hs.1 hs.2.2.2).trans ((k1.1.wide (Nat.le_refl _) (by omega)).trans (k2.1.wide (by omega) (Nat.le_refl _))),jB.join ho (m:=q) (k1.2.out k2.1 (.inr (Nat.le_refl _))) k2.2 fun i j h1 h2 h3 h4=>?_⟩
 rw [k2.1.out i (.inl h2)]
 obtain ⟨j',h5,h6,e'⟩:=k2.1.ins j h3 h4
 rw [e',k1.1.out j' (.inr h5)]
 obtain ⟨i',h7,h8,e''⟩:=k1.1.ins i h1 h2
 rw [e'']
 exact cr i' j' h7 (by omega) (by omega) h6
theorem SyC.done (ho:SyOrd lt) {s e:Nat} (h:SyC lt d l l' a m b s e) (k1:s=a∨e=m) (k2:s=m∨e=b):SyM lt d l l' a b:=by
 obtain ⟨f1,f2,f3,f4,cr⟩:=h.fin ho
 have hs:=h.hs
 refine ⟨(h.rot.toOut hs.2.1 hs.2.2.1).wide hs.1 hs.2.2.2,jB.join ho (m:=s+(e - m)) ?_ ?_ cr⟩
 ·rcases k1 with rfl | rfl
  ·exact f2
  ·simpa using f1
 ·rcases k2 with rfl | rfl
  ·have:s+(e - s)=e:=by omega
   rw [this]; exact f4
  ·exact f3
theorem SyR.zero1 (d:α) (l:List α) (a:Nat):SyR d l l a (a+1) (a+1):=⟨rfl,List.Perm.refl _,fun _ _=>rfl,fun k h1 h2=>absurd h2 (by omega),fun k h1 h2=>by rw [Nat.sub_self,Nat.sub_zero]⟩
theorem SyR.up {k:Nat} (h:SyR d l l' a (a+1) (k+1)) (hk:a<=k) (hl:k+1<l.length):SyR d l (sySwp d l' k (k+1)) a (a+1) (k+2):=by
 have e:=h.len
 have g:=sySwp_get d l' (i:=k) (j:=k+1) (by omega) (by omega)
 refine ⟨(sySwp_len _ _ _ _).trans e,(sySwp_perm d l' (by omega) (by omega)).trans h.perm,fun q hq=>?_,fun q h1 h2=>?_,fun q h1 h2=>?_⟩
 ·rw [g,if_neg (by omega),if_neg (by omega)]; exact h.out q (by omega)
 ·rw [g,if_neg (by omega)]
  by_cases e2:q=k
  ·subst e2; rw [if_pos rfl,h.out (q+1) (by omega)]; congr 1; omega
  ·rw [if_neg e2,h.lo q h1 (by omega)]
 ·have:q=k+1:=by omega
  subst this
  rw [g,if_pos rfl,h.hi k (by omega) (by omega)]; congr 1; omega
theorem SyR.zero2 (d:α) (l:List α) (m:Nat):SyR d l l m m (m+1):=⟨rfl,List.Perm.refl _,fun _ _=>rfl,fun k h1 h2=>by congr 1; omega,fun k h1 h2=>absurd h2 (by omega)⟩
theorem SyR.down {k:Nat} (h:SyR d l l' k m (m+1)) (hk:0<k) (hm:k<=m) (hl:m<l.length):SyR d l (sySwp d l' k (k - 1)) (k - 1) m (m+1):=by
 have e:=h.len
 have g:=sySwp_get d l' (i:=k) (j:=k - 1) (by omega) (by omega)
 refine ⟨(sySwp_len _ _ _ _).trans e,(sySwp_perm d l' (by omega) (by omega)).trans h.perm,fun q hq=>?_,fun q h1 h2=>?_,fun q h1 h2=>?_⟩
 ·rw [g,if_neg (by omega),if_neg (by omega)]; exact h.out q (by omega)
 ·have:q=k - 1:=by omega
  subst this
  rw [g,if_pos rfl,h.lo k (by omega) (by omega)]; congr 1; omega
 ·rw [g,if_neg (by omega)]
  by_cases e2:q=k
  ·subst e2; rw [if_pos rfl,h.out (q - 1) (by omega)]; congr 1; omega
  ·rw [if_neg e2,h.hi q (by omega) h2]
structure SyW (d:α) (l l':List α) (a b n:Nat):Prop where
 len:l'.length=l.length
 perm:l'.Perm l
 get:∀ k,l'.getD k d=if a<=k/\k<a+n then l.getD (k - a+b) d else if b<=k/\k<b+n then l.getD (k - b+a) d else l.getD k d
theorem SyW.zero (d:α) (l:List α) (a b:Nat):SyW d l l a b 0:=⟨rfl,List.Perm.refl _,fun k=>by rw [if_neg (by omega),if_neg (by omega)]⟩
theorem SyW.succ (h:SyW d l l' a b n) (h1:a+n<b) (h2:b+n<l.length):SyW d l (sySwp d l' (a+n) (b+n)) a b (n+1):=by
 have e:=h.len
 refine ⟨(sySwp_len _ _ _ _).trans e,(sySwp_perm d l' (by omega) (by omega)).trans h.perm,fun q=>?_⟩
 rw [sySwp_get d l' (i:=a+n) (j:=b+n) (by omega) (by omega)]
 by_cases e1:q=b+n
 ·rw [if_pos e1,if_neg (by omega),if_pos (by omega),h.get,if_neg (by omega),if_neg (by omega)]; congr 1; omega
 ·rw [if_neg e1]
  by_cases e2:q=a+n
  ·rw [if_pos e2,if_pos (by omega),h.get,if_neg (by omega),if_neg (by omega)]; congr 1; omega
  ·rw [if_neg e2,h.get]
   by_cases e3:a<=q/\q<a+n
   ·rw [if_pos e3,if_pos (by omega)]
   ·rw [if_neg e3,if_neg (c:=a<=q/\q<a+(n+1)) (by omega)]
    by_cases e4:b<=q/\q<b+n
    ·rw [if_pos e4,if_pos (by omega)]
    ·rw [if_neg e4,if_neg (by omega)]
theorem SyR.big {c:List α} {i j:Nat} (h:SyW d l c (m - i) m j) (hj:0<j) (hij:j<i) (hi:i<=m) (k:SyR d c l' (m - i+j) m (m+j)):SyR d l l' (m - i) m (m+j) :=
 ⟨k.len.trans h.len,k.perm.trans h.perm,fun q hq=>by rw [k.out q (by omega),h.get,if_neg (by omega),if_neg (by omega)],
  fun q h1 h2=>by rw [k.out q (by omega),h.get,if_pos (by omega)],
  fun q h1 h2=>by
   by_cases e:q<m - i+j+(m+j - m)
   ·rw [k.lo q (by omega) e,h.get,if_neg (by omega),if_pos (by omega)]; congr 1; omega
   ·rw [k.hi q (by omega) (by omega),h.get,if_neg (by omega),if_neg (by omega)]⟩
theorem SyR.small {c:List α} {i j:Nat} (h:SyW d l c (m - i) (m+j - i) i) (hj:0<i) (hij:i<j) (hi:i<=m) (k:SyR d c l' (m - i) m (m+j - i)):SyR d l l' (m - i) m (m+j) :=
 ⟨k.len.trans h.len,k.perm.trans h.perm,fun q hq=>by rw [k.out q (by omega),h.get,if_neg (by omega),if_neg (by omega)],
  fun q h1 h2=>by
   by_cases e:q<m - i+(m+j - i - m)
   ·rw [k.lo q (by omega) e,h.get,if_neg (by omega),if_neg (by omega)]
   ·rw [k.hi q (by omega) (by omega),h.get,if_pos (by omega)]; congr 1; omega,
  fun q h1 h2=>by rw [k.out q (by omega),h.get,if_neg (by omega),if_pos (by omega)]; congr 1; omega⟩
theorem SyR.even {i:Nat} (h:SyW d l l' (m - i) m i) (hi:i<=m):SyR d l l' (m - i) m (m+i) :=
 ⟨h.len,h.perm,fun q hq=>by rw [h.get,if_neg (by omega),if_neg (by omega)],fun q h1 h2=>by rw [h.get,if_pos (by omega)],fun q h1 h2=>by rw [h.get,if_neg (by omega),if_pos (by omega)]; congr 1; omega⟩
structure SyI (lt:α->α->Bool) (d:α) (l l':List α) (a i j:Nat):Prop where
 out:SyO d l l' a (i+1)
 srt:∀ p q,a<=p->p<q->q<=i->q≠j->lt (l'.getD q d) (l'.getD p d)=false
theorem SyI.start {i:Nat} (h:jB lt d l a i) (hi:a<=i):SyI lt d l l a i i:=⟨SyO.refl _ _ _ _,fun p q h1 h2 h3 h4=>h p q h1 h2 (by omega)⟩
theorem SyI.step (ho:SyOrd lt) {i j:Nat} (h:SyI lt d l l' a i j) (hj:a<j) (hji:j<=i) (hl:i<l.length) (hlt:lt (l'.getD j d) (l'.getD (j - 1) d)=true):SyI lt d l (sySwp d l' j (j - 1)) a i (j - 1):=by
 have e:=h.out.len
 have g:=sySwp_get d l' (i:=j) (j:=j - 1) (by omega) (by omega)
 refine ⟨h.out.trans (SyO.sySwp (by omega) (by omega) (by omega) (by omega) (by omega) (by omega)),fun p q h1 h2 h3 h4=>?_⟩
 rw [g,g,if_neg h4]
 by_cases e1:q=j
 ·rw [if_pos e1]
  by_cases e2:p=j - 1
  ·rw [if_pos e2]; exact ho.tot _ _ hlt
  ·rw [if_neg e2,if_neg (by omega)]; exact h.srt p (j - 1) h1 (by omega) (by omega) (by omega)
 ·rw [if_neg e1]
  by_cases e2:p=j - 1
  ·rw [if_pos e2]; exact h.srt j q (by omega) (by omega) h3 e1
  ·rw [if_neg e2]
   by_cases e3:p=j
   ·rw [if_pos e3]; exact h.srt (j - 1) q (by omega) (by omega) h3 e1
   ·rw [if_neg e3]; exact h.srt p q h1 h2 h3 e1
theorem SyI.fin (ho:SyOrd lt) {i j:Nat} (h:SyI lt d l l' a i j) (hj:a<=j) (hji:j<=i) (hlt:j=a∨lt (l'.getD j d) (l'.getD (j - 1) d)=false):SyM lt d l l' a (i+1):=by
 refine ⟨h.out,fun p q h1 h2 h3=>?_⟩
 by_cases e:q=j
 ·subst e
  rcases hlt with e2 | hlt
  ·omega
  ·by_cases e3:p=q - 1
   ·subst e3; exact hlt
   ·exact ho.tr _ _ _ (h.srt p (q - 1) h1 (by omega) (by omega) (by omega)) hlt
 ·exact h.srt p q h1 h2 (by omega) e
end
end
 
section
open Go Go.RowKit
def lexB:List Int->List Int->Bool
 | [],[]=>false
 | [],_ :: _=>true
 | _ :: _,[]=>false
 | a :: l,b :: m=>decide (a<b) || (decide (a=b) && lexB l m)
theorem lexB_tot:∀ x y,lexB x y=true->lexB y x=false
 | [],[],h=>by cases h
 | [],_ :: _,_=>rfl
 | _ :: _,[],h=>by cases h
 | a :: l,b :: m,h=>by
  simp only [lexB,Bool.or_eq_true,decide_eq_true_eq,Bool.and_eq_true] at h
  simp only [lexB,Bool.or_eq_false_iff,decide_eq_false_iff_not,Bool.and_eq_false_iff]
  rcases h with h | ⟨h,h2⟩
  ·exact ⟨by omega,.inl (by omega)⟩
  ·exact ⟨by omega,.inr (lexB_tot _ _ h2)⟩
theorem lexB_tr:∀ x y z,lexB y x=false->lexB z y=false->lexB z x=false
 | [],_,[],_,_=>rfl
 | [],_,_ :: _,_,_=>rfl
 | _ :: _,[],_,h,_=>by cases h
 | _ :: _,_ :: _,[],_,h=>by cases h
 | a :: l,b :: m,c :: n,h1,h2=>by
  simp only [lexB,Bool.or_eq_false_iff,decide_eq_false_iff_not,Bool.and_eq_false_iff] at h1 h2 |-
  refine ⟨by omega,?_⟩
  by_cases e:c=a
  ·refine .inr (lexB_tr l m n ?_ ?_)
   ·rcases h1.2 with h | h
    ·omega
    ·exact h
   ·rcases h2.2 with h | h
    ·omega
    ·exact h
  ·exact .inl e
def keyQ:PV->List Int
 | .int z=>[z]
 | _=>[]
def ltP (back:Bool) (x y:PV):Bool:=if back then lexB (keyQ y) (keyQ x) else lexB (keyQ x) (keyQ y)
theorem ltP_ord (back:Bool):SyOrd (ltP back):=by
 cases back
 ·exact ⟨fun x y h=>lexB_tot _ _ h,fun x y z h1 h2=>lexB_tr _ _ _ h1 h2⟩
 ·exact ⟨fun x y h=>lexB_tot _ _ h,fun x y z h1 h2=>lexB_tr (keyQ z) (keyQ y) (keyQ x) h2 h1⟩
def Okv (_:Bool) (x:PV):Prop:=∃ z,x=.int z
theorem look_M {k deep:Int} {K:Er->Int->Prop} (h1:1<=k) (h2:k<=5000) (hd:deep<=60) (h:K .ok (k - 1)):jD k deep K :=
 ⟨by simp only [In]; omega,fun e=>absurd e (by simp; omega),fun _=>h⟩
theorem cmpN {x y:Int}:((if x<y then -1 else if y<x then 1 else 0:Int)<0)↔x<y:=by
 by_cases h1:x<y
 ·rw [if_pos h1]; omega
 ·by_cases h2:y<x
  ·rw [if_neg h1,if_pos h2]; omega
  ·rw [if_neg h1,if_neg h2]; omega
theorem vless_M {t:Bool} {x y:PV} {K:Bool->Er->Prop} (hx:Okv t x) (hy:Okv t y) (h:K (lexB (keyQ x) (keyQ y)) .ok):M_val_Less x y K:=by
 obtain ⟨a,rfl⟩:=hx
 obtain ⟨b,rfl⟩:=hy
 unfold M_val_Less kg
 refine look_M (by omega) (by omega) (by omega) ⟨fun e=>absurd rfl e,fun _=>⟨by simp,by simp,fun e=>absurd rfl e,fun _=>⟨fun z e=>?_,fun e=>absurd rfl (e a)⟩⟩⟩
 cases e
 refine ⟨b,rfl,by decide,?_⟩
 dsimp only
 rw [decide_eq_decide.2 cmpN]
 simpa [keyQ,lexB] using h
theorem scmp_M {t back:Bool} {x y:PV} {K:Int->Prop} (hx:Okv t x) (hy:Okv t y) (h:K (if ltP back x y then -1 else if ltP back y x then 1 else 0)):jM x y back false K:=by
 refine ⟨fun a b=>(back=true->a=y/\b=x)/\(back=false->a=x/\b=y),⟨fun e=>⟨fun _=>⟨rfl,rfl⟩,fun e2=>absurd (e.symm.trans e2) (by simp)⟩,fun e=>⟨fun e2=>absurd (e.symm.trans e2) (by simp),fun _=>⟨rfl,rfl⟩⟩⟩,fun a b hab=>?_⟩
 have key:Okv t a/\Okv t b/\lexB (keyQ a) (keyQ b)=ltP back x y/\lexB (keyQ b) (keyQ a)=ltP back y x:=by
  cases back with
  | true=>obtain ⟨rfl,rfl⟩:=hab.1 rfl; exact ⟨hy,hx,rfl,rfl⟩
  | false=>obtain ⟨rfl,rfl⟩:=hab.2 rfl; exact ⟨hx,hy,rfl,rfl⟩
 obtain ⟨ha,hb,e1,e2⟩:=key
 refine vless_M ha hb (vless_M hb ha ⟨fun e=>absurd e (by simp),fun _=>⟨fun e=>?_,fun e=>⟨fun e'=>?_,fun e'=>?_⟩⟩⟩)
 ·rw [e1] at e; rw [e,if_pos rfl] at h; exact h
 ·rw [e1] at e; rw [e2] at e'; rw [e,e',if_neg (by simp),if_pos rfl] at h; exact h
 ·rw [e1] at e; rw [e2] at e'; rw [e,e',if_neg (by simp),if_neg (by simp)] at h; exact h
theorem b3_neg {p q:Bool}:((if p=true then -1 else if q=true then 1 else 0:Int)<0)↔p=true:=by
 cases p <;> cases q <;> simp
abbrev Okl (t:Bool) (l:List PV):Prop:=∀ x∈l,Okv t x
theorem Okl.at {t:Bool} {l:List PV} (h:Okl t l) {i:Nat} (hi:i<l.length):Okv t (l.getD i PV.nil):=by
 have:l.getD i PV.nil=l[i]:=by simp [List.getD,hi]
 rw [this]; exact h _ (List.getElem_mem hi)
theorem Okl.perm {t:Bool} {l m:List PV} (h:Okl t l) (k:m.Perm l):Okl t m:=fun x hx=>h x (k.mem_iff.1 hx)
variable {t back:Bool} {data:List PV} {K:List PV->Prop}
theorem insertion_M {a b:Int} (hP:Okl t data) (h0:0<=a) (hab:a<=b) (hb:b<=data.length) (hl:data.length<=1000) (h:∀ d',SyM (ltP back) PV.nil data d' a.toNat b.toNat->K d') :
  qR data a b back false K:=by
 intro _
 refine ⟨by simp only [In]; omega,fun i d2=>a+1<=i/\(i<=b∨i=a+1)/\SyM (ltP back) PV.nil data d2 a.toNat (min i b).toNat,fun i _=>(b - i).toNat,⟨by omega,.inr rfl,SyO.refl _ _ _ _,fun i j h1 h2 h3=>by omega⟩,?_⟩
 rintro i d2 ⟨h1,h2,h3⟩ hlen
 refine ⟨fun hi=>?_,fun hi=>?_⟩
 ·rw [Int.min_eq_left (by omega)] at h3
  refine ⟨fun j d3=>a<=j/\j<=i/\SyI (ltP back) PV.nil d2 d3 a.toNat i.toNat j.toNat,fun j _=>j.toNat,⟨by omega,by omega,SyI.start h3.2 (by omega)⟩,?_⟩
  rintro j d3 ⟨k1,k2,k3⟩ hlen3
  have hP3:Okl t d3:=hP.perm (k3.out.perm.trans h3.1.perm)
  refine ⟨fun q=>q=(decide (a<j) && ltP back (d3.getD j.toNat PV.nil) (d3.getD (j - 1).toNat PV.nil)),⟨fun hj=>?_,fun hj=>?_⟩,fun q hq=>⟨fun hq1=>?_,fun hq0=>?_⟩⟩
  ·have hj:=of_decide_eq_true hj
   refine ⟨⟨by omega,by omega⟩,by simp only [In]; omega,⟨by omega,by omega⟩,scmp_M (hP3.at (by omega)) (hP3.at (by omega)) ?_⟩
   dsimp only
   generalize ltP back (d3.getD j.toNat PV.nil) (d3.getD (j - 1).toNat PV.nil)=p
   generalize ltP back (d3.getD (j - 1).toNat PV.nil) (d3.getD j.toNat PV.nil)=q
   cases p <;> cases q <;> simp [hj]
  ·rw [hj]; rfl
  ·rw [hq,Bool.and_eq_true] at hq1
   have hj:=of_decide_eq_true hq1.1
   have ej:(j - 1).toNat=j.toNat - 1:=by omega
   refine ⟨by simp only [In]; omega,by simp only [In]; omega,⟨by omega,by omega⟩,⟨by omega,by omega⟩,⟨by omega,by omega⟩,⟨by omega,by omega⟩,by simp only [In]; omega,⟨by omega,by omega,?_⟩,by first | omega | (dsimp only; omega)⟩
   rw [ej] at hq1 |-
   exact k3.step (ltP_ord back) (by omega) (by omega) (by omega) hq1.2
  ·rw [hq,Bool.and_eq_false_iff] at hq0
   refine ⟨by simp only [In]; omega,⟨by omega,by omega,?_⟩,by first | omega | (dsimp only; omega)⟩
   rw [Int.min_eq_left (show i+1<=b by omega),show (i+1).toNat=i.toNat+1 by omega]
   have f:=k3.fin (ltP_ord back) (by omega) (by omega) (by
    rcases hq0 with e | e
    ·have:=of_decide_eq_false e; exact .inl (by omega)
    ·rw [show (j - 1).toNat=j.toNat - 1 by omega] at e; exact .inr e)
   exact ⟨(h3.1.wide (Nat.le_refl _) (by omega)).trans f.1,f.2⟩
 ·rw [Int.min_eq_right (by omega)] at h3
  exact h _ h3
theorem swapRange_M {a b n:Int} (h0:0<=a) (hn:0<=n) (hab:a+n<=b) (hb:b+n<=data.length) (hl:data.length<=1000) (h:∀ d',SyW PV.nil data d' a.toNat b.toNat n.toNat->K d') :
  qQ data a b n back false K:=by
 intro _
 refine ⟨fun i d2=>0<=i/\i<=n/\SyW PV.nil data d2 a.toNat b.toNat i.toNat,fun i _=>(n - i).toNat,⟨by omega,hn,SyW.zero _ _ _ _⟩,?_⟩
 rintro i d2 ⟨h1,h2,h3⟩ hlen
 refine ⟨fun hi=>?_,fun hi=>?_⟩
 ·have e1:(a+i).toNat=a.toNat+i.toNat:=by omega
  have e2:(b+i).toNat=b.toNat+i.toNat:=by omega
  refine ⟨by simp only [In]; omega,by simp only [In]; omega,by simp only [In]; omega,⟨by omega,by omega⟩,by simp only [In]; omega,⟨by omega,by omega⟩,⟨by omega,by omega⟩,⟨by omega,by omega⟩,by simp only [In]; omega,⟨by omega,by omega,?_⟩,by first | omega | (dsimp only; omega)⟩
  rw [show (i+1).toNat=i.toNat+1 by omega,e1,e2]
  exact h3.succ (by omega) (by omega)
 ·have:i=n:=by omega
  subst this; exact h _ h3
theorem rotate_M {a m b:Int} (h0:0<=a) (hm:a<m) (hb:m<b) (hbl:b<=data.length) (hl:data.length<=1000) (h:∀ d',SyR PV.nil data d' a.toNat m.toNat b.toNat->K d') :
  jd data a m b back false K:=by
 intro _
 refine ⟨by simp only [In]; omega,by simp only [In]; omega,fun i j d2=>0<i/\0<j/\i<=m - a/\j<=b - m/\d2.length=data.length/\∀ d',SyR PV.nil d2 d' (m.toNat - i.toNat) m.toNat (m.toNat+j.toNat)->SyR PV.nil data d' a.toNat m.toNat b.toNat,fun i j _=>(i+j).toNat,⟨by omega,by omega,by omega,by omega,rfl,fun d' k=>?_⟩,?_⟩
 ·rwa [show m.toNat - (m - a).toNat=a.toNat by omega,show m.toNat+(b - m).toNat=b.toNat by omega] at k
 ·rintro i j d2 ⟨h1,h2,h3,h4,hlen2,h5⟩ hlen
  have em:(m - i).toNat=m.toNat - i.toNat:=by omega
  refine ⟨fun hij=>⟨fun hji=>?_,fun hji=>?_⟩,fun hij=>?_⟩
  ·refine ⟨by simp only [In]; omega,swapRange_M (by omega) (by omega) (by omega) (by omega) (by omega) fun c hc=>⟨by simp only [In]; omega,⟨by omega,by omega,by omega,by omega,hc.len.trans hlen2,fun d' k=>h5 d' ?_⟩,by first | omega | (dsimp only; omega)⟩⟩
   rw [em] at hc
   refine SyR.big hc (by omega) (by omega) (by omega) ?_
   rwa [show m.toNat - (i - j).toNat=m.toNat - i.toNat+j.toNat by omega] at k
  ·refine ⟨by simp only [In]; omega,by simp only [In]; omega,by simp only [In]; omega,swapRange_M (by omega) (by omega) (by omega) (by omega) (by omega) fun c hc=>⟨by simp only [In]; omega,⟨by omega,by omega,by omega,by omega,hc.len.trans hlen2,fun d' k=>h5 d' ?_⟩,by first | omega | (dsimp only; omega)⟩⟩
   rw [em,show (m+j - i).toNat=m.toNat+j.toNat - i.toNat by omega] at hc
   refine SyR.small hc (by omega) (by omega) (by omega) ?_
   rwa [show m.toNat+(j - i).toNat=m.toNat+j.toNat - i.toNat by omega] at k
  ·subst hij
   refine ⟨by simp only [In]; omega,swapRange_M (by omega) (by omega) (by omega) (by omega) (by omega) fun c hc=>h _ (h5 _ ?_)⟩
   rw [em] at hc
   exact SyR.even hc (by omega)
end
 
section
open Go Go.RowKit
section
variable {α:Type} {d:α} {l l':List α} {a b m:Nat} {lt:α->α->Bool}
theorem SyM.ahead (ho:SyOrd lt) {e:Nat} (h2:jB lt d l (a+1) b) (rot:SyR d l l' a (a+1) e) (h3:a+1<=e) (h4:e<=b) (c1:e=a+1∨lt (l.getD (e - 1) d) (l.getD a d)=true) (c2:e=b∨lt (l.getD e d) (l.getD a d)=false):SyM lt d l l' a b:=by
 refine ⟨(rot.toOut (by omega) (by omega)).wide (Nat.le_refl _) h4,fun i j h5 h6 h7=>?_⟩
 have lo:∀ k,a<=k->k<e - 1->l'.getD k d=l.getD (k+1) d:=fun k q1 q2=>by rw [rot.lo k q1 (by omega)]; congr 1; omega
 have at1:l'.getD (e - 1) d=l.getD a d:=by rw [rot.hi (e - 1) (by omega) (by omega)]; congr 1; omega
 have lta:∀ k,a+1<=k->k<e->lt (l.getD a d) (l.getD k d)=false:=fun k q1 q2=>by
  rcases c1 with c1 | c1
  ·omega
  ·exact ho.tr _ _ _ (h2.le ho (i:=k) (j:=e - 1) q1 (by omega) (by omega)) (ho.tot _ _ c1)
 have gta:∀ k,e<=k->k<b->lt (l.getD k d) (l.getD a d)=false:=fun k q1 q2=>by
  rcases c2 with c2 | c2
  ·omega
  ·exact ho.tr _ _ _ c2 (h2.le ho (i:=e) (j:=k) (by omega) q1 q2)
 rcases Nat.lt_trichotomy j (e - 1) with hj | hj | hj
 ·rw [lo i h5 (by omega),lo j (by omega) hj]; exact h2 _ _ (by omega) (by omega) (by omega)
 ·subst hj; rw [at1,lo i h5 h6]; exact lta _ (by omega) (by omega)
 ·rw [rot.out j (by omega)]
  rcases Nat.lt_trichotomy i (e - 1) with hi | hi | hi
  ·rw [lo i h5 hi]; exact h2 _ _ (by omega) (by omega) (by omega)
  ·subst hi; rw [at1]; exact gta _ (by omega) h7
  ·rw [rot.out i (by omega)]; exact h2 _ _ (by omega) h6 h7
theorem SyM.behind (ho:SyOrd lt) {e:Nat} (h1:jB lt d l a m) (rot:SyR d l l' e m (m+1)) (h3:a<=e) (h4:e<=m) (c1:e=a∨lt (l.getD m d) (l.getD (e - 1) d)=false) (c2:e=m∨lt (l.getD m d) (l.getD e d)=true):SyM lt d l l' a (m+1):=by
 refine ⟨(rot.toOut (by omega) (by omega)).wide h3 (Nat.le_refl _),fun i j h5 h6 h7=>?_⟩
 have at1:l'.getD e d=l.getD m d:=by rw [rot.lo e (by omega) (by omega)]; congr 1; omega
 have hi1:∀ k,e<k->k<m+1->l'.getD k d=l.getD (k - 1) d:=fun k q1 q2=>by rw [rot.hi k (by omega) q2]; congr 1; omega
 have lta:∀ k,a<=k->k<e->lt (l.getD m d) (l.getD k d)=false:=fun k q1 q2=>by
  rcases c1 with c1 | c1
  ·omega
  ·exact ho.tr _ _ _ (h1.le ho (i:=k) (j:=e - 1) q1 (by omega) (by omega)) c1
 have gta:∀ k,e<=k->k<m->lt (l.getD k d) (l.getD m d)=false:=fun k q1 q2=>by
  rcases c2 with c2 | c2
  ·omega
  ·exact ho.tr _ _ _ (ho.tot _ _ c2) (h1.le ho (i:=e) (j:=k) (by omega) q1 q2)
 rcases Nat.lt_trichotomy i e with hi | hi | hi
 ·rw [rot.out i (by omega)]
  rcases Nat.lt_trichotomy j e with hj | hj | hj
  ·rw [rot.out j (by omega)]; exact h1 _ _ h5 h6 (by omega)
  ·subst hj; rw [at1]; exact lta _ h5 hi
  ·rw [hi1 j hj h7]; exact h1 _ _ h5 (by omega) (by omega)
 ·subst hi; rw [at1,hi1 j h6 h7]; exact gta _ (by omega) (by omega)
 ·rw [hi1 i hi (by omega),hi1 j (by omega) h7]; exact h1 _ _ (by omega) (by omega) (by omega)
end
theorem shr_half {x:Int} (h:0<=x):shrV .u64 x 1=x / 2:=by
 unfold shrV
 rw [show min 1 IntKind.u64.bits=1 from rfl,Int.fdiv_eq_ediv_of_nonneg _ (by omega)]; rfl
theorem sym_M {t back:Bool}:∀ (n:Nat) {data:List PV} {K:List PV->Prop} {a m b:Int},b - a<=n->Okl t data->0<=a->a<m->m<b->b<=data.length->data.length<=1000->jB (ltP back) PV.nil data a.toNat m.toNat->jB (ltP back) PV.nil data m.toNat b.toNat ->
  (∀ d',SyM (ltP back) PV.nil data d' a.toNat b.toNat->K d')->qT n data a m b back false K
 | 0,_,_,_,_,_,hn,_,_,_,_,_,_,_,_,_=>by omega
 | n+1,data,K,a,m,b,hn,hP,h0,ham,hmb,hb,hl,s1,s2,h=>by
  have ho:=ltP_ord back
  show qW _ _ _ _ _ _ _ _
  intro _
  refine ⟨by simp only [In]; omega,fun e1=>?_,fun e1=>⟨by simp only [In]; omega,fun e2=>?_,fun e2=>?_⟩⟩
  ·
   have em:m.toNat=a.toNat+1:=by omega
   refine ⟨fun i j=>m<=i/\i<=j/\j<=b/\(i=m∨ltP back (data.getD (i.toNat - 1) PV.nil) (data.getD a.toNat PV.nil)=true)/\(j=b∨ltP back (data.getD j.toNat PV.nil) (data.getD a.toNat PV.nil)=false),fun i j=>(j - i).toNat,⟨by omega,by omega,by omega,.inl rfl,.inl rfl⟩,?_⟩
   rintro i j ⟨h1,h2,h3,c1,c2⟩
   refine ⟨fun hij=>?_,fun hij=>?_⟩
   ·have hs:=shr_half (x:=i+j) (by omega)
    rw [hs]
    refine ⟨by simp only [In]; omega,by simp only [In]; omega,by simp only [In]; omega,⟨by omega,by omega⟩,⟨by omega,by omega⟩,scmp_M (hP.at (by omega)) (hP.at (by omega)) ⟨fun e=>?_,fun e=>?_⟩⟩
    ·rw [b3_neg] at e
     refine ⟨by simp only [In]; omega,⟨by omega,by omega,by omega,.inr ?_,c2⟩,by first | omega | (dsimp only; omega)⟩
     rw [show ((i+j) / 2+1).toNat - 1=((i+j) / 2).toNat by omega]; exact e
    ·rw [b3_neg] at e
     exact ⟨⟨by omega,by omega,by omega,c1,.inr (by simpa using e)⟩,by first | omega | (dsimp only; omega)⟩
   ·have eij:i=j:=by omega
    subst eij
    refine ⟨fun k d2=>a<=k/\k<=i - 1/\SyR PV.nil data d2 a.toNat (a.toNat+1) (k.toNat+1),fun k _=>(i - k).toNat,⟨by omega,by omega,SyR.zero1 _ _ _⟩,?_⟩
    rintro k d2 ⟨k1,k2,k3⟩ hlen
    refine ⟨by simp only [In]; omega,fun hk=>?_,fun hk=>?_⟩
    ·refine ⟨by simp only [In]; omega,by simp only [In]; omega,⟨by omega,by omega⟩,⟨by omega,by omega⟩,⟨by omega,by omega⟩,⟨by omega,by omega⟩,by simp only [In]; omega,⟨by omega,by omega,?_⟩,by first | omega | (dsimp only; omega)⟩
     rw [show (k+1).toNat=k.toNat+1 by omega]
     exact k3.up (by omega) (by omega)
    ·have ek:k.toNat+1=i.toNat:=by omega
     rw [ek] at k3
     rw [em] at s2
     refine h _ (SyM.ahead ho s2 k3 (by omega) (by omega) ?_ ?_)
     ·rcases c1 with c | c
      ·left; omega
      ·exact .inr c
     ·rcases c2 with c | c
      ·left; omega
      ·exact .inr c
  ·
   have eb:b.toNat=m.toNat+1:=by omega
   refine ⟨fun i j=>a<=i/\i<=j/\j<=m/\(i=a∨ltP back (data.getD m.toNat PV.nil) (data.getD (i.toNat - 1) PV.nil)=false)/\(j=m∨ltP back (data.getD m.toNat PV.nil) (data.getD j.toNat PV.nil)=true),fun i j=>(j - i).toNat,⟨by omega,by omega,by omega,.inl rfl,.inl rfl⟩,?_⟩
   rintro i j ⟨h1,h2,h3,c1,c2⟩
   refine ⟨fun hij=>?_,fun hij=>?_⟩
   ·have hs:=shr_half (x:=i+j) (by omega)
    rw [hs]
    refine ⟨by simp only [In]; omega,by simp only [In]; omega,by simp only [In]; omega,⟨by omega,by omega⟩,⟨by omega,by omega⟩,scmp_M (hP.at (by omega)) (hP.at (by omega)) ⟨fun e=>?_,fun e=>?_⟩⟩
    ·rw [b3_neg] at e
     refine ⟨by simp only [In]; omega,⟨by omega,by omega,by omega,.inr ?_,c2⟩,by first | omega | (dsimp only; omega)⟩
     rw [show ((i+j) / 2+1).toNat - 1=((i+j) / 2).toNat by omega]; simpa using e
    ·rw [b3_neg] at e
     exact ⟨⟨by omega,by omega,by omega,c1,.inr e⟩,by first | omega | (dsimp only; omega)⟩
   ·have eij:i=j:=by omega
    subst eij
    refine ⟨fun k d2=>i<=k/\k<=m/\SyR PV.nil data d2 k.toNat m.toNat (m.toNat+1),fun k _=>k.toNat,⟨by omega,by omega,SyR.zero2 _ _ _⟩,?_⟩
    rintro k d2 ⟨k1,k2,k3⟩ hlen
    refine ⟨fun hk=>?_,fun hk=>?_⟩
    ·refine ⟨by simp only [In]; omega,by simp only [In]; omega,⟨by omega,by omega⟩,⟨by omega,by omega⟩,⟨by omega,by omega⟩,⟨by omega,by omega⟩,by simp only [In]; omega,⟨by omega,by omega,?_⟩,by first | omega | (dsimp only; omega)⟩
     rw [show (k - 1).toNat=k.toNat - 1 by omega]
     exact k3.down (by omega) (by omega) (by omega)
    ·have ek:k=i:=by omega
     subst ek
     rw [eb] at h
     refine h _ (SyM.behind ho s1 k3 (by omega) (by omega) ?_ ?_)
     ·rcases c1 with c | c
      ·left; omega
      ·exact .inr c
     ·rcases c2 with c | c
      ·left; omega
      ·exact .inr c
  ·have hs:=shr_half (x:=a+b) (by omega)
   rw [hs]
   generalize hmid:(a+b) / 2=mid
   have hmid1:a<mid/\mid<b:=by omega
   refine ⟨by simp only [In]; omega,by simp only [In]; omega,by simp only [In]; omega,by simp only [In]; omega,fun lo hi=>(mid<m/\lo=mid+m - b/\hi=mid)∨(m<=mid/\lo=a/\hi=m),⟨fun e=>⟨by simp only [In]; omega,.inl ⟨e,rfl,rfl⟩⟩,fun e=>.inr ⟨by omega,rfl,rfl⟩⟩,fun lo hi hlh=>?_⟩
   have hlo:a<=lo/\lo<=hi/\hi<=m/\hi<=mid/\mid+m - lo<=b/\m<=mid+m - hi:=by
    rcases hlh with ⟨e,rfl,rfl⟩ | ⟨e,rfl,rfl⟩ <;> omega
   refine ⟨by simp only [In]; omega,fun i j=>lo<=i/\i<=j/\j<=hi/\(i=lo∨ltP back (data.getD (mid+m - i).toNat PV.nil) (data.getD (i.toNat - 1) PV.nil)=false)/\(j=hi∨ltP back (data.getD ((mid+m - j).toNat - 1) PV.nil) (data.getD j.toNat PV.nil)=true),fun i j=>(j - i).toNat,⟨by omega,by omega,by omega,.inl rfl,.inl rfl⟩,?_⟩
   rintro i j ⟨h1,h2,h3,c1,c2⟩
   refine ⟨fun hij=>?_,fun hij=>?_⟩
   ·have hs:=shr_half (x:=i+j) (by omega)
    rw [hs]
    refine ⟨by simp only [In]; omega,by simp only [In]; omega,by simp only [In]; omega,by simp only [In]; omega,⟨by omega,by omega⟩,⟨by omega,by omega⟩,scmp_M (hP.at (by omega)) (hP.at (by omega)) ⟨fun e=>?_,fun e=>?_⟩⟩
    ·rw [b3_neg] at e
     refine ⟨by simp only [In]; omega,⟨by omega,by omega,by omega,.inr ?_,c2⟩,by first | omega | (dsimp only; omega)⟩
     rw [show ((i+j) / 2+1).toNat - 1=((i+j) / 2).toNat by omega,show mid+m - ((i+j) / 2+1)=mid+m - 1 - (i+j) / 2 by omega]; simpa using e
    ·rw [b3_neg] at e
     refine ⟨⟨by omega,by omega,by omega,c1,.inr ?_⟩,by first | omega | (dsimp only; omega)⟩
     rw [show (mid+m - (i+j) / 2).toNat - 1=(mid+m - 1 - (i+j) / 2).toNat by omega]; exact e
   ·have eij:i=j:=by omega
    subst eij
    have cut:∀ d',SyR PV.nil data d' i.toNat m.toNat (mid+m - i).toNat->SyC (ltP back) PV.nil data d' a.toNat m.toNat b.toNat i.toNat (mid+m - i).toNat:=fun d' rot=>by
     refine ⟨s1,s2,rot,by omega,fun x1 x2=>?_,fun y1 y2=>?_⟩
     ·rcases c1 with c | c
      ·exfalso
       rcases hlh with ⟨e,rfl,rfl⟩ | ⟨e,rfl,rfl⟩ <;> omega
      ·exact c
     ·rcases c2 with c | c
      ·exfalso
       rcases hlh with ⟨e,rfl,rfl⟩ | ⟨e,rfl,rfl⟩ <;> omega
      ·exact c
    refine ⟨by simp only [In]; omega,fun xs=>SyR PV.nil data xs i.toNat m.toNat (mid+m - i).toNat,⟨fun e=>?_,fun e=>?_⟩,fun xs hxs hlen=>?_⟩
    ·simp only [Bool.and_eq_true,decide_eq_true_eq] at e
     exact rotate_M (by omega) (by omega) (by omega) (by omega) hl fun d' k=>k
    ·simp only [Bool.and_eq_false_iff,decide_eq_false_iff_not] at e
     rcases Int.lt_or_le i m with e3 | e3
     ·have e4:(mid+m - i).toNat=m.toNat:=by omega
      rw [e4]
      exact ⟨rfl,List.Perm.refl _,fun _ _=>rfl,fun k q1 q2=>by omega,fun k q1 q2=>by congr 1; omega⟩
     ·have e4:i.toNat=m.toNat:=by omega
      rw [e4]
      exact ⟨rfl,List.Perm.refl _,fun _ _=>rfl,fun k q1 q2=>by congr 1; omega,fun k q1 q2=>by omega⟩
    ·have hC:=cut xs hxs
     obtain ⟨f1,f2,f3,f4,_⟩:=hC.fin ho
     have eq:mid.toNat=i.toNat+((mid+m - i).toNat - m.toNat):=by omega
     have hPx:Okl t xs:=hP.perm hxs.perm
     rw [<-eq] at f2 f3
     refine ⟨fun ys=>SyM (ltP back) PV.nil xs ys a.toNat mid.toNat,⟨fun e=>?_,fun e=>?_⟩,fun ys hys hlen2=>⟨fun e=>?_,fun e=>?_⟩⟩
     ·simp only [Bool.and_eq_true,decide_eq_true_eq] at e
      exact sym_M n (by omega) hPx h0 e.1 e.2 (by omega) (by omega) f1 f2 fun d' k=>k
     ·simp only [Bool.and_eq_false_iff,decide_eq_false_iff_not] at e
      refine ⟨SyO.refl _ _ _ _,?_⟩
      rcases Int.lt_or_le a i with e3 | e3
      ·rwa [show i.toNat=mid.toNat by omega] at f1
      ·rwa [show i.toNat=a.toNat by omega] at f2
     ·simp only [Bool.and_eq_true,decide_eq_true_eq] at e
      refine sym_M n (by omega) (hPx.perm hys.1.perm) (by omega) e.1 e.2 (by omega) (by omega) (f3.out hys.1 (.inl (by omega))) (f4.out hys.1 (.inl (by omega))) fun d' k=>h _ ?_
      exact hC.halves ho eq hys k
     ·simp only [Bool.and_eq_false_iff,decide_eq_false_iff_not] at e
      refine h _ (hC.halves ho eq hys ⟨SyO.refl _ _ _ _,?_⟩)
      rcases Int.lt_or_le mid (mid+m - i) with e3 | e3
      ·have:=f3.out hys.1 (.inl (Nat.le_refl _))
       rwa [show (mid+m - i).toNat=b.toNat by omega] at this
      ·have:=f4.out hys.1 (.inl (by omega))
       rwa [show (mid+m - i).toNat=mid.toNat by omega] at this
end
 
section
open Go Go.RowKit
theorem txt_len {z:Int} (h : -100000000<z/\z<100000000):(txt z).length<=9:=by
 have:=dd_len 8 z.natAbs (by omega)
 unfold txt
 split
 ·simp
 ·split <;> simp <;> omega
theorem full_M {p:List UInt8} {K:Bool->Prop} (hp:p.length<65536) (h:K false):jA p K:=by
 intro _
 rw [decide_eq_false (by omega)]; exact h
theorem put_M {p t:List UInt8} {K:List UInt8->Prop} (hp:p.length+t.length<=65536) (h:K (p++t)):qY p [t] K:=by
 intro _ _
 refine ⟨fun i q=>(i=0/\q=p)∨(i=1/\q=p++t),fun i _=>(1 - i).toNat,.inl ⟨rfl,rfl⟩,?_⟩
 rintro i q (⟨rfl,rfl⟩ | ⟨rfl,rfl⟩)
 ·have e:(if (65536:Int) - (q.length:Int)<(t.length:Int) then (65536:Int) - (q.length:Int) else (t.length:Int)).toNat=t.length:=by
   split <;> omega
  refine ⟨fun _=>⟨by simp,by simp only [In]; omega,?_,?_,by simp only [In]; omega,?_,by dsimp only; omega⟩,fun hn=>absurd (by simp) hn⟩
  ·simp only [Int.toNat_zero,List.getD_cons_zero]; split <;> omega
  ·simp only [Int.toNat_zero,List.getD_cons_zero,e,List.take_length]; omega
  ·simp only [Int.toNat_zero,List.getD_cons_zero,e,List.take_length]
   exact .inr ⟨by omega,by first | rfl | trivial⟩
 ·exact ⟨fun hl=>absurd hl (by simp),fun _=>h⟩
theorem text_M {z:Int} {K:List UInt8->Prop} (h:K (txt z)):M_num_Num_Text z 3 K:=⟨by decide,h⟩
theorem vrepr_int {z:Int} {K:List UInt8->Prop} (hp:(txt z).length<=65000) (h:K (txt z)):jb (.int z) K:=by
 intro _
 refine full_M (by decide) ⟨fun e=>(by cases e),fun _=>⟨fun e=>(by cases e),fun z' e=>?_,fun e=>absurd rfl (e z)⟩⟩
 cases e
 exact text_M (put_M (by simp; omega) h)
theorem getD_get' {α:Type} {l:List α} {i:Nat} {d:α} (h:i<l.length):l.getD i d=l[i]:=by simp [List.getD,h]
def PlainC (c:UInt8):Prop:=34<c.toNat/\c.toNat<127/\c.toNat≠92
def quoT (s:List UInt8):List UInt8:=[34]++s++[34]
theorem quote_M {s:List UInt8} {K:List UInt8->Prop} (hs:∀ c∈s,PlainC c) (hl:s.length<=1000) (h:K (quoT s)):M_lex_Quote s K:=by
 refine ⟨fun b i=>0<=i/\i<=s.length/\b=[34]++s.take i.toNat,fun _ i=>((s.length:Int) - i).toNat,⟨by omega,by omega,by simp⟩,?_⟩
 rintro b i ⟨h0,h1,rfl⟩
 refine ⟨fun hi=>?_,fun hi=>?_⟩
 ·have hlt:i.toNat<s.length:=by omega
  obtain ⟨c1,c2,c3⟩:=hs s[i.toNat] (List.getElem_mem hlt)
  have e1:s.getD i.toNat 0=s[i.toNat]:=getD_get' hlt
  have e2:s.take (i+1).toNat=s.take i.toNat++[s[i.toNat]]:=by
   rw [show (i+1).toNat=i.toNat+1 by omega,List.take_add_one,List.getElem?_eq_getElem hlt]; rfl
  rw [e1]
  refine ⟨fun q=>q=[34]++s.take i.toNat++[s[i.toNat]],⟨⟨h0,by omega⟩,fun e=>absurd e (by omega),fun _=>⟨fun e=>absurd e (by omega),fun _=>⟨fun e=>?_,fun _=>⟨fun e=>?_,fun _=>⟨by simp; omega,rfl⟩⟩⟩⟩⟩,?_⟩
  ·simp only [Bool.or_eq_true,decide_eq_true_eq] at e; omega
  ·simp only [Bool.or_eq_true,decide_eq_true_eq] at e; omega
  ·rintro _ rfl
   exact ⟨by simp only [In]; omega,⟨by omega,by omega,by rw [e2,List.append_assoc]⟩,by first | omega | (dsimp only; omega)⟩
 ·have:s.take i.toNat=s:=List.take_of_length_le (by omega)
  rw [this]
  exact ⟨by simp; omega,h⟩
def comG {α:Type} (f:α->List UInt8):List α->List UInt8
 | []=>[]
 | [x]=>f x
 | x :: y :: l=>f x++[44,32]++comG f (y :: l)
theorem comG_push {α:Type} (f:α->List UInt8):∀ (l:List α) (z:α),comG f (l++[z])=comG f l++(if l=[] then [] else [44,32])++f z
 | [],z=>by simp [comG]
 | [y],z=>by simp [comG]
 | y :: x :: l,z=>by
  have:=comG_push f (x :: l) z
  rw [List.cons_append,List.cons_append,comG,<-List.cons_append,this,comG]
  simp
theorem comG_len {α:Type} {f:α->List UInt8} {b:Nat}:∀ {l:List α},(∀ z∈l,(f z).length<=b)->(comG f l).length<=(b+2)*l.length
 | [],_=>by simp [comG]
 | [z],h=>by have:=h z (by simp); simp [comG]; omega
 | z :: y :: l,h=>by
  have h1:=comG_len (l:=y :: l) fun x hx=>h x (List.mem_cons_of_mem _ hx)
  have h2:=h z (by simp)
  rw [comG]
  simp only [List.length_append,List.length_cons,List.length_nil] at h1 |-
  rw [show (b+2)*(l.length+1+1)=(b+2)*(l.length+1)+(b+2) by rw [Nat.mul_add (b+2) (l.length+1) 1,Nat.mul_one]]
  omega
def repA:PA->List UInt8
 | .int z=>txt z
 | .str s=>quoT s
def OkA:PA->Prop
 | .int z => -100000000<z/\z<100000000
 | .str s=>(∀ c∈s,PlainC c)/\s.length<=10
theorem repA_len {x:PA} (h:OkA x):(repA x).length<=12:=by
 cases x with
 | int z=>have:=txt_len h; simp only [repA]; omega
 | str s=>have:=h.2; simp [repA,quoT]; omega
theorem reprA_M {p:List UInt8} {x:PA} {deep:Int} {K:List UInt8->Prop} (hx:OkA x) (hp:p.length<=64000) (h:K (p++repA x)):j1 p x.v deep K:=by
 have hl:=repA_len hx
 intro _
 refine full_M (by omega) ⟨fun e=>(by cases e),fun _=>?_⟩
 cases x with
 | int z =>
  refine ⟨fun e=>(by cases e),fun z' e=>?_,fun e=>absurd rfl (e z)⟩
  cases e
  exact text_M (put_M (by simp only [repA] at hl; omega) h)
 | str s =>
  refine ⟨fun e=>(by cases e),fun z' e=>(by cases e),fun _=>⟨fun s' e=>?_,fun e=>absurd rfl (e s)⟩⟩
  cases e
  exact quote_M hx.1 (by have:=hx.2; omega) (put_M (by simp only [repA] at hl; omega) h)
theorem itemsA_M {p:List UInt8} {l:List PA} {deep:Int} {K:List UInt8->Prop} (hl:l.length<=2000) (hp:p.length<=10000) (ht:∀ z∈l,OkA z) (h:K (p++comG repA l)):jJ p (l.map PA.v) deep K:=by
 intro _ _
 refine ⟨fun i q=>0<=i/\i<=l.length/\q=p++comG repA (l.take i.toNat),fun i _=>((l.length:Int) - i).toNat,⟨by omega,by omega,by simp [comG]⟩,?_⟩
 rintro i q ⟨h0,h1,rfl⟩
 have hc:=comG_len (f:=repA) (b:=12) (l:=l.take i.toNat) fun z hz=>repA_len (ht z (List.mem_of_mem_take hz))
 have hcl:(l.take i.toNat).length<=2000:=by rw [List.length_take]; omega
 rw [List.length_map]
 refine ⟨fun hi=>⟨⟨h0,by omega⟩,full_M (by simp; omega) ⟨fun e=>(by cases e),fun _=>?_⟩⟩,fun hi=>?_⟩
 ·have hlt:i.toNat<l.length:=by omega
  have e1:(l.map PA.v).getD i.toNat PV.nil=l[i.toNat].v:=by rw [getD_get' (by simpa using hlt)]; simp
  have e2:l.take (i+1).toNat=l.take i.toNat++[l[i.toNat]]:=by
   rw [show (i+1).toNat=i.toNat+1 by omega,List.take_add_one,List.getElem?_eq_getElem hlt]; rfl
  refine ⟨fun q=>q=p++(comG repA (l.take i.toNat)++(if l.take i.toNat=[] then [] else [44,32])),⟨fun hpos=>?_,fun hn=>?_⟩,?_⟩
  ·refine put_M (by simp; omega) ?_
   have:l.take i.toNat≠[]:=by
    intro e
    have:=congrArg List.length e
    rw [List.length_take,List.length_nil] at this
    omega
   rw [if_neg this,List.append_assoc]
  ·have e0:i=0:=by omega
   subst e0
   simp
  ·rintro _ rfl
   rw [e1]
   refine reprA_M (ht _ (List.getElem_mem hlt)) ?_ ⟨by simp only [In]; omega,⟨by omega,by omega,?_⟩,by dsimp only; omega⟩
   ·simp only [List.length_append]
    split <;> simp only [List.length_nil,List.length_cons] <;> omega
   ·rw [e2,comG_push]; simp
 ·have:l.take i.toNat=l:=List.take_of_length_le (by omega)
  rw [this]; exact h
def tupA (l:List PA):List UInt8:=[40]++comG repA l++(if l.length=1 then [44,41] else [41])
theorem partsA_M {p:List UInt8} {l:List PA} {deep:Int} {K:List UInt8->Prop} (hd:0<=deep/\deep<60) (hl:l.length<=50) (hp:p.length<=9000) (ht:∀ z∈l,OkA z) (h:K (p++tupA l)):jW p (.tup l) deep K:=by
 have hc:=comG_len (f:=repA) (b:=12) (l:=l) fun z hz=>repA_len (ht z hz)
 intro _
 refine ⟨fun e=>absurd e (by omega),fun _=>⟨fun e=>(by cases e),fun _=>⟨fun l' e=>?_,fun e=>absurd rfl (e l)⟩⟩⟩
 cases e
 refine put_M (by simp; omega) ⟨by simp only [In]; omega,itemsA_M (by omega) (by simp; omega) ht ?_⟩
 refine ⟨fun q=>q=p++[40]++comG repA l++(if l.length=1 then [44] else []),⟨fun e=>?_,fun e=>?_⟩,?_⟩
 ·rw [List.length_map] at e
  rw [if_pos (by omega)]
  exact put_M (by simp; omega) rfl
 ·rw [List.length_map] at e
  rw [if_neg (by omega),List.append_nil]
 ·rintro _ rfl
  refine put_M (by simp only [List.length_append]; split <;> simp <;> omega) ?_
  have:p++[40]++comG repA l++(if l.length=1 then [44] else [])++[41]=p++tupA l:=by
   unfold tupA
   split <;> simp
  rw [this]; exact h
def repV:PV->List UInt8
 | .int z=>txt z
 | .str s=>quoT s
 | .tup l=>tupA l
 | _=>[]
def OkI:PV->Prop
 | .int z=>OkA (.int z)
 | .str s=>OkA (.str s)
 | .tup l=>l.length=2/\∀ x∈l,OkA x
 | _=>False
theorem repV_len {x:PV} (h:OkI x):(repV x).length<=40:=by
 cases x with
 | int z=>have:=repA_len (x:=.int z) h; simp only [repA] at this; simp only [repV]; omega
 | str s=>have:=repA_len (x:=.str s) h; simp only [repA] at this; simp only [repV]; omega
 | tup l =>
  have hc:=comG_len (f:=repA) (b:=12) (l:=l) fun z hz=>repA_len (h.2 z hz)
  have:=h.1
  simp only [repV,tupA,List.length_append]
  split <;> simp <;> omega
 | nil=>exact h.elim
 | none=>exact h.elim
 | emp=>exact h.elim
theorem reprT_M {p:List UInt8} {x:PV} {deep:Int} {K:List UInt8->Prop} (hx:OkI x) (hd:0<=deep/\deep<60) (hp:p.length<=8000) (h:K (p++repV x)):j7 p x deep K:=by
 have hl:=repV_len hx
 intro _
 refine full_M (by omega) ⟨fun e=>(by cases e),fun _=>?_⟩
 cases x with
 | int z =>
  refine ⟨fun e=>(by cases e),fun z' e=>?_,fun e=>absurd rfl (e z)⟩
  cases e
  exact text_M (put_M (by simp only [repV] at hl; omega) h)
 | str s =>
  refine ⟨fun e=>(by cases e),fun z' e=>(by cases e),fun _=>⟨fun s' e=>?_,fun e=>absurd rfl (e s)⟩⟩
  cases e
  exact quote_M hx.1 (by have:=hx.2; omega) (put_M (by simp only [repV] at hl; omega) h)
 | tup l=>exact ⟨fun e=>(by cases e),fun z' e=>(by cases e),fun _=>⟨fun s' e=>(by cases e),fun _=>partsA_M hd (by have:=hx.1; omega) (by omega) hx.2 h⟩⟩
 | nil=>exact hx.elim
 | none=>exact hx.elim
 | emp=>exact hx.elim
theorem vreprI_M {x:PV} {K:List UInt8->Prop} (hx:OkI x) (h:K (repV x)):jb x K:=reprT_M hx (by omega) (by simp) (by simpa using h)
theorem txt_dig {d:Nat} (h0:0<d) (h1:d<10):txt (d:Int)=[UInt8.ofNat (48+d)]:=by
 unfold txt
 rw [if_neg (by omega),if_neg (by omega),Int.natAbs_natCast,dd_pos h0,show d / 10=0 by omega,dd_zero]
 simp only [dc,show d % 10=d by omega]
 rfl
end
 
section
open Go Go.RowKit
attribute [local irreducible] WL WC WX WQ WK WJ Yld Eff Ef0 Fn
def M_smithysee_Alike (a:Er) (b:Er) (K:Bool->Prop):Prop :=
 ((((decide (a=Er.ok)) || (decide (b=Er.ok)))=true->K ((decide (a=Er.ok)) && (decide (b=Er.ok)))) /\
 (((decide (a=Er.ok)) || (decide (b=Er.ok)))=false->(¬ (a=Er.ok/\b=Er.ok)/\((∀ p n,a≠Er.at_ p n)∨∀ p n,b≠Er.at_ p n)) /\
 K (decide (a=b))))
def jS (K:Int->Bool->Int->Bool->(List UInt8)->Prop):Prop :=
 K (0:Int) false (0:Int) false ([]:List UInt8)
def jE (code:Int) (K:Int->Bool->Int->Bool->(List UInt8)->Prop):Prop :=
 K code false (0:Int) false ([]:List UInt8)
def ke (code:Int) (pos:Int) (K:Int->Bool->Int->Bool->(List UInt8)->Prop):Prop :=
 ((code=(0:Int)->jS (fun (a2:Int) (a0:Bool) (a4:Int) (a1:Bool) (a3:List UInt8) =>
 K a2 a0 a4 a1 a3)) /\
 (¬ (code=(0:Int))->K code true pos false ([]:List UInt8)))
def jU (a_Code:Int) (a_Placed:Bool) (a_Pos:Int) (a_Filed:Bool) (a_File:List UInt8) (b_Code:Int) (b_Placed:Bool) (b_Pos:Int) (b_Filed:Bool) (b_File:List UInt8) (K:Bool->Prop):Prop :=
 K (((((decide (a_Code=b_Code)) && (a_Placed == b_Placed)) && (decide (a_Pos=b_Pos))) && (a_Filed == b_Filed)) && (decide (a_File=b_File)))
set_option maxHeartbeats 8000000 in
theorem W_smithysee_Alike {S:List Nat} {w:World} {v_a:Value} {a:Er} {v_b:Value} {b:Er} {K:Bool->Prop} (ha:ErrR S w v_a a) (hb:ErrR S w v_b b) (H:M_smithysee_Alike a b K):Fn Tryz.prog 217 ⟨[v_a,v_b]⟩ w (fun v w'=>w=w'/\∃ (r:Bool),v=.bool r/\K r):=by
 unfold M_smithysee_Alike at H
 refine Fn.enter (by kernel_rfl) Tryz.func217 rfl Tryz.ntmps217 rfl ?_
 refine zd (zb (yp (h:=(ze (za (zd (zd (zb (yp (h:=(zg rfl (qe Tryz.underlying43 ha rfl) (yp (h:=(zV 3 (fun L' w'=>∃ q1:Bool,L'=[(10,.bool q1),(0,v_a),(1,v_b)]/\((decide (a=Er.ok)) || (decide (b=Er.ok)))=q1/\w=w') ?_ (fun hQ=>?_)))))))))))))))
 ·rintro _ _ ⟨q1,rfl,rfl,rfl⟩
  refine ze (za (zm rfl (fun b1=>?_) (fun b1=>?_)))
  ·replace H:=H.1 (b1)
   refine zd (zb (yp (h:=(zg rfl (qe Tryz.underlying43 ha rfl) (yp (h:=(zV 3 (fun L' w'=>∃ q2:Bool,L'=[(16,.bool q2)]/\((decide (a=Er.ok)) && (decide (b=Er.ok)))=q2/\w=w') ?_ (fun hQ=>?_))))))))
   ·rintro _ _ ⟨q2,rfl,rfl,rfl⟩
    exact yp (h:=(ze (za (zt (zf (zD rfl rfl ⟨rfl,(decide (a=Er.ok)) && (decide (b=Er.ok)),rfl,H⟩))))))
   ·clear H
    rcases Bool.eq_false_or_eq_true (decide (a=Er.ok)) with b2 | b2
    ·exact gp b2 (h:=(zc rfl rfl (okb b2) rfl (qe Tryz.underlying43 hb rfl) (zg rfl (zQ (okb b2) rfl) (wk (hQ _ _ ⟨decide (b=Er.ok),rfl,by rw [b2] <;> rfl,rfl⟩)))))
    ·exact gn b2 (h:=(gn b2 (h:=(zg rfl (zK (okb b2) rfl) (wk (hQ _ _ ⟨false,rfl,by rw [b2] <;> rfl,rfl⟩))))))
  ·replace H:=H.2 (b1)
   refine zo (za (zd (zb (yp (h:=(yp (h:=?_)))))))
   obtain ⟨h1,H⟩:=H
   exact zg rfl (Yld.erreqA ha hb h1 rfl rfl) (yp (h:=(ze (za (zt (zD rfl rfl ⟨rfl,decide (a=b),rfl,H⟩))))))
 ·clear H
  rcases Bool.eq_false_or_eq_true (decide (a=Er.ok)) with b3 | b3
  ·exact gn b3 (h:=(gn b3 (h:=(zg rfl (zQ (okb b3) rfl) (wk (hQ _ _ ⟨true,rfl,by rw [b3] <;> rfl,rfl⟩))))))
  ·exact gp b3 (h:=(zc rfl rfl (okb b3) rfl (qe Tryz.underlying43 hb rfl) (zg rfl (zK (okb b3) rfl) (wk (hQ _ _ ⟨decide (b=Er.ok),rfl,by rw [b3] <;> rfl,rfl⟩)))))
set_option maxHeartbeats 8000000 in
theorem W_smithyref_None {w:World} {K:Int->Bool->Int->Bool->(List UInt8)->Prop} (H:jS  K):Fn Tryz.prog 183 ⟨[]⟩ w (fun v w'=>w.grownBy w' none/\∃ (r_Code:Int),∃ (r_Placed:Bool),∃ (r_Pos:Int),∃ (r_Filed:Bool),∃ (r_File:List UInt8),v=.agg ⟨[.int .i64 r_Code,.bool r_Placed,.int .i64 r_Pos,.bool r_Filed,vs r_File]⟩/\K r_Code r_Placed r_Pos r_Filed r_File):=by
 unfold jS at H
 refine Fn.enter (by kernel_rfl) Tryz.func183 rfl Tryz.ntmps183 rfl ?_
 exact zd (zb (WL.alloc rfl zero142 (fun g1 w1 hB1 hg1 hl1=>ze (za (zd (zb (zg rfl (z6 (us:=[.int .i64 (0:Int),.bool false,.int .i64 (0:Int),.bool false,vs ([]:List UInt8)]) zero142 places142 rfl rfl) (zZ (vs:=[.int .i64 (0:Int),.bool false,.int .i64 (0:Int),.bool false,vs ([]:List UInt8)]) qD rfl rfl rfl (qJ rfl (qJ rfl (qJ rfl (qJ rfl (qJ rfl jl))))) hB1 rfl rfl (fun w2 hB2 hg2=>ze (za (zt (qi qD rfl rfl rfl hB2 rfl ⟨(js hg1 hg2 (Ge.le (Ge.box hl1) (Nat.le_refl _))),(0:Int),false,(0:Int),false,([]:List UInt8),rfl,H⟩))))))))))))
set_option maxHeartbeats 8000000 in
theorem W_smithyref_Bare {w:World} {code:Int} {K:Int->Bool->Int->Bool->(List UInt8)->Prop} (H:jE code K):Fn Tryz.prog 79 ⟨[.int .i64 code]⟩ w (fun v w'=>w.grownBy w' none/\∃ (r_Code:Int),∃ (r_Placed:Bool),∃ (r_Pos:Int),∃ (r_Filed:Bool),∃ (r_File:List UInt8),v=.agg ⟨[.int .i64 r_Code,.bool r_Placed,.int .i64 r_Pos,.bool r_Filed,vs r_File]⟩/\K r_Code r_Placed r_Pos r_Filed r_File):=by
 unfold jE at H
 refine Fn.enter (by kernel_rfl) Tryz.func79 rfl Tryz.ntmps79 rfl ?_
 exact zd (zb (WL.alloc rfl zero142 (fun g1 w1 hB1 hg1 hl1=>ze (za (zd (zb (yp (h:=(zg rfl (z6 (us:=[.int .i64 code,.bool false,.int .i64 (0:Int),.bool false,vs ([]:List UInt8)]) zero142 places142 rfl rfl) (zZ (vs:=[.int .i64 code,.bool false,.int .i64 (0:Int),.bool false,vs ([]:List UInt8)]) qD rfl rfl rfl (qJ rfl (qJ rfl (qJ rfl (qJ rfl (qJ rfl jl))))) hB1 rfl rfl (fun w2 hB2 hg2=>ze (za (zt (qi qD rfl rfl rfl hB2 rfl ⟨(js hg1 hg2 (Ge.le (Ge.box hl1) (Nat.le_refl _))),code,false,(0:Int),false,([]:List UInt8),rfl,H⟩))))))))))))))
set_option maxHeartbeats 8000000 in
theorem W_smithyref_Placed {w:World} {code:Int} {pos:Int} {K:Int->Bool->Int->Bool->(List UInt8)->Prop} (H:ke code pos K):Fn Tryz.prog 203 ⟨[.int .i64 code,.int .i64 pos]⟩ w (fun v w'=>w.grownBy w' none/\∃ (r_Code:Int),∃ (r_Placed:Bool),∃ (r_Pos:Int),∃ (r_Filed:Bool),∃ (r_File:List UInt8),v=.agg ⟨[.int .i64 r_Code,.bool r_Placed,.int .i64 r_Pos,.bool r_Filed,vs r_File]⟩/\K r_Code r_Placed r_Pos r_Filed r_File):=by
 unfold ke at H
 refine Fn.enter (by kernel_rfl) Tryz.func203 rfl Tryz.ntmps203 rfl ?_
 refine zd (zb (WL.alloc rfl zero142 (fun g1 w1 hB1 hg1 hl1=>?_)))
 have gr1:=hg1
 refine ze (za (zd (zd (zb (yp (h:=(yp (h:=(ze (za (zm rfl (fun b1=>?_) (fun b1=>?_))))))))))))
 ·replace H:=H.1 (of_decide_eq_true b1)
  refine zd (zb (zx rfl rfl (W_smithyref_None H) ?_))
  rintro _ w2 ⟨hg2,a2,a0,a4,a1,a3,rfl,H⟩
  exact zZ (vs:=[.int .i64 a2,.bool a0,.int .i64 a4,.bool a1,vs a3]) qD rfl rfl rfl (qJ rfl (qJ rfl (qJ rfl (qJ rfl (qJ rfl jl))))) (hB1.g0 hg2) rfl rfl (fun w3 hB2 hg3=>ze (za (zt (zf (qi qD rfl rfl rfl hB2 rfl ⟨(js (qG gr1 hg2) hg3 (Ge.le (Ge.box hl1) (Nat.le_refl _))),a2,a0,a4,a1,a3,rfl,H⟩)))))
 ·replace H:=H.2 (of_decide_eq_false b1)
  exact zo (za (zd (zb (yp (h:=(yp (h:=(zg rfl (z6 (us:=[.int .i64 code,.bool true,.int .i64 pos,.bool false,vs ([]:List UInt8)]) zero142 places142 rfl rfl) (zZ (vs:=[.int .i64 code,.bool true,.int .i64 pos,.bool false,vs ([]:List UInt8)]) qD rfl rfl rfl (qJ rfl (qJ rfl (qJ rfl (qJ rfl (qJ rfl jl))))) hB1 rfl rfl (fun w4 hB3 hg4=>ze (za (zt (qi qD rfl rfl rfl hB3 rfl ⟨(js gr1 hg4 (Ge.le (Ge.box hl1) (Nat.le_refl _))),code,true,pos,false,([]:List UInt8),rfl,H⟩)))))))))))))
set_option maxHeartbeats 8000000 in
theorem W_smithyref_SameFault {w:World} {a_Code:Int} {a_Placed:Bool} {a_Pos:Int} {a_Filed:Bool} {a_File:List UInt8} {b_Code:Int} {b_Placed:Bool} {b_Pos:Int} {b_Filed:Bool} {b_File:List UInt8} {K:Bool->Prop} (H:jU a_Code a_Placed a_Pos a_Filed a_File b_Code b_Placed b_Pos b_Filed b_File K):Fn Tryz.prog 133 ⟨[.agg ⟨[.int .i64 a_Code,.bool a_Placed,.int .i64 a_Pos,.bool a_Filed,vs a_File]⟩,.agg ⟨[.int .i64 b_Code,.bool b_Placed,.int .i64 b_Pos,.bool b_Filed,vs b_File]⟩]⟩ w (fun v w'=>w.grownBy w' none/\∃ (r:Bool),v=.bool r/\K r):=by
 unfold jU at H
 refine Fn.enter (by kernel_rfl) Tryz.func133 rfl Tryz.ntmps133 rfl ?_
 refine zd (zb (qn (us:=[.int .i64 a_Code,.bool a_Placed,.int .i64 a_Pos,.bool a_Filed,vs a_File]) rfl rfl rfl (fun g1 w1 hB1 hg1 hl1=>qn (us:=[.int .i64 b_Code,.bool b_Placed,.int .i64 b_Pos,.bool b_Filed,vs b_File]) rfl rfl rfl (fun g2 w2 hB2 hg2 hl2=>?_))))
 have k1:=hB1.g0 hg2
 refine yp (h:=(ze (za (zd (zb (yp (h:=(zg rfl (zz qD k1 rfl rfl rfl) (yp (h:=(zg rfl (zz qD hB2 rfl rfl rfl) (yp (h:=(yp (h:=(zV 6 (fun L' w'=>∃ q1:Bool,L'=[(16,.bool q1),(2,.pointer (some ⟨g1,0,none⟩)),(3,.pointer (some ⟨g2,0,none⟩))]/\((decide (a_Code=b_Code)) && (a_Placed == b_Placed))=q1/\w2=w') ?_ (fun hQ=>?_)))))))))))))))))
 ·rintro _ _ ⟨q1,rfl,rfl,rfl⟩
  refine yp (h:=(zV 6 (fun L' w'=>∃ q2:Bool,L'=[(23,.bool q2),(2,.pointer (some ⟨g1,0,none⟩)),(3,.pointer (some ⟨g2,0,none⟩))]/\(((decide (a_Code=b_Code)) && (a_Placed == b_Placed)) && (decide (a_Pos=b_Pos)))=q2/\w2=w') ?_ (fun hQ=>?_)))
  ·rintro _ _ ⟨q2,rfl,rfl,rfl⟩
   refine yp (h:=(zV 6 (fun L' w'=>∃ q3:Bool,L'=[(30,.bool q3),(2,.pointer (some ⟨g1,0,none⟩)),(3,.pointer (some ⟨g2,0,none⟩))]/\((((decide (a_Code=b_Code)) && (a_Placed == b_Placed)) && (decide (a_Pos=b_Pos))) && (a_Filed == b_Filed))=q3/\w2=w') ?_ (fun hQ=>?_)))
   ·rintro _ _ ⟨q3,rfl,rfl,rfl⟩
    refine yp (h:=(zV 6 (fun L' w'=>∃ q4:Bool,L'=[(37,.bool q4)]/\(((((decide (a_Code=b_Code)) && (a_Placed == b_Placed)) && (decide (a_Pos=b_Pos))) && (a_Filed == b_Filed)) && (decide (a_File=b_File)))=q4/\w2=w') ?_ (fun hQ=>?_)))
    ·rintro _ _ ⟨q4,rfl,rfl,rfl⟩
     exact yp (h:=(ze (za (zt (zD rfl rfl ⟨(qG hg1 hg2),((((decide (a_Code=b_Code)) && (a_Placed == b_Placed)) && (decide (a_Pos=b_Pos))) && (a_Filed == b_Filed)) && (decide (a_File=b_File)),rfl,H⟩)))))
    ·clear H
     rcases Bool.eq_false_or_eq_true ((((decide (a_Code=b_Code)) && (a_Placed == b_Placed)) && (decide (a_Pos=b_Pos))) && (a_Filed == b_Filed)) with b1 | b1
     ·exact gp b1 (h:=(zc rfl rfl (okb b1) rfl (zz qD k1 rfl rfl rfl) (gp b1 (h:=(zc rfl rfl (okb b1) rfl (zz qD hB2 rfl rfl rfl) (gp b1 (h:=(zg rfl (zQ (okb b1) rfl) (wk (hQ _ _ ⟨decide (a_File=b_File),rfl,by rw [b1] <;> rfl,rfl⟩))))))))))
     ·exact gn b1 (h:=(gn b1 (h:=(gn b1 (h:=(gn b1 (h:=(gn b1 (h:=(zg rfl (zK (okb b1) rfl) (wk (hQ _ _ ⟨false,rfl,by rw [b1] <;> rfl,rfl⟩))))))))))))
   ·clear H
    rcases Bool.eq_false_or_eq_true (((decide (a_Code=b_Code)) && (a_Placed == b_Placed)) && (decide (a_Pos=b_Pos))) with b2 | b2
    ·exact gp b2 (h:=(zc rfl rfl (okb b2) rfl (zz qD k1 rfl rfl rfl) (gp b2 (h:=(zc rfl rfl (okb b2) rfl (zz qD hB2 rfl rfl rfl) (zc rfl rfl (okb b2) rfl (Yld.beql Tryz.underlying4 rfl rfl) (zg rfl (zQ (okb b2) rfl) (wk (hQ _ _ ⟨a_Filed == b_Filed,rfl,by rw [b2] <;> rfl,rfl⟩)))))))))
    ·exact gn b2 (h:=(gn b2 (h:=(gn b2 (h:=(gn b2 (h:=(gn b2 (h:=(zg rfl (zK (okb b2) rfl) (wk (hQ _ _ ⟨false,rfl,by rw [b2] <;> rfl,rfl⟩))))))))))))
  ·clear H
   rcases Bool.eq_false_or_eq_true ((decide (a_Code=b_Code)) && (a_Placed == b_Placed)) with b3 | b3
   ·exact gp b3 (h:=(zc rfl rfl (okb b3) rfl (zz qD k1 rfl rfl rfl) (gp b3 (h:=(zc rfl rfl (okb b3) rfl (zz qD hB2 rfl rfl rfl) (gp b3 (h:=(zg rfl (zQ (okb b3) rfl) (wk (hQ _ _ ⟨decide (a_Pos=b_Pos),rfl,by rw [b3] <;> rfl,rfl⟩))))))))))
   ·exact gn b3 (h:=(gn b3 (h:=(gn b3 (h:=(gn b3 (h:=(gn b3 (h:=(zg rfl (zK (okb b3) rfl) (wk (hQ _ _ ⟨false,rfl,by rw [b3] <;> rfl,rfl⟩))))))))))))
 ·clear H
  rcases Bool.eq_false_or_eq_true (decide (a_Code=b_Code)) with b4 | b4
  ·exact gp b4 (h:=(zc rfl rfl (okb b4) rfl (zz qD k1 rfl rfl rfl) (gp b4 (h:=(zc rfl rfl (okb b4) rfl (zz qD hB2 rfl rfl rfl) (zc rfl rfl (okb b4) rfl (Yld.beql Tryz.underlying4 rfl rfl) (zg rfl (zQ (okb b4) rfl) (wk (hQ _ _ ⟨a_Placed == b_Placed,rfl,by rw [b4] <;> rfl,rfl⟩)))))))))
  ·exact gn b4 (h:=(gn b4 (h:=(gn b4 (h:=(gn b4 (h:=(gn b4 (h:=(zg rfl (zK (okb b4) rfl) (wk (hQ _ _ ⟨false,rfl,by rw [b4] <;> rfl,rfl⟩))))))))))))
end
 end Go.Proofs.YtjoepdjeekadcaaGreatDoor
