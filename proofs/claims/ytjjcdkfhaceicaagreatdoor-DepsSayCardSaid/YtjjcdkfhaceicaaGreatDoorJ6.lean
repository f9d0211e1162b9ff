/- Texts of this claim, joined by a program: GNd, GLy, Dn, Dg, Dk. -/
import Derived.Test.YtjjcdkfhaceicaaGreatDoorJ5

namespace Go.Proofs.YtjjcdkfhaceicaaGreatDoor
open Go Go.RowKit
attribute [local irreducible] WL WC WX WQ WK WJ Yld Eff Ef0 Fn
def zy (order:Int) (own:List RV) (from_:List RV) (K:RV→Int→Prop):Prop :=
 (own.length≤maxLen →
 (from_.length≤maxLen →
 ((((decide (order<(1:Int))) || (decide ((3:Int)<order)))=true→K (((0:Int),(false,([]:List Int)),RO.nil):RV) (104:Int)) ∧
 (((decide (order<(1:Int))) || (decide ((3:Int)<order)))=false→qc own (fun (t27:Bool) =>
 ((t27=true→K (((0:Int),(false,([]:List Int)),RO.nil):RV) (108:Int)) ∧
 (t27=false→Lp9 (fun (keys:List (List UInt8)) (i:Int) (t60:Int) (t61:Bool) (t62:Bool) (t63:List Int) (t64:List UInt8) (t65:Value) (t310:List RV) kont1=>((i<(own.length:Int)→∃ J1:(List (List UInt8))→(List RV)→Prop,((0≤i∧i<(own.length:Nat)) ∧
 qo (own.getD i.toNat rv0) (fun (t430:List UInt8) (t431:Int) =>
 ((¬ (t431=(0:Int))→K (((0:Int),(false,([]:List Int)),RO.nil):RV) t431) ∧
 (t431=(0:Int)→zS keys t430 (fun (t52:Int) =>
 ((t52<(0:Int)→((keys.length+(([t430]:List (List UInt8))).length)*16≤140737488355328) ∧
 (0≤i∧i<(own.length:Nat)) ∧
 ((t310.length+(([own.getD i.toNat rv0]:List RV)).length)*72≤140737488355328) ∧
 J1 (keys++([t430]:List (List UInt8))) (t310++([own.getD i.toNat rv0]:List RV))) ∧
 (¬ (t52<(0:Int))→J1 keys t310))))))) ∧
 (∀ keys2:List (List UInt8),∀ t3102:List RV,J1 keys2 t3102→(In .i64 (i+(1:Int))) ∧
 kont1 keys2 (i+(1:Int)) t60 t61 t62 t63 t64 t65 t3102)) ∧
 (¬ (i<(own.length:Int))→Lp9 (fun (deep:Int) (i2:Int) (t602:Int) (t612:Bool) (t622:Bool) (t632:List Int) (t642:List UInt8) (t652:Value) (t3116:List RV) kont2=>((i2<(from_.length:Int)→(0≤i2∧i2<(from_.length:Nat)) ∧
 (((from_.getD i2.toNat rv0).2.2)≠RO.nil) ∧
 (((((!decide ((((from_.getD i2.toNat rv0).2.2).order)=order)) && (!decide ((((from_.getD i2.toNat rv0).2.2).order)=(1:Int)))) && (!decide (order=(1:Int))))=true→K (((0:Int),(false,([]:List Int)),RO.nil):RV) (104:Int)) ∧
 ((((!decide ((((from_.getD i2.toNat rv0).2.2).order)=order)) && (!decide ((((from_.getD i2.toNat rv0).2.2).order)=(1:Int)))) && (!decide (order=(1:Int))))=false→(In .i64 ((((from_.getD i2.toNat rv0).2.2).deep)+(1:Int))) ∧
 (0≤i2∧i2<(from_.length:Nat)) ∧
 ((t3116.length+(([from_.getD i2.toNat rv0]:List RV)).length)*72≤140737488355328) ∧
 (In .i64 (i2+(1:Int))) ∧
 kont2 (if deep<((((from_.getD i2.toNat rv0).2.2).deep)+(1:Int)) then (((from_.getD i2.toNat rv0).2.2).deep)+(1:Int) else deep) (i2+(1:Int)) t602 t612 t622 t632 t642 t652 (t3116++([from_.getD i2.toNat rv0]:List RV))))) ∧
 (¬ (i2<(from_.length:Int))→M_nd_mid t310 order t3116 (fun (n:Int) =>
 ((decide ((1000:Int)<deep))=false→(In .i64 ((1024:Int) - (from_.length:Int)))) ∧
 (((((decide ((1000:Int)<deep)) || (decide (((1024:Int) - (from_.length:Int))<(own.length:Int)))) || (decide ((1024:Int)<n)))=true→K (((0:Int),(false,([]:List Int)),RO.nil):RV) (108:Int)) ∧
 ((((decide ((1000:Int)<deep)) || (decide (((1024:Int) - (from_.length:Int))<(own.length:Int)))) || (decide ((1024:Int)<n)))=false→∀ g2:Nat,K (((10:Int),(false,([]:List Int)),(RO.mk g2 t310 order t3116 deep)):RV) (0:Int))))))) (0:Int) (0:Int) t60 t61 t62 t63 t64 t65 []))) [] (0:Int) (0:Int) false false [] ([]:List UInt8) (.pointer none) [])))))))
set_option maxHeartbeats 8000000 in
theorem W_smithyref14_NewDeps {w:World} {order:Int} {own:List RV} {A_own:Option Addr} {c_own:Nat} {hs_own:List RH} {from_:List RV} {A_from:Option Addr} {c_from:Nat} {hs_from_:List RH} {n_own:Nat} {n_from_:Nat} {K:RV→Int→Prop} (hown:RdK 6 vr w A_own c_own hs_own) (hn_own:n_own=own.length) (hr_own:RelD deR w hs_own own) (hfrom_:RdK 6 vr w A_from c_from hs_from_) (hn_from_:n_from_=from_.length) (hr_from_:RelD deR w hs_from_ from_) (H:zy order own from_ K):Fn Tryz.prog 14 ⟨[.int .i64 order,.slice A_own n_own c_own,.slice A_from n_from_ c_from]⟩ w (fun v w'=>w.grownBy w' none∧∃ (v_r0:RC),∃ (F_r0:Nat→Prop),∃ (r0:RV),∃ (r1:Int),v=.tuple #[(.agg ⟨v_r0.1⟩),.int .i64 r1]∧RelD deR w' [(v_r0,F_r0)] [r0]∧(∀ p:Option Nat,Lt p w.heap.size→DnD deR hs_own own p→DnD deR hs_from_ from_ p→DnD deR [(v_r0,F_r0)] [r0] p)∧(r0.2.2≠RO.nil→w.heap.size≤r0.2.2.id)∧K r0 r1):=by
 subst hn_own
 subst hn_from_
 unfold zy at H
 refine Fn.enter (by kernel_rfl) Tryz.func14 rfl Tryz.ntmps14 rfl ?_
 replace H:=H (by rw [←hr_own.1]; exact Nat.le_trans hown.cap hown.max)
 replace H:=H (by rw [←hr_from_.1]; exact Nat.le_trans hfrom_.cap hfrom_.max)
 refine WC.seq (WC.region (WL.alloc rfl zero38 (fun g1 w1 hB1 hg1 hl1=>?_)))
 have gr1:=hg1
 refine yp (h:=(WL.nil (WX.then_normal (WC.seq (WC.seq (WC.region (yp (h:=(yp (h:=(yp (h:=(WL.midF 3 (fun L' w'=>∃ q1:Bool,L'=[(24,.bool q1),(0,.int .i64 order),(1,.slice A_own own.length c_own),(2,.slice A_from from_.length c_from),(6,.pointer (some ⟨g1,0,none⟩))]∧((decide (order<(1:Int))) || (decide ((3:Int)<order)))=q1∧w1=w') ?_ (fun hQ=>?_))))))))))))))
 ·rintro _ _ ⟨q1,rfl,rfl,rfl⟩
  refine WL.nil (WX.then_normal (WC.cond rfl (fun b1=>?_) (fun b1=>?_)))
  ·replace H:=H.1 (b1)
   refine WC.seq (WC.region (WL.y rfl (Yld.struct (us:=[.int .i64 (0:Int),.bool false,.bool false,.slice none 0 0,vs ([]:List UInt8),.pointer none]) zero38 places38 rfl rfl) (WL.storeW (vs:=[.int .i64 (0:Int),.bool false,.bool false,.slice none 0 0,vs ([]:List UInt8),.pointer none]) za rfl rfl rfl (zf rfl (zf rfl (zf rfl (zf rfl (zf rfl (zf rfl zm)))))) hB1 rfl rfl (fun w2 hB2 hg2=>yp (h:=(WL.nil (WX.then_normal (WC.ret (WX.then_ret ?_)))))))))
   have hp1:=qf (k:=(0:Int)) (neg:=false) (L:=([]:List Int)) (A:=none) (c:=0) (o:=pnil) (F:=noF) (Own.nil vi w2 w.heap.size 3).rd deO_nil
   exact WX.retct za rfl rfl rfl hB2 rfl rfl ⟨(zk gr1 hg2 (Ge.le (Ge.box hl1) (Nat.le_refl _))),(rcP (0:Int) false none 0 ([]:List Int) pnil),(FR none ([]:List Int) noF),(((0:Int),(false,([]:List Int)),RO.nil):RV),(104:Int),rfl,hp1.1,(fun p_ hp_ v0_ v1_=>have q_:=And.intro v0_ v1_; hp1.2 _ (fun e_=>absurd rfl e_) deO_nilD),(fun h_=>absurd rfl h_),H⟩
  ·replace H:=H.2 (b1)
   refine WC.skip (WX.then_normal (WC.seq (WC.seq (WC.region (yp (h:=(WL.call rfl rfl (W_smithyref14_heavy (hown.grown gr1) rfl (hr_own.grown gr1) H) ?_)))))))
   rintro _ w3 ⟨hg3,t27,rfl,H⟩
   have gr3:=zd gr1 hg3
   have k1:=hB1.g0 hg3
   refine WL.nil (WX.then_normal (WC.cond rfl (fun b2=>?_) (fun b2=>?_)))
   ·replace H:=H.1 (b2)
    refine WC.seq (WC.region (WL.y rfl (Yld.struct (us:=[.int .i64 (0:Int),.bool false,.bool false,.slice none 0 0,vs ([]:List UInt8),.pointer none]) zero38 places38 rfl rfl) (WL.storeW (vs:=[.int .i64 (0:Int),.bool false,.bool false,.slice none 0 0,vs ([]:List UInt8),.pointer none]) za rfl rfl rfl (zf rfl (zf rfl (zf rfl (zf rfl (zf rfl (zf rfl zm)))))) k1 rfl rfl (fun w4 hB3 hg4=>yp (h:=(WL.nil (WX.then_normal (WC.ret (WX.then_ret ?_)))))))))
    have hp2:=qf (k:=(0:Int)) (neg:=false) (L:=([]:List Int)) (A:=none) (c:=0) (o:=pnil) (F:=noF) (Own.nil vi w4 w.heap.size 3).rd deO_nil
    exact WX.retct za rfl rfl rfl hB3 rfl rfl ⟨(zk gr3 hg4 (Ge.le (Ge.box hl1) (Nat.le_refl _))),(rcP (0:Int) false none 0 ([]:List Int) pnil),(FR none ([]:List Int) noF),(((0:Int),(false,([]:List Int)),RO.nil):RV),(108:Int),rfl,hp2.1,(fun p_ hp_ v0_ v1_=>have q_:=And.intro v0_ v1_; hp2.2 _ (fun e_=>absurd rfl e_) deO_nilD),(fun h_=>absurd rfl h_),H⟩
   ·replace H:=H.2 (b2)
    refine WC.skip (WX.then_normal (WC.seq (WC.region (yp (h:=(WL.y rfl (Yld.struct (us:=[.slice none 0 0,.slice none 0 0,.slice none 0 0,.slice none 0 0,.bool false,.int .i64 (0:Int),vs ([]:List UInt8),.int .i64 (0:Int),.int .i64 (0:Int),.int .i64 (0:Int),.bool false,.bool false,.slice none 0 0,vs ([]:List UInt8),.pointer none,.int .i64 order,.slice none 0 0,.bool false,.slice none 0 0,.bool false,.slice none 0 0,.int .i64 (0:Int),.pointer none]) zero111 places111 rfl rfl) (WL.box (us:=[.slice none 0 0,.slice none 0 0,.slice none 0 0,.slice none 0 0,.bool false,.int .i64 (0:Int),vs ([]:List UInt8),.int .i64 (0:Int),.int .i64 (0:Int),.int .i64 (0:Int),.bool false,.bool false,.slice none 0 0,vs ([]:List UInt8),.pointer none,.int .i64 order,.slice none 0 0,.bool false,.slice none 0 0,.bool false,.slice none 0 0,.int .i64 (0:Int),.pointer none]) rfl rfl rfl (fun g2 w5 hB4 hg5 hl2=>yp (h:=(WL.nil (WX.then_normal (WC.seq (WC.region (yp (h:=(WL.nil (WX.then_normal (WC.seq (WC.seq (WC.region (yp (h:=(WL.nil (WX.then_normal (WC.block ?_)))))))))))))))))))))))))
    obtain ⟨I1,mu1,h0_1,HR1⟩:=H
    refine WC.loopF (fun n' L' w'=>∃ (keys:List (List UInt8)),∃ (A_keys:Option Addr),∃ (c_keys:Nat),∃ (n_keys:Nat),∃ (i:Int),∃ (t60:Int),∃ (t61:Bool),∃ (t62:Bool),∃ (t63:List Int),∃ (A_t63:Option Addr),∃ (c_t63:Nat),∃ (n_t63:Nat),∃ (t64:List UInt8),∃ (t65:Value),∃ (t310:List RV),∃ (A_t310:Option Addr),∃ (c_t310:Nat),∃ (n_t310:Nat),∃ (hs_t310:List RH),n'=mu1 keys i t60 t61 t62 t63 t64 t65 t310∧L'=[(0,.int .i64 order),(1,.slice A_own own.length c_own),(2,.slice A_from from_.length c_from),(6,.pointer (some ⟨g1,0,none⟩)),(8,.pointer (some ⟨g2,0,none⟩)),(9,.slice A_keys n_keys c_keys),(10,.int .i64 i)]∧I1 keys i t60 t61 t62 t63 t64 t65 t310∧t65.oneCell'=true∧n_keys=keys.length∧n_t63=t63.length∧n_t310=t310.length∧w.grownBy w' none∧Bl w' g1 38 [.int .i64 t60,.bool t61,.bool t62,.slice A_t63 n_t63 c_t63,vs t64,t65]∧Bl w' g2 111 [.slice A_t310 n_t310 c_t310,.slice none 0 0,.slice none 0 0,.slice none 0 0,.bool false,.int .i64 (0:Int),vs ([]:List UInt8),.int .i64 (0:Int),.int .i64 (0:Int),.int .i64 (0:Int),.bool false,.bool false,.slice none 0 0,vs ([]:List UInt8),.pointer none,.int .i64 order,.slice none 0 0,.bool false,.slice none 0 0,.bool false,.slice none 0 0,.int .i64 (0:Int),.pointer none]∧Own vs w' w.heap.size 9 A_keys c_keys keys∧Own vi w' w.heap.size 3 A_t63 c_t63 t63∧OwnK 6 vr w' w.heap.size 38 A_t310 c_t310 hs_t310∧RelD deR w' hs_t310 t310∧Dj (some g1) (some g2)∧Dj (some g1) (blk A_keys)∧Dj (some g1) (blk A_t63)∧Dj (some g1) (blk A_t310)∧Dj (some g2) (blk A_keys)∧Dj (some g2) (blk A_t63)∧Dj (some g2) (blk A_t310)∧Dj (blk A_keys) (blk A_t63)∧Dj (blk A_keys) (blk A_t310)∧Dj (blk A_t63) (blk A_t310)∧DnD deR hs_t310 t310 (some g1)∧DnD deR hs_t310 t310 (some g2)∧DnD deR hs_t310 t310 (blk A_keys)∧DnD deR hs_t310 t310 (blk A_t63)∧DnD deR hs_t310 t310 (blk A_t310)∧OrD (fun p=>DnD deR hs_own own p∧DnD deR hs_from_ from_ p) deR hs_t310 t310 w.heap.size) _ _ ⟨[],none,0,0,(0:Int),(0:Int),false,false,[],none,0,0,([]:List UInt8),.pointer none,[],none,0,0,[],rfl,rfl,h0_1,rfl,rfl,rfl,rfl,(zd gr3 hg5),(k1.g0 hg5),hB4,(Own.nil vs w5 w.heap.size 9),(Own.nil vi w5 w.heap.size 3),(OwnK.nil vr_ok w5 w.heap.size 38),(RelD.nil (d:=deR) (w:=w5)),(Dj.new k1.lt' (Ge.box hl2)),Dj.nr,Dj.nr,Dj.nr,Dj.nr,Dj.nr,Dj.nr,Dj.nl,Dj.nl,Dj.nl,DnD.nil,DnD.nil,DnD.nil,DnD.nil,DnD.nil,(fun p_ hp_ q_=>(DnD.nil (d:=deR)))⟩ (by repeat (first | exact Sub.nil | refine Sub.cons rfl ?_)) ?_
    clear h0_1
    rintro _ _ w6 ⟨keys,A_keys,c_keys,n_keys,i,t60,t61,t62,t63,A_t63,c_t63,n_t63,t64,t65,t310,A_t310,c_t310,n_t310,hs_t310,rfl,rfl,hI1,one_t65,rfl,rfl,rfl,gr6,k3,k4,k5,k6,k7,k8,dj1,dj2,dj3,dj4,dj5,dj6,dj7,dj8,dj9,dj10,dj11,dj12,dj13,dj14,dj15,or1⟩
    have H:=HR1 keys i t60 t61 t62 t63 t64 t65 t310 hI1
    refine WC.seq (WC.seq (WC.region (yp (h:=(yp (h:=(yp (h:=(yp (h:=(WL.nil (WX.then_normal (WC.cond rfl (fun b3=>?_) (fun b3=>?_))))))))))))))
    ·replace H:=H.1 (of_decide_eq_true b3)
     refine WC.skip (WX.then_normal (WC.seq ?_))
     obtain ⟨J1,H,hJ1⟩:=H
     refine WC.midF (fun L' w'=>∃ (keys2:List (List UInt8)),∃ (A_keys2:Option Addr),∃ (c_keys2:Nat),∃ (n_keys2:Nat),∃ (t3102:List RV),∃ (A_t3102:Option Addr),∃ (c_t3102:Nat),∃ (n_t3102:Nat),∃ (hs_t3102:List RH),L'=[(0,.int .i64 order),(1,.slice A_own own.length c_own),(2,.slice A_from from_.length c_from),(6,.pointer (some ⟨g1,0,none⟩)),(8,.pointer (some ⟨g2,0,none⟩)),(9,.slice A_keys2 n_keys2 c_keys2),(10,.int .i64 i)]∧J1 keys2 t3102∧n_keys2=keys2.length∧n_t3102=t3102.length∧w.grownBy w' none∧Bl w' g1 38 [.int .i64 t60,.bool t61,.bool t62,.slice A_t63 t63.length c_t63,vs t64,t65]∧Bl w' g2 111 [.slice A_t3102 n_t3102 c_t3102,.slice none 0 0,.slice none 0 0,.slice none 0 0,.bool false,.int .i64 (0:Int),vs ([]:List UInt8),.int .i64 (0:Int),.int .i64 (0:Int),.int .i64 (0:Int),.bool false,.bool false,.slice none 0 0,vs ([]:List UInt8),.pointer none,.int .i64 order,.slice none 0 0,.bool false,.slice none 0 0,.bool false,.slice none 0 0,.int .i64 (0:Int),.pointer none]∧Own vi w' w.heap.size 3 A_t63 c_t63 t63∧Own vs w' w.heap.size 9 A_keys2 c_keys2 keys2∧OwnK 6 vr w' w.heap.size 38 A_t3102 c_t3102 hs_t3102∧RelD deR w' hs_t3102 t3102∧Dj (some g1) (some g2)∧Dj (some g1) (blk A_t63)∧Dj (some g1) (blk A_keys2)∧Dj (some g1) (blk A_t3102)∧Dj (some g2) (blk A_t63)∧Dj (some g2) (blk A_keys2)∧Dj (some g2) (blk A_t3102)∧Dj (blk A_t63) (blk A_keys2)∧Dj (blk A_t63) (blk A_t3102)∧Dj (blk A_keys2) (blk A_t3102)∧DnD deR hs_t3102 t3102 (some g1)∧DnD deR hs_t3102 t3102 (some g2)∧DnD deR hs_t3102 t3102 (blk A_t63)∧DnD deR hs_t3102 t3102 (blk A_keys2)∧DnD deR hs_t3102 t3102 (blk A_t3102)∧OrD (fun p=>DnD deR hs_own own p∧DnD deR hs_from_ from_ p) deR hs_t3102 t3102 w.heap.size) ?_ (fun hQ=>?_)
     ·clear H
      rintro _ w7 ⟨keys2,A_keys2,c_keys2,n_keys2,t3102,A_t3102,c_t3102,n_t3102,hs_t3102,rfl,H,rfl,rfl,gr7,k9,k10,k11,k12,k13,k14,dj16,dj17,dj18,dj19,dj20,dj21,dj22,dj23,dj24,dj25,dj26,dj27,dj28,dj29,dj30,or2⟩
      replace H:=hJ1 keys2 t3102 H
      refine WX.then_normal (WC.region (yp (h:=?_)))
      obtain ⟨h1,H⟩:=H
      refine WL.y rfl (Yld.add rfl rfl h1) (yp (h:=(WL.nil ?_)))
      exact WX.roundF _ ⟨keys2,A_keys2,c_keys2,keys2.length,i+(1:Int),t60,t61,t62,t63,A_t63,c_t63,t63.length,t64,t65,t3102,A_t3102,c_t3102,t3102.length,hs_t3102,rfl,rfl,H.1,one_t65,rfl,rfl,rfl,gr7,k9,k10,k12,k11,k13,k14,dj16,dj18,dj17,dj19,dj21,dj20,dj22,dj23.symm,dj25,dj24,dj26,dj27,dj29,dj28,dj30,or2⟩ (by repeat (first | exact Sub.nil | refine Sub.cons rfl ?_)) H.2
     ·clear hJ1
      refine WC.block (WC.seq (WC.region (yp (h:=(yp (h:=?_))))))
      obtain ⟨h2,H⟩:=H
      refine WL.y rfl (Yld.iaddrK za (hown.grown gr6) rfl rfl hr_own.1.symm rfl h2.1 h2.2) ?_
      obtain ⟨⟨v_el,F_el⟩,eh1,hR1⟩:=RelD.at (hr_own.grown gr6) rh0 rv0 (j:=i.toNat) (Nat.lt_of_lt_of_eq (iltN h2 hr_own.1.symm) (hr_own.grown gr6).1)
      have hv1:RelD deR w6 [(v_el,F_el)] [own.getD i.toNat rv0]:=RelD.cons hR1 RelD.nil
      refine WL.y rfl (Yld.to (v:=(.agg ⟨v_el.1⟩)) (Yld.iloadK rh0 za (hown.grown gr6) rfl rfl (iltN h2 hr_own.1.symm)) (congrArg (fun h=>Value.agg ⟨vr h⟩) eh1)) (WL.call rfl rfl (W_smithyref14_Key hv1 H) ?_)
      rintro _ w8 ⟨hg6,t430,t431,rfl,H⟩
      have gr8:=zd gr6 hg6
      have k15:=k3.g0 hg6
      have k16:=k4.g0 hg6
      have k17:=k5.grown hg6
      have k18:=k6.grown hg6
      have k19:=k7.grown hg6
      have k20:=k8.grown hg6
      refine yp (h:=(yp (h:=(yp (h:=(yp (h:=(yp (h:=(WL.nil (WX.then_normal (WC.seq (WC.seq (WC.region (yp (h:=(yp (h:=(WL.nil (WX.then_normal (WC.cond rfl (fun b4=>?_) (fun b4=>?_))))))))))))))))))))))
      ·replace H:=H.1 (nd_true b4)
       refine WC.seq (WC.region (WL.y rfl (Yld.struct (us:=[.int .i64 (0:Int),.bool false,.bool false,.slice none 0 0,vs ([]:List UInt8),.pointer none]) zero38 places38 rfl rfl) (yp (h:=(WL.storeW (vs:=[.int .i64 (0:Int),.bool false,.bool false,.slice none 0 0,vs ([]:List UInt8),.pointer none]) za rfl rfl rfl (zf rfl (zf rfl (zf rfl (zf rfl (zf rfl (zf rfl zm)))))) k15 rfl rfl (fun w9 hB5 hg7=>yp (h:=(WL.nil (WX.then_normal (WC.ret (WX.then_ret (WX.block_ret (WX.then_ret (WX.then_ret (WX.block_ret (WX.then_ret ?_))))))))))))))))
       have hp3:=qf (k:=(0:Int)) (neg:=false) (L:=([]:List Int)) (A:=none) (c:=0) (o:=pnil) (F:=noF) (Own.nil vi w9 w.heap.size 3).rd deO_nil
       exact WX.retct za rfl rfl rfl hB5 rfl rfl ⟨(zk gr8 hg7 (Ge.le (Ge.box hl1) (Nat.le_refl _))),(rcP (0:Int) false none 0 ([]:List Int) pnil),(FR none ([]:List Int) noF),(((0:Int),(false,([]:List Int)),RO.nil):RV),t431,rfl,hp3.1,(fun p_ hp_ v0_ v1_=>have q_:=And.intro v0_ v1_; hp3.2 _ (fun e_=>absurd rfl e_) deO_nilD),(fun h_=>absurd rfl h_),H⟩
      ·replace H:=H.2 (nd_false b4)
       refine WC.skip (WX.then_normal (WC.seq (WC.region (yp (h:=(yp (h:=(WL.call rfl rfl (W_smithyref_AmongTexts k17.rd rfl H) ?_))))))))
       rintro _ _ ⟨rfl,t52,rfl,H⟩
       refine yp (h:=(WL.nil (WX.then_normal (WC.cond rfl (fun b5=>?_) (fun b5=>?_)))))
       ·replace H:=H.1 (of_decide_eq_true b5)
        refine WC.seq (WC.region (yp (h:=(yp (h:=(WL.lit za rfl rfl rfl (zf rfl zm) rfl (by omega) (fun g3 w10 hB6 hg8 hl3=>?_)))))))
        have hO1:Own vs w10 w.heap.size 9 (some ⟨g3,0,none⟩) 1 ([t430]:List (List UInt8)):=Own.ofBl hB6 (Nat.le_trans (ze gr8) hl3) (by simp [maxLen]) rfl
        have gr10:=zd gr8 hg8
        have k21:=k15.g0 hg8
        have k22:=k16.g0 hg8
        have k23:=k17.grown hg8
        have k24:=k18.grown hg8
        have k25:=k19.grown hg8
        have k26:=k20.grown hg8
        obtain ⟨h3,H⟩:=H
        refine WL.append za rfl rfl One.s k23 rfl rfl hO1.rd rfl rfl h3 (zx h3) (ze gr10) (fun A_keys3 c_keys3 w11 hO2 hg9 hk1=>?_)
        have gr11:=zk gr10 hg9 k23.ge'
        have k28:=k22.go hg9 dj5
        have k29:=k24.go hg9 dj8.symm
        have k30:=k25.go hg9 dj9.symm
        have k31:=k26.go hg9 dj13
        refine yp (h:=(WL.nil (WX.then_normal (WC.chainF (fun k => !(Nat.beq k 9 || Nat.beq k 10 || Nat.beq k 13)) (LD [4,8] (fun w'=>Bl w' g2 111 [.slice A_t310 t310.length c_t310,.slice none 0 0,.slice none 0 0,.slice none 0 0,.bool false,.int .i64 (0:Int),vs ([]:List UInt8),.int .i64 (0:Int),.int .i64 (0:Int),.int .i64 (0:Int),.bool false,.bool false,.slice none 0 0,vs ([]:List UInt8),.pointer none,.int .i64 order,.slice none 0 0,.bool false,.slice none 0 0,.bool false,.slice none 0 0,.int .i64 (0:Int),.pointer none]∧RdK 6 vr w' A_own c_own hs_own)) mixed (by kernel_rfl) (fun k w' h _=>⟨(zU h k28),(RdK.eqv h (hown.grown gr11))⟩) (WJ.y rfl rfl (fun w' hw'=>Yld.pure za rfl) (WJ.y rfl rfl (fun w' hw'=>Yld.pure za rfl) (WJ.y rfl rfl (fun w' hw'=>Yld.pure za rfl) (WJ.y rfl rfl (fun w' hw'=>Yld.pure za rfl) (WJ.y rfl rfl (fun w' hw'=>Yld.bload za (hw' rfl).1 rfl rfl rfl) (WJ.y rfl rfl (fun w' hw'=>Yld.pure za rfl) (WJ.y rfl rfl (fun w' hw'=>Yld.pure za rfl) ?_)))))))))))
        obtain ⟨h4,H⟩:=H
        refine WJ.y rfl rfl (fun w' hw'=>Yld.iaddrK za (hown.grown gr11) rfl rfl hr_own.1.symm rfl h4.1 h4.2) ?_
        obtain ⟨⟨v_el2,F_el2⟩,eh2,hR2⟩:=RelD.at (hr_own.grown gr11) rh0 rv0 (j:=i.toNat) (Nat.lt_of_lt_of_eq (iltN h4 hr_own.1.symm) (hr_own.grown gr11).1)
        have hv2:RelD deR w11 [(v_el2,F_el2)] [own.getD i.toNat rv0]:=RelD.cons hR2 RelD.nil
        refine WJ.y rfl rfl (fun w' hw'=>Yld.to (v:=(.agg ⟨v_el2.1⟩)) (Yld.iloadK rh0 za (hw' rfl).2 rfl rfl (iltN h4 hr_own.1.symm)) (congrArg (fun h=>Value.agg ⟨vr h⟩) eh2)) (WJ.putw rfl (zo) rfl (Eff.litK (f:=vr) (xs:=([(v_el2,F_el2)]:List RH)) vr_ok ow26 rfl rfl rfl) (fun v w' ⟨_,_,h⟩=>DD.keep (⟨(Bl.g0 k28 (zq h (Eqv.refl _))),(RdK.grown (hown.grown gr11) (zq h (Eqv.refl _)))⟩)) ?_)
        rintro _ w12 ⟨rfl,hB7,hg10⟩
        obtain ⟨g4,hl4⟩:∃ g,g=w11.heap.size:=⟨_,rfl⟩
        rw [←hl4] at hB7
        rw [←hl4]
        have hO3:OwnK 6 vr w12 w.heap.size 38 (some ⟨g4,0,none⟩) 1 ([(v_el2,F_el2)]:List RH):=OwnK.ofBl vr_ok hB7 (Nat.le_trans (ze gr11) (Nat.le_of_eq hl4.symm)) (by simp [maxLen]) rfl
        have gr12:=zd gr11 hg10
        have k32:=(k21.go hg9 dj2).g0 hg10
        have k33:=k28.g0 hg10
        have k34:=k29.grown hg10
        have k35:=k30.grown hg10
        have k36:=k31.grown hg10
        have k37:=hO2.grown hg10
        have hr1:RelD deR w12 ([(v_el2,F_el2)]:List RH) ([own.getD i.toNat rv0]:List RV):=(RelD.cons (RelD.one (hv2.grown hg10)) RelD.nil)
        have nd1:OrD (fun p=>DnD deR hs_own own p∧DnD deR hs_from_ from_ p) deR ([(v_el2,F_el2)]:List RH) ([own.getD i.toNat rv0]:List RV) w.heap.size:=(OrD.cons (d:=deR) (fun p_ hp_ q_=>(DnD.one (DnD.cons (DnD.at (q_.1) (hr_own.grown gr11).1 (Nat.lt_of_lt_of_eq (iltN h4 hr_own.1.symm) (hr_own.grown gr11).1) eh2) DnD.nil))) (fun _ _ _=>DnD.nil))
        have dj31:DnD deR ([(v_el2,F_el2)]:List RH) ([own.getD i.toNat rv0]:List RV) (some g1):=(DnD.cons (d:=deR) (DnD.one (DnD.cons (DnD.at (hr_own.new (Ge.le (Ge.box hl1) (Nat.le_refl _))) (hr_own.grown gr11).1 (Nat.lt_of_lt_of_eq (iltN h4 hr_own.1.symm) (hr_own.grown gr11).1) eh2) DnD.nil)) DnD.nil)
        have dj32:DnD deR ([(v_el2,F_el2)]:List RH) ([own.getD i.toNat rv0]:List RV) (some g2):=(DnD.cons (d:=deR) (DnD.one (DnD.cons (DnD.at (hr_own.new (Ge.le (Ge.box hl2) (ze gr3))) (hr_own.grown gr11).1 (Nat.lt_of_lt_of_eq (iltN h4 hr_own.1.symm) (hr_own.grown gr11).1) eh2) DnD.nil)) DnD.nil)
        have dj33:DnD deR ([(v_el2,F_el2)]:List RH) ([own.getD i.toNat rv0]:List RV) (blk A_t63):=(DnD.cons (d:=deR) (DnD.one (DnD.cons (DnD.at (hr_own.new k29.ge') (hr_own.grown gr11).1 (Nat.lt_of_lt_of_eq (iltN h4 hr_own.1.symm) (hr_own.grown gr11).1) eh2) DnD.nil)) DnD.nil)
        have dj34:DnD deR ([(v_el2,F_el2)]:List RH) ([own.getD i.toNat rv0]:List RV) (blk A_t310):=(DnD.cons (d:=deR) (DnD.one (DnD.cons (DnD.at (hr_own.new k30.ge') (hr_own.grown gr11).1 (Nat.lt_of_lt_of_eq (iltN h4 hr_own.1.symm) (hr_own.grown gr11).1) eh2) DnD.nil)) DnD.nil)
        have dj35:DnD deR ([(v_el2,F_el2)]:List RH) ([own.getD i.toNat rv0]:List RV) (blk A_keys3):=(DnD.cons (d:=deR) (DnD.one (DnD.cons (DnD.at (hr_own.new hO2.ge') (hr_own.grown gr11).1 (Nat.lt_of_lt_of_eq (iltN h4 hr_own.1.symm) (hr_own.grown gr11).1) eh2) DnD.nil)) DnD.nil)
        have dj36:DnD deR ([(v_el2,F_el2)]:List RH) ([own.getD i.toNat rv0]:List RV) (blk (some ⟨g4,0,none⟩)):=(DnD.cons (d:=deR) (DnD.one (hv2.new (Ge.box (Nat.le_of_eq hl4.symm)))) DnD.nil)
        obtain ⟨h5,H⟩:=H
        have h6:((hs_t310:List RH).length+([(v_el2,F_el2)]:List RH).length)*72≤140737488355328:=by rw [k36.1,hr1.1]; exact h5
        refine WJ.putw rfl (zo) rfl (Eff.appendK ow26 k35 rfl k8.1.symm hO3.rd rfl rfl h6 (zx h6) (ze gr12)) (fun v w' ⟨_,_,_,_,h,_⟩=>DD.keep (⟨(Bl.go k33 (zq h (Eqv.refl _)) dj7),(RdK.go (hown.grown gr12) (zq h (Eqv.refl _)) (Dn.new (fun hx=>hown.lt' hx) k35.ge'))⟩)) ?_
        rintro _ w13 ⟨A_t68,c_t68,rfl,hO4,hg11,hk2⟩
        have el1:(hs_t310++([(v_el2,F_el2)]:List RH)).length=(t310++([own.getD i.toNat rv0]:List RV)).length:=by rw [List.length_append,List.length_append,k36.1,hr1.1]
        rw [el1]
        have hr2:RelD deR w13 (hs_t310++([(v_el2,F_el2)]:List RH)) (t310++([own.getD i.toNat rv0]:List RV)):=RelD.append (k36.go hg11 dj15) (hr1.go hg11 dj34)
        have nd2:OrD (fun p=>DnD deR hs_own own p∧DnD deR hs_from_ from_ p) deR (hs_t310++([(v_el2,F_el2)]:List RH)) (t310++([own.getD i.toNat rv0]:List RV)) w.heap.size:=OrD.append k36.1 or1 nd1
        have dj37:DnD deR (hs_t310++([(v_el2,F_el2)]:List RH)) (t310++([own.getD i.toNat rv0]:List RV)) (some g1):=(DnD.append k36.1 dj11 dj31)
        have dj38:DnD deR (hs_t310++([(v_el2,F_el2)]:List RH)) (t310++([own.getD i.toNat rv0]:List RV)) (some g2):=(DnD.append k36.1 dj12 dj32)
        have dj39:DnD deR (hs_t310++([(v_el2,F_el2)]:List RH)) (t310++([own.getD i.toNat rv0]:List RV)) (blk A_t63):=(DnD.append k36.1 dj14 dj33)
        have dj40:DnD deR (hs_t310++([(v_el2,F_el2)]:List RH)) (t310++([own.getD i.toNat rv0]:List RV)) (blk A_keys3):=(DnD.append k36.1 (RelD.app k26 dj13 hk1) dj35)
        have dj41:DnD deR (hs_t310++([(v_el2,F_el2)]:List RH)) (t310++([own.getD i.toNat rv0]:List RV)) (blk (some ⟨g4,0,none⟩)):=(DnD.append k36.1 (k31.new (Ge.box (Nat.le_of_eq hl4.symm))) dj36)
        have dj42:DnD deR (hs_t310++([(v_el2,F_el2)]:List RH)) (t310++([own.getD i.toNat rv0]:List RV)) (blk A_t68):=(DnD.append k36.1 (RelD.app k36 dj15 hk2) (RelD.app hr1 dj34 hk2))
        refine WJ.y rfl rfl (fun w' hw'=>Yld.pure za rfl) (WJ.y rfl rfl (fun w' hw'=>Yld.pure za rfl) (WJ.eff rfl (Ef0.store1 one26 rfl rfl rfl (k33.go hg11 dj7) (by simp)) (fun w' h=>DD.past (by kernel_rfl)) ?_))
        rintro w14 ⟨hB9,hg12⟩
        have hB8:Bl w14 g2 111 [.slice A_t68 ((t310++([own.getD i.toNat rv0]:List RV)).length) c_t68,.slice none 0 0,.slice none 0 0,.slice none 0 0,.bool false,.int .i64 (0:Int),vs ([]:List UInt8),.int .i64 (0:Int),.int .i64 (0:Int),.int .i64 (0:Int),.bool false,.bool false,.slice none 0 0,vs ([]:List UInt8),.pointer none,.int .i64 order,.slice none 0 0,.bool false,.slice none 0 0,.bool false,.slice none 0 0,.int .i64 (0:Int),.pointer none]:=hB9
        refine WJ.nil (WX.block_normal ?_)
        exact WX.weaken (by repeat (first | exact Sub.nil | refine Sub.cons rfl ?_)) (hQ _ _ ⟨keys++([t430]:List (List UInt8)),A_keys3,c_keys3,(keys++([t430]:List (List UInt8))).length,t310++([own.getD i.toNat rv0]:List RV),A_t68,c_t68,(t310++([own.getD i.toNat rv0]:List RV)).length,hs_t310++([(v_el2,F_el2)]:List RH),rfl,H,rfl,rfl,(zk (zk gr12 hg11 k35.ge') hg12 (Ge.le (Ge.box hl2) (ze gr3))),((k32.go hg11 dj4).go hg12 dj1),hB8,((k34.go hg11 dj10).go hg12 dj6.symm),((k37.go hg11 (Dj.app dj9 k25.lt' hk1)).go hg12 (Dj.app dj5.symm k22.lt' hk1)),(hO4.go hg12 (Dj.app dj7.symm k33.lt' hk2)),(hr2.go hg12 dj38),dj1,dj3,(Dj.app dj2.symm k21.lt' hk1).symm,(Dj.app dj4.symm k32.lt' hk2).symm,dj6,(Dj.app dj5.symm k22.lt' hk1).symm,(Dj.app dj7.symm k33.lt' hk2).symm,(Dj.app dj8 k24.lt' hk1).symm,(Dj.app dj10.symm k34.lt' hk2).symm,(Dj.app (Dj.app dj9 k25.lt' hk1).symm k37.lt' hk2).symm,dj37,dj38,dj39,dj40,dj42,nd2⟩)
       ·replace H:=H.2 (of_decide_eq_false b5)
        refine WC.skip (WX.block_normal ?_)
        exact WX.weaken (by repeat (first | exact Sub.nil | refine Sub.cons rfl ?_)) (hQ _ _ ⟨keys,A_keys,c_keys,keys.length,t310,A_t310,c_t310,t310.length,hs_t310,rfl,H,rfl,rfl,gr8,k15,k16,k18,k17,k19,k20,dj1,dj3,dj2,dj4,dj6,dj5,dj7,dj8.symm,dj10,dj9,dj11,dj12,dj14,dj13,dj15,or1⟩)
    ·replace H:=H.2 (of_decide_eq_false b3)
     refine WC.exit (WX.then_exit (WX.then_exit (WX.block_same (WX.then_normal (WC.seq (WC.region (yp (h:=(WL.nil (WX.then_normal (WC.seq (WC.seq (WC.region (yp (h:=(WL.nil (WX.then_normal (WC.block ?_))))))))))))))))))
     obtain ⟨I2,mu2,h0_2,HR2⟩:=H
     refine WC.loopF (fun n' L' w'=>∃ (deep:Int),∃ (i2:Int),∃ (t602:Int),∃ (t612:Bool),∃ (t622:Bool),∃ (t632:List Int),∃ (A_t632:Option Addr),∃ (c_t632:Nat),∃ (n_t632:Nat),∃ (t642:List UInt8),∃ (t652:Value),∃ (t3116:List RV),∃ (A_t3116:Option Addr),∃ (c_t3116:Nat),∃ (n_t3116:Nat),∃ (hs_t3116:List RH),n'=mu2 deep i2 t602 t612 t622 t632 t642 t652 t3116∧L'=[(0,.int .i64 order),(1,.slice A_own own.length c_own),(2,.slice A_from from_.length c_from),(6,.pointer (some ⟨g1,0,none⟩)),(8,.pointer (some ⟨g2,0,none⟩)),(13,.int .i64 deep),(14,.int .i64 i2)]∧I2 deep i2 t602 t612 t622 t632 t642 t652 t3116∧t652.oneCell'=true∧n_t632=t632.length∧n_t3116=t3116.length∧w.grownBy w' none∧Bl w' g1 38 [.int .i64 t602,.bool t612,.bool t622,.slice A_t632 n_t632 c_t632,vs t642,t652]∧Bl w' g2 111 [.slice A_t310 t310.length c_t310,.slice none 0 0,.slice none 0 0,.slice none 0 0,.bool false,.int .i64 (0:Int),vs ([]:List UInt8),.int .i64 (0:Int),.int .i64 (0:Int),.int .i64 (0:Int),.bool false,.bool false,.slice none 0 0,vs ([]:List UInt8),.pointer none,.int .i64 order,.slice A_t3116 n_t3116 c_t3116,.bool false,.slice none 0 0,.bool false,.slice none 0 0,.int .i64 (0:Int),.pointer none]∧OwnK 6 vr w' w.heap.size 38 A_t310 c_t310 hs_t310∧RelD deR w' hs_t310 t310∧Own vi w' w.heap.size 3 A_t632 c_t632 t632∧OwnK 6 vr w' w.heap.size 38 A_t3116 c_t3116 hs_t3116∧RelD deR w' hs_t3116 t3116∧Dj (some g1) (some g2)∧Dj (some g1) (blk A_t310)∧Dj (some g1) (blk A_t632)∧Dj (some g1) (blk A_t3116)∧Dj (some g2) (blk A_t310)∧Dj (some g2) (blk A_t632)∧Dj (some g2) (blk A_t3116)∧Dj (blk A_t310) (blk A_t632)∧Dj (blk A_t310) (blk A_t3116)∧DnD deR hs_t310 t310 (some g1)∧DnD deR hs_t310 t310 (some g2)∧DnD deR hs_t310 t310 (blk A_t310)∧DnD deR hs_t310 t310 (blk A_t632)∧DnD deR hs_t310 t310 (blk A_t3116)∧Dj (blk A_t632) (blk A_t3116)∧DnD deR hs_t3116 t3116 (some g1)∧DnD deR hs_t3116 t3116 (some g2)∧DnD deR hs_t3116 t3116 (blk A_t310)∧DnD deR hs_t3116 t3116 (blk A_t632)∧DnD deR hs_t3116 t3116 (blk A_t3116)∧OrD (fun p=>DnD deR hs_own own p∧DnD deR hs_from_ from_ p) deR hs_t310 t310 w.heap.size∧OrD (fun p=>DnD deR hs_own own p∧DnD deR hs_from_ from_ p) deR hs_t3116 t3116 w.heap.size) _ _ ⟨(0:Int),(0:Int),t60,t61,t62,t63,A_t63,c_t63,t63.length,t64,t65,[],none,0,0,[],rfl,rfl,h0_2,one_t65,rfl,rfl,gr6,k3,k4,k7,k8,k6,(OwnK.nil vr_ok w6 w.heap.size 38),(RelD.nil (d:=deR) (w:=w6)),dj1,dj4,dj3,Dj.nr,dj7,dj6,Dj.nr,dj10.symm,Dj.nr,dj11,dj12,dj15,dj14,(DnD.none k8),Dj.nr,DnD.nil,DnD.nil,DnD.nil,DnD.nil,DnD.nil,or1,(fun p_ hp_ q_=>(DnD.nil (d:=deR)))⟩ (by repeat (first | exact Sub.nil | refine Sub.cons rfl ?_)) ?_
     clear h0_2
     rintro _ _ w15 ⟨deep,i2,t602,t612,t622,t632,A_t632,c_t632,n_t632,t642,t652,t3116,A_t3116,c_t3116,n_t3116,hs_t3116,rfl,rfl,hI2,one_t652,rfl,rfl,gr15,k50,k51,k52,k53,k54,k55,k56,dj43,dj44,dj45,dj46,dj47,dj48,dj49,dj50,dj51,dj52,dj53,dj54,dj55,dj56,dj57,dj58,dj59,dj60,dj61,dj62,or3,or4⟩
     have H:=HR2 deep i2 t602 t612 t622 t632 t642 t652 t3116 hI2
     refine WC.seq (WC.seq (WC.region (yp (h:=(yp (h:=(yp (h:=(yp (h:=(WL.nil (WX.then_normal (WC.cond rfl (fun b6=>?_) (fun b6=>?_))))))))))))))
     ·replace H:=H.1 (of_decide_eq_true b6)
      refine WC.skip (WX.then_normal (WC.seq (WC.block (WC.seq (WC.region (yp (h:=(yp (h:=?_)))))))))
      obtain ⟨h7,H⟩:=H
      refine WL.y rfl (Yld.iaddrK za (hfrom_.grown gr15) rfl rfl hr_from_.1.symm rfl h7.1 h7.2) (WL.y rfl (Yld.faddrK za (hfrom_.grown gr15) (iltN h7 hr_from_.1.symm) rfl rfl rfl) ?_)
      obtain ⟨⟨v_el3,F_el3⟩,eh3,hR3⟩:=RelD.at (hr_from_.grown gr15) rh0 rv0 (j:=i2.toNat) (Nat.lt_of_lt_of_eq (iltN h7 hr_from_.1.symm) (hr_from_.grown gr15).1)
      have hv3:RelD deR w15 [(v_el3,F_el3)] [from_.getD i2.toNat rv0]:=RelD.cons hR3 RelD.nil
      obtain ⟨A_L,c_L,v_o,hc1,hR4,hO5,hd1,hd2⟩:=qe hv3
      refine WL.y rfl (Yld.iloadF (v:=v_o.1) rh0 za (hfrom_.grown gr15) rfl rfl (iltN h7 hr_from_.1.symm) (by rw [eh3]; show v_el3.1[5]?=_; rw [hc1]; rfl)) (yp (h:=(WL.nil (WX.then_normal (WC.seq (WC.seq (WC.region ?_)))))))
      obtain ⟨h8,H⟩:=H
      obtain ⟨A_its,c_its,A_fr,c_fr,hi,hf,hv4,hB10,hR5,hr3,hR6,hr4,hd3,hd4,hd5,hd6,hd7⟩:=deO_openD hO5 h8
      refine yp (h:=(WL.y rfl (nilpV hv4 rfl) (yp (h:=(WL.y rfl (Yld.bload za hB10 rfl rfl rfl) (yp (h:=(yp (h:=(yp (h:=(WL.midF 6 (fun L' w'=>∃ q2:Bool,L'=[(94,.bool q2),(0,.int .i64 order),(1,.slice A_own own.length c_own),(2,.slice A_from from_.length c_from),(6,.pointer (some ⟨g1,0,none⟩)),(8,.pointer (some ⟨g2,0,none⟩)),(13,.int .i64 deep),(14,.int .i64 i2),(15,v_o.1)]∧((!decide ((((from_.getD i2.toNat rv0).2.2).order)=order)) && (!decide ((((from_.getD i2.toNat rv0).2.2).order)=(1:Int))))=q2∧w15=w') ?_ (fun hQ=>?_)))))))))))))
      ·rintro _ _ ⟨q2,rfl,rfl,rfl⟩
       refine yp (h:=(WL.midF 3 (fun L' w'=>∃ q3:Bool,L'=[(98,.bool q3),(0,.int .i64 order),(1,.slice A_own own.length c_own),(2,.slice A_from from_.length c_from),(6,.pointer (some ⟨g1,0,none⟩)),(8,.pointer (some ⟨g2,0,none⟩)),(13,.int .i64 deep),(14,.int .i64 i2),(15,v_o.1)]∧(((!decide ((((from_.getD i2.toNat rv0).2.2).order)=order)) && (!decide ((((from_.getD i2.toNat rv0).2.2).order)=(1:Int)))) && (!decide (order=(1:Int))))=q3∧w15=w') ?_ (fun hQ=>?_)))
       ·rintro _ _ ⟨q3,rfl,rfl,rfl⟩
        refine WL.nil (WX.then_normal (WC.cond rfl (fun b7=>?_) (fun b7=>?_)))
        ·replace H:=H.1 (b7)
         refine WC.seq (WC.region (WL.y rfl (Yld.struct (us:=[.int .i64 (0:Int),.bool false,.bool false,.slice none 0 0,vs ([]:List UInt8),.pointer none]) zero38 places38 rfl rfl) (WL.storeW (vs:=[.int .i64 (0:Int),.bool false,.bool false,.slice none 0 0,vs ([]:List UInt8),.pointer none]) za rfl rfl rfl (zf rfl (zf rfl (zf rfl (zf rfl (zf rfl (zf rfl zm)))))) k50 rfl rfl (fun w16 hB11 hg13=>yp (h:=(WL.nil (WX.then_normal (WC.ret (WX.then_ret (WX.block_ret (WX.then_ret (WX.then_ret (WX.block_ret (WX.then_ret ?_))))))))))))))
         have hp4:=qf (k:=(0:Int)) (neg:=false) (L:=([]:List Int)) (A:=none) (c:=0) (o:=pnil) (F:=noF) (Own.nil vi w16 w.heap.size 3).rd deO_nil
         exact WX.retct za rfl rfl rfl hB11 rfl rfl ⟨(zk gr15 hg13 (Ge.le (Ge.box hl1) (Nat.le_refl _))),(rcP (0:Int) false none 0 ([]:List Int) pnil),(FR none ([]:List Int) noF),(((0:Int),(false,([]:List Int)),RO.nil):RV),(104:Int),rfl,hp4.1,(fun p_ hp_ v0_ v1_=>have q_:=And.intro v0_ v1_; hp4.2 _ (fun e_=>absurd rfl e_) deO_nilD),(fun h_=>absurd rfl h_),H⟩
        ·replace H:=H.2 (b7)
         refine WC.skip (WX.then_normal (WC.seq (WC.region (yp (h:=(yp (h:=(WL.y rfl (nilpV hv4 rfl) (yp (h:=(WL.y rfl (Yld.bload za hB10 rfl rfl rfl) ?_)))))))))))
         obtain ⟨h9,H⟩:=H
         refine WL.y rfl (Yld.add rfl rfl h9) (WL.y rfl (Yld.max2 rfl rfl) (yp (h:=(WL.nil (WX.then_normal (WC.chainF (fun k => !(Nat.beq k 9 || Nat.beq k 10 || Nat.beq k 13)) (LD [4,8] (fun w'=>Bl w' g2 111 [.slice A_t310 t310.length c_t310,.slice none 0 0,.slice none 0 0,.slice none 0 0,.bool false,.int .i64 (0:Int),vs ([]:List UInt8),.int .i64 (0:Int),.int .i64 (0:Int),.int .i64 (0:Int),.bool false,.bool false,.slice none 0 0,vs ([]:List UInt8),.pointer none,.int .i64 order,.slice A_t3116 t3116.length c_t3116,.bool false,.slice none 0 0,.bool false,.slice none 0 0,.int .i64 (0:Int),.pointer none]∧RdK 6 vr w' A_from c_from hs_from_)) mixed (by kernel_rfl) (fun k w' h _=>⟨(zU h k51),(RdK.eqv h (hfrom_.grown gr15))⟩) (WJ.y rfl rfl (fun w' hw'=>Yld.pure za rfl) (WJ.y rfl rfl (fun w' hw'=>Yld.pure za rfl) (WJ.y rfl rfl (fun w' hw'=>Yld.pure za rfl) (WJ.y rfl rfl (fun w' hw'=>Yld.pure za rfl) (WJ.y rfl rfl (fun w' hw'=>Yld.bload za (hw' rfl).1 rfl rfl rfl) (WJ.y rfl rfl (fun w' hw'=>Yld.pure za rfl) (WJ.y rfl rfl (fun w' hw'=>Yld.pure za rfl) ?_)))))))))))))
         obtain ⟨h10,H⟩:=H
         refine WJ.y rfl rfl (fun w' hw'=>Yld.iaddrK za (hfrom_.grown gr15) rfl rfl hr_from_.1.symm rfl h10.1 h10.2) (WJ.y rfl rfl (fun w' hw'=>Yld.to (v:=(.agg ⟨v_el3.1⟩)) (Yld.iloadK rh0 za (hw' rfl).2 rfl rfl (iltN h10 hr_from_.1.symm)) (congrArg (fun h=>Value.agg ⟨vr h⟩) eh3)) (WJ.putw rfl (zo) rfl (Eff.litK (f:=vr) (xs:=([(v_el3,F_el3)]:List RH)) vr_ok ow26 rfl rfl rfl) (fun v w' ⟨_,_,h⟩=>DD.keep (⟨(Bl.g0 k51 (zq h (Eqv.refl _))),(RdK.grown (hfrom_.grown gr15) (zq h (Eqv.refl _)))⟩)) ?_))
         rintro _ w17 ⟨rfl,hB12,hg14⟩
         obtain ⟨g5,hl5⟩:∃ g,g=w15.heap.size:=⟨_,rfl⟩
         rw [←hl5] at hB12
         rw [←hl5]
         have hO6:OwnK 6 vr w17 w.heap.size 38 (some ⟨g5,0,none⟩) 1 ([(v_el3,F_el3)]:List RH):=OwnK.ofBl vr_ok hB12 (Nat.le_trans (ze gr15) (Nat.le_of_eq hl5.symm)) (by simp [maxLen]) rfl
         have gr17:=zd gr15 hg14
         have k57:=k50.g0 hg14
         have k58:=k51.g0 hg14
         have k59:=k52.grown hg14
         have k60:=k53.grown hg14
         have k61:=k54.grown hg14
         have k62:=k55.grown hg14
         have k63:=k56.grown hg14
         have hr5:RelD deR w17 ([(v_el3,F_el3)]:List RH) ([from_.getD i2.toNat rv0]:List RV):=(RelD.cons (RelD.one (hv3.grown hg14)) RelD.nil)
         have nd3:OrD (fun p=>DnD deR hs_own own p∧DnD deR hs_from_ from_ p) deR ([(v_el3,F_el3)]:List RH) ([from_.getD i2.toNat rv0]:List RV) w.heap.size:=(OrD.cons (d:=deR) (fun p_ hp_ q_=>(DnD.one (DnD.cons (DnD.at (q_.2) (hr_from_.grown gr15).1 (Nat.lt_of_lt_of_eq (iltN h7 hr_from_.1.symm) (hr_from_.grown gr15).1) eh3) DnD.nil))) (fun _ _ _=>DnD.nil))
         have dj63:DnD deR ([(v_el3,F_el3)]:List RH) ([from_.getD i2.toNat rv0]:List RV) (some g1):=(DnD.cons (d:=deR) (DnD.one (DnD.cons (DnD.at (hr_from_.new (Ge.le (Ge.box hl1) (Nat.le_refl _))) (hr_from_.grown gr15).1 (Nat.lt_of_lt_of_eq (iltN h7 hr_from_.1.symm) (hr_from_.grown gr15).1) eh3) DnD.nil)) DnD.nil)
         have dj64:DnD deR ([(v_el3,F_el3)]:List RH) ([from_.getD i2.toNat rv0]:List RV) (some g2):=(DnD.cons (d:=deR) (DnD.one (DnD.cons (DnD.at (hr_from_.new (Ge.le (Ge.box hl2) (ze gr3))) (hr_from_.grown gr15).1 (Nat.lt_of_lt_of_eq (iltN h7 hr_from_.1.symm) (hr_from_.grown gr15).1) eh3) DnD.nil)) DnD.nil)
         have dj65:DnD deR ([(v_el3,F_el3)]:List RH) ([from_.getD i2.toNat rv0]:List RV) (blk A_t310):=(DnD.cons (d:=deR) (DnD.one (DnD.cons (DnD.at (hr_from_.new k52.ge') (hr_from_.grown gr15).1 (Nat.lt_of_lt_of_eq (iltN h7 hr_from_.1.symm) (hr_from_.grown gr15).1) eh3) DnD.nil)) DnD.nil)
         have dj66:DnD deR ([(v_el3,F_el3)]:List RH) ([from_.getD i2.toNat rv0]:List RV) (blk A_t632):=(DnD.cons (d:=deR) (DnD.one (DnD.cons (DnD.at (hr_from_.new k54.ge') (hr_from_.grown gr15).1 (Nat.lt_of_lt_of_eq (iltN h7 hr_from_.1.symm) (hr_from_.grown gr15).1) eh3) DnD.nil)) DnD.nil)
         have dj67:DnD deR ([(v_el3,F_el3)]:List RH) ([from_.getD i2.toNat rv0]:List RV) (blk A_t3116):=(DnD.cons (d:=deR) (DnD.one (DnD.cons (DnD.at (hr_from_.new k55.ge') (hr_from_.grown gr15).1 (Nat.lt_of_lt_of_eq (iltN h7 hr_from_.1.symm) (hr_from_.grown gr15).1) eh3) DnD.nil)) DnD.nil)
         have dj68:DnD deR ([(v_el3,F_el3)]:List RH) ([from_.getD i2.toNat rv0]:List RV) (blk (some ⟨g5,0,none⟩)):=(DnD.cons (d:=deR) (DnD.one (hv3.new (Ge.box (Nat.le_of_eq hl5.symm)))) DnD.nil)
         obtain ⟨h11,H⟩:=H
         have h12:((hs_t3116:List RH).length+([(v_el3,F_el3)]:List RH).length)*72≤140737488355328:=by rw [k63.1,hr5.1]; exact h11
         refine WJ.putw rfl (zo) rfl (Eff.appendK ow26 k62 rfl k56.1.symm hO6.rd rfl rfl h12 (zx h12) (ze gr17)) (fun v w' ⟨_,_,_,_,h,_⟩=>DD.keep (⟨(Bl.go k58 (zq h (Eqv.refl _)) dj49),(RdK.go (hfrom_.grown gr17) (zq h (Eqv.refl _)) (Dn.new (fun hx=>hfrom_.lt' hx) k62.ge'))⟩)) ?_
         rintro _ w18 ⟨A_t117,c_t117,rfl,hO7,hg15,hk3⟩
         have el2:(hs_t3116++([(v_el3,F_el3)]:List RH)).length=(t3116++([from_.getD i2.toNat rv0]:List RV)).length:=by rw [List.length_append,List.length_append,k63.1,hr5.1]
         rw [el2]
         have hr6:RelD deR w18 (hs_t3116++([(v_el3,F_el3)]:List RH)) (t3116++([from_.getD i2.toNat rv0]:List RV)):=RelD.append (k63.go hg15 dj62) (hr5.go hg15 dj67)
         have nd4:OrD (fun p=>DnD deR hs_own own p∧DnD deR hs_from_ from_ p) deR (hs_t3116++([(v_el3,F_el3)]:List RH)) (t3116++([from_.getD i2.toNat rv0]:List RV)) w.heap.size:=OrD.append k63.1 or4 nd3
         have dj69:DnD deR (hs_t3116++([(v_el3,F_el3)]:List RH)) (t3116++([from_.getD i2.toNat rv0]:List RV)) (some g1):=(DnD.append k63.1 dj58 dj63)
         have dj70:DnD deR (hs_t3116++([(v_el3,F_el3)]:List RH)) (t3116++([from_.getD i2.toNat rv0]:List RV)) (some g2):=(DnD.append k63.1 dj59 dj64)
         have dj71:DnD deR (hs_t3116++([(v_el3,F_el3)]:List RH)) (t3116++([from_.getD i2.toNat rv0]:List RV)) (blk A_t310):=(DnD.append k63.1 dj60 dj65)
         have dj72:DnD deR (hs_t3116++([(v_el3,F_el3)]:List RH)) (t3116++([from_.getD i2.toNat rv0]:List RV)) (blk A_t632):=(DnD.append k63.1 dj61 dj66)
         have dj73:DnD deR (hs_t3116++([(v_el3,F_el3)]:List RH)) (t3116++([from_.getD i2.toNat rv0]:List RV)) (blk (some ⟨g5,0,none⟩)):=(DnD.append k63.1 (k56.new (Ge.box (Nat.le_of_eq hl5.symm))) dj68)
         have dj74:DnD deR (hs_t3116++([(v_el3,F_el3)]:List RH)) (t3116++([from_.getD i2.toNat rv0]:List RV)) (blk A_t117):=(DnD.append k63.1 (RelD.app k63 dj62 hk3) (RelD.app hr5 dj67 hk3))
         refine WJ.y rfl rfl (fun w' hw'=>Yld.pure za rfl) (WJ.y rfl rfl (fun w' hw'=>Yld.pure za rfl) (WJ.eff rfl (Ef0.store1 one26 rfl rfl rfl (k58.go hg15 dj49) (by simp)) (fun w' h=>DD.past (by kernel_rfl)) ?_))
         rintro w19 ⟨hB14,hg16⟩
         have hB13:Bl w19 g2 111 [.slice A_t310 t310.length c_t310,.slice none 0 0,.slice none 0 0,.slice none 0 0,.bool false,.int .i64 (0:Int),vs ([]:List UInt8),.int .i64 (0:Int),.int .i64 (0:Int),.int .i64 (0:Int),.bool false,.bool false,.slice none 0 0,vs ([]:List UInt8),.pointer none,.int .i64 order,.slice A_t117 ((t3116++([from_.getD i2.toNat rv0]:List RV)).length) c_t117,.bool false,.slice none 0 0,.bool false,.slice none 0 0,.int .i64 (0:Int),.pointer none]:=hB14
         refine WJ.nil (WX.block_normal (WX.then_normal (WC.region (yp (h:=?_)))))
         obtain ⟨h13,H⟩:=H
         refine WL.y rfl (Yld.add rfl rfl h13) (yp (h:=(WL.nil ?_)))
         exact WX.roundF _ ⟨(if deep<((((from_.getD i2.toNat rv0).2.2).deep)+(1:Int)) then (((from_.getD i2.toNat rv0).2.2).deep)+(1:Int) else deep),i2+(1:Int),t602,t612,t622,t632,A_t632,c_t632,t632.length,t642,t652,t3116++([from_.getD i2.toNat rv0]:List RV),A_t117,c_t117,(t3116++([from_.getD i2.toNat rv0]:List RV)).length,hs_t3116++([(v_el3,F_el3)]:List RH),rfl,rfl,H.1,one_t652,rfl,rfl,(zk (zk gr17 hg15 k62.ge') hg16 (Ge.le (Ge.box hl2) (ze gr3))),((k57.go hg15 dj46).go hg16 dj43),hB13,((k59.go hg15 dj51).go hg16 dj47.symm),((k60.go hg15 dj56).go hg16 dj53),((k61.go hg15 dj57).go hg16 dj48.symm),(hO7.go hg16 (Dj.app dj49.symm k58.lt' hk3)),(hr6.go hg16 dj70),dj43,dj44,dj45,(Dj.app dj46.symm k57.lt' hk3).symm,dj47,dj48,(Dj.app dj49.symm k58.lt' hk3).symm,dj50,(Dj.app dj51.symm k59.lt' hk3).symm,dj52,dj53,dj54,dj55,(RelD.app k60 dj56 hk3),(Dj.app dj57.symm k61.lt' hk3).symm,dj69,dj70,dj71,dj72,dj74,or3,nd4⟩ (by repeat (first | exact Sub.nil | refine Sub.cons rfl ?_)) H.2
       ·clear H
        rcases Bool.eq_false_or_eq_true ((!decide ((((from_.getD i2.toNat rv0).2.2).order)=order)) && (!decide ((((from_.getD i2.toNat rv0).2.2).order)=(1:Int)))) with b8 | b8
        ·exact gp b8 (h:=(gp b8 (h:=(WL.y rfl (Yld.pickT (okb b8) rfl) (wk (hQ _ _ ⟨!decide (order=(1:Int)),rfl,by rw [b8] <;> rfl,rfl⟩))))))
        ·exact gn b8 (h:=(gn b8 (h:=(WL.y rfl (Yld.pickF (okb b8) rfl) (wk (hQ _ _ ⟨false,rfl,by rw [b8] <;> rfl,rfl⟩))))))
      ·clear H
       rcases Bool.eq_false_or_eq_true (!decide ((((from_.getD i2.toNat rv0).2.2).order)=order)) with b9 | b9
       ·exact gp b9 (h:=(WL.gyes rfl rfl (okb b9) rfl (nilpV hv4 rfl) (gp b9 (h:=(WL.gyes rfl rfl (okb b9) rfl (Yld.bload za hB10 rfl rfl rfl) (gp b9 (h:=(WL.y rfl (Yld.pickT (okb b9) rfl) (wk (hQ _ _ ⟨!decide ((((from_.getD i2.toNat rv0).2.2).order)=(1:Int)),rfl,by rw [b9] <;> rfl,rfl⟩))))))))))
       ·exact gn b9 (h:=(gn b9 (h:=(gn b9 (h:=(gn b9 (h:=(gn b9 (h:=(WL.y rfl (Yld.pickF (okb b9) rfl) (wk (hQ _ _ ⟨false,rfl,by rw [b9] <;> rfl,rfl⟩))))))))))))
     ·replace H:=H.2 (of_decide_eq_false b6)
      refine WC.exit (WX.then_exit (WX.then_exit (WX.block_same (WX.then_normal (WC.weaken (L':=[(0,.int .i64 order),(1,.slice A_own own.length c_own),(2,.slice A_from from_.length c_from),(6,.pointer (some ⟨g1,0,none⟩)),(8,.pointer (some ⟨g2,0,none⟩)),(13,.int .i64 deep)]) (by repeat (first | exact Sub.nil | refine Sub.cons rfl ?_)) ?_)))))
      refine nd_mid (g:=g2) (ci:=c_t310) (cf:=c_t3116) (order:=order) (its:=t310) (fr:=t3116) (Ai:=A_t310) (Af:=A_t3116) (hi:=hs_t310) (hf:=hs_t3116) k51 k52.rd k53 k55.rd k56 k52.lt' k55.lt' H (fun w20 n hg17 H=>?_)
      have gr20:=zd gr15 hg17
      have k78:=k50.g0 hg17
      refine WC.seq (WC.seq (WC.region (yp (h:=(yp (h:=(yp (h:=?_))))))))
      obtain ⟨h14,H⟩:=H
      refine WL.midF 7 (fun L' w'=>∃ q4:Bool,L'=[(156,.bool q4),(6,.pointer (some ⟨g1,0,none⟩)),(8,.pointer (some ⟨g2,0,none⟩)),(13,.int .i64 deep),(17,.int .i64 n)]∧((decide ((1000:Int)<deep)) || (decide (((1024:Int) - (from_.length:Int))<(own.length:Int))))=q4∧w20=w') ?_ (fun hQ=>?_)
      ·rintro _ _ ⟨q4,rfl,rfl,rfl⟩
       refine yp (h:=(WL.midF 3 (fun L' w'=>∃ q5:Bool,L'=[(160,.bool q5),(6,.pointer (some ⟨g1,0,none⟩)),(8,.pointer (some ⟨g2,0,none⟩)),(13,.int .i64 deep)]∧(((decide ((1000:Int)<deep)) || (decide (((1024:Int) - (from_.length:Int))<(own.length:Int)))) || (decide ((1024:Int)<n)))=q5∧w20=w') ?_ (fun hQ=>?_)))
       ·rintro _ _ ⟨q5,rfl,rfl,rfl⟩
        refine WL.nil (WX.then_normal (WC.cond rfl (fun b10=>?_) (fun b10=>?_)))
        ·replace H:=H.1 (b10)
         refine WC.seq (WC.region (WL.y rfl (Yld.struct (us:=[.int .i64 (0:Int),.bool false,.bool false,.slice none 0 0,vs ([]:List UInt8),.pointer none]) zero38 places38 rfl rfl) (WL.storeW (vs:=[.int .i64 (0:Int),.bool false,.bool false,.slice none 0 0,vs ([]:List UInt8),.pointer none]) za rfl rfl rfl (zf rfl (zf rfl (zf rfl (zf rfl (zf rfl (zf rfl zm)))))) k78 rfl rfl (fun w21 hB15 hg18=>yp (h:=(WL.nil (WX.then_normal (WC.ret (WX.then_ret ?_)))))))))
         have hp5:=qf (k:=(0:Int)) (neg:=false) (L:=([]:List Int)) (A:=none) (c:=0) (o:=pnil) (F:=noF) (Own.nil vi w21 w.heap.size 3).rd deO_nil
         exact WX.retct za rfl rfl rfl hB15 rfl rfl ⟨(zk gr20 hg18 (Ge.le (Ge.box hl1) (Nat.le_refl _))),(rcP (0:Int) false none 0 ([]:List Int) pnil),(FR none ([]:List Int) noF),(((0:Int),(false,([]:List Int)),RO.nil):RV),(108:Int),rfl,hp5.1,(fun p_ hp_ v0_ v1_=>have q_:=And.intro v0_ v1_; hp5.2 _ (fun e_=>absurd rfl e_) deO_nilD),(fun h_=>absurd rfl h_),H⟩
        ·replace H:=H.2 (b10)
         refine WC.skip (WX.then_normal (WC.seq (WC.region (yp (h:=(yp (h:=(yp (h:=(yp (h:=(WL.store1 one3 rfl rfl rfl (k51.g0 hg17) (by simp) (fun w22 hB17 hg19=>?_)))))))))))))
         have hB16:Bl w22 g2 111 [.slice A_t310 t310.length c_t310,.slice none 0 0,.slice none 0 0,.slice none 0 0,.bool false,.int .i64 (0:Int),vs ([]:List UInt8),.int .i64 deep,.int .i64 (0:Int),.int .i64 (0:Int),.bool false,.bool false,.slice none 0 0,vs ([]:List UInt8),.pointer none,.int .i64 order,.slice A_t3116 t3116.length c_t3116,.bool false,.slice none 0 0,.bool false,.slice none 0 0,.int .i64 (0:Int),.pointer none]:=hB17
         have k88:=(k54.grown hg17).go hg19 dj48.symm
         refine WL.nil (WX.then_normal (WC.seq (WC.region (yp (h:=(WL.y rfl (Yld.struct (us:=[.int .i64 (10:Int),.bool false,.bool false,.slice none 0 0,vs ([]:List UInt8),.pointer (some ⟨g2,0,none⟩)]) zero38 places38 rfl rfl) (WL.storeW (vs:=[.int .i64 (10:Int),.bool false,.bool false,.slice none 0 0,vs ([]:List UInt8),.pointer (some ⟨g2,0,none⟩)]) za rfl rfl rfl (zf rfl (zf rfl (zf rfl (zf rfl (zf rfl (zf rfl zm)))))) (k78.go hg19 dj43) rfl rfl (fun w23 hB18 hg20=>?_))))))))
         have k92:=((k52.grown hg17).go hg19 dj47.symm).go hg20 dj44.symm
         have k94:=((k55.grown hg17).go hg19 dj49.symm).go hg20 dj46.symm
         refine yp (h:=(WL.nil (WX.then_normal (WC.ret ?_))))
         replace H:=H g2
         have hp6:=deO_packD (g:=g2) (ci:=c_t310) (cf:=c_t3116) (deep:=deep) (order:=order) (its:=t310) (fr:=t3116) (Ai:=A_t310) (Af:=A_t3116) (hi:=hs_t310) (hf:=hs_t3116) (hB16.go hg20 dj43.symm) k92.rd (((k53.grown hg17).go hg19 dj53).go hg20 dj52) k94.rd (((k56.grown hg17).go hg19 dj59).go hg20 dj58) k92.lt' k94.lt'
         have hp7:=qf (k:=(10:Int)) (neg:=false) (L:=([]:List Int)) (A:=none) (c:=0) (o:=(ovP g2)) (F:=(FO g2 A_t310 A_t3116 hs_t310 hs_t3116)) (Own.nil vi w23 w.heap.size 3).rd hp6.1
         exact WX.retct za rfl rfl rfl hB18 rfl rfl ⟨(zk (zk gr20 hg19 (Ge.le (Ge.box hl2) (ze gr3))) hg20 (Ge.le (Ge.box hl1) (Nat.le_refl _))),(rcP (10:Int) false none 0 ([]:List Int) (ovP g2)),(FR none ([]:List Int) (FO g2 A_t310 A_t3116 hs_t310 hs_t3116)),(((10:Int),(false,([]:List Int)),(RO.mk g2 t310 order t3116 deep)):RV),(0:Int),rfl,hp7.1,(fun p_ hp_ v0_ v1_=>have q_:=And.intro v0_ v1_; hp7.2 _ (fun e_=>absurd rfl e_) (hp6.2 _ (Dj.new hp_ (Ge.le (Ge.box hl2) (ze gr3))).symm (Dj.new hp_ k92.ge').symm (Dj.new hp_ k94.ge').symm (or3 p_ hp_ q_) (or4 p_ hp_ q_))),(fun _=>((Ge.le (Ge.box hl2) (ze gr3))) _ rfl),H⟩
       ·clear H
        rcases Bool.eq_false_or_eq_true ((decide ((1000:Int)<deep)) || (decide (((1024:Int) - (from_.length:Int))<(own.length:Int)))) with b11 | b11
        ·exact gn b11 (h:=(gn b11 (h:=(WL.y rfl (Yld.pickT (okb b11) rfl) (wk (hQ _ _ ⟨true,rfl,by rw [b11] <;> rfl,rfl⟩))))))
        ·exact gp b11 (h:=(gp b11 (h:=(WL.y rfl (Yld.pickF (okb b11) rfl) (wk (hQ _ _ ⟨decide ((1024:Int)<n),rfl,by rw [b11] <;> rfl,rfl⟩))))))
      ·clear H
       rcases Bool.eq_false_or_eq_true (decide ((1000:Int)<deep)) with b12 | b12
       ·exact gn b12 (h:=(gn b12 (h:=(gn b12 (h:=(gn b12 (h:=(gn b12 (h:=(gn b12 (h:=(WL.y rfl (Yld.pickT (okb b12) rfl) (wk (hQ _ _ ⟨true,rfl,by rw [b12] <;> rfl,rfl⟩))))))))))))))
       ·exact gp b12 (h:=(gp b12 (h:=(gp b12 (h:=(gp b12 (h:=(WL.gyes rfl rfl (okb b12) rfl (Yld.sub rfl rfl (h14 b12)) (gp b12 (h:=(WL.y rfl (Yld.pickF (okb b12) rfl) (wk (hQ _ _ ⟨decide (((1024:Int) - (from_.length:Int))<(own.length:Int)),rfl,by rw [b12] <;> rfl,rfl⟩)))))))))))))
 ·clear H
  rcases Bool.eq_false_or_eq_true (decide (order<(1:Int))) with b13 | b13
  ·exact gn b13 (h:=(gn b13 (h:=(WL.y rfl (Yld.pickT (okb b13) rfl) (wk (hQ _ _ ⟨true,rfl,by rw [b13] <;> rfl,rfl⟩))))))
  ·exact gp b13 (h:=(gp b13 (h:=(WL.y rfl (Yld.pickF (okb b13) rfl) (wk (hQ _ _ ⟨decide ((3:Int)<order),rfl,by rw [b13] <;> rfl,rfl⟩))))))
end Go.Proofs.YtjjcdkfhaceicaaGreatDoor
 
namespace Go.Proofs.YtjjcdkfhaceicaaGreatDoor
open Go Go.RowKit
attribute [local irreducible] WL WC WX WQ WK WJ Yld Eff Ef0 Fn
def M_pdeps_Set_Order (s:PS) (K:Int→Prop):Prop :=
 (s≠PS.nil) ∧
 K s.order
def M_pdeps_Set_Kind (s:PS) (K:Int→Prop):Prop :=
 K (10:Int)
def zZ (l:List (Int × List Int × List Int)) (K:Bool→Prop):Prop :=
 (l.length≤maxLen →
 z8 (fun (ok:Bool) =>
 (((!ok)=true→K false) ∧
 ((!ok)=false→z9 l (fun (t24:Bool) =>
 ((((!t24) || (!ok))=true→K ok) ∧
 (((!t24) || (!ok))=false→Lp3 (fun (a:List PS) (b:List RV) (i:Int) kont1=>((i<(l.length:Int)→∃ J1:(List PS)→(List RV)→Prop,(Lp3 (fun (own:List PV) (mine:List RV) (k:Int) kont2=>(0≤i∧i<(l.length:Nat)) ∧
 ((k<(((l.getD i.toNat (0,[],[])).2.1).length:Int)→(0≤i∧i<(l.length:Nat)) ∧
 (0≤k∧k<(((l.getD i.toNat (0,[],[])).2.1).length:Nat)) ∧
 qa (((l.getD i.toNat (0,[],[])).2.1).getD k.toNat 0) (fun (t56:PV) =>
 ((own.length+(([t56]:List PV)).length)*16≤140737488355328) ∧
 (0≤i∧i<(l.length:Nat)) ∧
 (0≤k∧k<(((l.getD i.toNat (0,[],[])).2.1).length:Nat)) ∧
 qz (((l.getD i.toNat (0,[],[])).2.1).getD k.toNat 0) (fun (t68:RV) =>
 ((mine.length+(([t68]:List RV)).length)*72≤140737488355328) ∧
 (In .i64 (k+(1:Int))) ∧
 kont2 (own++([t56]:List PV)) (mine++([t68]:List RV)) (k+(1:Int))))) ∧
 (¬ (k<(((l.getD i.toNat (0,[],[])).2.1).length:Int))→Lp3 (fun (from_:List PS) (under:List RV) (k_2:Int) kont3=>(0≤i∧i<(l.length:Nat)) ∧
 ((((decide (k_2<(((l.getD i.toNat (0,[],[])).2.2).length:Int))) && (decide ((0:Int)<(a.length:Int))))=true→(0≤i∧i<(l.length:Nat)) ∧
 (0≤k_2∧k_2<(((l.getD i.toNat (0,[],[])).2.2).length:Nat)) ∧
 zL (((l.getD i.toNat (0,[],[])).2.2).getD k_2.toNat 0) (a.length:Int) (fun (n:Int) =>
 (0≤n∧n<(a.length:Nat)) ∧
 ((from_.length+(([a.getD n.toNat PS.nil]:List PS)).length)*8≤140737488355328) ∧
 (0≤n∧n<(b.length:Nat)) ∧
 ((under.length+(([b.getD n.toNat rv0]:List RV)).length)*72≤140737488355328) ∧
 (In .i64 (k_2+(1:Int))) ∧
 kont3 (from_++([a.getD n.toNat PS.nil]:List PS)) (under++([b.getD n.toNat rv0]:List RV)) (k_2+(1:Int)))) ∧
 (((decide (k_2<(((l.getD i.toNat (0,[],[])).2.2).length:Int))) && (decide ((0:Int)<(a.length:Int))))=false→(0≤i∧i<(l.length:Nat)) ∧
 qq ((l.getD i.toNat (0,[],[])).1) own from_ (fun (t1190:PS) (t1191:Er) =>
 (t1190≠PS.nil→∀ x∈a,∀ y,zV x y→y≠PS.nil→y.id≠t1190.id) →
 (t1190≠PS.nil→∀ x∈from_,∀ y,zV x y→y≠PS.nil→y.id≠t1190.id) →
 (0≤i∧i<(l.length:Nat)) ∧
 zy ((l.getD i.toNat (0,[],[])).1) mine under (fun (t1300:RV) (t1301:Int) =>
 (t1300.2.2≠RO.nil→∀ x∈b,∀ y,RRch x.2.2 y→y≠RO.nil→y.id≠t1300.2.2.id) →
 (t1300.2.2≠RO.nil→∀ x∈mine,∀ y,RRch x.2.2 y→y≠RO.nil→y.id≠t1300.2.2.id) →
 (t1300.2.2≠RO.nil→∀ x∈under,∀ y,RRch x.2.2 y→y≠RO.nil→y.id≠t1300.2.2.id) →
 zX t1191 t1301 (fun (t135:Bool) =>
 ((((!t135) || (!((!t1190.isNil) == (decide (t1301=(0:Int))))))=true→K false) ∧
 (((!t135) || (!((!t1190.isNil) == (decide (t1301=(0:Int))))))=false→((t1190.isNil=true→J1 a b) ∧
 (t1190.isNil=false→M_pdeps_Set_All t1190 (fun (t1480:List PV) (t1481:Er) =>
 M_smithyref14_All ((t1300.1,(t1300.2.1.1,t1300.2.1.2),(t1300.2.2)):RV) (fun (t1530:List RV) (t1531:Int) =>
 zX t1481 t1531 (fun (t158:Bool) =>
 ∃ J2:Bool→Prop,((((!t158)=true→J2 true) ∧
 ((!t158)=false→M_val_Tuple t1480 (fun (t162:PV) =>
 M_val_Repr t162 (fun (t163:List UInt8) =>
 qb t1530 (fun (t165:RV) =>
 qj t165 (fun (t166:List UInt8) =>
 J2 (!decide (t163=t166))))))))) ∧
 (∀ q4:Bool,J2 q4→∃ J3:Bool→Prop,(((q4=true→J3 true) ∧
 (q4=false→M_pdeps_Set_Order t1190 (fun (t171:Int) =>
 (0≤i∧i<(l.length:Nat)) ∧
 J3 (!decide (t171=((l.getD i.toNat (0,[],[])).1))))))) ∧
 (∀ q5:Bool,J3 q5→∃ J4:Bool→Prop,(((q5=true→J4 true) ∧
 (q5=false→M_pdeps_Set_Empty t1190 (fun (t181:Bool) =>
 J4 (!(t181 == (decide ((t1530.length:Int)=(0:Int))))))))) ∧
 (∀ q6:Bool,J4 q6→∃ J5:Bool→Prop,(((q6=true→J5 true) ∧
 (q6=false→M_pdeps_Set_Size t1190 (fun (t189:Int) =>
 M_smithyref14_Sets ((t1300.1,(t1300.2.1.1,t1300.2.1.2),(t1300.2.2)):RV) (fun (t191:Int) =>
 J5 (!decide (t189=t191))))))) ∧
 (∀ q7:Bool,J5 q7→∃ J6:Bool→Prop,(((q7=true→J6 true) ∧
 (q7=false→M_pdeps_Set_Kind t1190 (fun (t196:Int) =>
 J6 (!decide (t196=(10:Int))))))) ∧
 (∀ q8:Bool,J6 q8→((q8=true→K false) ∧
 (q8=false→((a.length+(([t1190]:List PS)).length)*8≤140737488355328) ∧
 ((b.length+(([((t1300.1,(t1300.2.1.1,t1300.2.1.2),(t1300.2.2)):RV)]:List RV)).length)*72≤140737488355328) ∧
 J1 (a++([t1190]:List PS)) (b++([((t1300.1,(t1300.2.1.1,t1300.2.1.2),(t1300.2.2)):RV)]:List RV)))))))))))))))))))))) [] [] (0:Int)))) [] [] (0:Int)) ∧
 (∀ a2:List PS,∀ b_2:List RV,J1 a2 b_2→(In .i64 (i+(1:Int))) ∧
 kont1 a2 b_2 (i+(1:Int)))) ∧
 (¬ (i<(l.length:Int))→K true))) [] [] (0:Int))))))))
set_option maxHeartbeats 8000000 in
theorem W_pdeps_Set_Order {w:World} {v_s:OV} {F_s:Nat→Prop} {s:PS} {K:Int→Prop} (hs:RelD deS w [(v_s,F_s)] [s]) (H:M_pdeps_Set_Order s K):Fn Tryz.prog 22 ⟨[v_s.1]⟩ w (fun v w'=>w=w'∧∃ (r:Int),v=.int .i64 r∧K r):=by
 unfold M_pdeps_Set_Order at H
 refine Fn.enter (by kernel_rfl) Tryz.func22 rfl Tryz.ntmps22 rfl ?_
 refine WC.seq (WC.region (yp (h:=(WL.nil (WX.then_normal (WC.seq (WC.region (yp (h:=?_)))))))))
 obtain ⟨h1,H⟩:=H
 obtain ⟨A_own,c_own,A_keys,c_keys,A_fr,c_fr,ho,hf,hv1,hB1,hR1,hr1,hR2,hR3,hr2,hd1,hd2,hd3,hd4,hd5,hd6⟩:=SR.out hs h1
 exact WL.y rfl (nilpV hv1 rfl) (WL.y rfl (Yld.fa0 (o:=0) (by kernel_rfl) rfl) (WL.y rfl (Yld.bload za hB1 rfl rfl rfl) (yp (h:=(WL.nil (WX.then_normal (WC.ret (WX.ret1 rfl rfl ⟨rfl,s.order,rfl,H⟩))))))))
set_option maxHeartbeats 8000000 in
theorem W_pdeps_Set_Kind {w:World} {v_s:OV} {F_s:Nat→Prop} {s:PS} {K:Int→Prop} (hs:RelD deS w [(v_s,F_s)] [s]) (H:M_pdeps_Set_Kind s K):Fn Tryz.prog 26 ⟨[v_s.1]⟩ w (fun v w'=>w=w'∧∃ (r:Int),v=.int .i64 r∧K r):=by
 unfold M_pdeps_Set_Kind at H
 refine Fn.enter (by kernel_rfl) Tryz.func26 rfl Tryz.ntmps26 rfl ?_
 exact WC.seq (WC.region (yp (h:=(WL.nil (WX.then_normal (WC.seq (WC.region (yp (h:=(WL.nil (WX.then_normal (WC.ret (WX.ret1 rfl rfl ⟨rfl,(10:Int),rfl,H⟩)))))))))))))
set_option maxHeartbeats 8000000 in
theorem W_smithylaw13_DepsSay {S:List Nat} {w:World} {l:List (Int × List Int × List Int)} {A_l:Option Addr} {c_l:Nat} {hs_l:List (Int × Hdr × Hdr)} {n_l:Nat} {K:Bool→Prop} (hG:GOK S w) (hS0:0∈S) (hS1:1∈S) (hS2:2∈S) (hS3:3∈S) (hS4:4∈S) (hS5:5∈S) (hS6:6∈S) (hS7:7∈S) (hS8:8∈S) (hS9:9∈S) (hS10:10∈S) (hS11:11∈S) (hS12:12∈S) (hS13:13∈S) (hS14:14∈S) (hS15:15∈S) (hS16:16∈S) (hl:RdK 3 encH30 w A_l c_l hs_l) (hn_l:n_l=l.length) (hr_l:RelD de30 w hs_l l) (H:zZ l K):Fn Tryz.prog 3 ⟨[.slice A_l n_l c_l]⟩ w (fun v w'=>w.grownBy w' none∧∃ (r:Bool),v=.bool r∧K r):=by
 subst hn_l
 unfold zZ at H
 refine Fn.enter (by kernel_rfl) Tryz.func3 rfl Tryz.ntmps3 rfl ?_
 replace H:=H (by rw [←hr_l.1]; exact Nat.le_trans hl.cap hl.max)
 refine WC.seq (WC.region (yp (h:=(WL.nil (WX.then_normal (WC.seq (WC.region (WL.call rfl rfl (W_smithylaw13_first hG hS3 hS7 H) ?_))))))))
 rintro _ w1 ⟨hg1,ok,rfl,H⟩
 have gr1:=hg1
 refine yp (h:=(WL.nil (WX.then_normal (WC.seq (WC.seq (WC.region (yp (h:=(yp (h:=(WL.nil (WX.then_normal (WC.cond rfl (fun b1=>?_) (fun b1=>?_))))))))))))))
 ·replace H:=H.1 (b1)
  exact WC.seq (WC.region (yp (h:=(WL.nil (WX.then_normal (WC.ret (WX.then_ret (WX.ret1 rfl rfl ⟨gr1,false,rfl,H⟩))))))))
 ·replace H:=H.2 (b1)
  refine WC.skip (WX.then_normal (WC.seq (WC.seq (WC.region (yp (h:=(WL.call rfl rfl (W_smithylaw13_light (hl.grown gr1) rfl (hr_l.grown gr1) H) ?_)))))))
  rintro _ _ ⟨rfl,t24,rfl,H⟩
  refine yp (h:=(yp (h:=(WL.midF 3 (fun L' w'=>∃ q1:Bool,L'=[(29,.bool q1),(0,.slice A_l l.length c_l),(3,.bool ok)]∧((!t24) || (!ok))=q1∧w1=w') ?_ (fun hQ=>?_)))))
  ·rintro _ _ ⟨q1,rfl,rfl,rfl⟩
   refine WL.nil (WX.then_normal (WC.cond rfl (fun b2=>?_) (fun b2=>?_)))
   ·replace H:=H.1 (b2)
    exact WC.seq (WC.region (yp (h:=(yp (h:=(WL.nil (WX.then_normal (WC.ret (WX.then_ret (WX.ret1 rfl rfl ⟨gr1,ok,rfl,H⟩))))))))))
   ·replace H:=H.2 (b2)
    refine WC.skip (WX.then_normal (WC.seq (WC.region (yp (h:=(WL.nil (WX.then_normal (WC.seq (WC.region (yp (h:=(WL.nil (WX.then_normal (WC.seq (WC.seq (WC.region (yp (h:=(WL.nil (WX.then_normal (WC.block ?_)))))))))))))))))))))
    obtain ⟨I1,mu1,h0_1,HR1⟩:=H
    refine WC.loopF (fun n' L' w'=>∃ (a:List PS),∃ (A_a:Option Addr),∃ (c_a:Nat),∃ (n_a:Nat),∃ (hs_a:List VH),∃ (b:List RV),∃ (A_b:Option Addr),∃ (c_b:Nat),∃ (n_b:Nat),∃ (hs_b:List RH),∃ (i:Int),n'=mu1 a b i∧L'=[(0,.slice A_l l.length c_l),(4,.slice A_a n_a c_a),(5,.slice A_b n_b c_b),(6,.int .i64 i)]∧I1 a b i∧n_a=a.length∧n_b=b.length∧w.grownBy w' none∧Own vv w' w.heap.size 41 A_a c_a hs_a∧RelD deS w' hs_a a∧OwnK 6 vr w' w.heap.size 38 A_b c_b hs_b∧RelD deR w' hs_b b∧Dj (blk A_a) (blk A_b)∧DnD deS hs_a a (blk A_a)∧DnD deS hs_a a (blk A_b)∧DnD deR hs_b b (blk A_a)∧DnD deR hs_b b (blk A_b)∧NewD deS hs_a a w.heap.size) _ _ ⟨[],none,0,0,[],[],none,0,0,[],(0:Int),rfl,rfl,h0_1,rfl,rfl,gr1,(Own.nil vv w1 w.heap.size 41),(RelD.nil (d:=deS) (w:=w1)),(OwnK.nil vr_ok w1 w.heap.size 38),(RelD.nil (d:=deR) (w:=w1)),Dj.nl,DnD.nil,DnD.nil,DnD.nil,DnD.nil,(NewD.nil (d:=deS))⟩ (by repeat (first | exact Sub.nil | refine Sub.cons rfl ?_)) ?_
    clear h0_1
    rintro _ _ w2 ⟨a,A_a,c_a,n_a,hs_a,b,A_b,c_b,n_b,hs_b,i,rfl,rfl,hI1,rfl,rfl,gr2,k1,k2,k3,k4,dj1,dj2,dj3,dj4,dj5,or1⟩
    have H:=HR1 a b i hI1
    refine WC.seq (WC.seq (WC.region (yp (h:=(yp (h:=(yp (h:=(yp (h:=(WL.nil (WX.then_normal (WC.cond rfl (fun b3=>?_) (fun b3=>?_))))))))))))))
    ·replace H:=H.1 (of_decide_eq_true b3)
     refine WC.skip (WX.then_normal (WC.seq ?_))
     obtain ⟨J1,H,hJ1⟩:=H
     refine WC.midF (fun L' w'=>∃ (a2:List PS),∃ (A_a2:Option Addr),∃ (c_a2:Nat),∃ (n_a2:Nat),∃ (hs_a2:List VH),∃ (b_2:List RV),∃ (A_b2:Option Addr),∃ (c_b2:Nat),∃ (n_b2:Nat),∃ (hs_b2:List RH),L'=[(0,.slice A_l l.length c_l),(4,.slice A_a2 n_a2 c_a2),(5,.slice A_b2 n_b2 c_b2),(6,.int .i64 i)]∧J1 a2 b_2∧n_a2=a2.length∧n_b2=b_2.length∧w.grownBy w' none∧Own vv w' w.heap.size 41 A_a2 c_a2 hs_a2∧RelD deS w' hs_a2 a2∧OwnK 6 vr w' w.heap.size 38 A_b2 c_b2 hs_b2∧RelD deR w' hs_b2 b_2∧Dj (blk A_a2) (blk A_b2)∧DnD deS hs_a2 a2 (blk A_a2)∧DnD deS hs_a2 a2 (blk A_b2)∧DnD deR hs_b2 b_2 (blk A_a2)∧DnD deR hs_b2 b_2 (blk A_b2)∧NewD deS hs_a2 a2 w.heap.size) ?_ (fun hQ=>?_)
     ·clear H
      rintro _ w3 ⟨a2,A_a2,c_a2,n_a2,hs_a2,b_2,A_b2,c_b2,n_b2,hs_b2,rfl,H,rfl,rfl,gr3,k5,k6,k7,k8,dj6,dj7,dj8,dj9,dj10,or2⟩
      replace H:=hJ1 a2 b_2 H
      refine WX.then_normal (WC.region (yp (h:=?_)))
      obtain ⟨h1,H⟩:=H
      refine WL.y rfl (Yld.add rfl rfl h1) (yp (h:=(WL.nil ?_)))
      exact WX.roundF _ ⟨a2,A_a2,c_a2,a2.length,hs_a2,b_2,A_b2,c_b2,b_2.length,hs_b2,i+(1:Int),rfl,rfl,H.1,rfl,rfl,gr3,k5,k6,k7,k8,dj6,dj7,dj8,dj9,dj10,or2⟩ (by repeat (first | exact Sub.nil | refine Sub.cons rfl ?_)) H.2
     ·clear hJ1
      refine WC.block (WC.seq (WC.region (yp (h:=(WL.nil (WX.then_normal (WC.seq (WC.region (yp (h:=(WL.nil (WX.then_normal (WC.seq (WC.region (yp (h:=(WL.nil (WX.then_normal (WC.seq (WC.region (yp (h:=(WL.nil (WX.then_normal (WC.seq (WC.seq (WC.region (yp (h:=(WL.nil (WX.then_normal (WC.block ?_))))))))))))))))))))))))))))))))
      obtain ⟨I2,mu2,h0_2,HR2⟩:=H
      refine WC.loopF (fun n' L' w'=>∃ (own:List PV),∃ (A_own:Option Addr),∃ (c_own:Nat),∃ (n_own:Nat),∃ (hs_own:List VH),∃ (mine:List RV),∃ (A_mine:Option Addr),∃ (c_mine:Nat),∃ (n_mine:Nat),∃ (hs_mine:List RH),∃ (k:Int),n'=mu2 own mine k∧L'=[(0,.slice A_l l.length c_l),(4,.slice A_a a.length c_a),(5,.slice A_b b.length c_b),(6,.int .i64 i),(7,.slice A_own n_own c_own),(8,.slice A_mine n_mine c_mine),(9,.slice none 0 0),(10,.slice none 0 0),(11,.int .i64 k)]∧I2 own mine k∧n_own=own.length∧n_mine=mine.length∧w.grownBy w' none∧Own vv w' w.heap.size 41 A_a c_a hs_a∧RelD deS w' hs_a a∧OwnK 6 vr w' w.heap.size 38 A_b c_b hs_b∧RelD deR w' hs_b b∧Own vv w' w.heap.size 32 A_own c_own hs_own∧RelD deV w' hs_own own∧OwnK 6 vr w' w.heap.size 38 A_mine c_mine hs_mine∧RelD deR w' hs_mine mine∧Dj (blk A_a) (blk A_b)∧Dj (blk A_a) (blk A_own)∧Dj (blk A_a) (blk A_mine)∧DnD deS hs_a a (blk A_a)∧DnD deS hs_a a (blk A_b)∧DnD deS hs_a a (blk A_own)∧DnD deS hs_a a (blk A_mine)∧Dj (blk A_b) (blk A_own)∧Dj (blk A_b) (blk A_mine)∧DnD deR hs_b b (blk A_a)∧DnD deR hs_b b (blk A_b)∧DnD deR hs_b b (blk A_own)∧DnD deR hs_b b (blk A_mine)∧Dj (blk A_own) (blk A_mine)∧DnD deV hs_own own (blk A_a)∧DnD deV hs_own own (blk A_b)∧DnD deV hs_own own (blk A_own)∧DnD deV hs_own own (blk A_mine)∧DnD deR hs_mine mine (blk A_a)∧DnD deR hs_mine mine (blk A_b)∧DnD deR hs_mine mine (blk A_own)∧DnD deR hs_mine mine (blk A_mine)∧NewD deS hs_a a w.heap.size∧NewD deV hs_own own w.heap.size∧NewD deR hs_mine mine w.heap.size) _ _ ⟨[],none,0,0,[],[],none,0,0,[],(0:Int),rfl,rfl,h0_2,rfl,rfl,gr2,k1,k2,k3,k4,(Own.nil vv w2 w.heap.size 32),(RelD.nil (d:=deV) (w:=w2)),(OwnK.nil vr_ok w2 w.heap.size 38),(RelD.nil (d:=deR) (w:=w2)),dj1,Dj.nr,Dj.nr,dj2,dj3,(DnD.none k2),(DnD.none k2),Dj.nr,Dj.nr,dj4,dj5,(DnD.none k4),(DnD.none k4),Dj.nl,DnD.nil,DnD.nil,DnD.nil,DnD.nil,DnD.nil,DnD.nil,DnD.nil,DnD.nil,or1,(NewD.nil (d:=deV)),(NewD.nil (d:=deR))⟩ (by repeat (first | exact Sub.nil | refine Sub.cons rfl ?_)) ?_
      clear h0_2
      rintro _ _ w4 ⟨own,A_own,c_own,n_own,hs_own,mine,A_mine,c_mine,n_mine,hs_mine,k,rfl,rfl,hI2,rfl,rfl,gr4,k9,k10,k11,k12,k13,k14,k15,k16,dj11,dj12,dj13,dj14,dj15,dj16,dj17,dj18,dj19,dj20,dj21,dj22,dj23,dj24,dj25,dj26,dj27,dj28,dj29,dj30,dj31,dj32,or3,or4,or5⟩
      have H:=HR2 own mine k hI2
      refine WC.seq (WC.seq (WC.region (yp (h:=(yp (h:=(yp (h:=?_))))))))
      obtain ⟨h2,H⟩:=H
      refine WL.y rfl (Yld.iaddrK za (hl.grown gr4) rfl rfl hr_l.1.symm rfl h2.1 h2.2) (WL.y rfl (Yld.faddrK za (hl.grown gr4) (iltN h2 hr_l.1.symm) rfl rfl rfl) ?_)
      obtain ⟨⟨f1,⟨A_el,n1,c_el⟩,⟨A_el2,n2,c_el2⟩⟩,eh1,⟨en1,⟨en2,hR1⟩,⟨en3,hR2⟩⟩⟩:=RelD.at hr_l (0,hd0,hd0) (0,[],[]) (j:=i.toNat) (Nat.lt_of_lt_of_eq (iltN h2 hr_l.1.symm) hr_l.1)
      have en1:f1=(l.getD i.toNat (0,[],[])).1:=en1
      subst en1
      have en2:n1=((l.getD i.toNat (0,[],[])).2.1).length:=en2
      subst en2
      have en3:n2=((l.getD i.toNat (0,[],[])).2.2).length:=en3
      subst en3
      refine WL.y rfl (Yld.iloadF (v:=.slice A_el (((l.getD i.toNat (0,[],[])).2.1).length) c_el) (0,hd0,hd0) za (hl.grown gr4) rfl rfl (iltN h2 hr_l.1.symm) (by rw [eh1]; rfl)) (yp (h:=(yp (h:=(WL.nil (WX.then_normal (WC.cond rfl (fun b4=>?_) (fun b4=>?_))))))))
      ·replace H:=H.1 (of_decide_eq_true b4)
       refine WC.skip (WX.then_normal (WC.seq (WC.block (WC.seq (WC.region (yp (h:=(yp (h:=(yp (h:=?_)))))))))))
       obtain ⟨h3,H⟩:=H
       refine WL.y rfl (Yld.iaddrK za (hl.grown gr4) rfl rfl hr_l.1.symm rfl h3.1 h3.2) (WL.y rfl (Yld.faddrK za (hl.grown gr4) (iltN h3 hr_l.1.symm) rfl rfl rfl) (WL.y rfl (Yld.iloadF (v:=.slice A_el (((l.getD i.toNat (0,[],[])).2.1).length) c_el) (0,hd0,hd0) za (hl.grown gr4) rfl rfl (iltN h3 hr_l.1.symm) (by rw [eh1]; rfl)) (yp (h:=?_))))
       obtain ⟨h4,H⟩:=H
       refine WL.y rfl (Yld.iaddrW za (hR1.grown gr4) rfl rfl rfl rfl h4.1 h4.2) (WL.y rfl (Yld.iload 0 za (hR1.grown gr4) rfl rfl (iltN h4 rfl)) (WL.call rfl rfl (W_smithylaw13_small H) ?_))
       rintro _ w5 ⟨hg2,v_t56,F_t56,t56,rfl,ht56,ho1,H⟩
       have gr5:=zd gr4 hg2
       have k22:=k14.grown hg2
       refine WL.lit (us:=[v_t56.1]) za rfl rfl rfl (zf v_t56.2 zm) rfl (by omega) (fun g2 w7 hB2 hg4 hl2=>?_)
       have hO2:Own vv w7 w.heap.size 32 (some ⟨g2,0,none⟩) 1 ([(v_t56,F_t56)]:List VH):=Own.ofBl hB2 (Nat.le_trans (ze gr5) hl2) (by simp [maxLen]) rfl
       have gr6:=zd gr5 hg4
       have k25:=(k9.grown hg2).grown hg4
       have k26:=(k10.grown hg2).grown hg4
       have k27:=(k11.grown hg2).grown hg4
       have k28:=(k12.grown hg2).grown hg4
       have k29:=(k13.grown hg2).grown hg4
       have k30:=k22.grown hg4
       have k31:=(k15.grown hg2).grown hg4
       have k32:=(k16.grown hg2).grown hg4
       have hr1:RelD deV w7 ([(v_t56,F_t56)]:List VH) ([t56]:List PV):=(RelD.cons (RelD.one (ht56.grown hg4)) RelD.nil)
       have nd1:NewD deV ([(v_t56,F_t56)]:List VH) ([t56]:List PV) w.heap.size:=(NewD.cons (d:=deV) (fun p_ hp_=>(DnD.one (ho1 p_ (fun g_ e_=>Nat.lt_of_lt_of_le (hp_ g_ e_) (ze gr4))))) NewD.nil)
       have dj33:DnD deV ([(v_t56,F_t56)]:List VH) ([t56]:List PV) (blk A_a):=(DnD.cons (d:=deV) (DnD.one (ho1 _ k9.lt')) DnD.nil)
       have dj34:DnD deV ([(v_t56,F_t56)]:List VH) ([t56]:List PV) (blk A_b):=(DnD.cons (d:=deV) (DnD.one (ho1 _ k11.lt')) DnD.nil)
       have dj35:DnD deV ([(v_t56,F_t56)]:List VH) ([t56]:List PV) (blk A_own):=(DnD.cons (d:=deV) (DnD.one (ho1 _ k13.lt')) DnD.nil)
       have dj36:DnD deV ([(v_t56,F_t56)]:List VH) ([t56]:List PV) (blk A_mine):=(DnD.cons (d:=deV) (DnD.one (ho1 _ k15.lt')) DnD.nil)
       have dj37:DnD deV ([(v_t56,F_t56)]:List VH) ([t56]:List PV) (blk (some ⟨g2,0,none⟩)):=(DnD.cons (d:=deV) (DnD.one (ht56.new (Ge.box hl2))) DnD.nil)
       obtain ⟨h5,H⟩:=H
       have h6:((hs_own:List VH).length+([(v_t56,F_t56)]:List VH).length)*16≤140737488355328:=by rw [k30.1,hr1.1]; exact h5
       refine WL.append za rfl rfl One.vv k29 rfl k14.1.symm hO2.rd rfl rfl h6 (zx h6) (ze gr6) (fun A_own2 c_own2 w8 hO3 hg5 hk1=>?_)
       have el1:(hs_own++([(v_t56,F_t56)]:List VH)).length=(own++([t56]:List PV)).length:=by rw [List.length_append,List.length_append,k30.1,hr1.1]
       rw [el1]
       have gr7:=zk gr6 hg5 k29.ge'
       have k34:=k25.go hg5 dj12
       have k36:=k27.go hg5 dj18
       have k39:=k31.go hg5 dj24.symm
       have hr2:RelD deV w8 (hs_own++([(v_t56,F_t56)]:List VH)) (own++([t56]:List PV)):=RelD.append (k30.go hg5 dj27) (hr1.go hg5 dj35)
       have nd2:NewD deV (hs_own++([(v_t56,F_t56)]:List VH)) (own++([t56]:List PV)) w.heap.size:=NewD.append k30.1 or4 nd1
       have dj38:DnD deV (hs_own++([(v_t56,F_t56)]:List VH)) (own++([t56]:List PV)) (blk A_a):=(DnD.append k30.1 dj25 dj33)
       have dj39:DnD deV (hs_own++([(v_t56,F_t56)]:List VH)) (own++([t56]:List PV)) (blk A_b):=(DnD.append k30.1 dj26 dj34)
       have dj40:DnD deV (hs_own++([(v_t56,F_t56)]:List VH)) (own++([t56]:List PV)) (blk A_mine):=(DnD.append k30.1 dj28 dj36)
       have dj41:DnD deV (hs_own++([(v_t56,F_t56)]:List VH)) (own++([t56]:List PV)) (blk (some ⟨g2,0,none⟩)):=(DnD.append k30.1 (k22.new (Ge.box hl2)) dj37)
       have dj42:DnD deV (hs_own++([(v_t56,F_t56)]:List VH)) (own++([t56]:List PV)) (blk A_own2):=(DnD.append k30.1 (RelD.app k30 dj27 hk1) (RelD.app hr1 dj35 hk1))
       refine yp (h:=(WL.nil (WX.then_normal (WC.region (yp (h:=(yp (h:=(yp (h:=?_))))))))))
       obtain ⟨h7,H⟩:=H
       refine WL.y rfl (Yld.iaddrK za (hl.grown gr7) rfl rfl hr_l.1.symm rfl h7.1 h7.2) (WL.y rfl (Yld.faddrK za (hl.grown gr7) (iltN h7 hr_l.1.symm) rfl rfl rfl) (WL.y rfl (Yld.iloadF (v:=.slice A_el (((l.getD i.toNat (0,[],[])).2.1).length) c_el) (0,hd0,hd0) za (hl.grown gr7) rfl rfl (iltN h7 hr_l.1.symm) (by rw [eh1]; rfl)) (yp (h:=?_))))
       obtain ⟨h8,H⟩:=H
       refine WL.y rfl (Yld.iaddrW za (hR1.grown gr7) rfl rfl rfl rfl h8.1 h8.2) (WL.y rfl (Yld.iload 0 za (hR1.grown gr7) rfl rfl (iltN h8 rfl)) (WL.call rfl rfl (W_smithyref14_Small H) ?_))
       rintro _ w9 ⟨hg6,v_t68,F_t68,t68,rfl,ht68,ho2,H⟩
       have gr8:=zd gr7 hg6
       have k47:=(k32.go hg5 dj31).grown hg6
       refine WL.litK (f:=vr) ([(v_t68,F_t68)]:List RH) vr_ok rfl ow26 rfl rfl rfl (fun g4 w11 hB4 hg8 hl4=>?_)
       have hO5:OwnK 6 vr w11 w.heap.size 38 (some ⟨g4,0,none⟩) 1 ([(v_t68,F_t68)]:List RH):=OwnK.ofBl vr_ok hB4 (Nat.le_trans (ze gr8) hl4) (by simp [maxLen]) rfl
       have gr9:=zd gr8 hg8
       have k50:=(k34.grown hg6).grown hg8
       have k51:=((k26.go hg5 dj16).grown hg6).grown hg8
       have k52:=(k36.grown hg6).grown hg8
       have k53:=((k28.go hg5 dj22).grown hg6).grown hg8
       have k54:=(k39.grown hg6).grown hg8
       have k55:=k47.grown hg8
       have k56:=(hO3.grown hg6).grown hg8
       have k57:=(hr2.grown hg6).grown hg8
       have hr3:RelD deR w11 ([(v_t68,F_t68)]:List RH) ([t68]:List RV):=(RelD.cons (RelD.one (ht68.grown hg8)) RelD.nil)
       have nd3:NewD deR ([(v_t68,F_t68)]:List RH) ([t68]:List RV) w.heap.size:=(NewD.cons (d:=deR) (fun p_ hp_=>(DnD.one (ho2 p_ (fun g_ e_=>Nat.lt_of_lt_of_le (hp_ g_ e_) (ze gr7))))) NewD.nil)
       have dj43:DnD deR ([(v_t68,F_t68)]:List RH) ([t68]:List RV) (blk A_a):=(DnD.cons (d:=deR) (DnD.one (ho2 _ k34.lt')) DnD.nil)
       have dj44:DnD deR ([(v_t68,F_t68)]:List RH) ([t68]:List RV) (blk A_b):=(DnD.cons (d:=deR) (DnD.one (ho2 _ k36.lt')) DnD.nil)
       have dj45:DnD deR ([(v_t68,F_t68)]:List RH) ([t68]:List RV) (blk A_mine):=(DnD.cons (d:=deR) (DnD.one (ho2 _ k39.lt')) DnD.nil)
       have dj46:DnD deR ([(v_t68,F_t68)]:List RH) ([t68]:List RV) (blk A_own2):=(DnD.cons (d:=deR) (DnD.one (ho2 _ hO3.lt')) DnD.nil)
       have dj47:DnD deR ([(v_t68,F_t68)]:List RH) ([t68]:List RV) (blk (some ⟨g4,0,none⟩)):=(DnD.cons (d:=deR) (DnD.one (ht68.new (Ge.box hl4))) DnD.nil)
       obtain ⟨h9,H⟩:=H
       have h10:((hs_mine:List RH).length+([(v_t68,F_t68)]:List RH).length)*72≤140737488355328:=by rw [k55.1,hr3.1]; exact h9
       refine WL.appendK rfl ow26 k54 rfl k16.1.symm hO5.rd rfl rfl h10 (zx h10) (ze gr9) (fun A_mine2 c_mine2 w12 hO6 hg9 hk2=>?_)
       have el2:(hs_mine++([(v_t68,F_t68)]:List RH)).length=(mine++([t68]:List RV)).length:=by rw [List.length_append,List.length_append,k55.1,hr3.1]
       rw [el2]
       have hr4:RelD deR w12 (hs_mine++([(v_t68,F_t68)]:List RH)) (mine++([t68]:List RV)):=RelD.append (k55.go hg9 dj32) (hr3.go hg9 dj45)
       have nd4:NewD deR (hs_mine++([(v_t68,F_t68)]:List RH)) (mine++([t68]:List RV)) w.heap.size:=NewD.append k55.1 or5 nd3
       have dj48:DnD deR (hs_mine++([(v_t68,F_t68)]:List RH)) (mine++([t68]:List RV)) (blk A_a):=(DnD.append k55.1 dj29 dj43)
       have dj49:DnD deR (hs_mine++([(v_t68,F_t68)]:List RH)) (mine++([t68]:List RV)) (blk A_b):=(DnD.append k55.1 dj30 dj44)
       have dj50:DnD deR (hs_mine++([(v_t68,F_t68)]:List RH)) (mine++([t68]:List RV)) (blk A_own2):=(DnD.append k55.1 (RelD.app k32 dj31 hk1) dj46)
       have dj51:DnD deR (hs_mine++([(v_t68,F_t68)]:List RH)) (mine++([t68]:List RV)) (blk (some ⟨g4,0,none⟩)):=(DnD.append k55.1 (k47.new (Ge.box hl4)) dj47)
       have dj52:DnD deR (hs_mine++([(v_t68,F_t68)]:List RH)) (mine++([t68]:List RV)) (blk A_mine2):=(DnD.append k55.1 (RelD.app k55 dj32 hk2) (RelD.app hr3 dj45 hk2))
       refine yp (h:=(WL.nil (WX.block_normal (WX.then_normal (WC.region (yp (h:=?_)))))))
       obtain ⟨h11,H⟩:=H
       refine WL.y rfl (Yld.add rfl rfl h11) (yp (h:=(WL.nil ?_)))
       exact WX.roundF _ ⟨own++([t56]:List PV),A_own2,c_own2,(own++([t56]:List PV)).length,hs_own++([(v_t56,F_t56)]:List VH),mine++([t68]:List RV),A_mine2,c_mine2,(mine++([t68]:List RV)).length,hs_mine++([(v_t68,F_t68)]:List RH),k+(1:Int),rfl,rfl,H.1,rfl,rfl,(zk gr9 hg9 k54.ge'),(k50.go hg9 dj13),(k51.go hg9 dj17),(k52.go hg9 dj19),(k53.go hg9 dj23),(k56.go hg9 (Dj.app dj24 k31.lt' hk1)),(k57.go hg9 dj40),hO6,hr4,dj11,(Dj.app dj12.symm k25.lt' hk1).symm,(Dj.app dj13.symm k50.lt' hk2).symm,dj14,dj15,(RelD.app k26 dj16 hk1),(RelD.app k51 dj17 hk2),(Dj.app dj18.symm k27.lt' hk1).symm,(Dj.app dj19.symm k52.lt' hk2).symm,dj20,dj21,(RelD.app k28 dj22 hk1),(RelD.app k53 dj23 hk2),(Dj.app (Dj.app dj24 k31.lt' hk1).symm k56.lt' hk2).symm,dj38,dj39,dj42,(RelD.app k57 dj40 hk2),dj48,dj49,dj50,dj52,or3,nd2,nd4⟩ (by repeat (first | exact Sub.nil | refine Sub.cons rfl ?_)) H.2
      ·replace H:=H.2 (of_decide_eq_false b4)
       refine WC.exit (WX.then_exit (WX.then_exit (WX.block_same (WX.then_normal (WC.seq (WC.seq (WC.region (yp (h:=(WL.nil (WX.then_normal (WC.block ?_))))))))))))
       obtain ⟨I3,mu3,h0_3,HR3⟩:=H
       refine WC.loopF (fun n' L' w'=>∃ (from_:List PS),∃ (A_from:Option Addr),∃ (c_from:Nat),∃ (n_from:Nat),∃ (hs_from:List VH),∃ (under:List RV),∃ (A_under:Option Addr),∃ (c_under:Nat),∃ (n_under:Nat),∃ (hs_under:List RH),∃ (k_2:Int),n'=mu3 from_ under k_2∧L'=[(0,.slice A_l l.length c_l),(4,.slice A_a a.length c_a),(5,.slice A_b b.length c_b),(6,.int .i64 i),(7,.slice A_own own.length c_own),(8,.slice A_mine mine.length c_mine),(9,.slice A_from n_from c_from),(10,.slice A_under n_under c_under),(12,.int .i64 k_2)]∧I3 from_ under k_2∧n_from=from_.length∧n_under=under.length∧w.grownBy w' none∧Own vv w' w.heap.size 41 A_a c_a hs_a∧RelD deS w' hs_a a∧OwnK 6 vr w' w.heap.size 38 A_b c_b hs_b∧RelD deR w' hs_b b∧Own vv w' w.heap.size 32 A_own c_own hs_own∧RelD deV w' hs_own own∧OwnK 6 vr w' w.heap.size 38 A_mine c_mine hs_mine∧RelD deR w' hs_mine mine∧Own vv w' w.heap.size 41 A_from c_from hs_from∧RelD deS w' hs_from from_∧OwnK 6 vr w' w.heap.size 38 A_under c_under hs_under∧RelD deR w' hs_under under∧Dj (blk A_a) (blk A_b)∧Dj (blk A_a) (blk A_own)∧Dj (blk A_a) (blk A_mine)∧Dj (blk A_a) (blk A_from)∧Dj (blk A_a) (blk A_under)∧DnD deS hs_a a (blk A_a)∧DnD deS hs_a a (blk A_b)∧DnD deS hs_a a (blk A_own)∧DnD deS hs_a a (blk A_mine)∧DnD deS hs_a a (blk A_from)∧DnD deS hs_a a (blk A_under)∧Dj (blk A_b) (blk A_own)∧Dj (blk A_b) (blk A_mine)∧Dj (blk A_b) (blk A_from)∧Dj (blk A_b) (blk A_under)∧DnD deR hs_b b (blk A_a)∧DnD deR hs_b b (blk A_b)∧DnD deR hs_b b (blk A_own)∧DnD deR hs_b b (blk A_mine)∧DnD deR hs_b b (blk A_from)∧DnD deR hs_b b (blk A_under)∧Dj (blk A_own) (blk A_mine)∧Dj (blk A_own) (blk A_from)∧Dj (blk A_own) (blk A_under)∧DnD deV hs_own own (blk A_a)∧DnD deV hs_own own (blk A_b)∧DnD deV hs_own own (blk A_own)∧DnD deV hs_own own (blk A_mine)∧DnD deV hs_own own (blk A_from)∧DnD deV hs_own own (blk A_under)∧Dj (blk A_mine) (blk A_from)∧Dj (blk A_mine) (blk A_under)∧DnD deR hs_mine mine (blk A_a)∧DnD deR hs_mine mine (blk A_b)∧DnD deR hs_mine mine (blk A_own)∧DnD deR hs_mine mine (blk A_mine)∧DnD deR hs_mine mine (blk A_from)∧DnD deR hs_mine mine (blk A_under)∧Dj (blk A_from) (blk A_under)∧DnD deS hs_from from_ (blk A_a)∧DnD deS hs_from from_ (blk A_b)∧DnD deS hs_from from_ (blk A_own)∧DnD deS hs_from from_ (blk A_mine)∧DnD deS hs_from from_ (blk A_from)∧DnD deS hs_from from_ (blk A_under)∧DnD deR hs_under under (blk A_a)∧DnD deR hs_under under (blk A_b)∧DnD deR hs_under under (blk A_own)∧DnD deR hs_under under (blk A_mine)∧DnD deR hs_under under (blk A_from)∧DnD deR hs_under under (blk A_under)∧NewD deS hs_a a w.heap.size∧NewD deV hs_own own w.heap.size∧NewD deR hs_mine mine w.heap.size∧NewD deS hs_from from_ w.heap.size) _ _ ⟨[],none,0,0,[],[],none,0,0,[],(0:Int),rfl,rfl,h0_3,rfl,rfl,gr4,k9,k10,k11,k12,k13,k14,k15,k16,(Own.nil vv w4 w.heap.size 41),(RelD.nil (d:=deS) (w:=w4)),(OwnK.nil vr_ok w4 w.heap.size 38),(RelD.nil (d:=deR) (w:=w4)),dj11,dj12,dj13,Dj.nr,Dj.nr,dj14,dj15,dj16,dj17,(DnD.none k10),(DnD.none k10),dj18,dj19,Dj.nr,Dj.nr,dj20,dj21,dj22,dj23,(DnD.none k12),(DnD.none k12),dj24,Dj.nr,Dj.nr,dj25,dj26,dj27,dj28,(DnD.none k14),(DnD.none k14),Dj.nr,Dj.nr,dj29,dj30,dj31,dj32,(DnD.none k16),(DnD.none k16),Dj.nl,DnD.nil,DnD.nil,DnD.nil,DnD.nil,DnD.nil,DnD.nil,DnD.nil,DnD.nil,DnD.nil,DnD.nil,DnD.nil,DnD.nil,or3,or4,or5,(NewD.nil (d:=deS))⟩ (by repeat (first | exact Sub.nil | refine Sub.cons rfl ?_)) ?_
       clear h0_3
       rintro _ _ w13 ⟨from_,A_from,c_from,n_from,hs_from,under,A_under,c_under,n_under,hs_under,k_2,rfl,rfl,hI3,rfl,rfl,gr11,k67,k68,k69,k70,k71,k72,k73,k74,k75,k76,k77,k78,dj53,dj54,dj55,dj56,dj57,dj58,dj59,dj60,dj61,dj62,dj63,dj64,dj65,dj66,dj67,dj68,dj69,dj70,dj71,dj72,dj73,dj74,dj75,dj76,dj77,dj78,dj79,dj80,dj81,dj82,dj83,dj84,dj85,dj86,dj87,dj88,dj89,dj90,dj91,dj92,dj93,dj94,dj95,dj96,dj97,dj98,dj99,dj100,dj101,dj102,dj103,or6,or7,or8,or9⟩
       have H:=HR3 from_ under k_2 hI3
       refine WC.seq (WC.seq (WC.region (yp (h:=(yp (h:=(yp (h:=?_))))))))
       obtain ⟨h12,H⟩:=H
       refine WL.y rfl (Yld.iaddrK za (hl.grown gr11) rfl rfl hr_l.1.symm rfl h12.1 h12.2) (WL.y rfl (Yld.faddrK za (hl.grown gr11) (iltN h12 hr_l.1.symm) rfl rfl rfl) (WL.y rfl (Yld.iloadF (v:=.slice A_el2 (((l.getD i.toNat (0,[],[])).2.2).length) c_el2) (0,hd0,hd0) za (hl.grown gr11) rfl rfl (iltN h12 hr_l.1.symm) (by rw [eh1]; rfl)) (yp (h:=(yp (h:=(yp (h:=(WL.midF 4 (fun L' w'=>∃ q2:Bool,L'=[(83,.bool q2),(0,.slice A_l l.length c_l),(4,.slice A_a a.length c_a),(5,.slice A_b b.length c_b),(6,.int .i64 i),(7,.slice A_own own.length c_own),(8,.slice A_mine mine.length c_mine),(9,.slice A_from from_.length c_from),(10,.slice A_under under.length c_under),(12,.int .i64 k_2)]∧((decide (k_2<(((l.getD i.toNat (0,[],[])).2.2).length:Int))) && (decide ((0:Int)<(a.length:Int))))=q2∧w13=w') ?_ (fun hQ=>?_))))))))))
       ·rintro _ _ ⟨q2,rfl,rfl,rfl⟩
        refine WL.nil (WX.then_normal (WC.cond rfl (fun b5=>?_) (fun b5=>?_)))
        ·replace H:=H.1 (b5)
         refine WC.skip (WX.then_normal (WC.seq (WC.block (WC.seq (WC.region (yp (h:=(yp (h:=?_)))))))))
         obtain ⟨h13,H⟩:=H
         refine WL.y rfl (Yld.iaddrK za (hl.grown gr11) rfl rfl hr_l.1.symm rfl h13.1 h13.2) (WL.y rfl (Yld.faddrK za (hl.grown gr11) (iltN h13 hr_l.1.symm) rfl rfl rfl) (WL.y rfl (Yld.iloadF (v:=.slice A_el2 (((l.getD i.toNat (0,[],[])).2.2).length) c_el2) (0,hd0,hd0) za (hl.grown gr11) rfl rfl (iltN h13 hr_l.1.symm) (by rw [eh1]; rfl)) (yp (h:=?_))))
         obtain ⟨h14,H⟩:=H
         refine WL.y rfl (Yld.iaddrW za (hR2.grown gr11) rfl rfl rfl rfl h14.1 h14.2) (WL.y rfl (Yld.iload 0 za (hR2.grown gr11) rfl rfl (iltN h14 rfl)) (yp (h:=(yp (h:=(WL.call rfl rfl (W_smithyworld_Number H) ?_))))))
         rintro _ _ ⟨rfl,n,rfl,H⟩
         refine yp (h:=(WL.nil (WX.then_normal (WC.seq (WC.region (yp (h:=(yp (h:=(yp (h:=?_)))))))))))
         obtain ⟨h15,H⟩:=H
         refine WL.y rfl (Yld.iaddrW za k67.rd rfl rfl k2.1.symm rfl h15.1 h15.2) ?_
         obtain ⟨⟨v_el,F_el⟩,eh2,hR3⟩:=RelD.at k68 vh0 PS.nil (j:=n.toNat) (Nat.lt_of_lt_of_eq (iltN h15 k2.1.symm) k68.1)
         have hv1:RelD deS w13 [(v_el,F_el)] [a.getD n.toNat PS.nil]:=RelD.cons hR3 RelD.nil
         refine WL.y rfl (Yld.to (v:=v_el.1) (Yld.iload vh0 za k67.rd rfl rfl (iltN h15 k2.1.symm)) (congrArg vv eh2)) (WL.lit (us:=[v_el.1]) za rfl rfl rfl (zf v_el.2 zm) rfl (by omega) (fun g6 w15 hB6 hg11 hl6=>?_))
         have hO8:Own vv w15 w.heap.size 41 (some ⟨g6,0,none⟩) 1 ([(v_el,F_el)]:List VH):=Own.ofBl hB6 (Nat.le_trans (ze gr11) hl6) (by simp [maxLen]) rfl
         have gr12:=zd gr11 hg11
         have k79:=k67.grown hg11
         have k80:=k68.grown hg11
         have k81:=k69.grown hg11
         have k82:=k70.grown hg11
         have k83:=k71.grown hg11
         have k84:=k72.grown hg11
         have k85:=k73.grown hg11
         have k86:=k74.grown hg11
         have k87:=k75.grown hg11
         have k88:=k76.grown hg11
         have k89:=k77.grown hg11
         have k90:=k78.grown hg11
         have hr5:RelD deS w15 ([(v_el,F_el)]:List VH) ([a.getD n.toNat PS.nil]:List PS):=(RelD.cons (RelD.one (hv1.grown hg11)) RelD.nil)
         have nd5:NewD deS ([(v_el,F_el)]:List VH) ([a.getD n.toNat PS.nil]:List PS) w.heap.size:=(NewD.cons (d:=deS) (fun p_ hp_=>(DnD.one (DnD.cons (DnD.at (or6 p_ hp_) k68.1 (Nat.lt_of_lt_of_eq (iltN h15 k2.1.symm) k68.1) eh2) DnD.nil))) NewD.nil)
         have dj104:DnD deS ([(v_el,F_el)]:List VH) ([a.getD n.toNat PS.nil]:List PS) (blk A_a):=(DnD.cons (d:=deS) (DnD.one (DnD.cons (DnD.at dj58 k68.1 (Nat.lt_of_lt_of_eq (iltN h15 k2.1.symm) k68.1) eh2) DnD.nil)) DnD.nil)
         have dj105:DnD deS ([(v_el,F_el)]:List VH) ([a.getD n.toNat PS.nil]:List PS) (blk A_b):=(DnD.cons (d:=deS) (DnD.one (DnD.cons (DnD.at dj59 k68.1 (Nat.lt_of_lt_of_eq (iltN h15 k2.1.symm) k68.1) eh2) DnD.nil)) DnD.nil)
         have dj106:DnD deS ([(v_el,F_el)]:List VH) ([a.getD n.toNat PS.nil]:List PS) (blk A_own):=(DnD.cons (d:=deS) (DnD.one (DnD.cons (DnD.at dj60 k68.1 (Nat.lt_of_lt_of_eq (iltN h15 k2.1.symm) k68.1) eh2) DnD.nil)) DnD.nil)
         have dj107:DnD deS ([(v_el,F_el)]:List VH) ([a.getD n.toNat PS.nil]:List PS) (blk A_mine):=(DnD.cons (d:=deS) (DnD.one (DnD.cons (DnD.at dj61 k68.1 (Nat.lt_of_lt_of_eq (iltN h15 k2.1.symm) k68.1) eh2) DnD.nil)) DnD.nil)
         have dj108:DnD deS ([(v_el,F_el)]:List VH) ([a.getD n.toNat PS.nil]:List PS) (blk A_from):=(DnD.cons (d:=deS) (DnD.one (DnD.cons (DnD.at dj62 k68.1 (Nat.lt_of_lt_of_eq (iltN h15 k2.1.symm) k68.1) eh2) DnD.nil)) DnD.nil)
         have dj109:DnD deS ([(v_el,F_el)]:List VH) ([a.getD n.toNat PS.nil]:List PS) (blk A_under):=(DnD.cons (d:=deS) (DnD.one (DnD.cons (DnD.at dj63 k68.1 (Nat.lt_of_lt_of_eq (iltN h15 k2.1.symm) k68.1) eh2) DnD.nil)) DnD.nil)
         have dj110:DnD deS ([(v_el,F_el)]:List VH) ([a.getD n.toNat PS.nil]:List PS) (blk (some ⟨g6,0,none⟩)):=(DnD.cons (d:=deS) (DnD.one (hv1.new (Ge.box hl6))) DnD.nil)
         obtain ⟨h16,H⟩:=H
         have h17:((hs_from:List VH).length+([(v_el,F_el)]:List VH).length)*8≤140737488355328:=by rw [k88.1,hr5.1]; exact h16
         refine WL.append za rfl rfl One.vv k87 rfl k76.1.symm hO8.rd rfl rfl h17 (zx h17) (ze gr12) (fun A_from2 c_from2 w16 hO9 hg12 hk3=>?_)
         have el3:(hs_from++([(v_el,F_el)]:List VH)).length=(from_++([a.getD n.toNat PS.nil]:List PS)).length:=by rw [List.length_append,List.length_append,k88.1,hr5.1]
         rw [el3]
         have gr13:=zk gr12 hg12 k87.ge'
         have k94:=k81.go hg12 dj66
         have k95:=k82.go hg12 dj72
         have k102:=k90.go hg12 dj102
         have hr6:RelD deS w16 (hs_from++([(v_el,F_el)]:List VH)) (from_++([a.getD n.toNat PS.nil]:List PS)):=RelD.append (k88.go hg12 dj96) (hr5.go hg12 dj108)
         have nd6:NewD deS (hs_from++([(v_el,F_el)]:List VH)) (from_++([a.getD n.toNat PS.nil]:List PS)) w.heap.size:=NewD.append k88.1 or9 nd5
         have dj111:DnD deS (hs_from++([(v_el,F_el)]:List VH)) (from_++([a.getD n.toNat PS.nil]:List PS)) (blk A_a):=(DnD.append k88.1 dj92 dj104)
         have dj112:DnD deS (hs_from++([(v_el,F_el)]:List VH)) (from_++([a.getD n.toNat PS.nil]:List PS)) (blk A_b):=(DnD.append k88.1 dj93 dj105)
         have dj113:DnD deS (hs_from++([(v_el,F_el)]:List VH)) (from_++([a.getD n.toNat PS.nil]:List PS)) (blk A_own):=(DnD.append k88.1 dj94 dj106)
         have dj114:DnD deS (hs_from++([(v_el,F_el)]:List VH)) (from_++([a.getD n.toNat PS.nil]:List PS)) (blk A_mine):=(DnD.append k88.1 dj95 dj107)
         have dj115:DnD deS (hs_from++([(v_el,F_el)]:List VH)) (from_++([a.getD n.toNat PS.nil]:List PS)) (blk A_under):=(DnD.append k88.1 dj97 dj109)
         have dj116:DnD deS (hs_from++([(v_el,F_el)]:List VH)) (from_++([a.getD n.toNat PS.nil]:List PS)) (blk (some ⟨g6,0,none⟩)):=(DnD.append k88.1 (k76.new (Ge.box hl6)) dj110)
         have dj117:DnD deS (hs_from++([(v_el,F_el)]:List VH)) (from_++([a.getD n.toNat PS.nil]:List PS)) (blk A_from2):=(DnD.append k88.1 (RelD.app k88 dj96 hk3) (RelD.app hr5 dj108 hk3))
         refine yp (h:=(WL.nil (WX.then_normal (WC.region (yp (h:=(yp (h:=(yp (h:=?_))))))))))
         obtain ⟨h18,H⟩:=H
         refine WL.y rfl (Yld.iaddrK za k94.rd rfl rfl k4.1.symm rfl h18.1 h18.2) ?_
         obtain ⟨⟨v_el2,F_el2⟩,eh3,hR4⟩:=RelD.at k95 rh0 rv0 (j:=n.toNat) (Nat.lt_of_lt_of_eq (iltN h18 k4.1.symm) k95.1)
         have hv2:RelD deR w16 [(v_el2,F_el2)] [b.getD n.toNat rv0]:=RelD.cons hR4 RelD.nil
         refine WL.y rfl (Yld.to (v:=(.agg ⟨v_el2.1⟩)) (Yld.iloadK rh0 za k94.rd rfl rfl (iltN h18 k4.1.symm)) (congrArg (fun h=>Value.agg ⟨vr h⟩) eh3)) (WL.litK (f:=vr) ([(v_el2,F_el2)]:List RH) vr_ok rfl ow26 rfl rfl rfl (fun g8 w18 hB8 hg14 hl8=>?_))
         have hO11:OwnK 6 vr w18 w.heap.size 38 (some ⟨g8,0,none⟩) 1 ([(v_el2,F_el2)]:List RH):=OwnK.ofBl vr_ok hB8 (Nat.le_trans (ze gr13) hl8) (by simp [maxLen]) rfl
         have gr14:=zd gr13 hg14
         have k104:=(k79.go hg12 dj56).grown hg14
         have k105:=(k80.go hg12 dj62).grown hg14
         have k106:=k94.grown hg14
         have k107:=k95.grown hg14
         have k108:=(k83.go hg12 dj75).grown hg14
         have k109:=(k84.go hg12 dj81).grown hg14
         have k110:=(k85.go hg12 dj83).grown hg14
         have k111:=(k86.go hg12 dj89).grown hg14
         have k112:=(k89.go hg12 dj91.symm).grown hg14
         have k113:=k102.grown hg14
         have k114:=hO9.grown hg14
         have k115:=hr6.grown hg14
         have hr7:RelD deR w18 ([(v_el2,F_el2)]:List RH) ([b.getD n.toNat rv0]:List RV):=(RelD.cons (RelD.one (hv2.grown hg14)) RelD.nil)
         have dj118:DnD deR ([(v_el2,F_el2)]:List RH) ([b.getD n.toNat rv0]:List RV) (blk A_a):=(DnD.cons (d:=deR) (DnD.one (DnD.cons (DnD.at dj68 k95.1 (Nat.lt_of_lt_of_eq (iltN h18 k4.1.symm) k95.1) eh3) DnD.nil)) DnD.nil)
         have dj119:DnD deR ([(v_el2,F_el2)]:List RH) ([b.getD n.toNat rv0]:List RV) (blk A_b):=(DnD.cons (d:=deR) (DnD.one (DnD.cons (DnD.at dj69 k95.1 (Nat.lt_of_lt_of_eq (iltN h18 k4.1.symm) k95.1) eh3) DnD.nil)) DnD.nil)
         have dj120:DnD deR ([(v_el2,F_el2)]:List RH) ([b.getD n.toNat rv0]:List RV) (blk A_own):=(DnD.cons (d:=deR) (DnD.one (DnD.cons (DnD.at dj70 k95.1 (Nat.lt_of_lt_of_eq (iltN h18 k4.1.symm) k95.1) eh3) DnD.nil)) DnD.nil)
         have dj121:DnD deR ([(v_el2,F_el2)]:List RH) ([b.getD n.toNat rv0]:List RV) (blk A_mine):=(DnD.cons (d:=deR) (DnD.one (DnD.cons (DnD.at dj71 k95.1 (Nat.lt_of_lt_of_eq (iltN h18 k4.1.symm) k95.1) eh3) DnD.nil)) DnD.nil)
         have dj122:DnD deR ([(v_el2,F_el2)]:List RH) ([b.getD n.toNat rv0]:List RV) (blk A_under):=(DnD.cons (d:=deR) (DnD.one (DnD.cons (DnD.at dj73 k95.1 (Nat.lt_of_lt_of_eq (iltN h18 k4.1.symm) k95.1) eh3) DnD.nil)) DnD.nil)
         have dj123:DnD deR ([(v_el2,F_el2)]:List RH) ([b.getD n.toNat rv0]:List RV) (blk A_from2):=(DnD.cons (d:=deR) (DnD.one (DnD.cons (DnD.at (RelD.app k82 dj72 hk3) k95.1 (Nat.lt_of_lt_of_eq (iltN h18 k4.1.symm) k95.1) eh3) DnD.nil)) DnD.nil)
         have dj124:DnD deR ([(v_el2,F_el2)]:List RH) ([b.getD n.toNat rv0]:List RV) (blk (some ⟨g8,0,none⟩)):=(DnD.cons (d:=deR) (DnD.one (hv2.new (Ge.box hl8))) DnD.nil)
         obtain ⟨h19,H⟩:=H
         have h20:((hs_under:List RH).length+([(v_el2,F_el2)]:List RH).length)*72≤140737488355328:=by rw [k113.1,hr7.1]; exact h19
         refine WL.appendK rfl ow26 k112 rfl k78.1.symm hO11.rd rfl rfl h20 (zx h20) (ze gr14) (fun A_under2 c_under2 w19 hO12 hg15 hk4=>?_)
         have el4:(hs_under++([(v_el2,F_el2)]:List RH)).length=(under++([b.getD n.toNat rv0]:List RV)).length:=by rw [List.length_append,List.length_append,k113.1,hr7.1]
         rw [el4]
         have hr8:RelD deR w19 (hs_under++([(v_el2,F_el2)]:List RH)) (under++([b.getD n.toNat rv0]:List RV)):=RelD.append (k113.go hg15 dj103) (hr7.go hg15 dj122)
         have dj125:DnD deR (hs_under++([(v_el2,F_el2)]:List RH)) (under++([b.getD n.toNat rv0]:List RV)) (blk A_a):=(DnD.append k113.1 dj98 dj118)
         have dj126:DnD deR (hs_under++([(v_el2,F_el2)]:List RH)) (under++([b.getD n.toNat rv0]:List RV)) (blk A_b):=(DnD.append k113.1 dj99 dj119)
         have dj127:DnD deR (hs_under++([(v_el2,F_el2)]:List RH)) (under++([b.getD n.toNat rv0]:List RV)) (blk A_own):=(DnD.append k113.1 dj100 dj120)
         have dj128:DnD deR (hs_under++([(v_el2,F_el2)]:List RH)) (under++([b.getD n.toNat rv0]:List RV)) (blk A_mine):=(DnD.append k113.1 dj101 dj121)
         have dj129:DnD deR (hs_under++([(v_el2,F_el2)]:List RH)) (under++([b.getD n.toNat rv0]:List RV)) (blk A_from2):=(DnD.append k113.1 (RelD.app k90 dj102 hk3) dj123)
         have dj130:DnD deR (hs_under++([(v_el2,F_el2)]:List RH)) (under++([b.getD n.toNat rv0]:List RV)) (blk (some ⟨g8,0,none⟩)):=(DnD.append k113.1 (k102.new (Ge.box hl8)) dj124)
         have dj131:DnD deR (hs_under++([(v_el2,F_el2)]:List RH)) (under++([b.getD n.toNat rv0]:List RV)) (blk A_under2):=(DnD.append k113.1 (RelD.app k113 dj103 hk4) (RelD.app hr7 dj122 hk4))
         refine yp (h:=(WL.nil (WX.block_normal (WX.then_normal (WC.region (yp (h:=?_)))))))
         obtain ⟨h21,H⟩:=H
         refine WL.y rfl (Yld.add rfl rfl h21) (yp (h:=(WL.nil ?_)))
         exact WX.roundF _ ⟨from_++([a.getD n.toNat PS.nil]:List PS),A_from2,c_from2,(from_++([a.getD n.toNat PS.nil]:List PS)).length,hs_from++([(v_el,F_el)]:List VH),under++([b.getD n.toNat rv0]:List RV),A_under2,c_under2,(under++([b.getD n.toNat rv0]:List RV)).length,hs_under++([(v_el2,F_el2)]:List RH),k_2+(1:Int),rfl,rfl,H.1,rfl,rfl,(zk gr14 hg15 k112.ge'),(k104.go hg15 dj57),(k105.go hg15 dj63),(k106.go hg15 dj67),(k107.go hg15 dj73),(k108.go hg15 dj76),(k109.go hg15 dj82),(k110.go hg15 dj84),(k111.go hg15 dj90),(k114.go hg15 (Dj.app dj91 k89.lt' hk3)),(k115.go hg15 dj115),hO12,hr8,dj53,dj54,dj55,(Dj.app dj56.symm k79.lt' hk3).symm,(Dj.app dj57.symm k104.lt' hk4).symm,dj58,dj59,dj60,dj61,(RelD.app k80 dj62 hk3),(RelD.app k105 dj63 hk4),dj64,dj65,(Dj.app dj66.symm k81.lt' hk3).symm,(Dj.app dj67.symm k106.lt' hk4).symm,dj68,dj69,dj70,dj71,(RelD.app k82 dj72 hk3),(RelD.app k107 dj73 hk4),dj74,(Dj.app dj75.symm k83.lt' hk3).symm,(Dj.app dj76.symm k108.lt' hk4).symm,dj77,dj78,dj79,dj80,(RelD.app k84 dj81 hk3),(RelD.app k109 dj82 hk4),(Dj.app dj83.symm k85.lt' hk3).symm,(Dj.app dj84.symm k110.lt' hk4).symm,dj85,dj86,dj87,dj88,(RelD.app k86 dj89 hk3),(RelD.app k111 dj90 hk4),(Dj.app (Dj.app dj91 k89.lt' hk3).symm k114.lt' hk4).symm,dj111,dj112,dj113,dj114,dj117,(RelD.app k115 dj115 hk4),dj125,dj126,dj127,dj128,dj129,dj131,or6,or7,or8,nd6⟩ (by repeat (first | exact Sub.nil | refine Sub.cons rfl ?_)) H.2
        ·replace H:=H.2 (b5)
         refine WC.exit (WX.then_exit (WX.then_exit (WX.block_same (WX.then_normal (WC.seq (WC.region (yp (h:=(yp (h:=?_))))))))))
         obtain ⟨h22,H⟩:=H
         refine WL.y rfl (Yld.iaddrK za (hl.grown gr11) rfl rfl hr_l.1.symm rfl h22.1 h22.2) (WL.y rfl (Yld.faddrK za (hl.grown gr11) (iltN h22 hr_l.1.symm) rfl rfl rfl) (WL.y rfl (Yld.iloadF (v:=.int .i64 ((l.getD i.toNat (0,[],[])).1)) (0,hd0,hd0) za (hl.grown gr11) rfl rfl (iltN h22 hr_l.1.symm) (by rw [eh1]; rfl)) (yp (h:=(yp (h:=(WL.call rfl rfl (W_deps_New (hG.grown gr11) hS3 hS7 k71.rd rfl k72 k75.rd rfl k76 H) ?_)))))))
         rintro _ w20 ⟨hg16,v_t1190,F_t1190,t1190,v_t1191,t1191,rfl,ht1190,ho3,hf1,ht1191,H⟩
         replace H:=H (fun hn_ x_ hx_ y_ hr_ hm_=>deS_fresh k68 hx_ hr_ hm_ (hf1 hn_))
         replace H:=H (fun hn_ x_ hx_ y_ hr_ hm_=>deS_fresh k76 hx_ hr_ hm_ (hf1 hn_))
         have gr16:=zd gr11 hg16
         have k129:=k67.grown hg16
         have k131:=k69.grown hg16
         have k132:=k70.grown hg16
         have k134:=k74.grown hg16
         have k136:=k78.grown hg16
         refine yp (h:=(yp (h:=(yp (h:=(yp (h:=(yp (h:=(WL.nil (WX.then_normal (WC.seq (WC.region (yp (h:=(yp (h:=?_)))))))))))))))))
         obtain ⟨h23,H⟩:=H
         refine WL.y rfl (Yld.iaddrK za (hl.grown gr16) rfl rfl hr_l.1.symm rfl h23.1 h23.2) (WL.y rfl (Yld.faddrK za (hl.grown gr16) (iltN h23 hr_l.1.symm) rfl rfl rfl) (WL.y rfl (Yld.iloadF (v:=.int .i64 ((l.getD i.toNat (0,[],[])).1)) (0,hd0,hd0) za (hl.grown gr16) rfl rfl (iltN h23 hr_l.1.symm) (by rw [eh1]; rfl)) (yp (h:=(yp (h:=(WL.call rfl rfl (W_smithyref14_NewDeps (k73.grown hg16).rd rfl k134 (k77.grown hg16).rd rfl k136 H) ?_)))))))
         rintro _ w21 ⟨hg17,v_t1300,F_t1300,t1300,t1301,rfl,ht1300,ho4,hf2,H⟩
         replace H:=H (fun hn_ x_ hx_ y_ hr_ hm_=>deR_fresh k132 hx_ hr_ hm_ (hf2 hn_))
         replace H:=H (fun hn_ x_ hx_ y_ hr_ hm_=>deR_fresh k134 hx_ hr_ hm_ (hf2 hn_))
         replace H:=H (fun hn_ x_ hx_ y_ hr_ hm_=>deR_fresh k136 hx_ hr_ hm_ (hf2 hn_))
         have gr17:=zd gr16 hg17
         have k137:=k129.grown hg17
         have k138:=(k68.grown hg16).grown hg17
         have k139:=k131.grown hg17
         have k140:=k132.grown hg17
         have k141:=ht1190.grown hg17
         refine yp (h:=(yp (h:=(yp (h:=(WL.alloc rfl zero38 (fun g9 w22 hB9 hg18 hl9=>?_)))))))
         have gr18:=zd gr17 hg18
         have k149:=ht1300.grown hg18
         obtain ⟨A_L,c_L,v_o,hc1,hR5,hO13,hd1,hd2⟩:=qe k149
         refine WL.storeW (vs:=[.int .i64 t1300.1,.bool false,.bool t1300.2.1.1,.slice A_L t1300.2.1.2.length c_L,vs [],v_o.1]) za rfl rfl (congrArg (fun l=>some (Value.agg ⟨l⟩)) hc1) (zf rfl (zf rfl (zf rfl (zf rfl (zf rfl (zf v_o.2 zm)))))) hB9 rfl rfl (fun w23 hB10 hg19=>?_)
         have gr19:=zk gr18 hg19 (Ge.le (Ge.box hl9) (ze gr17))
         refine yp (h:=(WL.nil (WX.then_normal (WC.seq (WC.seq (WC.region (yp (h:=(yp (h:=(WL.call rfl rfl (W_smithysee_Is (hG.grown gr19) hS0 hS1 hS2 hS3 hS4 hS5 hS6 hS7 hS8 hS9 hS10 hS11 hS12 hS13 hS14 hS15 hS16 (ErrR.go ((ht1191.grown hg17).grown hg18) hG gr18 hg19 gr19 hB9 rfl) H) ?_)))))))))))
         rintro _ w24 ⟨hg20,t135,rfl,H⟩
         have gr20:=zd gr19 hg20
         have k158:=((k137.grown hg18).go hg19 (Dj.new k137.lt' (Ge.box hl9))).grown hg20
         have k159:=((k138.grown hg18).go hg19 (k138.new (Ge.box hl9))).grown hg20
         have k160:=((k139.grown hg18).go hg19 (Dj.new k139.lt' (Ge.box hl9))).grown hg20
         have k161:=((k140.grown hg18).go hg19 (k140.new (Ge.box hl9))).grown hg20
         have k162:=((k141.grown hg18).go hg19 (k141.new (Ge.box hl9))).grown hg20
         refine yp (h:=(yp (h:=(WL.midF 6 (fun L' w'=>∃ q3:Bool,L'=[(143,.bool q3),(0,.slice A_l l.length c_l),(4,.slice A_a a.length c_a),(5,.slice A_b b.length c_b),(6,.int .i64 i),(14,v_t1190.1),(16,.pointer (some ⟨g9,0,none⟩))]∧((!t135) || (!((!t1190.isNil) == (decide (t1301=(0:Int))))))=q3∧w24=w') ?_ (fun hQ=>?_)))))
         ·rintro _ _ ⟨q3,rfl,rfl,rfl⟩
          refine WL.nil (WX.then_normal (WC.cond rfl (fun b6=>?_) (fun b6=>?_)))
          ·replace H:=H.1 (b6)
           exact WC.seq (WC.region (yp (h:=(WL.nil (WX.then_normal (WC.ret (WX.then_ret (WX.block_ret (WX.then_ret (WX.then_ret (WX.block_ret (WX.then_ret (WX.ret1 rfl rfl ⟨gr20,false,rfl,H⟩)))))))))))))
          ·replace H:=H.2 (b6)
           refine WC.skip (WX.then_normal (WC.seq (WC.seq (WC.region (yp (h:=?_))))))
           have hv3:RelD deS w24 [(pnil,noF)] [PS.nil]:=deS_nil
           refine WL.y rfl (deS_eqnil Tryz.underlying41 k162 rfl rfl) (WL.nil (WX.then_normal (WC.cond rfl (fun b7=>?_) (fun b7=>?_))))
           ·replace H:=H.1 (b7)
            refine WC.exit (WX.then_exit (WX.block_same ?_))
            exact WX.weaken (by repeat (first | exact Sub.nil | refine Sub.cons rfl ?_)) (hQ _ _ ⟨a,A_a,c_a,a.length,hs_a,b,A_b,c_b,b.length,hs_b,rfl,H,rfl,rfl,gr20,k158,k159,k160,k161,dj53,dj58,dj59,dj68,dj69,or6⟩)
           ·replace H:=H.2 (b7)
            refine WC.skip (WX.then_normal (WC.seq (WC.region (yp (h:=(WL.call rfl rfl (W_pdeps_Set_All (hG.grown gr20) hS7 k162 H) ?_))))))
            rintro _ w25 ⟨hg21,t1480,A_t1480,c_t1480,hs_t1480,v_t1481,t1481,rfl,ht1480,hr_t1480,ho5,dj132,ht1481,H⟩
            have hb1:=ht1480.ge'
            have gr21:=zd gr20 hg21
            have k172:=(hB10.g0 hg20).g0 hg21
            have k173:=((hR5.go hg19 (hd1 _ (ht1300.new (Ge.box hl9)))).grown hg20).grown hg21
            have k174:=((hO13.go hg19 (hd2 _ (ht1300.new (Ge.box hl9)))).grown hg20).grown hg21
            refine yp (h:=(yp (h:=(yp (h:=(yp (h:=(yp (h:=(WL.nil (WX.then_normal (WC.seq (WC.region (WL.y rfl (Yld.bagg (vs:=[.int .i64 t1300.1,.bool false,.bool t1300.2.1.1,.slice A_L t1300.2.1.2.length c_L,vs [],v_o.1]) za k172 rfl rfl rfl rfl) ?_))))))))))))))
            have hp1:=qf (k:=t1300.1) (neg:=t1300.2.1.1) (L:=t1300.2.1.2) (A:=A_L) (c:=c_L) (o:=v_o) (F:=F_t1300) k173 k174
            refine WL.call rfl rfl (W_smithyref14_All hp1.1 H) ?_
            rintro _ w26 ⟨hg22,t1530,A_t1530,c_t1530,hs_t1530,t1531,rfl,ht1530,hr_t1530,ho6,dj133,H⟩
            have hb2:=ht1530.ge'
            have gr22:=zd gr21 hg22
            have k181:=k172.g0 hg22
            refine yp (h:=(yp (h:=(yp (h:=(yp (h:=(yp (h:=(WL.nil (WX.then_normal (WC.seq (WC.seq (WC.chainF (fun k => !(Nat.beq k 2 || Nat.beq k 6 || Nat.beq k 7 || Nat.beq k 9 || Nat.beq k 10 || Nat.beq k 15 || Nat.beq k 25 || Nat.beq k 33 || Nat.beq k 35 || Nat.beq k 40)) (LD [20,34] (fun w'=>Bl w' g9 38 [.int .i64 t1300.1,.bool false,.bool t1300.2.1.1,.slice A_L t1300.2.1.2.length c_L,vs [],v_o.1]∧RdK 3 encH30 w' A_l c_l hs_l)) mixed (by kernel_rfl) (fun k w' h _=>⟨(zU h k181),(RdK.eqv h (hl.grown gr22))⟩) (WJ.y rfl rfl (fun w' hw'=>Yld.pure za rfl) (WJ.y rfl rfl (fun w' hw'=>Yld.pure za rfl) (WJ.call rfl (zo) rfl rfl (W_smithysee_Is (hG.grown gr22) hS0 hS1 hS2 hS3 hS4 hS5 hS6 hS7 hS8 hS9 hS10 hS11 hS12 hS13 hS14 hS15 hS16 (ht1481.grown hg22) H) (fun v w' h w2 e=>DD.keep (⟨(Bl.g0 k181 (zq h.1 e)),(RdK.grown (hl.grown gr22) (zq h.1 e))⟩)) ?_)))))))))))))))))
            rintro _ w27 ⟨hg23,t158,rfl,H⟩
            have gr23:=zd gr22 hg23
            have k187:=((k158.grown hg21).grown hg22).grown hg23
            have k188:=((k159.grown hg21).grown hg22).grown hg23
            have k189:=((k160.grown hg21).grown hg22).grown hg23
            have k190:=((k161.grown hg21).grown hg22).grown hg23
            have k191:=((k162.grown hg21).grown hg22).grown hg23
            have k192:=k181.g0 hg23
            have k193:=(k173.grown hg22).grown hg23
            have k194:=(k174.grown hg22).grown hg23
            have k195:=((ht1480.base (fun g hg=>Nat.le_trans (ze gr20) (hb1 g hg))).grown hg22).grown hg23
            have k196:=(hr_t1480.grown hg22).grown hg23
            have k197:=(ht1530.base (fun g hg=>Nat.le_trans (ze gr21) (hb2 g hg))).grown hg23
            have k198:=hr_t1530.grown hg23
            refine WJ.y rfl rfl (fun w' hw'=>Yld.pure za rfl) (WJ.y rfl rfl (fun w' hw'=>Yld.pure za rfl) ?_)
            obtain ⟨J2,H,hJ2⟩:=H
            refine WJ.midF 8 (fun L' w'=>∃ q4:Bool,L'=[(168,.bool q4),(0,.slice A_l l.length c_l),(4,.slice A_a a.length c_a),(5,.slice A_b b.length c_b),(6,.int .i64 i),(14,v_t1190.1),(16,.pointer (some ⟨g9,0,none⟩)),(19,.slice A_t1530 t1530.length c_t1530)]∧J2 q4∧w.grownBy w' none∧Own vv w' w.heap.size 41 A_a c_a hs_a∧RelD deS w' hs_a a∧OwnK 6 vr w' w.heap.size 38 A_b c_b hs_b∧RelD deR w' hs_b b∧RelD deS w' [(v_t1190,F_t1190)] [t1190]∧Bl w' g9 38 [.int .i64 t1300.1,.bool false,.bool t1300.2.1.1,.slice A_L t1300.2.1.2.length c_L,vs [],v_o.1]∧Rd vi w' A_L c_L t1300.2.1.2∧RelD deO w' [(v_o,F_t1300)] [(t1300.2.2)]∧OwnK 6 vr w' w.heap.size 38 A_t1530 c_t1530 hs_t1530∧RelD deR w' hs_t1530 t1530) ?_ (fun hQ=>?_)
            ·clear H
             rintro _ w28 ⟨q4,rfl,H,gr24,k199,k200,k201,k202,k203,k204,k205,k206,k207,k208⟩
             replace H:=hJ2 q4 H
             refine WJ.y rfl rfl (fun w' hw'=>Yld.pure za rfl) ?_
             obtain ⟨J3,H,hJ3⟩:=H
             refine WJ.midF 9 (fun L' w'=>∃ q5:Bool,L'=[(178,.bool q5),(0,.slice A_l l.length c_l),(4,.slice A_a a.length c_a),(5,.slice A_b b.length c_b),(6,.int .i64 i),(14,v_t1190.1),(16,.pointer (some ⟨g9,0,none⟩)),(19,.slice A_t1530 t1530.length c_t1530)]∧J3 q5∧w28=w') ?_ (fun hQ=>?_)
             ·clear H
              rintro _ _ ⟨q5,rfl,H,rfl⟩
              replace H:=hJ3 q5 H
              refine WJ.y rfl rfl (fun w' hw'=>Yld.pure za rfl) ?_
              obtain ⟨J4,H,hJ4⟩:=H
              refine WJ.midF 7 (fun L' w'=>∃ q6:Bool,L'=[(186,.bool q6),(0,.slice A_l l.length c_l),(4,.slice A_a a.length c_a),(5,.slice A_b b.length c_b),(6,.int .i64 i),(14,v_t1190.1),(16,.pointer (some ⟨g9,0,none⟩))]∧J4 q6∧w28=w') ?_ (fun hQ=>?_)
              ·clear H
               rintro _ _ ⟨q6,rfl,H,rfl⟩
               replace H:=hJ4 q6 H
               refine WJ.y rfl rfl (fun w' hw'=>Yld.pure za rfl) ?_
               obtain ⟨J5,H,hJ5⟩:=H
               refine WJ.midF 6 (fun L' w'=>∃ q7:Bool,L'=[(193,.bool q7),(0,.slice A_l l.length c_l),(4,.slice A_a a.length c_a),(5,.slice A_b b.length c_b),(6,.int .i64 i),(14,v_t1190.1),(16,.pointer (some ⟨g9,0,none⟩))]∧J5 q7∧w.grownBy w' none∧Own vv w' w.heap.size 41 A_a c_a hs_a∧RelD deS w' hs_a a∧OwnK 6 vr w' w.heap.size 38 A_b c_b hs_b∧RelD deR w' hs_b b∧RelD deS w' [(v_t1190,F_t1190)] [t1190]∧Bl w' g9 38 [.int .i64 t1300.1,.bool false,.bool t1300.2.1.1,.slice A_L t1300.2.1.2.length c_L,vs [],v_o.1]∧Rd vi w' A_L c_L t1300.2.1.2∧RelD deO w' [(v_o,F_t1300)] [(t1300.2.2)]) ?_ (fun hQ=>?_)
               ·clear H
                rintro _ w29 ⟨q7,rfl,H,gr25,k209,k210,k211,k212,k213,k214,k215,k216⟩
                replace H:=hJ5 q7 H
                refine WJ.y rfl rfl (fun w' hw'=>Yld.pure za rfl) ?_
                obtain ⟨J6,H,hJ6⟩:=H
                refine WJ.midF 4 (fun L' w'=>∃ q8:Bool,L'=[(198,.bool q8),(0,.slice A_l l.length c_l),(4,.slice A_a a.length c_a),(5,.slice A_b b.length c_b),(6,.int .i64 i),(14,v_t1190.1),(16,.pointer (some ⟨g9,0,none⟩))]∧J6 q8∧w29=w') ?_ (fun hQ=>?_)
                ·clear H
                 rintro _ _ ⟨q8,rfl,H,rfl⟩
                 replace H:=hJ6 q8 H
                 refine WJ.nil (WX.then_normal (WC.cond rfl (fun b8=>?_) (fun b8=>?_)))
                 ·replace H:=H.1 (b8)
                  exact WC.seq (WC.region (yp (h:=(WL.nil (WX.then_normal (WC.ret (WX.then_ret (WX.block_ret (WX.then_ret (WX.then_ret (WX.block_ret (WX.then_ret (WX.ret1 rfl rfl ⟨gr25,false,rfl,H⟩)))))))))))))
                 ·replace H:=H.2 (b8)
                  refine WC.skip (WX.then_normal (WC.seq (WC.region (yp (h:=(yp (h:=(WL.lit (us:=[v_t1190.1]) za rfl rfl rfl (zf v_t1190.2 zm) rfl (by omega) (fun g11 w31 hB12 hg25 hl11=>?_)))))))))
                  have hO15:Own vv w31 w.heap.size 41 (some ⟨g11,0,none⟩) 1 ([(v_t1190,F_t1190)]:List VH):=Own.ofBl hB12 (Nat.le_trans (ze gr25) hl11) (by simp [maxLen]) rfl
                  have gr26:=zd gr25 hg25
                  have k217:=k209.grown hg25
                  have k218:=k210.grown hg25
                  have k219:=k211.grown hg25
                  have k220:=k212.grown hg25
                  have k223:=k215.grown hg25
                  have k224:=k216.grown hg25
                  have hr9:RelD deS w31 ([(v_t1190,F_t1190)]:List VH) ([t1190]:List PS):=(RelD.cons (RelD.one (k213.grown hg25)) RelD.nil)
                  have nd7:NewD deS ([(v_t1190,F_t1190)]:List VH) ([t1190]:List PS) w.heap.size:=(NewD.cons (d:=deS) (fun p_ hp_=>(DnD.one (ho3 p_ (fun g_ e_=>Nat.lt_of_lt_of_le (hp_ g_ e_) (ze gr11)) (or7 p_ hp_) (or9 p_ hp_)))) NewD.nil)
                  have dj134:DnD deS ([(v_t1190,F_t1190)]:List VH) ([t1190]:List PS) (blk A_a):=(DnD.cons (d:=deS) (DnD.one (ho3 _ k67.lt' dj77 dj92)) DnD.nil)
                  have dj135:DnD deS ([(v_t1190,F_t1190)]:List VH) ([t1190]:List PS) (blk A_b):=(DnD.cons (d:=deS) (DnD.one (ho3 _ k69.lt' dj78 dj93)) DnD.nil)
                  have dj136:DnD deS ([(v_t1190,F_t1190)]:List VH) ([t1190]:List PS) (some g9):=(DnD.cons (d:=deS) (DnD.one (k141.new (Ge.box hl9))) DnD.nil)
                  have dj137:DnD deS ([(v_t1190,F_t1190)]:List VH) ([t1190]:List PS) (blk (some ⟨g11,0,none⟩)):=(DnD.cons (d:=deS) (DnD.one (k213.new (Ge.box hl11))) DnD.nil)
                  obtain ⟨h24,H⟩:=H
                  have h25:((hs_a:List VH).length+([(v_t1190,F_t1190)]:List VH).length)*8≤140737488355328:=by rw [k218.1,hr9.1]; exact h24
                  refine WL.append za rfl rfl One.vv k217 rfl k2.1.symm hO15.rd rfl rfl h25 (zx h25) (ze gr26) (fun A_a3 c_a3 w32 hO16 hg26 hk5=>?_)
                  have el5:(hs_a++([(v_t1190,F_t1190)]:List VH)).length=(a++([t1190]:List PS)).length:=by rw [List.length_append,List.length_append,k218.1,hr9.1]
                  rw [el5]
                  have gr27:=zk gr26 hg26 k217.ge'
                  have k227:=k220.go hg26 dj68
                  have hr10:RelD deS w32 (hs_a++([(v_t1190,F_t1190)]:List VH)) (a++([t1190]:List PS)):=RelD.append (k218.go hg26 dj58) (hr9.go hg26 dj134)
                  have nd8:NewD deS (hs_a++([(v_t1190,F_t1190)]:List VH)) (a++([t1190]:List PS)) w.heap.size:=NewD.append k218.1 or6 nd7
                  have dj138:DnD deS (hs_a++([(v_t1190,F_t1190)]:List VH)) (a++([t1190]:List PS)) (blk A_b):=(DnD.append k218.1 dj59 dj135)
                  have dj139:DnD deS (hs_a++([(v_t1190,F_t1190)]:List VH)) (a++([t1190]:List PS)) (some g9):=(DnD.append k218.1 (k138.new (Ge.box hl9)) dj136)
                  have dj140:DnD deS (hs_a++([(v_t1190,F_t1190)]:List VH)) (a++([t1190]:List PS)) (blk (some ⟨g11,0,none⟩)):=(DnD.append k218.1 (k210.new (Ge.box hl11)) dj137)
                  have dj141:DnD deS (hs_a++([(v_t1190,F_t1190)]:List VH)) (a++([t1190]:List PS)) (blk A_a3):=(DnD.append k218.1 (RelD.app k218 dj58 hk5) (RelD.app hr9 dj134 hk5))
                  refine yp (h:=(WL.nil (WX.then_normal (WC.region (yp (h:=(WL.y rfl (Yld.bagg (vs:=[.int .i64 t1300.1,.bool false,.bool t1300.2.1.1,.slice A_L t1300.2.1.2.length c_L,vs [],v_o.1]) za ((k214.g0 hg25).go hg26 ((Dj.new k137.lt' (Ge.box hl9)).symm)) rfl rfl rfl rfl) ?_)))))))
                  have hp2:=qf (k:=t1300.1) (neg:=t1300.2.1.1) (L:=t1300.2.1.2) (A:=A_L) (c:=c_L) (o:=v_o) (F:=F_t1300) (k223.go hg26 (hd1 _ (ho4 _ k129.lt' dj85 dj98))) (k224.go hg26 (hd2 _ (ho4 _ k129.lt' dj85 dj98)))
                  refine WL.litK (f:=vr) ([((rcP t1300.1 t1300.2.1.1 A_L c_L t1300.2.1.2 v_o),(FR A_L t1300.2.1.2 F_t1300))]:List RH) vr_ok rfl ow26 rfl rfl rfl (fun g13 w34 hB14 hg28 hl13=>?_)
                  have hO18:OwnK 6 vr w34 w.heap.size 38 (some ⟨g13,0,none⟩) 1 ([((rcP t1300.1 t1300.2.1.1 A_L c_L t1300.2.1.2 v_o),(FR A_L t1300.2.1.2 F_t1300))]:List RH):=OwnK.ofBl vr_ok hB14 (Nat.le_trans (ze gr27) hl13) (by simp [maxLen]) rfl
                  have gr28:=zd gr27 hg28
                  have k232:=(k219.go hg26 dj53.symm).grown hg28
                  have k233:=k227.grown hg28
                  have k234:=hO16.grown hg28
                  have k235:=hr10.grown hg28
                  have hr11:RelD deR w34 ([((rcP t1300.1 t1300.2.1.1 A_L c_L t1300.2.1.2 v_o),(FR A_L t1300.2.1.2 F_t1300))]:List RH) ([((t1300.1,(t1300.2.1.1,t1300.2.1.2),(t1300.2.2)):RV)]:List RV):=(RelD.cons (RelD.one (hp2.1.grown hg28)) RelD.nil)
                  have dj142:DnD deR ([((rcP t1300.1 t1300.2.1.1 A_L c_L t1300.2.1.2 v_o),(FR A_L t1300.2.1.2 F_t1300))]:List RH) ([((t1300.1,(t1300.2.1.1,t1300.2.1.2),(t1300.2.2)):RV)]:List RV) (blk A_b):=(DnD.cons (d:=deR) (DnD.one (hp2.2 _ (hd1 _ (ho4 _ k131.lt' dj86 dj99)) (hd2 _ (ho4 _ k131.lt' dj86 dj99)))) DnD.nil)
                  have dj143:DnD deR ([((rcP t1300.1 t1300.2.1.1 A_L c_L t1300.2.1.2 v_o),(FR A_L t1300.2.1.2 F_t1300))]:List RH) ([((t1300.1,(t1300.2.1.1,t1300.2.1.2),(t1300.2.2)):RV)]:List RV) (blk A_a3):=(DnD.cons (d:=deR) (DnD.one (hp2.2 _ (Dn.app (hd1 _ (ho4 _ k129.lt' dj85 dj98)) (fun hx=>k223.lt' hx) hk5) (RelD.app k224 (hd2 _ (ho4 _ k129.lt' dj85 dj98)) hk5))) DnD.nil)
                  have dj144:DnD deR ([((rcP t1300.1 t1300.2.1.1 A_L c_L t1300.2.1.2 v_o),(FR A_L t1300.2.1.2 F_t1300))]:List RH) ([((t1300.1,(t1300.2.1.1,t1300.2.1.2),(t1300.2.2)):RV)]:List RV) (blk (some ⟨g13,0,none⟩)):=(DnD.cons (d:=deR) (DnD.one (hp2.1.new (Ge.box hl13))) DnD.nil)
                  obtain ⟨h26,H⟩:=H
                  have h27:((hs_b:List RH).length+([((rcP t1300.1 t1300.2.1.1 A_L c_L t1300.2.1.2 v_o),(FR A_L t1300.2.1.2 F_t1300))]:List RH).length)*72≤140737488355328:=by rw [k233.1,hr11.1]; exact h26
                  refine WL.appendK rfl ow26 k232 rfl k4.1.symm hO18.rd rfl rfl h27 (zx h27) (ze gr28) (fun A_b3 c_b3 w35 hO19 hg29 hk6=>?_)
                  have el6:(hs_b++([((rcP t1300.1 t1300.2.1.1 A_L c_L t1300.2.1.2 v_o),(FR A_L t1300.2.1.2 F_t1300))]:List RH)).length=(b++([((t1300.1,(t1300.2.1.1,t1300.2.1.2),(t1300.2.2)):RV)]:List RV)).length:=by rw [List.length_append,List.length_append,k233.1,hr11.1]
                  rw [el6]
                  have hr12:RelD deR w35 (hs_b++([((rcP t1300.1 t1300.2.1.1 A_L c_L t1300.2.1.2 v_o),(FR A_L t1300.2.1.2 F_t1300))]:List RH)) (b++([((t1300.1,(t1300.2.1.1,t1300.2.1.2),(t1300.2.2)):RV)]:List RV)):=RelD.append (k233.go hg29 dj69) (hr11.go hg29 dj142)
                  have dj145:DnD deR (hs_b++([((rcP t1300.1 t1300.2.1.1 A_L c_L t1300.2.1.2 v_o),(FR A_L t1300.2.1.2 F_t1300))]:List RH)) (b++([((t1300.1,(t1300.2.1.1,t1300.2.1.2),(t1300.2.2)):RV)]:List RV)) (blk A_a3):=(DnD.append k233.1 (RelD.app k220 dj68 hk5) dj143)
                  have dj146:DnD deR (hs_b++([((rcP t1300.1 t1300.2.1.1 A_L c_L t1300.2.1.2 v_o),(FR A_L t1300.2.1.2 F_t1300))]:List RH)) (b++([((t1300.1,(t1300.2.1.1,t1300.2.1.2),(t1300.2.2)):RV)]:List RV)) (blk (some ⟨g13,0,none⟩)):=(DnD.append k233.1 (k227.new (Ge.box hl13)) dj144)
                  have dj147:DnD deR (hs_b++([((rcP t1300.1 t1300.2.1.1 A_L c_L t1300.2.1.2 v_o),(FR A_L t1300.2.1.2 F_t1300))]:List RH)) (b++([((t1300.1,(t1300.2.1.1,t1300.2.1.2),(t1300.2.2)):RV)]:List RV)) (blk A_b3):=(DnD.append k233.1 (RelD.app k233 dj69 hk6) (RelD.app hr11 dj142 hk6))
                  refine yp (h:=(WL.nil (WX.block_normal ?_)))
                  exact WX.weaken (by repeat (first | exact Sub.nil | refine Sub.cons rfl ?_)) (hQ _ _ ⟨a++([t1190]:List PS),A_a3,c_a3,(a++([t1190]:List PS)).length,hs_a++([(v_t1190,F_t1190)]:List VH),b++([((t1300.1,(t1300.2.1.1,t1300.2.1.2),(t1300.2.2)):RV)]:List RV),A_b3,c_b3,(b++([((t1300.1,(t1300.2.1.1,t1300.2.1.2),(t1300.2.2)):RV)]:List RV)).length,hs_b++([((rcP t1300.1 t1300.2.1.1 A_L c_L t1300.2.1.2 v_o),(FR A_L t1300.2.1.2 F_t1300))]:List RH),rfl,H,rfl,rfl,(zk gr28 hg29 k232.ge'),(k234.go hg29 (Dj.app dj53 k219.lt' hk5)),(k235.go hg29 dj138),hO19,hr12,(Dj.app (Dj.app dj53 k219.lt' hk5).symm k234.lt' hk6).symm,dj141,(RelD.app k235 dj138 hk6),dj145,dj147,nd8⟩)
                ·clear hJ6
                 rcases Bool.eq_false_or_eq_true (q7) with b9 | b9
                 ·replace H:=H.1 b9
                  refine WJ.no rfl rfl (okb b9) rfl (WJ.no rfl rfl (okb b9) rfl (WJ.no rfl rfl (okb b9) rfl (WJ.y rfl rfl (fun w' hw'=>Yld.pickT (okb b9) rfl) ?_)))
                  exact WJ.weaken (by repeat (first | exact Sub.nil | refine Sub.cons rfl ?_)) (hQ _ _ ⟨true,rfl,H,rfl⟩)
                 ·replace H:=H.2 b9
                  refine WJ.yw rfl (zc rfl rfl (okb b9)) rfl (fun w' hw'=>Yld.pure za rfl) (WJ.call rfl (zc rfl rfl (okb b9)) rfl rfl (W_pdeps_Set_Kind k213 H) (fun v w' h w2 e=>DD.keep (⟨(zU (eqvL h.1 e) k214),(RdK.eqv (eqvL h.1 e) (hl.grown gr25))⟩)) ?_)
                  rintro _ _ ⟨rfl,t196,rfl,H⟩
                  refine WJ.yw rfl (zc rfl rfl (okb b9)) rfl (fun w' hw'=>Yld.pure za rfl) (WJ.y rfl rfl (fun w' hw'=>Yld.pickF (okb b9) rfl) ?_)
                  exact WJ.weaken (by repeat (first | exact Sub.nil | refine Sub.cons rfl ?_)) (hQ _ _ ⟨!decide (t196=(10:Int)),rfl,H,rfl⟩)
               ·clear hJ5
                rcases Bool.eq_false_or_eq_true (q6) with b10 | b10
                ·replace H:=H.1 b10
                 refine WJ.no rfl rfl (okb b10) rfl (WJ.no rfl rfl (okb b10) rfl (WJ.no rfl rfl (okb b10) rfl (WJ.no rfl rfl (okb b10) rfl (WJ.no rfl rfl (okb b10) rfl (WJ.y rfl rfl (fun w' hw'=>Yld.pickT (okb b10) rfl) ?_)))))
                 exact WJ.weaken (by repeat (first | exact Sub.nil | refine Sub.cons rfl ?_)) (hQ _ _ ⟨true,rfl,H,gr24,k199,k200,k201,k202,k203,k204,k205,k206⟩)
                ·replace H:=H.2 b10
                 refine WJ.yw rfl (zc rfl rfl (okb b10)) rfl (fun w' hw'=>Yld.pure za rfl) (WJ.call rfl (zc rfl rfl (okb b10)) rfl rfl (W_pdeps_Set_Size k203 H) (fun v w' h w2 e=>DD.keep (⟨(Bl.g0 k204 (zq h.1 e)),(RdK.grown (hl.grown gr24) (zq h.1 e))⟩)) ?_)
                 rintro _ w36 ⟨hg30,t189,rfl,H⟩
                 have gr30:=zd gr24 hg30
                 have k246:=k204.g0 hg30
                 have k247:=k205.grown hg30
                 have k248:=k206.grown hg30
                 refine WJ.yw rfl (zc rfl rfl (okb b10)) rfl (fun w' hw'=>Yld.bagg (vs:=[.int .i64 t1300.1,.bool false,.bool t1300.2.1.1,.slice A_L t1300.2.1.2.length c_L,vs [],v_o.1]) za (hw' rfl).1 rfl rfl rfl rfl) ?_
                 have hp3:=qf (k:=t1300.1) (neg:=t1300.2.1.1) (L:=t1300.2.1.2) (A:=A_L) (c:=c_L) (o:=v_o) (F:=F_t1300) k247 k248
                 refine WJ.call rfl (zc rfl rfl (okb b10)) rfl rfl (W_smithyref14_Sets hp3.1 H) (fun v w' h w2 e=>DD.keep (⟨(Bl.g0 k246 (zq h.1 e)),(RdK.grown (hl.grown gr30) (zq h.1 e))⟩)) ?_
                 rintro _ w37 ⟨hg31,t191,rfl,H⟩
                 refine WJ.yw rfl (zc rfl rfl (okb b10)) rfl (fun w' hw'=>Yld.pure za rfl) (WJ.y rfl rfl (fun w' hw'=>Yld.pickF (okb b10) rfl) ?_)
                 exact WJ.weaken (by repeat (first | exact Sub.nil | refine Sub.cons rfl ?_)) (hQ _ _ ⟨!decide (t189=t191),rfl,H,(zd gr30 hg31),((k199.grown hg30).grown hg31),((k200.grown hg30).grown hg31),((k201.grown hg30).grown hg31),((k202.grown hg30).grown hg31),((k203.grown hg30).grown hg31),(k246.g0 hg31),(k247.grown hg31),(k248.grown hg31)⟩)
              ·clear hJ4
               rcases Bool.eq_false_or_eq_true (q5) with b11 | b11
               ·replace H:=H.1 b11
                refine WJ.no rfl rfl (okb b11) rfl (WJ.no rfl rfl (okb b11) rfl (WJ.no rfl rfl (okb b11) rfl (WJ.no rfl rfl (okb b11) rfl (WJ.no rfl rfl (okb b11) rfl (WJ.no rfl rfl (okb b11) rfl (WJ.y rfl rfl (fun w' hw'=>Yld.pickT (okb b11) rfl) ?_))))))
                exact WJ.weaken (by repeat (first | exact Sub.nil | refine Sub.cons rfl ?_)) (hQ _ _ ⟨true,rfl,H,rfl⟩)
               ·replace H:=H.2 b11
                refine WJ.yw rfl (zc rfl rfl (okb b11)) rfl (fun w' hw'=>Yld.pure za rfl) (WJ.call rfl (zc rfl rfl (okb b11)) rfl rfl (W_pdeps_Set_Empty k203 H) (fun v w' h w2 e=>DD.keep (⟨(zU (eqvL h.1 e) k204),(RdK.eqv (eqvL h.1 e) (hl.grown gr24))⟩)) ?_)
                rintro _ _ ⟨rfl,t181,rfl,H⟩
                refine WJ.yw rfl (zc rfl rfl (okb b11)) rfl (fun w' hw'=>Yld.pure za rfl) (WJ.yw rfl (zc rfl rfl (okb b11)) rfl (fun w' hw'=>Yld.pure za rfl) (WJ.yw rfl (zc rfl rfl (okb b11)) rfl (fun w' hw'=>Yld.pure za rfl) (WJ.yw rfl (zc rfl rfl (okb b11)) rfl (fun w' hw'=>Yld.bneq Tryz.underlying4 rfl rfl) (WJ.y rfl rfl (fun w' hw'=>Yld.pickF (okb b11) rfl) ?_))))
                exact WJ.weaken (by repeat (first | exact Sub.nil | refine Sub.cons rfl ?_)) (hQ _ _ ⟨!(t181 == (decide ((t1530.length:Int)=(0:Int)))),rfl,H,rfl⟩)
             ·clear hJ3
              rcases Bool.eq_false_or_eq_true (q4) with b12 | b12
              ·replace H:=H.1 b12
               refine WJ.no rfl rfl (okb b12) rfl (WJ.no rfl rfl (okb b12) rfl (WJ.no rfl rfl (okb b12) rfl (WJ.no rfl rfl (okb b12) rfl (WJ.no rfl rfl (okb b12) rfl (WJ.no rfl rfl (okb b12) rfl (WJ.no rfl rfl (okb b12) rfl (WJ.no rfl rfl (okb b12) rfl (WJ.y rfl rfl (fun w' hw'=>Yld.pickT (okb b12) rfl) ?_))))))))
               exact WJ.weaken (by repeat (first | exact Sub.nil | refine Sub.cons rfl ?_)) (hQ _ _ ⟨true,rfl,H,rfl⟩)
              ·replace H:=H.2 b12
               refine WJ.yw rfl (zc rfl rfl (okb b12)) rfl (fun w' hw'=>Yld.pure za rfl) (WJ.call rfl (zc rfl rfl (okb b12)) rfl rfl (W_pdeps_Set_Order k203 H) (fun v w' h w2 e=>DD.keep (⟨(zU (eqvL h.1 e) k204),(RdK.eqv (eqvL h.1 e) (hl.grown gr24))⟩)) ?_)
               rintro _ _ ⟨rfl,t171,rfl,H⟩
               refine WJ.yw rfl (zc rfl rfl (okb b12)) rfl (fun w' hw'=>Yld.pure za rfl) (WJ.yw rfl (zc rfl rfl (okb b12)) rfl (fun w' hw'=>Yld.pure za rfl) ?_)
               obtain ⟨h28,H⟩:=H
               refine WJ.yw rfl (zc rfl rfl (okb b12)) rfl (fun w' hw'=>Yld.iaddrK za (hl.grown gr24) rfl rfl hr_l.1.symm rfl h28.1 h28.2) (WJ.yw rfl (zc rfl rfl (okb b12)) rfl (fun w' hw'=>Yld.faddrK za (hl.grown gr24) (iltN h28 hr_l.1.symm) rfl rfl rfl) (WJ.yw rfl (zc rfl rfl (okb b12)) rfl (fun w' hw'=>Yld.iloadF (v:=.int .i64 ((l.getD i.toNat (0,[],[])).1)) (0,hd0,hd0) za (hw' rfl).2 rfl rfl (iltN h28 hr_l.1.symm) (by rw [eh1]; rfl)) (WJ.yw rfl (zc rfl rfl (okb b12)) rfl (fun w' hw'=>Yld.pure za rfl) (WJ.y rfl rfl (fun w' hw'=>Yld.pickF (okb b12) rfl) ?_))))
               exact WJ.weaken (by repeat (first | exact Sub.nil | refine Sub.cons rfl ?_)) (hQ _ _ ⟨!decide (t171=((l.getD i.toNat (0,[],[])).1)),rfl,H,rfl⟩)
            ·clear hJ2
             rcases Bool.eq_false_or_eq_true (!t158) with b13 | b13
             ·replace H:=H.1 b13
              refine WJ.no rfl rfl (okb b13) rfl (WJ.no rfl rfl (okb b13) rfl (WJ.no rfl rfl (okb b13) rfl (WJ.no rfl rfl (okb b13) rfl (WJ.no rfl rfl (okb b13) rfl (WJ.no rfl rfl (okb b13) rfl (WJ.no rfl rfl (okb b13) rfl (WJ.y rfl rfl (fun w' hw'=>Yld.pickT (okb b13) rfl) ?_)))))))
              exact WJ.weaken (by repeat (first | exact Sub.nil | refine Sub.cons rfl ?_)) (hQ _ _ ⟨true,rfl,H,gr23,k187,k188,k189,k190,k191,k192,k193,k194,k197,k198⟩)
             ·replace H:=H.2 b13
              refine WJ.yw rfl (zc rfl rfl (okb b13)) rfl (fun w' hw'=>Yld.pure za rfl) (WJ.call rfl (zc rfl rfl (okb b13)) rfl rfl (W_val_Tuple k195.rd rfl k196 H) (fun v w' h w2 e=>DD.keep (⟨(Bl.g0 k192 (zq h.1 e)),(RdK.grown (hl.grown gr23) (zq h.1 e))⟩)) ?_)
              rintro _ w38 ⟨hg32,v_t162,F_t162,t162,rfl,ht162,ho7,H⟩
              have gr32:=zd gr23 hg32
              have k262:=k192.g0 hg32
              have k265:=k195.grown hg32
              have k266:=k196.grown hg32
              refine WJ.call rfl (zc rfl rfl (okb b13)) rfl rfl (W_val_Repr ht162 H) (fun v w' h w2 e=>DD.keep (⟨(Bl.g0 k262 (zq h.1 e)),(RdK.grown (hl.grown gr32) (zq h.1 e))⟩)) ?_
              rintro _ w39 ⟨hg33,t163,rfl,H⟩
              have gr33:=zd gr32 hg33
              have k274:=k262.g0 hg33
              have k277:=(k197.grown hg32).grown hg33
              have k278:=(k198.grown hg32).grown hg33
              have k279:=ht162.grown hg33
              refine WJ.yw rfl (zc rfl rfl (okb b13)) rfl (fun w' hw'=>Yld.pure za rfl) (WJ.call rfl (zc rfl rfl (okb b13)) rfl rfl (W_smithyref14_Tuple k277.rd rfl k278 H) (fun v w' h w2 e=>DD.keep (⟨(Bl.g0 k274 (zq h.1 e)),(RdK.grown (hl.grown gr33) (zq h.1 e))⟩)) ?_)
              rintro _ w40 ⟨hg34,v_t165,F_t165,t165,rfl,ht165,ho8,H⟩
              have gr34:=zd gr33 hg34
              have k285:=k274.g0 hg34
              refine WJ.call rfl (zc rfl rfl (okb b13)) rfl rfl (W_smithyref14_Repr ht165 H) (fun v w' h w2 e=>DD.keep (⟨(Bl.g0 k285 (zq h.1 e)),(RdK.grown (hl.grown gr34) (zq h.1 e))⟩)) ?_
              rintro _ w41 ⟨hg35,t166,rfl,H⟩
              have k300:=ht165.grown hg35
              refine WJ.yw rfl (zc rfl rfl (okb b13)) rfl (fun w' hw'=>Yld.pure za rfl) (WJ.y rfl rfl (fun w' hw'=>Yld.pickF (okb b13) rfl) ?_)
              exact WJ.weaken (by repeat (first | exact Sub.nil | refine Sub.cons rfl ?_)) (hQ _ _ ⟨!decide (t163=t166),rfl,H,(zd gr34 hg35),((((k187.grown hg32).grown hg33).grown hg34).grown hg35),((((k188.grown hg32).grown hg33).grown hg34).grown hg35),((((k189.grown hg32).grown hg33).grown hg34).grown hg35),((((k190.grown hg32).grown hg33).grown hg34).grown hg35),((((k191.grown hg32).grown hg33).grown hg34).grown hg35),(k285.g0 hg35),((((k193.grown hg32).grown hg33).grown hg34).grown hg35),((((k194.grown hg32).grown hg33).grown hg34).grown hg35),((k277.grown hg34).grown hg35),((k278.grown hg34).grown hg35)⟩)
         ·clear H
          rcases Bool.eq_false_or_eq_true (!t135) with b14 | b14
          ·exact gn b14 (h:=(gn b14 (h:=(gn b14 (h:=(gn b14 (h:=(gn b14 (h:=(WL.y rfl (Yld.pickT (okb b14) rfl) (wk (hQ _ _ ⟨true,rfl,by rw [b14] <;> rfl,rfl⟩))))))))))))
          ·refine gp b14 (h:=?_)
           have hv4:RelD deS w24 [(pnil,noF)] [PS.nil]:=deS_nil
           exact WL.gyes rfl rfl (okb b14) rfl (deS_nenil Tryz.underlying41 k162 rfl rfl) (gp b14 (h:=(gp b14 (h:=(WL.gyes rfl rfl (okb b14) rfl (Yld.bneq Tryz.underlying4 rfl rfl) (WL.y rfl (Yld.pickF (okb b14) rfl) (wk (hQ _ _ ⟨!((!t1190.isNil) == (decide (t1301=(0:Int)))),rfl,by rw [b14] <;> rfl,rfl⟩))))))))
       ·clear H
        rcases Bool.eq_false_or_eq_true (decide (k_2<(((l.getD i.toNat (0,[],[])).2.2).length:Int))) with b15 | b15
        ·exact gp b15 (h:=(gp b15 (h:=(gp b15 (h:=(WL.y rfl (Yld.pickT (okb b15) rfl) (wk (hQ _ _ ⟨decide ((0:Int)<(a.length:Int)),rfl,by rw [b15] <;> rfl,rfl⟩))))))))
        ·exact gn b15 (h:=(gn b15 (h:=(gn b15 (h:=(WL.y rfl (Yld.pickF (okb b15) rfl) (wk (hQ _ _ ⟨false,rfl,by rw [b15] <;> rfl,rfl⟩))))))))
    ·replace H:=H.2 (of_decide_eq_false b3)
     exact WC.exit (WX.then_exit (WX.then_exit (WX.block_same (WX.then_normal (WC.seq (WC.region (yp (h:=(WL.nil (WX.then_normal (WC.ret (WX.ret1 rfl rfl ⟨gr2,true,rfl,H⟩))))))))))))
  ·clear H
   rcases Bool.eq_false_or_eq_true (!t24) with b16 | b16
   ·exact gn b16 (h:=(gn b16 (h:=(WL.y rfl (Yld.pickT (okb b16) rfl) (wk (hQ _ _ ⟨true,rfl,by rw [b16] <;> rfl,rfl⟩))))))
   ·exact gp b16 (h:=(gp b16 (h:=(WL.y rfl (Yld.pickF (okb b16) rfl) (wk (hQ _ _ ⟨!ok,rfl,by rw [b16] <;> rfl,rfl⟩))))))
end Go.Proofs.YtjjcdkfhaceicaaGreatDoor
 
namespace Go.Proofs.YtjjcdkfhaceicaaGreatDoor
open Go Go.RowKit
theorem txt_len20 {z:Int} (h:In .i64 z):(txt z).length≤20:=by
 simp only [In] at h
 have:=dd_len 19 z.natAbs (by omega)
 unfold txt
 split
 ·simp
 ·split <;> simp <;> omega
theorem smallR_M {n:Int} {K:RV→Prop} (hn:In .i64 n) (h:∀ x,OkN x→zR x=n→K x):qz n K :=
 of_M hn fun s L hr=>by
  have e:zR (3,(s,L),RO.nil)=n:=hr.val.symm
  exact h _ ⟨rfl,rfl,by rw [e]; exact hr⟩ e
theorem rput_M {p t:List UInt8} {K:List UInt8→Prop} (hp:p.length+t.length≤65536) (h:K (p++t)):zg p t K:=by
 intro _
 have e:(if (65536:Int) - (p.length:Int)<(t.length:Int) then (65536:Int) - (p.length:Int) else (t.length:Int)).toNat=t.length:=by
  split <;> omega
 refine ⟨by simp only [In]; omega,⟨by split <;> omega,by split <;> omega⟩,?_,?_⟩
 ·rw [e,List.take_length]; omega
 ·rw [e,List.take_length]; exact h
theorem rfull_M {p:List UInt8} {K:Bool→Prop} (hp:p.length<65536) (h:K false):zp p K:=by
 intro _
 rw [decide_eq_false (by omega)]; exact h
theorem rvalue_M {p:List UInt8} {x:RV} {deep:Int} {K:List UInt8→Prop} (hx:OkN x) (hp:p.length+(txt (zR x)).length≤65000) (h:K (p++txt (zR x))):zB p x deep K:=by
 intro _
 refine rfull_M (by omega) ⟨fun e=>(by cases e),fun _=>⟨fun e=>?_,fun _=>⟨fun e=>?_,fun _=>⟨fun e=>?_,fun _=>⟨fun _=>rtext_M hx.rn (by omega) (rput_M (by omega) h),fun e=>absurd hx.kind e⟩⟩⟩⟩⟩
 ·rw [hx.kind] at e; simp at e
 ·rw [hx.kind] at e; omega
 ·rw [hx.kind] at e; omega
theorem comT_len20:∀ {l:List Int},(∀ z∈l,(txt z).length≤20)→(comT l).length≤22*l.length
 | [],_=>by simp [comT]
 | [z],h=>by have:=h z (by simp); simp [comT]; omega
 | z :: y :: l,h=>by
  have h1:=comT_len20 (l:=y :: l) fun x hx=>h x (List.mem_cons_of_mem _ hx)
  have h2:=h z (by simp)
  rw [comT]
  simp only [List.length_append,List.length_cons,List.length_nil] at h1 ⊢
  omega
theorem rlist_M {p:List UInt8} {l:List RV} {deep:Int} {K:List UInt8→Prop} (hl:l.length≤2000) (hp:p.length≤1000) (ho:∀ x∈l,OkN x) (ht:∀ x∈l,(txt (zR x)).length≤20) (h:K (p++comT (l.map zR))):zE p l deep K:=by
 intro _ _
 refine ⟨fun i q=>0≤i∧i≤l.length∧q=p++comT ((l.take i.toNat).map zR),fun i _=>((l.length:Int) - i).toNat,⟨by omega,by omega,by simp [comT]⟩,?_⟩
 rintro i q ⟨h0,h1,rfl⟩
 have hc:=comT_len20 (l:=(l.take i.toNat).map zR) fun z hz=>by
  obtain ⟨x,hx,rfl⟩:=List.mem_map.1 hz
  exact ht x (List.mem_of_mem_take hx)
 have hcl:(l.take i.toNat).length≤2000:=by rw [List.length_take]; omega
 rw [List.length_map] at hc
 refine ⟨fun b=>b=decide (i<(l.length:Int)),⟨fun e=>rfull_M (by rw [List.length_append]; omega) (show (!false)=decide _ from e.symm),fun e=>e.symm⟩,?_⟩
 rintro _ rfl
 refine ⟨fun hi=>?_,fun hi=>?_⟩
 ·have hi:=of_decide_eq_true hi
  have hlt:i.toNat<l.length:=by omega
  have hm:=List.getElem_mem hlt
  have e2:(l.take (i+1).toNat).map zR=(l.take i.toNat).map zR++[zR l[i.toNat]]:=by
   rw [show (i+1).toNat=i.toNat+1 by omega,List.take_add_one,List.getElem?_eq_getElem hlt,List.map_append]; rfl
  have e3:=ht _ hm
  have hne:(l.take i.toNat).map zR=[]↔i=0:=by
   rw [List.map_eq_nil_iff,←List.length_eq_zero_iff,List.length_take]; omega
  refine ⟨fun q=>q=p++(comT ((l.take i.toNat).map zR)++(if (l.take i.toNat).map zR=[] then [] else [44,32])),⟨fun hpos=>?_,fun hn=>?_⟩,?_⟩
  ·refine rput_M (by simp only [List.length_append,List.length_cons,List.length_nil]; omega) ?_
   rw [if_neg (fun e=>by have:=hne.1 e; omega),List.append_assoc]
  ·rw [if_pos (hne.2 (by omega))]; simp
  ·rintro _ rfl
   rw [zt hlt]
   refine ⟨⟨h0,by omega⟩,rvalue_M (ho _ hm) ?_ ⟨by simp only [In]; omega,⟨by omega,by omega,?_⟩,by dsimp only; omega⟩⟩
   ·simp only [List.length_append]
    split <;> simp only [List.length_nil,List.length_cons] <;> omega
   ·rw [e2,comT_push]; simp
 ·have hi:=of_decide_eq_false hi
  have:l.take i.toNat=l:=List.take_of_length_le (by omega)
  rw [this]; exact h
theorem rrepr_tup {l:List RV} {g:Nat} {K:List UInt8→Prop} (hl:l.length≤1500) (ho:∀ x∈l,OkN x) (ht:∀ x∈l,(txt (zR x)).length≤20) (h:K (tupT (l.map zR))):qj (((6:Int),(false,([]:List Int)),(RO.mk g l (0:Int) ([]:List RV) (0:Int))):RV) K:=by
 have hc:=comT_len20 (l:=l.map zR) fun z hz=>by
  obtain ⟨x,hx,rfl⟩:=List.mem_map.1 hz
  exact ht x hx
 rw [List.length_map] at hc
 intro _
 refine rfull_M (by decide) ⟨fun e=>(by cases e),fun _=>⟨fun e=>(by simp at e),fun _=>⟨fun e=>(by have e:(6:Int)=1:=e; omega),fun _=>⟨fun e=>(by have e:(6:Int)=2:=e; omega),fun _=>⟨fun e=>(by have e:(6:Int)=3:=e; omega),fun _=>⟨fun e=>(by have e:(6:Int)=4:=e; omega),fun _=>⟨fun e=>(by have e:(6:Int)=5:=e; omega),fun _=>⟨fun _=>?_,fun e=>absurd rfl e⟩⟩⟩⟩⟩⟩⟩⟩
 refine rput_M (by decide) ⟨(fun e=>by cases e),by simp only [In]; omega,rlist_M (l:=l) (by omega) (by simp) ho ht ?_⟩
 refine ⟨fun q=>q=[40]++comT (l.map zR)++(if (l.map zR).length=1 then [44] else []),⟨fun e=>?_,fun e=>?_⟩,?_⟩
 ·have e:(l.length:Int)=1:=e
  rw [if_pos (by rw [List.length_map]; omega)]
  exact rput_M (by simp only [List.length_append,List.length_cons,List.length_nil]; omega) rfl
 ·have e:¬ (l.length:Int)=1:=e
  rw [if_neg (by rw [List.length_map]; omega),List.append_nil]; rfl
 ·rintro _ rfl
  refine rput_M (by simp only [List.length_append,List.length_cons,List.length_nil]; split <;> simp only [List.length_cons,List.length_nil] <;> omega) ?_
  have:[40]++comT (l.map zR)++(if (l.map zR).length=1 then [44] else [])++[41]=tupT (l.map zR):=by
   unfold tupT
   split <;> simp
  rw [this]; exact h
theorem rtuple_M {l:List RV} {K:RV→Prop} (hl:l.length≤2000) (h:∀ g,K (((6:Int),(false,([]:List Int)),(RO.mk g l (0:Int) ([]:List RV) (0:Int))):RV)):qb l K:=by
 intro _ _
 refine ⟨⟨by omega,by omega,by omega⟩,fun out i=>0≤i∧i≤l.length∧out=l.take i.toNat,fun _ i=>((l.length:Int) - i).toNat,⟨by omega,by omega,by simp⟩,?_⟩
 rintro _ i ⟨h0,h1,rfl⟩
 refine ⟨fun hi=>?_,fun hi=>?_⟩
 ·have hlt:i.toNat<l.length:=by omega
  refine ⟨⟨h0,by omega⟩,by simp only [List.length_take,List.length_cons,List.length_nil]; omega,by simp only [In]; omega,⟨by omega,by omega,?_⟩,by dsimp only; omega⟩
  rw [show (i+1).toNat=i.toNat+1 by omega,List.take_add_one,List.getElem?_eq_getElem hlt,zt hlt]; rfl
 ·rw [List.take_of_length_le (by omega)]
  exact h
theorem items_M20 {p:List UInt8} {l:List Int} {deep:Int} {K:List UInt8→Prop} (hl:l.length≤2000) (hp:p.length≤1000) (ht:∀ z∈l,(txt z).length≤20) (h:K (p++comT l)):zD p (l.map .int) deep K:=by
 intro _ _
 refine ⟨fun i q=>0≤i∧i≤l.length∧q=p++comT (l.take i.toNat),fun i _=>((l.length:Int) - i).toNat,⟨by omega,by omega,by simp [comT]⟩,?_⟩
 rintro i q ⟨h0,h1,rfl⟩
 have hc:=comT_len20 (l:=l.take i.toNat) fun z hz=>ht z (List.mem_of_mem_take hz)
 have hcl:(l.take i.toNat).length≤2000:=by rw [List.length_take]; omega
 rw [List.length_map]
 refine ⟨fun hi=>⟨⟨h0,by omega⟩,full_M (by simp; omega) ⟨fun e=>(by cases e),fun _=>?_⟩⟩,fun hi=>?_⟩
 ·have hlt:i.toNat<l.length:=by omega
  have e1:(l.map PV.int).getD i.toNat PV.nil=.int l[i.toNat]:=by rw [zt (by simpa using hlt)]; simp
  have e2:l.take (i+1).toNat=l.take i.toNat++[l[i.toNat]]:=by
   rw [show (i+1).toNat=i.toNat+1 by omega,List.take_add_one,List.getElem?_eq_getElem hlt]; rfl
  have e3:=ht l[i.toNat] (List.getElem_mem hlt)
  refine ⟨fun q=>q=p++(comT (l.take i.toNat)++(if l.take i.toNat=[] then [] else [44,32])),⟨fun hpos=>?_,fun hn=>?_⟩,?_⟩
  ·refine put_M (by simp; omega) ?_
   have:l.take i.toNat≠[]:=by
    intro e
    have:=congrArg List.length e
    rw [List.length_take,List.length_nil] at this
    omega
   rw [if_neg this,List.append_assoc]
  ·have e0:i=0:=by omega
   subst e0
   simp
  ·rintro _ rfl
   rw [e1]
   refine repr_int ?_ ⟨by simp only [In]; omega,⟨by omega,by omega,?_⟩,by dsimp only; omega⟩
   ·simp only [List.length_append]
    split <;> simp only [List.length_nil,List.length_cons] <;> omega
   ·rw [e2,comT_push]; simp
 ·have:l.take i.toNat=l:=List.take_of_length_le (by omega)
  rw [this]; exact h
theorem vrepr_tup20 {l:List Int} {K:List UInt8→Prop} (hl:l.length≤1500) (ht:∀ z∈l,(txt z).length≤20) (h:K (tupT l)):M_val_Repr (.tup l) K:=by
 have hc:=comT_len20 ht
 intro _
 refine full_M (by decide) ⟨fun e=>(by cases e),fun _=>⟨fun e=>(by cases e),fun z' e=>(by cases e),fun _=>?_⟩⟩
 intro _
 refine ⟨fun e=>absurd e (by decide),fun _=>⟨fun e=>(by cases e),fun _=>⟨fun l' e=>?_,fun e=>absurd rfl (e l)⟩⟩⟩
 cases e
 refine put_M (by simp) ⟨by simp only [In]; omega,items_M20 (by omega) (by simp) ht ?_⟩
 refine ⟨fun q=>q=[40]++comT l++(if l.length=1 then [44] else []),⟨fun e=>?_,fun e=>?_⟩,?_⟩
 ·rw [List.length_map] at e
  rw [if_pos (by omega)]
  exact put_M (by simp; omega) rfl
 ·rw [List.length_map] at e
  rw [if_neg (by omega),List.append_nil]; rfl
 ·rintro _ rfl
  refine put_M (by simp only [List.length_append]; split <;> simp <;> omega) ?_
  have:[40]++comT l++(if l.length=1 then [44] else [])++[41]=tupT l:=by
   unfold tupT
   split <;> simp
  rw [this]; exact h
def keyR (x:RV):List UInt8:=[105]++txt (zR x)++[59]
theorem keyR_iff (x y:RV) (_:OkN x) (_:OkN y):keyR x=keyR y↔zR x=zR y:=by
 refine ⟨fun h=>?_,fun h=>by unfold keyR; rw [h]⟩
 unfold keyR at h
 exact txt_inj (List.append_cancel_left (List.append_cancel_right h))
theorem keyR_is {x:RV} (hx:OkN x) (ht:(txt (zR x)).length≤20):KeyIs x (keyR x):=by
 refine ⟨by unfold keyR; simp; omega,fun K hK=>?_⟩
 refine ⟨fun b n=>b=false,⟨fun e=>?_,fun _=>⟨by simp only [In]; omega,?_⟩⟩,?_⟩
 ·rw [hx.kind] at e; simp at e
 ·decide
 ·rintro _ n rfl
  refine ⟨fun e=>(by cases e),fun _=>⟨fun e=>?_,fun _=>⟨fun e=>?_,fun _=>⟨fun _=>rtext_M hx.rn (by omega) ⟨?_,?_,hK⟩,fun e=>absurd hx.kind e⟩⟩⟩⟩
  ·rw [hx.kind] at e; omega
  ·rw [hx.kind] at e; omega
  ·simp; omega
  ·simp; omega
theorem rheavy_M {l:List RV} {K:Bool→Prop} (hl:l.length≤4096) (ho:∀ x∈l,OkN x) (h:K false):qc l K:=by
 intro _ _
 refine ⟨fun n i=>0≤i∧i≤l.length∧i=n,fun _ i=>((l.length:Int) - i).toNat,⟨by omega,by omega,rfl⟩,?_⟩
 rintro _ i ⟨h0,h1,rfl⟩
 refine ⟨fun e=>?_,fun e=>?_⟩
 ·rw [Bool.and_eq_true,decide_eq_true_eq,decide_eq_true_eq] at e
  have hlt:i.toNat<l.length:=by omega
  have hk:(l.getD i.toNat rv0).1=3:=by rw [zt hlt]; exact (ho _ (List.getElem_mem hlt)).kind
  refine ⟨True,⟨by simp only [In]; omega,⟨h0,by omega⟩,fun _=>⟨h0,by omega⟩,fun _=>⟨h0,by omega⟩,fun _=>⟨h0,by omega⟩,fun e=>?_,fun _=>trivial⟩,fun _=>⟨by simp only [In]; omega,⟨by omega,by omega,rfl⟩,by dsimp only; omega⟩⟩
  rw [hk] at e; simp at e
 ·rw [Bool.and_eq_false_iff,decide_eq_false_iff_not,decide_eq_false_iff_not] at e
  have:i=l.length:=by omega
  rw [decide_eq_false (by omega)]; exact h
theorem light13_M {l:List RowD} {K:Bool→Prop} (h:∀ b,(b=true→l.length≤20∧∀ r∈l,r.2.1.length≤10∧r.2.2.length≤6)→K b):z9 l K:=by
 intro _
 refine ⟨fun _=>h false (fun e=>by cases e),fun hl=>?_⟩
 refine ⟨fun i=>0≤i∧i≤l.length∧∀ j,j<i.toNat→(l.getD j (0,[],[])).2.1.length≤10∧(l.getD j (0,[],[])).2.2.length≤6,fun i=>((l.length:Int) - i).toNat,⟨by omega,by omega,fun j hj=>by simp at hj⟩,?_⟩
 rintro i ⟨h0,h1,h2⟩
 refine ⟨fun hi=>⟨⟨h0,by omega⟩,fun _=>⟨h0,by omega⟩,fun _=>h false (fun e=>by cases e),fun e=>⟨by simp only [In]; omega,⟨by omega,by omega,fun j hj=>?_⟩,by dsimp only; omega⟩⟩,fun hi=>h true fun _=>⟨by omega,fun r hr=>?_⟩⟩
 ·rw [Bool.or_eq_false_iff,decide_eq_false_iff_not,decide_eq_false_iff_not] at e
  by_cases ej:j=i.toNat
  ·subst ej; omega
  ·exact h2 j (by omega)
 ·obtain ⟨j,hj,rfl⟩:=List.getElem_of_mem hr
  have:=h2 j (by omega)
  rw [zt hj] at this
  exact this
end Go.Proofs.YtjjcdkfhaceicaaGreatDoor
 
namespace Go.Proofs.YtjjcdkfhaceicaaGreatDoor
open Go Go.RowKit
theorem itemQ_new {kf:RV→List UInt8} {t:TQ} {v:RV} (h:kf v∉t.keys):zj kf t v={ t with keys:=t.keys++[kf v],out:=t.out++[v] }:=if_neg h
theorem itemQ_old {kf:RV→List UInt8} {t:TQ} {v:RV} (h:kf v∈t.keys):zj kf t v=t:=if_pos h
def wtQ (t:TQ):Nat:=(t.seen.map fun s=>s.items.length).sum
theorem items_olen {kf:RV→List UInt8}:∀ (l:List RV) (t:TQ),(l.foldl (zj kf) t).out.length≤t.out.length+l.length
 | [],t=>Nat.le_refl _
 | x :: l,t=>by
  rw [List.foldl_cons]
  refine Nat.le_trans (items_olen l _) ?_
  unfold zj
  split <;> simp <;> omega
theorem seen_out (kf:RV→List UInt8):∀ (n:Nat) (o:Int) (s:RO) (t:TQ),(setQ kf n o s t).out.length+wtQ t≤t.out.length+wtQ (setQ kf n o s t)
 | 0,_,_,t=>Nat.le_refl _
 | n+1,o,s,t=>by
  rw [setQ_succ]
  split
  ·exact Nat.le_refl _
  ·have hf:∀ (l:List RV) (u:TQ),(l.foldl (fun t f=>setQ kf n o f.2.2 t) u).out.length+wtQ u≤u.out.length+wtQ (l.foldl (fun t f=>setQ kf n o f.2.2 t) u):=fun l=>by
    induction l with
    | nil=>intro u; exact Nat.le_refl _
    | cons f l ih =>
     intro u
     have h1:=seen_out kf n o f.2.2 u
     have h2:=ih (setQ kf n o f.2.2 u)
     rw [List.foldl_cons]
     omega
   have hw:∀ (l:List RV) (u:TQ),wtQ (l.foldl (zj kf) u)=wtQ u:=fun l u=>by unfold wtQ; rw [items_seen]
   have h1:wtQ { t with seen:=t.seen++[s] }=wtQ t+s.items.length:=by unfold wtQ; simp
   have hp1:=items_olen (kf:=kf) s.items { t with seen:=t.seen++[s] }
   have hp2:=hw s.items { t with seen:=t.seen++[s] }
   have e1:({ t with seen:=t.seen++[s] }:TQ).out=t.out:=rfl
   rw [e1] at hp1
   have hff:=hf (frQ o s) (preQ kf o s { t with seen:=t.seen++[s] })
   generalize hT:(frQ o s).foldl (fun t f=>setQ kf n o f.2.2 t) (preQ kf o s { t with seen:=t.seen++[s] })=T at hff ⊢
   unfold preQ at hff
   unfold postQ
   have q1:=items_olen (kf:=kf) s.items T
   have q2:=items_olen (kf:=kf) s.items.reverse T
   have q3:=hw s.items T
   have q4:=hw s.items.reverse T
   rw [List.length_reverse] at q2
   by_cases h0:o=0∨o=1
   ·rw [if_pos h0]
    split at hff
    ·omega
    ·rw [e1] at hff; omega
   ·rw [if_neg h0]
    rw [if_neg (by omega),e1] at hff
    split <;> omega
theorem sum_le10 {l:List RO} (h:∀ s∈l,s.items.length≤10):(l.map fun s=>s.items.length).sum≤l.length*10:=by
 induction l with
 | nil=>simp
 | cons s l ih =>
  have:=ih fun x hx=>h x (List.mem_cons_of_mem _ hx)
  have:=h s List.mem_cons_self
  simp only [List.map_cons,List.sum_cons,List.length_cons,Nat.succ_mul]
  omega
theorem mir_fuel {kf:RV→List UInt8} {P:List (PS × RV)} (M:MirP P) (o:Int):∀ (n m:Nat),n≤m→∀ q∈P,depO n q.2.2.2→∀ t,setQ kf m o q.2.2.2 t=setQ kf n o q.2.2.2 t:=by
 intro n
 induction n with
 | zero =>
  intro m _ q hq hd
  obtain ⟨_,_,_,_,_,e⟩:=RO.cases_ne (M.ok q hq).bn
  rw [e] at hd; exact hd.elim
 | succ n ih =>
  intro m hm q hq hd t
  obtain ⟨m',rfl⟩:∃ m',m=m'+1:=⟨m - 1,by omega⟩
  obtain ⟨n',en,hf⟩:=depO_succ (M.ok q hq).bn hd
  obtain rfl:n=n':=by omega
  obtain ⟨l,hl,_,f2⟩:=(M.ok q hq).fr
  have key:∀ (l':List RV),(∀ f∈l',f∈q.2.2.2.fr)→∀ u:TQ,l'.foldl (fun t f=>setQ kf m' o f.2.2 t) u=l'.foldl (fun t f=>setQ kf n o f.2.2 t) u:=fun l'=>by
   induction l' with
   | nil=>intro _ u; rfl
   | cons f l' ihl =>
    intro h u
    have hf1:=h f List.mem_cons_self
    have hf2:=hf1
    rw [f2] at hf2
    obtain ⟨p,hp,rfl⟩:=List.mem_map.1 hf2
    rw [List.foldl_cons,List.foldl_cons,ih m' (by omega) p (hl p hp) (hf _ hf1) u]
    exact ihl (fun g hg=>h g (List.mem_cons_of_mem _ hg)) _
  rw [setQ_succ,setQ_succ,key (frQ o q.2.2.2) fun f hf=>by unfold frQ at hf; split at hf; exact hf; exact List.mem_reverse.1 hf]
theorem mir_fuel2 {kf:RV→List UInt8} {P:List (PS × RV)} (M:MirP P) {n m:Nat} {q:PS × RV} (hq:q∈P) (hn:depO n q.2.2.2) (hm:depO m q.2.2.2):allQ kf n q.2.2.2=allQ kf m q.2.2.2:=by
 have:∀ o t,setQ kf n o q.2.2.2 t=setQ kf m o q.2.2.2 t:=fun o t=>by
  rcases Nat.le_total n m with h | h
  ·exact (mir_fuel M o n m h q hq hn t).symm
  ·exact mir_fuel M o m n h q hq hm t
 unfold allQ
 rw [this]
theorem mir_reach {P:List (PS × RV)} (M:MirP P) {s y:RO} (hs:s=.nil∨∃ p∈P,p.2.2.2=s) (hr:RRch s y):y=.nil∨∃ p∈P,p.2.2.2=y:=by
 induction hr with
 | refl=>exact hs
 | @step x f hx hf ih =>
  rcases ih with rfl | ⟨p,hp,rfl⟩
  ·rcases hf with hf | hf <;> cases hf
  ·rcases hf with hf | hf
   ·exact .inl ((M.ok p hp).itm f hf).obj
   ·obtain ⟨l,hl,_,f2⟩:=(M.ok p hp).fr
    rw [f2] at hf
    obtain ⟨p',hp',rfl⟩:=List.mem_map.1 hf
    exact .inr ⟨p',hl p' hp',rfl⟩
theorem mir_nonil {P:List (PS × RV)} (M:MirP P) {p:PS × RV} (hp:p∈P) {f:RV} (hf:f∈p.2.2.2.fr):f.2.2≠.nil:=by
 obtain ⟨l,hl,_,f2⟩:=(M.ok p hp).fr
 rw [f2] at hf
 obtain ⟨p',hp',rfl⟩:=List.mem_map.1 hf
 exact (M.ok p' (hl p' hp')).bn
theorem new_ordB {order:Int} {own:List PV} {fr:List PS} {K:PS→Er→Prop} (ho:order<1∨3<order) (hK:K .nil (.e 3)):qq order own fr K:=by
 intro _ _
 refine ⟨fun _=>hK,fun e=>?_⟩
 rw [Bool.or_eq_false_iff,decide_eq_false_iff_not,decide_eq_false_iff_not] at e
 omega
theorem new_badG {order:Int} {own:List PV} {fr:List PS} {K:PS→Er→Prop} (ho:1≤order∧order≤3) (hown:∀ v∈own,∃ z,v=.int z∧(txt z).length≤30) (hol:own.length+fr.length≤1024)
  (hfr:∀ f∈fr,f≠.nil ∧ -10≤f.deep∧f.deep<1000) (hb:∃ f∈fr,¬ (f.order=order∨f.order=1∨order=1)) (hK:K .nil (.e 3)):qq order own fr K:=by
 intro _ _
 refine ⟨fun e=>?_,fun _=>light_M (by omega) (fun v hv=>.inr ?_) ⟨fun e=>(by cases e),fun _=>clone_MS (by omega) ?_⟩⟩
 ·exfalso
  rw [Bool.or_eq_true,decide_eq_true_eq,decide_eq_true_eq] at e
  omega
 ·obtain ⟨z,h,_⟩:=hown v hv
  exact ⟨z,h⟩
 refine ⟨fun i a b m=>0≤i∧i≤own.length∧a=(ownT (own.take i.toNat) ts0).out∧b=(ownT (own.take i.toNat) ts0).keys∧m=(ownT (own.take i.toNat) ts0).keys.map fun x=>(x,true),
  fun i _ _ _=>((own.length:Int) - i).toNat,⟨by omega,by omega,rfl,rfl,rfl⟩,?_⟩
 rintro i _ _ _ ⟨h0,h1,rfl,rfl,rfl⟩
 refine ⟨fun hi=>?_,fun hi=>?_⟩
 ·have hlt:i.toNat<own.length:=by omega
  obtain ⟨z,hz,htz⟩:=hown own[i.toNat] (List.getElem_mem hlt)
  have hol':=ownT_olen (own.take i.toNat) ts0
  have htl:(own.take i.toNat).length≤1024:=by rw [List.length_take]; omega
  have hkl:(ownT (own.take i.toNat) ts0).keys.length=(ownT (own.take i.toNat) ts0).out.length:=by rw [ownT_keys _ _ rfl,List.length_map]
  have h00:ts0.out.length=0:=rfl
  refine ⟨fun a b m=>a=(ownT (own.take (i.toNat+1)) ts0).out∧b=(ownT (own.take (i.toNat+1)) ts0).keys∧m=(ownT (own.take (i.toNat+1)) ts0).keys.map fun x=>(x,true),⟨⟨h0,by omega⟩,?_⟩,?_⟩
  ·rw [zt hlt,ownT_snoc _ _ _ hlt,hz]
   refine key_int (by omega) ⟨fun e=>absurd rfl e,fun _=>⟨by simp [keyP,maxLen]; omega,fun e=>?_,fun e=>?_⟩⟩
   ·replace e:=mget_out (by rw [Bool.not_eq_true'] at e; exact e)
    refine ⟨⟨by simp [keyP,maxLen]; omega,by simp [maxLen]; omega⟩,True,⟨by simp; omega,by simp; omega,trivial⟩,fun _=>?_⟩
    unfold stepT
    rw [if_neg e,mput_true e]
    exact ⟨rfl,rfl,rfl⟩
   ·replace e:=mget_in (by rw [Bool.not_eq_false'] at e; exact e)
    unfold stepT
    rw [if_pos e]
    exact ⟨rfl,rfl,rfl⟩
  ·rintro _ _ _ ⟨rfl,rfl,rfl⟩
   refine ⟨by simp only [In]; omega,⟨by omega,by omega,?_⟩,by dsimp only; omega⟩
   rw [show (i+1).toNat=i.toNat+1 by omega]
   exact ⟨rfl,rfl,rfl⟩
 ·refine ⟨fun k d e=>0≤k∧k≤fr.length∧∀ j,j<k.toNat→∀ f,fr[j]?=some f→f.order=order∨f.order=1∨order=1,fun k _ _=>((fr.length:Int) - k).toNat,⟨by omega,by omega,fun j hj=>by simp at hj⟩,?_⟩
  rintro k d e ⟨k0,k1,k2⟩
  refine ⟨fun hk=>?_,fun hk=>?_⟩
  ·have hlt:k.toNat<fr.length:=by omega
   obtain ⟨f1,f3,f4⟩:=hfr _ (List.getElem_mem hlt)
   rw [zt hlt]
   refine ⟨⟨k0,by omega⟩,f1,fun _=>hK,fun e=>⟨by simp only [In]; omega,by simp only [In]; omega,⟨by omega,by omega,fun j hj f hf=>?_⟩,by dsimp only; omega⟩⟩
   by_cases ej:j=k.toNat
   ·subst ej
    rw [List.getElem?_eq_getElem hlt] at hf
    cases hf
    simp only [Bool.and_eq_false_iff,Bool.not_eq_false',decide_eq_true_eq] at e
    rcases e with (e | e) | e
    ·exact .inl e
    ·exact .inr (.inl e)
    ·exact .inr (.inr e)
   ·exact k2 j (by omega) f hf
  ·exfalso
   obtain ⟨f,hf,hn⟩:=hb
   obtain ⟨j,hj,rfl⟩:=List.getElem_of_mem hf
   exact hn (k2 j (by omega) _ (List.getElem?_eq_getElem hj))
theorem newR_ord {order:Int} {own fr:List RV} {K:RV→Int→Prop} (ho:order<1∨3<order) (hK:K rv0 104):zy order own fr K:=by
 intro _ _
 refine ⟨fun _=>hK,fun e=>?_⟩
 rw [Bool.or_eq_false_iff,decide_eq_false_iff_not,decide_eq_false_iff_not] at e
 omega
theorem deepQ_bd:∀ (fr:List RV) (d m:Int),0≤d→d≤m→(∀ f∈fr,f.2.2.deep<m)→0≤fr.foldl (fun d f=>if d<f.2.2.deep+1 then f.2.2.deep+1 else d) d∧fr.foldl (fun d f=>if d<f.2.2.deep+1 then f.2.2.deep+1 else d) d≤m
 | [],d,m,h0,h1,_=>⟨h0,h1⟩
 | f :: fr,d,m,h0,h1,h=>by
  have:=h f List.mem_cons_self
  refine deepQ_bd fr _ m ?_ ?_ fun g hg=>h g (List.mem_cons_of_mem _ hg)
  ·dsimp only; split <;> omega
  ·dsimp only; split <;> omega
theorem newR_G {order:Int} {own fr:List RV} {K:RV→Int→Prop} (ho:1≤order∧order≤3) (hown:∀ x∈own,OkN x∧(txt (zR x)).length≤20) (hol:own.length≤100) (hfl:fr.length≤100)
  (hfr:∀ f∈fr,f.2.2≠.nil∧0≤f.2.2.deep∧f.2.2.deep<900)
  (hbad:(∃ f∈fr,¬ (f.2.2.order=order∨f.2.2.order=1∨order=1))→K rv0 104)
  (hgood:(∀ f∈fr,f.2.2.order=order∨f.2.2.order=1∨order=1)→((∀ g,NoNil (.mk g (dedQ keyR own) order fr 0))∧∀ g n,depO n (.mk g (dedQ keyR own) order fr 0) →
   (setQ (fun _=>[]) n 0 (.mk g (dedQ keyR own) order fr 0) tq0).seen.length≤100∧wtQ (setQ (fun _=>[]) n 0 (.mk g (dedQ keyR own) order fr 0) tq0)≤1000) ∧
   ∀ g,K (10,(false,[]),.mk g (dedQ keyR own) order fr (deepQ fr)) 0):zy order own fr K:=by
 intro _ _
 refine ⟨fun e=>?_,fun _=>rheavy_M (by omega) (fun x hx=>(hown x hx).1) ⟨fun e=>(by cases e),fun _=>?_⟩⟩
 ·exfalso
  rw [Bool.or_eq_true,decide_eq_true_eq,decide_eq_true_eq] at e
  omega
 refine ⟨fun keys i _ _ _ _ _ _ its=>0≤i∧i≤own.length∧keys=((own.take i.toNat).foldl (zj keyR) tq0).keys∧its=((own.take i.toNat).foldl (zj keyR) tq0).out,fun _ i _ _ _ _ _ _ _=>((own.length:Int) - i).toNat,⟨by omega,by omega,rfl,rfl⟩,?_⟩
 rintro _ i _ _ _ _ _ _ _ ⟨h0,h1,rfl,rfl⟩
 have hol':=items_olen (kf:=keyR) (own.take i.toNat) tq0
 have hkl:=items_kl (kf:=keyR) (own.take i.toNat) tq0 rfl
 have htl:(own.take i.toNat).length≤100:=by rw [List.length_take]; omega
 have h00:tq0.out.length=0:=rfl
 refine ⟨fun hi=>?_,fun hi=>?_⟩
 ·have hlt:i.toNat<own.length:=by omega
  obtain ⟨hx,htx⟩:=hown own[i.toNat] (List.getElem_mem hlt)
  have hstep:(own.take (i.toNat+1)).foldl (zj keyR) tq0=zj keyR ((own.take i.toNat).foldl (zj keyR) tq0) own[i.toNat]:=by
   rw [List.take_add_one,List.getElem?_eq_getElem hlt,List.foldl_append]; rfl
  refine ⟨fun keys its=>keys=((own.take (i.toNat+1)).foldl (zj keyR) tq0).keys∧its=((own.take (i.toNat+1)).foldl (zj keyR) tq0).out,⟨⟨h0,by omega⟩,?_⟩,?_⟩
  ·rw [zt hlt]
   refine (keyR_is hx htx).2 _ ⟨fun e=>absurd rfl e,fun _=>amongR_M (by omega) (fun hn=>⟨fun _=>⟨by simp only [List.length_cons,List.length_nil]; omega,⟨h0,by omega⟩,by simp only [List.length_cons,List.length_nil]; omega,?_⟩,fun e=>absurd (by decide) e⟩) (fun j hj hm=>⟨fun e=>absurd e (by omega),fun _=>?_⟩)⟩
   ·rw [hstep,itemQ_new hn]
    exact ⟨rfl,rfl⟩
   ·rw [hstep,itemQ_old hm]
    exact ⟨rfl,rfl⟩
  ·rintro _ _ ⟨rfl,rfl⟩
   refine ⟨by simp only [In]; omega,⟨by omega,by omega,?_⟩,by dsimp only; omega⟩
   rw [show (i+1).toNat=i.toNat+1 by omega]
   exact ⟨rfl,rfl⟩
 ·have e1:own.take i.toNat=own:=List.take_of_length_le (by omega)
  rw [e1]
  refine ⟨fun d k _ _ _ _ _ _ f=>0≤k∧k≤fr.length∧d=deepQ (fr.take k.toNat)∧f=fr.take k.toNat∧∀ j,j<k.toNat→∀ f,fr[j]?=some f→f.2.2.order=order∨f.2.2.order=1∨order=1,fun _ k _ _ _ _ _ _ _=>((fr.length:Int) - k).toNat,⟨by omega,by omega,rfl,rfl,fun j hj=>by simp at hj⟩,?_⟩
  rintro _ k _ _ _ _ _ _ _ ⟨k0,k1,rfl,rfl,k2⟩
  refine ⟨fun hk=>?_,fun hk=>?_⟩
  ·have hlt:k.toNat<fr.length:=by omega
   have hfm:=List.getElem_mem hlt
   obtain ⟨f1,f3,f4⟩:=hfr _ hfm
   rw [zt hlt]
   refine ⟨⟨k0,by omega⟩,f1,fun e=>hbad ⟨_,hfm,fun h=>?_⟩,fun e=>⟨by simp only [In]; omega,⟨k0,by omega⟩,by simp only [List.length_take,List.length_cons,List.length_nil]; omega,by simp only [In]; omega,⟨by omega,by omega,?_,?_,fun j hj f hf=>?_⟩,by dsimp only; omega⟩⟩
   ·simp only [Bool.and_eq_true,Bool.not_eq_true',decide_eq_false_iff_not] at e
    rcases h with h | h | h
    ·exact e.1.1 h
    ·exact e.1.2 h
    ·exact e.2 h
   ·rw [show (k+1).toNat=k.toNat+1 by omega,List.take_add_one,List.getElem?_eq_getElem hlt]
    unfold deepQ
    rw [List.foldl_append]; rfl
   ·rw [show (k+1).toNat=k.toNat+1 by omega,List.take_add_one,List.getElem?_eq_getElem hlt]; rfl
   ·by_cases ej:j=k.toNat
    ·subst ej
     rw [List.getElem?_eq_getElem hlt] at hf
     cases hf
     simp only [Bool.and_eq_false_iff,Bool.not_eq_false',decide_eq_true_eq] at e
     rcases e with (e | e) | e
     ·exact .inl e
     ·exact .inr (.inl e)
     ·exact .inr (.inr e)
    ·exact k2 j (by omega) f hf
  ·have e2:fr.take k.toNat=fr:=List.take_of_length_le (by omega)
   rw [e2]
   obtain ⟨⟨g1,g2⟩,g3⟩:=hgood fun f hf=>by
    obtain ⟨j,hj,rfl⟩:=List.getElem_of_mem hf
    exact k2 j (by omega) _ (List.getElem?_eq_getElem hj)
   have hd:=deepQ_bd fr 0 1000 (by omega) (by omega) fun f hf=>by have:=(hfr f hf).2.2; omega
   have hd':deepQ fr≤1000:=hd.2
   refine ⟨g1,fun g n hn=>?_⟩
   obtain ⟨a,b⟩:=g2 g n hn
   unfold wtQ at b
   refine ⟨Nat.le_trans a (by omega),Nat.le_trans b (by omega),fun _=>by simp only [In]; omega,fun e=>?_,fun _=>g3⟩
   exfalso
   simp only [Bool.or_eq_true,decide_eq_true_eq] at e
   have e':((1000:Int)<deepQ fr∨(1024:Int) - fr.length<own.length)∨(1024:Int)<(((setQ (fun _=>[]) n 0 (.mk g (dedQ keyR own) order fr 0) tq0).seen.map fun s=>s.items.length).sum:Nat):=e
   omega
end Go.Proofs.YtjjcdkfhaceicaaGreatDoor
 
namespace Go.Proofs.YtjjcdkfhaceicaaGreatDoor
open Go Go.RowKit
theorem mir_closed {P:List (PS × RV)} (M:MirP P):∀ y∈P.map (fun q=>q.2.2.2),∀ f∈y.fr,f.2.2∈P.map (fun q=>q.2.2.2):=fun y hy f hf=>by
 obtain ⟨p,hp,rfl⟩:=List.mem_map.1 hy
 obtain ⟨l,hl,_,f2⟩:=(M.ok p hp).fr
 rw [f2] at hf
 obtain ⟨p',hp',rfl⟩:=List.mem_map.1 hf
 exact List.mem_map.2 ⟨p',hl p' hp',rfl⟩
theorem mir_allIn {P:List (PS × RV)} (M:MirP P) {q:PS × RV} (hq:q∈P):AllIn q.1 (P.map Prod.fst):=by
 refine ⟨List.mem_map.2 ⟨q,hq,rfl⟩,fun x hx=>?_,fun x hx f hf=>?_⟩
 ·obtain ⟨v,hv,rfl⟩:=List.mem_map.1 hx
  exact (M.ok v hv).an
 ·obtain ⟨v,hv,rfl⟩:=List.mem_map.1 hx
  obtain ⟨l,hl,f1,_⟩:=(M.ok v hv).fr
  rw [f1] at hf
  obtain ⟨p',hp',rfl⟩:=List.mem_map.1 hf
  exact List.mem_map.2 ⟨p',hl p' hp',rfl⟩
theorem reach_under {s f x:PS} (hf:f∈s.fr) (h:zV f x):zV s x:=by
 induction h with
 | refl=>exact .step .refl hf
 | step _ hg ih=>exact .step ih hg
structure InvD (P:List (PS × RV)) (n:Nat):Prop where
 M:MirP P
 len:P.length≤n
 ord:∀ q∈P,1≤q.1.order∧q.1.order≤3
 its:∀ q∈P,q.2.2.2.items.length≤10∧∀ x∈q.2.2.2.items,(txt (zR x)).length≤20
 deep:∀ q∈P,0≤q.1.deep∧q.1.deep<P.length
 emp:∀ q∈P,(q.1.empty=true↔∀ y,zV q.1 y→y.own=[])
theorem InvD.nil:InvD [] 0:=⟨⟨List.nodup_nil,List.nodup_nil,fun _ h=>by cases h⟩,Nat.le_refl _,fun _ h=>(by cases h),fun _ h=>(by cases h),fun _ h=>(by cases h),fun _ h=>(by cases h)⟩
theorem InvD.mono {P:List (PS × RV)} {n m:Nat} (h:InvD P n) (k:n≤m):InvD P m:=⟨h.M,Nat.le_trans h.len k,h.ord,h.its,h.deep,h.emp⟩
theorem items_sub {kf:RV→List UInt8}:∀ (l:List RV) (t:TQ),∀ x∈(l.foldl (zj kf) t).out,x∈t.out∨x∈l
 | [],_,_,h=>.inl h
 | v :: l,t,x,h=>by
  rw [List.foldl_cons] at h
  rcases items_sub l _ x h with h | h
  ·unfold zj at h
   split at h
   ·exact .inl h
   ·rcases List.mem_append.1 h with h | h
    ·exact .inl h
    ·exact .inr (by rw [List.mem_singleton.1 h]; exact List.mem_cons_self)
  ·exact .inr (List.mem_cons_of_mem _ h)
theorem dedQ_sub {l:List RV} {x:RV} (h:x∈dedQ keyR l):x∈l:=(items_sub l tq0 x h).resolve_left (by simp [tq0])
theorem dedQ_len (l:List RV):(dedQ keyR l).length≤l.length:=by
 have:=items_olen (kf:=keyR) l tq0
 have h0:tq0.out.length=0:=rfl
 show (l.foldl (zj keyR) tq0).out.length≤_
 omega
theorem emptyF_iff:∀ (fr:List PS) (b:Bool),(fr.foldl (fun e f=>e && f.empty) b=true↔b=true∧∀ f∈fr,f.empty=true)
 | [],b=>by simp
 | f :: fr,b=>by
  rw [List.foldl_cons,emptyF_iff fr,Bool.and_eq_true]
  constructor
  ·rintro ⟨⟨a,c⟩,d⟩
   refine ⟨a,fun g hg=>?_⟩
   rcases List.mem_cons.1 hg with rfl | hg
   ·exact c
   ·exact d g hg
  ·rintro ⟨a,c⟩
   exact ⟨⟨a,c f List.mem_cons_self⟩,fun g hg=>c g (List.mem_cons_of_mem _ hg)⟩
theorem deep_eq:∀ (J:List (PS × RV)) (d:Int),(∀ p∈J,p.1.deep=p.2.2.2.deep)→(J.map Prod.fst).foldl (fun d f=>if d<f.deep+1 then f.deep+1 else d) d=(J.map Prod.snd).foldl (fun d f=>if d<f.2.2.deep+1 then f.2.2.deep+1 else d) d
 | [],_,_=>rfl
 | p :: J,d,h=>by
  simp only [List.map_cons,List.foldl_cons]
  rw [h p List.mem_cons_self]
  exact deep_eq J _ fun q hq=>h q (List.mem_cons_of_mem _ hq)
def newA (g:Nat) (o:Int) (mine:List RV) (J:List (PS × RV)):PS:=.mk g o (dedP (mine.map pvR)) (J.map Prod.fst) (deepF (J.map Prod.fst)) (emptyF (dedP (mine.map pvR)) (J.map Prod.fst))
def newB (g:Nat) (o:Int) (mine:List RV) (J:List (PS × RV)):RV:=(10,(false,[]),.mk g (dedQ keyR mine) o (J.map Prod.snd) (deepQ (J.map Prod.snd)))
theorem ded_eq {mine:List RV} (hok:∀ x∈mine,OkN x):dedP (mine.map pvR)=(dedQ keyR mine).map pvR∧∀ x∈dedQ keyR mine,OkN x:=by
 have h:=sim_items (P:=[]) keyR_iff mine sim0 hok
 exact ⟨h.out,h.ok⟩
theorem InvD.add {P:List (PS × RV)} {n g g':Nat} {o:Int} {mine:List RV} {J:List (PS × RV)} (h:InvD P n) (ho:1≤o∧o≤3) (hok:∀ x∈mine,OkN x) (ht:∀ x∈mine,(txt (zR x)).length≤20) (hl:mine.length≤10) (hJ:∀ p∈J,p∈P)
  (fa:∀ q∈P,q.1.id≠g) (fb:∀ q∈P,q.2.2.2.id≠g'):InvD (P++[(newA g o mine J,newB g' o mine J)]) (n+1):=by
 obtain ⟨d1,d2⟩:=ded_eq hok
 have hdl:=dedQ_len mine
 have hmem:∀ {q:PS × RV},q∈P++[(newA g o mine J,newB g' o mine J)]→q∈P∨q=(newA g o mine J,newB g' o mine J):=fun {q} hq=>by
  rcases List.mem_append.1 hq with hq | hq
  ·exact .inl hq
  ·exact .inr (List.mem_singleton.1 hq)
 have hdp:=deepF_bd (J.map Prod.fst) 0 P.length (by omega) (by omega) fun f hf=>by
  obtain ⟨p,hp,rfl⟩:=List.mem_map.1 hf
  exact (h.deep p (hJ p hp)).2
 refine ⟨⟨?_,?_,fun q hq=>?_⟩,?_,fun q hq=>?_,fun q hq=>?_,fun q hq=>?_,fun q hq=>?_⟩
 ·rw [List.map_append,List.nodup_append]
  refine ⟨h.M.nda,by simp,fun a ha b hb e=>?_⟩
  obtain ⟨v,hv,rfl⟩:=List.mem_map.1 ha
  rw [List.map_cons,List.map_nil,List.mem_singleton] at hb
  exact fa v hv (e.trans hb)
 ·rw [List.map_append,List.nodup_append]
  refine ⟨h.M.ndb,by simp,fun a ha b hb e=>?_⟩
  obtain ⟨v,hv,rfl⟩:=List.mem_map.1 ha
  rw [List.map_cons,List.map_nil,List.mem_singleton] at hb
  exact fb v hv (e.trans hb)
 ·rcases hmem hq with hq | rfl
  ·exact (h.M.ok q hq).mono fun p hp=>List.mem_append_left _ hp
  ·exact ⟨(by intro e; cases e),(by intro e; cases e),d2,d1,rfl,deep_eq J 0 fun p hp=>(h.M.ok p (hJ p hp)).deep,J,fun p hp=>List.mem_append_left _ (hJ p hp),rfl,rfl⟩
 ·have:=h.len
  simp; omega
 ·rcases hmem hq with hq | rfl
  ·exact h.ord q hq
  ·exact ho
 ·rcases hmem hq with hq | rfl
  ·exact h.its q hq
  ·exact ⟨by show (dedQ keyR mine).length≤10; omega,fun x hx=>ht x (dedQ_sub hx)⟩
 ·have e:(P++[(newA g o mine J,newB g' o mine J)]).length=P.length+1:=by simp
  rw [e]
  rcases hmem hq with hq | rfl
  ·have:=h.deep q hq
   omega
  ·show 0≤deepF (J.map Prod.fst)∧deepF (J.map Prod.fst)<_
   have h1:0≤deepF (J.map Prod.fst):=hdp.1
   have h2:deepF (J.map Prod.fst)≤P.length:=hdp.2
   omega
 ·rcases hmem hq with hq | rfl
  ·exact h.emp q hq
  ·show emptyF (dedP (mine.map pvR)) (J.map Prod.fst)=true↔_
   unfold emptyF
   rw [emptyF_iff,decide_eq_true_eq]
   constructor
   ·rintro ⟨a,c⟩ y hy
    rcases reach_split hy with rfl | ⟨f,hf,hr⟩
    ·exact List.length_eq_zero_iff.1 (by show (dedP (mine.map pvR)).length=0; omega)
    ·have hf':f∈J.map Prod.fst:=hf
     have hce:=c f hf'
     obtain ⟨p,hp,rfl⟩:=List.mem_map.1 hf'
     exact (h.emp p (hJ p hp)).1 hce y hr
   ·intro c
    refine ⟨?_,fun f hf=>?_⟩
    ·have:dedP (mine.map pvR)=[]:=c _ .refl
     rw [this]; rfl
    ·obtain ⟨p,hp,rfl⟩:=List.mem_map.1 hf
     refine (h.emp p (hJ p hp)).2 fun y hy=>c y ?_
     exact reach_under hf hy
theorem told_same {P:List (PS × RV)} {N:Nat} (h:InvD P N) (hN:N≤20) {q:PS × RV} (hq:q∈P) :
  (∀ n,dep n q.1→(zH n q.1.order q.1 ts0).sets.length≤100000∧(zH n q.1.order q.1 ts0).out.length≤1024)∧NoNil q.2.2.2∧(∀ s,RRch q.2.2.2 s→∀ x∈s.items,KeyIs x (keyR x)) ∧
  (∀ o n,(setQ keyR n o q.2.2.2 tq0).seen.length≤100000∧(setQ keyR n o q.2.2.2 tq0).out.length≤1024)∧(∀ n,(setQ (fun _=>[]) n 0 q.2.2.2 tq0).seen.length≤100000):=by
 have hlen:=h.len
 have hsl:∀ (kf:RV→List UInt8) (o:Int) (n:Nat),(setQ kf n o q.2.2.2 tq0).seen.length≤20∧(setQ kf n o q.2.2.2 tq0).out.length≤200:=fun kf o n=>by
  obtain ⟨a,b⟩:=seen_len (kf:=kf) (mir_closed h.M) o n (s:=q.2.2.2) (List.mem_map.2 ⟨q,hq,rfl⟩)
  rw [List.length_map] at a
  have c:=seen_out kf n o q.2.2.2 tq0
  have d:=sum_le10 (l:=(setQ kf n o q.2.2.2 tq0).seen) fun s hs=>by
   obtain ⟨p,hp,rfl⟩:=List.mem_map.1 (b s hs)
   exact (h.its p hp).1
  have e:wtQ (setQ kf n o q.2.2.2 tq0)=((setQ kf n o q.2.2.2 tq0).seen.map fun s=>s.items.length).sum:=rfl
  have e0:wtQ tq0=0:=rfl
  have e1:tq0.out.length=0:=rfl
  omega
 refine ⟨fun n hn=>?_,fun y hy f hf=>?_,fun s hs x hx=>?_,fun o n=>?_,fun n=>?_⟩
 ·have S:=sim_set h.M keyR_iff (h.ord q hq) n q hq ts0 tq0 sim0
  obtain ⟨V,_,e1,e2⟩:=S.vis
  have h1:(zH n q.1.order q.1 ts0).sets.length=(setQ keyR n q.1.order q.2.2.2 tq0).seen.length:=by rw [e1,e2,List.length_map,List.length_map]
  have h2:(zH n q.1.order q.1 ts0).out.length=(setQ keyR n q.1.order q.2.2.2 tq0).out.length:=by rw [S.out,List.length_map]
  have:=hsl keyR q.1.order n
  omega
 ·rcases mir_reach h.M (.inr ⟨q,hq,rfl⟩) hy with rfl | ⟨p,hp,rfl⟩
  ·cases hf
  ·exact mir_nonil h.M hp hf
 ·rcases mir_reach h.M (.inr ⟨q,hq,rfl⟩) hs with rfl | ⟨p,hp,rfl⟩
  ·cases hx
  ·exact keyR_is ((h.M.ok p hp).itm x hx) ((h.its p hp).2 x hx)
 ·have:=hsl keyR o n
  omega
 ·have:=hsl (fun _=>[]) 0 n
  omega
theorem row_M {P:List (PS × RV)} {N:Nat} {o:Int} {mine:List RV} {J:List (PS × RV)} {R:PS→Er→Prop} (h:InvD P N) (hN:N<20) (hok:∀ x∈mine,OkN x) (ht:∀ x∈mine,(txt (zR x)).length≤20) (hl:mine.length≤10) (hJ:∀ p∈J,p∈P) (hJl:J.length≤6)
  (bad:((1≤o∧o≤3)→∃ p∈J,¬ (p.1.order=o∨p.1.order=1∨o=1))→R .nil (.e 3)) (good:(1≤o∧o≤3)→(∀ p∈J,p.1.order=o∨p.1.order=1∨o=1)→∀ g,R (newA g o mine J) .ok):qq o (mine.map pvR) (J.map Prod.fst) R:=by
 obtain ⟨d1,d2⟩:=ded_eq hok
 have hdl:=dedQ_len mine
 have hlen:=h.len
 by_cases ho:1≤o∧o≤3
 ·have hown:∀ v∈mine.map pvR,∃ z,v=.int z∧(txt z).length≤30:=fun v hv=>by
   obtain ⟨x,hx,rfl⟩:=List.mem_map.1 hv
   exact ⟨zR x,rfl,Nat.le_trans (ht x hx) (by omega)⟩
  have hd:∀ f∈J.map Prod.fst,f≠.nil ∧ -10≤f.deep∧f.deep<1000:=fun f hf=>by
   obtain ⟨p,hp,rfl⟩:=List.mem_map.1 hf
   have:=h.deep p (hJ p hp)
   exact ⟨(h.M.ok p (hJ p hp)).an,by omega,by omega⟩
  have hlen2:(mine.map pvR).length+(J.map Prod.fst).length≤1024:=by rw [List.length_map,List.length_map]; omega
  by_cases hf:∀ p∈J,p.1.order=o∨p.1.order=1∨o=1
  ·refine new_M ho hown hlen2 (fun f hf'=>?_) (fun g=>?_) (fun f hf' y hy=>?_) (fun g=>good ho hf g)
   ·obtain ⟨a,b,c⟩:=hd f hf'
    obtain ⟨p,hp,rfl⟩:=List.mem_map.1 hf'
    exact ⟨a,hf p hp,b,c⟩
   ·have hA:AllIn (newA g o mine J) (newA g o mine J :: P.map Prod.fst):=by
     refine ⟨List.mem_cons_self,fun x hx=>?_,fun x hx f hf=>?_⟩
     ·rcases List.mem_cons.1 hx with rfl | hx
      ·intro e; cases e
      ·obtain ⟨v,hv,rfl⟩:=List.mem_map.1 hx
       exact (h.M.ok v hv).an
     ·rcases List.mem_cons.1 hx with rfl | hx
      ·have hf:f∈J.map Prod.fst:=hf
       obtain ⟨p,hp,rfl⟩:=List.mem_map.1 hf
       exact List.mem_cons_of_mem _ (List.mem_map.2 ⟨p,hJ p hp,rfl⟩)
      ·obtain ⟨v,hv,rfl⟩:=List.mem_map.1 hx
       exact List.mem_cons_of_mem _ ((mir_allIn h.M hv).cl v.1 (List.mem_map.2 ⟨v,hv,rfl⟩) f hf)
    refine (hA.few (n:=21) (k:=10) (by simp; omega) fun x hx=>?_).mono (by omega) (by omega)
    rcases List.mem_cons.1 hx with rfl | hx
    ·show (dedP (mine.map pvR)).length≤10
     rw [d1,List.length_map]; omega
    ·obtain ⟨v,hv,rfl⟩:=List.mem_map.1 hx
     rw [(h.M.ok v hv).own,List.length_map]
     exact (h.its v hv).1
   ·obtain ⟨p,hp,rfl⟩:=List.mem_map.1 hf'
    exact (mir_allIn h.M (hJ p hp)).nn y ((mir_allIn h.M (hJ p hp)).reach y hy)
  ·have hb:∃ p∈J,¬ (p.1.order=o∨p.1.order=1∨o=1):=by
    rcases Classical.not_forall.1 hf with ⟨p,hp⟩
    rcases Classical.not_imp.1 hp with ⟨hp,hn⟩
    exact ⟨p,hp,hn⟩
   refine new_badG ho hown hlen2 hd ?_ (bad fun _=>hb)
   obtain ⟨p,hp,hn⟩:=hb
   exact ⟨p.1,List.mem_map.2 ⟨p,hp,rfl⟩,hn⟩
 ·exact new_ordB (by omega) (bad fun h=>absurd h ho)
theorem row_R {P:List (PS × RV)} {N:Nat} {o:Int} {mine:List RV} {J:List (PS × RV)} {R:RV→Int→Prop} (h:InvD P N) (hN:N<20) (ho:1≤o∧o≤3) (hok:∀ x∈mine,OkN x) (ht:∀ x∈mine,(txt (zR x)).length≤20) (hl:mine.length≤10) (hJ:∀ p∈J,p∈P) (hJl:J.length≤6)
  (hbad:(∃ p∈J,¬ (p.1.order=o∨p.1.order=1∨o=1))→R rv0 104) (hgood:(∀ p∈J,p.1.order=o∨p.1.order=1∨o=1)→∀ g,R (newB g o mine J) 0):zy o mine (J.map Prod.snd) R:=by
 obtain ⟨d1,d2⟩:=ded_eq hok
 have hdl:=dedQ_len mine
 have hlen:=h.len
 refine newR_G ho (fun x hx=>⟨hok x hx,ht x hx⟩) (by omega) (by rw [List.length_map]; omega) (fun f hf=>?_) (fun hb=>?_) (fun hf=>⟨⟨fun g y hy f hf=>?_,fun g n hn=>?_⟩,hgood fun p hp=>?_⟩)
 ·obtain ⟨p,hp,rfl⟩:=List.mem_map.1 hf
  have h1:=h.deep p (hJ p hp)
  have h2:=(h.M.ok p (hJ p hp)).deep
  exact ⟨(h.M.ok p (hJ p hp)).bn,by omega,by omega⟩
 ·obtain ⟨f,hf,hn⟩:=hb
  obtain ⟨p,hp,rfl⟩:=List.mem_map.1 hf
  refine hbad ⟨p,hp,?_⟩
  rw [(h.M.ok p (hJ p hp)).ord]; exact hn
 ·have key:∀ {y:RO},RRch (.mk g (dedQ keyR mine) o (J.map Prod.snd) 0) y→y=.nil∨(∃ p∈P,p.2.2.2=y)∨y=.mk g (dedQ keyR mine) o (J.map Prod.snd) 0:=fun {y} hy=>by
   induction hy with
   | refl=>exact .inr (.inr rfl)
   | @step x u hx hu ih =>
    rcases ih with rfl | ⟨p,hp,rfl⟩ | rfl
    ·rcases hu with hu | hu <;> cases hu
    ·rcases mir_reach h.M (.inr ⟨p,hp,rfl⟩) (.step .refl hu) with e | e
     ·exact .inl e
     ·exact .inr (.inl e)
    ·rcases hu with hu | hu
     ·exact .inl (d2 u hu).obj
     ·have hu:u∈J.map Prod.snd:=hu
      obtain ⟨p,hp,rfl⟩:=List.mem_map.1 hu
      exact .inr (.inl ⟨p,hJ p hp,rfl⟩)
  rcases key hy with rfl | ⟨p,hp,rfl⟩ | rfl
  ·cases hf
  ·exact mir_nonil h.M hp hf
  ·have hf:f∈J.map Prod.snd:=hf
   obtain ⟨p,hp,rfl⟩:=List.mem_map.1 hf
   exact (h.M.ok p (hJ p hp)).bn
 ·have hC:∀ y∈(RO.mk g (dedQ keyR mine) o (J.map Prod.snd) 0) :: P.map (fun q=>q.2.2.2),∀ f∈y.fr,f.2.2∈(RO.mk g (dedQ keyR mine) o (J.map Prod.snd) 0) :: P.map (fun q=>q.2.2.2):=fun y hy f hf=>by
   rcases List.mem_cons.1 hy with rfl | hy
   ·have hf:f∈J.map Prod.snd:=hf
    obtain ⟨p,hp,rfl⟩:=List.mem_map.1 hf
    exact List.mem_cons_of_mem _ (List.mem_map.2 ⟨p,hJ p hp,rfl⟩)
   ·exact List.mem_cons_of_mem _ (mir_closed h.M y hy f hf)
  obtain ⟨a,b⟩:=seen_len (kf:=fun _=>[]) hC 0 n (s:=.mk g (dedQ keyR mine) o (J.map Prod.snd) 0) List.mem_cons_self
  have d:=sum_le10 (l:=(setQ (fun _=>[]) n 0 (.mk g (dedQ keyR mine) o (J.map Prod.snd) 0) tq0).seen) fun s hs=>by
   rcases List.mem_cons.1 (b s hs) with rfl | hs
   ·show (dedQ keyR mine).length≤10; omega
   ·obtain ⟨p,hp,rfl⟩:=List.mem_map.1 hs
    exact (h.its p hp).1
  have e:wtQ (setQ (fun _=>[]) n 0 (.mk g (dedQ keyR mine) o (J.map Prod.snd) 0) tq0)=((setQ (fun _=>[]) n 0 (.mk g (dedQ keyR mine) o (J.map Prod.snd) 0) tq0).seen.map fun s=>s.items.length).sum:=rfl
  rw [List.length_cons,List.length_map] at a
  omega
 ·rw [(h.M.ok p (hJ p hp)).ord]
  exact hf p.2 (List.mem_map.2 ⟨p,hp,rfl⟩)
theorem out_pred {kf:RV→List UInt8} {C:RO→Prop} {T:RV→Prop} (hC:∀ y,C y→∀ f∈y.fr,C f.2.2) (hT:∀ y,C y→∀ x∈y.items,T x) (o:Int):∀ (n:Nat) (s:RO) (t:TQ),C s→(∀ x∈t.out,T x)→∀ x∈(setQ kf n o s t).out,T x
 | 0,_,_,_,h=>h
 | n+1,s,t,hs,h=>by
  have hf:∀ (l:List RV),(∀ f∈l,C f.2.2)→∀ (u:TQ),(∀ x∈u.out,T x)→∀ x∈(l.foldl (fun t f=>setQ kf n o f.2.2 t) u).out,T x:=fun l=>by
   induction l with
   | nil=>intro _ u a; exact a
   | cons f l ih =>
    intro hl u a
    exact ih (fun g hg=>hl g (List.mem_cons_of_mem _ hg)) _ (out_pred hC hT o n f.2.2 u (hl f List.mem_cons_self) a)
  have hi:∀ (l:List RV),(∀ x∈l,T x)→∀ (u:TQ),(∀ x∈u.out,T x)→∀ x∈(l.foldl (zj kf) u).out,T x:=fun l hl u a x hx=>by
   rcases items_sub l u x hx with h | h
   ·exact a x h
   ·exact hl x h
  rw [setQ_succ]
  split
  ·exact h
  ·have h1:∀ x∈(preQ kf o s { t with seen:=t.seen++[s] }).out,T x:=by
    unfold preQ
    split
    ·exact hi _ (hT s hs) _ h
    ·exact h
   have h2:=hf (frQ o s) (fun f hf=>by
    unfold frQ at hf
    split at hf
    ·exact hC s hs f hf
    ·exact hC s hs f (List.mem_reverse.1 hf)) _ h1
   unfold postQ
   split
   ·exact h2
   ·refine hi _ (fun x hx=>?_) _ h2
    split at hx
    ·exact hT s hs x hx
    ·exact hT s hs x (List.mem_reverse.1 hx)
theorem says_dk {l:List RowD} {K:Bool→Prop} (hl:∀ x∈l,(In .i64 x.1)∧(x.2.1.length≤maxLen∧∀ s∈x.2.1,In .i64 s)∧(x.2.2.length≤maxLen∧∀ s∈x.2.2,In .i64 s)) (H:K true):zZ l K:=by
 intro _
 refine first_M ⟨fun e=>(by cases e),fun _=>light13_M fun b hb=>⟨fun _=>H,fun e=>?_⟩⟩
 obtain ⟨hl20,hlr⟩:=hb (by cases b <;> simp at e ⊢)
 refine ⟨fun a b i=>0≤i∧i≤l.length∧∃ P,InvD P i.toNat∧a=P.map Prod.fst∧b=P.map Prod.snd,fun _ _ i=>((l.length:Int) - i).toNat,⟨by omega,by omega,[],InvD.nil,rfl,rfl⟩,?_⟩
 rintro _ _ i ⟨h0,h1,P,hI,rfl,rfl⟩
 refine ⟨fun hi=>?_,fun _=>H⟩
 have hlt:i.toNat<l.length:=by omega
 obtain ⟨r,hr⟩:∃ r,l.getD i.toNat (0,[],[])=r:=⟨_,rfl⟩
 have hrm:r∈l:=by rw [←hr,zt hlt]; exact List.getElem_mem _
 simp only [hr]
 have hib:0≤i∧i<(l.length:Nat):=⟨h0,hi⟩
 obtain ⟨hr1,hr2⟩:=hlr r hrm
 obtain ⟨hb1,⟨_,hb2⟩,_,hb3⟩:=hl r hrm
 have hPl:=hI.len
 refine ⟨fun a b=>∃ P',InvD P' (i.toNat+1)∧a=P'.map Prod.fst∧b=P'.map Prod.snd,?_,?_⟩
 ·refine ⟨fun own mine k=>0≤k∧k≤r.2.1.length∧own=mine.map pvR∧mine.map zR=r.2.1.take k.toNat∧∀ x∈mine,OkN x,fun _ _ k=>((r.2.1.length:Int) - k).toNat,⟨by omega,by omega,rfl,rfl,fun _ h=>by cases h⟩,?_⟩
  rintro _ mine k ⟨k0,k1,rfl,hz,hok⟩
  have hml:mine.length=k.toNat:=by
   have:=congrArg List.length hz
   rw [List.length_map,List.length_take] at this
   omega
  refine ⟨hib,fun hk=>?_,fun hk=>?_⟩
  ·have hkl:k.toNat<r.2.1.length:=by omega
   have hzz:=hb2 _ (List.getElem_mem hkl)
   rw [zt hkl]
   refine ⟨hib,⟨k0,by omega⟩,small_M hzz ⟨?_,hib,⟨k0,by omega⟩,smallR_M hzz fun x hx hxz=>⟨?_,by simp only [In]; omega,⟨by omega,by omega,?_,?_,fun y hy=>?_⟩,by dsimp only; omega⟩⟩⟩
   ·simp only [List.length_map,List.length_cons,List.length_nil]; omega
   ·simp only [List.length_cons,List.length_nil]; omega
   ·rw [List.map_append,←hxz]; rfl
   ·rw [List.map_append,hz,show (k+1).toNat=k.toNat+1 by omega,List.take_add_one,List.getElem?_eq_getElem hkl,←hxz]; rfl
   ·rcases List.mem_append.1 hy with hy | hy
    ·exact hok y hy
    ·rw [List.mem_singleton.1 hy]; exact hx
  ·rw [List.take_of_length_le (by omega)] at hz
   have ht:∀ x∈mine,(txt (zR x)).length≤20:=fun x hx=>txt_len20 (hb2 _ (by rw [←hz]; exact List.mem_map.2 ⟨x,hx,rfl⟩))
   refine ⟨fun a b q=>0≤q∧q≤r.2.2.length∧∃ J:List (PS × RV),(∀ p∈J,p∈P)∧J.length≤q.toNat∧a=J.map Prod.fst∧b=J.map Prod.snd,fun _ _ q=>((r.2.2.length:Int) - q).toNat,⟨by omega,by omega,[],(fun _ h=>by cases h),by simp,rfl,rfl⟩,?_⟩
   rintro _ _ q ⟨q0,q1,J,hJ,hJl,rfl,rfl⟩
   rw [List.length_map]
   refine ⟨hib,fun hq=>?_,fun hq=>?_⟩
   ·rw [Bool.and_eq_true,decide_eq_true_eq,decide_eq_true_eq] at hq
    have hnb:=numI_bd (r.2.2.getD q.toNat 0) hq.2
    have hlp:(numI (r.2.2.getD q.toNat 0) P.length).toNat<P.length:=by omega
    refine ⟨hib,⟨q0,by omega⟩,numI_M hq.2 (by omega) ⟨⟨hnb.1,by omega⟩,?_,⟨hnb.1,by rw [List.length_map]; omega⟩,?_,by simp only [In]; omega,⟨by omega,by omega,J++[P[(numI (r.2.2.getD q.toNat 0) P.length).toNat]],fun p hp=>?_,?_,?_,?_⟩,by dsimp only; omega⟩⟩
    ·simp only [List.length_map,List.length_cons,List.length_nil]; omega
    ·simp only [List.length_map,List.length_cons,List.length_nil]; omega
    ·rcases List.mem_append.1 hp with hp | hp
     ·exact hJ p hp
     ·rw [List.mem_singleton.1 hp]; exact List.getElem_mem _
    ·rw [List.length_append]; simp; omega
    ·rw [List.map_append,zt (by rw [List.length_map]; exact hlp),List.getElem_map]; rfl
    ·rw [List.map_append,zt (by rw [List.length_map]; exact hlp),List.getElem_map]; rfl
   ·have hN:i.toNat<20:=by omega
    refine ⟨hib,row_M hI hN hok ht (by omega) hJ (by omega) (fun hbd _ _=>⟨hib,?_⟩) (fun ho hf g fA _=>⟨hib,row_R hI hN ho hok ht (by omega) hJ (by omega) (fun hb=>?_) (fun _ g' fB _ _=>is_M ⟨fun e=>(by simp [newA,PS.isNil,isB] at e),fun _=>⟨fun e=>(by simp [newA,PS.isNil] at e),fun _=>?_⟩⟩)⟩)⟩
    ·by_cases ho:1≤r.1∧r.1≤3
     ·refine row_R hI hN ho hok ht (by omega) hJ (by omega) (fun _ _ _ _=>is_M ⟨fun e=>absurd e (by decide),fun _=>⟨fun _=>⟨P,hI.mono (by omega),rfl,rfl⟩,fun e=>by simp [PS.isNil] at e⟩⟩) (fun hf=>?_)
      obtain ⟨p,hp,hn⟩:=hbd ho
      exact absurd (hf p hp) hn
     ·exact newR_ord (by omega) (fun _ _ _=>is_M ⟨fun e=>absurd e (by decide),fun _=>⟨fun _=>⟨P,hI.mono (by omega),rfl,rfl⟩,fun e=>by simp [PS.isNil] at e⟩⟩)
    ·obtain ⟨p,hp,hn⟩:=hb
     exact absurd (hf p hp) hn
    ·have hI':=hI.add ho hok ht (by omega) hJ (g:=g) (g':=g') (fun v hv=>fA (by intro e; cases e) v.1 (List.mem_map.2 ⟨v,hv,rfl⟩) v.1 .refl (hI.M.ok v hv).an) (fun v hv=>fB (by intro e; cases e) v.2 (List.mem_map.2 ⟨v,hv,rfl⟩) v.2.2.2 .refl (hI.M.ok v hv).bn)
     have hq':(newA g r.1 mine J,newB g' r.1 mine J)∈P++[(newA g r.1 mine J,newB g' r.1 mine J)]:=List.mem_append_right _ (List.mem_singleton.2 rfl)
     generalize hP':P++[(newA g r.1 mine J,newB g' r.1 mine J)]=P' at hI' hq'
     obtain ⟨t1,t2,t3,t4,t5⟩:=told_same hI' (by omega) hq'
     have han:newA g r.1 mine J≠.nil:=by intro e; cases e
     have hbn:(newB g' r.1 mine J).2.2≠.nil:=by intro e; cases e
     refine ⟨han,fun n hn=>⟨(t1 n hn).1,(t1 n hn).2,hbn,t2,⟨by show 0≤r.1; omega,ho.2⟩,keyR,t3,fun n' hn'=>⟨(t4 _ n').1,(t4 _ n').2,?_⟩⟩⟩
     have hsame:=sim_all hI'.M keyR_iff hq' ho n
     rw [mir_fuel2 hI'.M hq' ((mir_dep hI'.M n _ hq').1 hn) hn'] at hsame
     have hem:=mir_empty (kf:=keyR) hI'.M hq' hn' (by show r.1≠0; omega)
     have hem2:=hI'.emp _ hq'
     have hYl:(allQ keyR n' (newB g' r.1 mine J).2.2).length≤1024:=by
      have:=(t4 r.1 n').2
      unfold allQ
      split
      ·rw [List.length_reverse]; exact this
      ·exact this
     have hYt:∀ x∈allQ keyR n' (newB g' r.1 mine J).2.2,(txt (zR x)).length≤20:=fun x hx=>by
      have:=out_pred (kf:=keyR) (C:=fun y=>y∈P'.map (fun q=>q.2.2.2)) (T:=fun x=>(txt (zR x)).length≤20) (mir_closed hI'.M) (fun y hy=>by
       obtain ⟨p,hp,rfl⟩:=List.mem_map.1 hy
       exact (hI'.its p hp).2) r.1 n' (newB g' r.1 mine J).2.2 tq0 (List.mem_map.2 ⟨_,hq',rfl⟩) (fun _ h=>by cases h)
      unfold allQ at hx
      split at hx
      ·exact this x (List.mem_reverse.1 hx)
      ·exact this x hx
     obtain ⟨hs1,hs2⟩:=hsame
     rw [hs1]
     have hs2:∀ x∈allQ keyR n' (newB g' r.1 mine J).2.2,OkN x:=hs2
     have hem:allQ keyR n' (newB g' r.1 mine J).2.2=[]↔∀ y,zV (newA g r.1 mine J) y→y.own=[]:=hem
     show zX _ _ _
     have eA:allQ keyR n' (newA g r.1 mine J,newB g' r.1 mine J).2.2.2=allQ keyR n' (newB g' r.1 mine J).2.2:=rfl
     rw [eA]
     have eB:allQ keyR n' (((newB g' r.1 mine J).1,((newB g' r.1 mine J).2.1.1,(newB g' r.1 mine J).2.1.2),(newB g' r.1 mine J).2.2):RV).2.2=allQ keyR n' (newB g' r.1 mine J).2.2:=rfl
     rw [eB]
     generalize allQ keyR n' (newB g' r.1 mine J).2.2=Y at hYl hYt hs2 hem ⊢
     have hzt:∀ z∈Y.map zR,(txt z).length≤20:=fun z hz=>by
      obtain ⟨x,hx,rfl⟩:=List.mem_map.1 hz
      exact hYt x hx
     refine is_M ⟨fun b=>b=false,⟨fun e=>absurd e (by decide),fun _=>⟨by rw [List.length_map]; omega,Y.map zR,by rw [List.map_map]; rfl,vrepr_tup20 (by rw [List.length_map]; omega) hzt (rtuple_M (by omega) fun g2=>rrepr_tup (by omega) hs2 hYt ?_)⟩⟩,?_⟩
     ·rw [decide_eq_true rfl]; rfl
     rintro _ rfl
     refine ⟨fun b=>b=false,⟨fun e=>(by cases e),fun _=>⟨han,hib,?_⟩⟩,?_⟩
     ·show (!decide (r.1=r.1))=false
      rw [decide_eq_true rfl]; rfl
     rintro _ rfl
     refine ⟨fun b=>b=false,⟨fun e=>(by cases e),fun _=>⟨han,?_⟩⟩,?_⟩
     ·have:(newA g r.1 mine J).empty=decide ((Y.length:Int)=0):=by
       rw [Bool.eq_iff_iff,decide_eq_true_eq]
       refine hem2.trans (hem.symm.trans ?_)
       constructor
       ·rintro rfl; rfl
       ·intro e; exact List.length_eq_zero_iff.1 (by omega)
      rw [this]
      simp
     rintro _ rfl
     refine ⟨fun b=>b=false,⟨fun e=>(by cases e),fun _=>⟨han,fun x hx=>?_,fun x hx=>⟨hbn,t2,fun n2 hn2=>⟨t5 n2,?_⟩⟩⟩⟩,?_⟩
     ·have h1:=(((mir_allIn hI'.M hq').few (n:=20) (k:=10) (by rw [List.length_map]; exact Nat.le_trans hI'.len (by omega)) fun y hy=>by
       obtain ⟨p,hp,rfl⟩:=List.mem_map.1 hy
       rw [(hI'.M.ok p hp).own,List.length_map]
       exact (hI'.its p hp).1).some x hx)
      omega
     ·have h1:=mir_size hI'.M hq' hn2 hx
      rw [h1]
      show (!decide (((setQ (fun _=>[]) n2 0 (newB g' r.1 mine J).2.2 tq0).seen.length:Int)=((setQ (fun _=>[]) n2 0 (newB g' r.1 mine J).2.2 tq0).seen.length:Int)))=false
      rw [decide_eq_true rfl]; rfl
     rintro _ rfl
     refine ⟨fun b=>b=false,⟨fun e=>(by cases e),fun _=>?_⟩,?_⟩
     ·show (!decide ((10:Int)=10))=false
      decide
     rintro _ rfl
     refine ⟨fun e=>(by cases e),fun _=>⟨?_,?_,P',hI',?_,?_⟩⟩
     ·simp only [List.length_map,List.length_cons,List.length_nil]; omega
     ·simp only [List.length_map,List.length_cons,List.length_nil]; omega
     ·rw [←hP',List.map_append]; rfl
     ·rw [←hP',List.map_append]; rfl
 ·rintro _ _ ⟨P',hI',rfl,rfl⟩
  exact ⟨by simp only [In]; omega,⟨by omega,by omega,P',by rw [show (i+1).toNat=i.toNat+1 by omega]; exact hI',rfl,rfl⟩,by (try dsimp only); omega⟩
end Go.Proofs.YtjjcdkfhaceicaaGreatDoor
 