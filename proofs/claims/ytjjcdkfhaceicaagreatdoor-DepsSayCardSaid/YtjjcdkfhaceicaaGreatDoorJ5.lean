/- Texts of this claim, joined by a program: GDn, GSa, Sent, GSb, GLd, See, Dq, Dr, Dec, Txt, Lim, Lim2, Lim3, Lim4, Num10, Num12, Lim5, Num14, Lim6, Dm, Ds, Dt, Df. -/
import Derived.Test.YtjjcdkfhaceicaaGreatDoorJ4

namespace Go.Proofs.YtjjcdkfhaceicaaGreatDoor
open Go Go.RowKit
attribute [local irreducible] WL WC WX WQ WK WJ Yld Eff Ef0 Fn
def qq (order:Int) (own:List PV) (from_:List PS) (K:PS→Er→Prop):Prop :=
 (own.length≤maxLen →
 (from_.length≤maxLen →
 ((((decide (order<(1:Int))) || (decide ((3:Int)<order)))=true→K PS.nil (Er.e 3)) ∧
 (((decide (order<(1:Int))) || (decide ((3:Int)<order)))=false→M_val_Light (4096:Int) own (fun (t27:Bool) =>
 (((!t27)=true→K PS.nil (Er.e 7)) ∧
 ((!t27)=false→zn from_ (fun (t32:List PS) =>
 Lp4 (fun (t38:Int) (t341:List PV) (t342:List (List UInt8)) (met:List (List UInt8 × Bool)) kont1=>((t38<(own.length:Int)→∃ J1:(List PV)→(List (List UInt8))→(List (List UInt8 × Bool))→Prop,((0≤t38∧t38<(own.length:Nat)) ∧
 M_val_Key (own.getD t38.toNat PV.nil) (fun (t440:List UInt8) (t441:Er) =>
 ((¬ (t441=Er.ok)→K PS.nil t441) ∧
 (t441=Er.ok→(t440.length≤maxLen) ∧
 (((!((mget met t440).getD false))=true→(t440.length≤maxLen∧met.length<maxLen) ∧
 ∃ J2:Prop,(((t341.length+(([own.getD t38.toNat PV.nil]:List PV)).length)*16≤140737488355328) ∧
 ((t342.length+(([t440]:List (List UInt8))).length)*16≤140737488355328) ∧
 J2) ∧
 (J2→J1 (t341++([own.getD t38.toNat PV.nil]:List PV)) (t342++([t440]:List (List UInt8))) (mput met t440 true))) ∧
 ((!((mget met t440).getD false))=false→J1 t341 t342 met)))))) ∧
 (∀ t3412:List PV,∀ t3422:List (List UInt8),∀ m:List (List UInt8 × Bool),J1 t3412 t3422 m→(In .i64 (t38+(1:Int))) ∧
 kont1 (t38+(1:Int)) t3412 t3422 m)) ∧
 (¬ (t38<(own.length:Int))→Lp3 (fun (t88:Int) (t344:Int) (t345:Bool) kont2=>((t88<(from_.length:Int)→(0≤t88∧t88<(from_.length:Nat)) ∧
 ((from_.getD t88.toNat PS.nil)≠PS.nil) ∧
 (((((!decide (((from_.getD t88.toNat PS.nil).order)=order)) && (!decide (((from_.getD t88.toNat PS.nil).order)=(1:Int)))) && (!decide (order=(1:Int))))=true→K PS.nil (Er.e 3)) ∧
 ((((!decide (((from_.getD t88.toNat PS.nil).order)=order)) && (!decide (((from_.getD t88.toNat PS.nil).order)=(1:Int)))) && (!decide (order=(1:Int))))=false→(In .i64 (((from_.getD t88.toNat PS.nil).deep)+(1:Int))) ∧
 (In .i64 (t88+(1:Int))) ∧
 kont2 (t88+(1:Int)) (if t344<(((from_.getD t88.toNat PS.nil).deep)+(1:Int)) then ((from_.getD t88.toNat PS.nil).deep)+(1:Int) else t344) (t345 && ((from_.getD t88.toNat PS.nil).empty))))) ∧
 (¬ (t88<(from_.length:Int))→(((decide ((1000:Int)<t344)) || (decide ((1024:Int)<(own.length:Int))))=false→(In .i64 ((1024:Int) - (own.length:Int)))) ∧
 (((((decide ((1000:Int)<t344)) || (decide ((1024:Int)<(own.length:Int)))) || (decide (((1024:Int) - (own.length:Int))<(from_.length:Int))))=true→K PS.nil (Er.e 7)) ∧
 ((((decide ((1000:Int)<t344)) || (decide ((1024:Int)<(own.length:Int)))) || (decide (((1024:Int) - (own.length:Int))<(from_.length:Int))))=false→(∀ x∈t341,∃ z,x=PV.int z) ∧
 (t342=t341.map keyP) ∧
 (∀ x∈t32,x≠PS.nil) ∧
 ∀ g1:Nat,M_pdeps_Set_sets (PS.mk g1 order t341 t32 t344 t345) (fun (t157:List PS) =>
 Lp2 (fun (n:Int) (t159:Int) kont3=>((t159<(t157.length:Int)→(0≤t159∧t159<(t157.length:Nat)) ∧
 ((t157.getD t159.toNat PS.nil)≠PS.nil) ∧
 (In .i64 (n+((t157.getD t159.toNat PS.nil).own.length:Int))) ∧
 (((1024:Int)<(n+((t157.getD t159.toNat PS.nil).own.length:Int))→K PS.nil (Er.e 7)) ∧
 (¬ ((1024:Int)<(n+((t157.getD t159.toNat PS.nil).own.length:Int)))→(In .i64 (t159+(1:Int))) ∧
 kont3 (n+((t157.getD t159.toNat PS.nil).own.length:Int)) (t159+(1:Int))))) ∧
 (¬ (t159<(t157.length:Int))→K (PS.mk g1 order t341 t32 t344 t345) Er.ok))) (0:Int) (0:Int))))))) (0:Int) (0:Int) (decide ((t341.length:Int)=(0:Int)))))) (0:Int) [] [] ([]:List (List UInt8 × Bool))))))))))
def M_pdeps_Set_Size (s:PS) (K:Int→Prop):Prop :=
 M_pdeps_Set_sets s (fun (t4:List PS) =>
 K (t4.length:Int))
def M_pdeps_Set_Empty (s:PS) (K:Bool→Prop):Prop :=
 (s≠PS.nil) ∧
 K s.empty
set_option maxHeartbeats 8000000 in
theorem W_deps_New {S:List Nat} {w:World} {order:Int} {own:List PV} {A_own:Option Addr} {c_own:Nat} {hs_own:List VH} {from_:List PS} {A_from:Option Addr} {c_from:Nat} {hs_from_:List VH} {n_own:Nat} {n_from_:Nat} {K:PS→Er→Prop} (hG:GOK S w) (hS3:3∈S) (hS7:7∈S) (hown:Rd vv w A_own c_own hs_own) (hn_own:n_own=own.length) (hr_own:RelD deV w hs_own own) (hfrom_:Rd vv w A_from c_from hs_from_) (hn_from_:n_from_=from_.length) (hr_from_:RelD deS w hs_from_ from_) (H:qq order own from_ K):Fn Tryz.prog 13 ⟨[.int .i64 order,.slice A_own n_own c_own,.slice A_from n_from_ c_from]⟩ w (fun v w'=>w.grownBy w' none∧∃ (v_r0:OV),∃ (F_r0:Nat→Prop),∃ (r0:PS),∃ (v_r1:Value),∃ (r1:Er),v=.tuple #[v_r0.1,v_r1]∧RelD deS w' [(v_r0,F_r0)] [r0]∧(∀ p:Option Nat,Lt p w.heap.size→DnD deV hs_own own p→DnD deS hs_from_ from_ p→DnD deS [(v_r0,F_r0)] [r0] p)∧(r0≠PS.nil→w.heap.size≤r0.id)∧ErrR S w' v_r1 r1∧K r0 r1):=by
 subst hn_own
 subst hn_from_
 unfold qq at H
 refine Fn.enter (by kernel_rfl) Tryz.func13 rfl Tryz.ntmps13 rfl ?_
 replace H:=H (by rw [←hr_own.1]; exact Nat.le_trans hown.cap hown.max)
 replace H:=H (by rw [←hr_from_.1]; exact Nat.le_trans hfrom_.cap hfrom_.max)
 refine WC.seq (WC.region ?_)
 have hv1:RelD deS w [(pnil,noF)] [PS.nil]:=deS_nil
 refine yp (h:=(yp (h:=(WL.nil (WX.then_normal (WC.seq (WC.seq (WC.region (yp (h:=(yp (h:=(yp (h:=(WL.midF 3 (fun L' w'=>∃ q1:Bool,L'=[(24,.bool q1),(0,.int .i64 order),(1,.slice A_own own.length c_own),(2,.slice A_from from_.length c_from)]∧((decide (order<(1:Int))) || (decide ((3:Int)<order)))=q1∧w=w') ?_ (fun hQ=>?_))))))))))))))))
 ·rintro _ _ ⟨q1,rfl,rfl,rfl⟩
  refine WL.nil (WX.then_normal (WC.cond rfl (fun b1=>?_) (fun b1=>?_)))
  ·replace H:=H.1 (b1)
   refine WC.seq (WC.quiet mixed (by kernel_rfl) ?_)
   obtain ⟨vE1,_,hE1⟩:=GOK.get hG 3 0 hS3 rfl rfl
   refine WQ.y rfl (Yld.cell za (ErrR.cell hE1 rfl) rfl rfl) ?_
   have hv2:RelD deS w [(pnil,noF)] [PS.nil]:=deS_nil
   exact WQ.y rfl (Yld.pure za rfl) (WQ.y rfl (Yld.pure za rfl) (WQ.nil (WX.then_normal (WC.ret (WX.then_ret (WX.ret2 rfl rfl rfl ⟨(zN _ _),pnil,noF,PS.nil,vE1,(Er.e 3),rfl,hv2,(fun p_ hp_ v0_ v1_=>deS_nilD),(fun h_=>absurd rfl h_),hE1,H⟩))))))
  ·replace H:=H.2 (b1)
   refine WC.skip (WX.then_normal (WC.seq (WC.seq (WC.region (yp (h:=(WL.call rfl rfl (W_val_Light hown rfl hr_own H) ?_)))))))
   rintro _ w1 ⟨hg1,t27,rfl,H⟩
   have gr1:=hg1
   refine yp (h:=(WL.nil (WX.then_normal (WC.cond rfl (fun b2=>?_) (fun b2=>?_)))))
   ·replace H:=H.1 (b2)
    refine WC.seq (WC.quiet mixed (by kernel_rfl) ?_)
    obtain ⟨vE2,_,hE2⟩:=GOK.get (hG.grown gr1) 7 1 hS7 rfl rfl
    refine WQ.y rfl (Yld.cell za (ErrR.cell hE2 rfl) rfl rfl) ?_
    have hv3:RelD deS w1 [(pnil,noF)] [PS.nil]:=deS_nil
    exact WQ.y rfl (Yld.pure za rfl) (WQ.y rfl (Yld.pure za rfl) (WQ.nil (WX.then_normal (WC.ret (WX.then_ret (WX.ret2 rfl rfl rfl ⟨gr1,pnil,noF,PS.nil,vE2,(Er.e 7),rfl,hv3,(fun p_ hp_ v0_ v1_=>deS_nilD),(fun h_=>absurd rfl h_),hE2,H⟩))))))
   ·replace H:=H.2 (b2)
    refine WC.skip (WX.then_normal (WC.seq (WC.region (yp (h:=(yp (h:=(WL.call rfl rfl (qE (hfrom_.grown gr1) rfl (hr_from_.grown gr1) H) ?_))))))))
    rintro _ w2 ⟨hg2,t32,A_t32,c_t32,hs_t32,rfl,ht32,hr_t32,ho1,dj1,H⟩
    have hb1:=ht32.ge'
    have k1:=ht32.base (fun g hg=>Nat.le_trans (ze gr1) (hb1 g hg))
    have gr2:=zd gr1 hg2
    refine WL.y rfl (Yld.struct (us:=[.int .i64 order,.slice none 0 0,.slice none 0 0,.slice A_t32 t32.length c_t32,.int .i64 (0:Int),.bool true]) zero126 places126 rfl rfl) (WL.box (us:=[.int .i64 order,.slice none 0 0,.slice none 0 0,.slice A_t32 t32.length c_t32,.int .i64 (0:Int),.bool true]) rfl rfl rfl (fun g1 w3 hB1 hg3 hl1=>?_))
    have gr3:=zd gr2 hg3
    have k2:=k1.grown hg3
    have k3:=hr_t32.grown hg3
    refine yp (h:=(WL.nil (WX.then_normal (WC.seq (WC.region (WL.putw zo rfl (Eff.makeMap vs okS vB) ?_))))))
    rintro _ w4 ⟨rfl,hB2,hg4⟩
    obtain ⟨g_met,hl2⟩:∃ g,g=w3.heap.size:=⟨_,rfl⟩
    rw [←hl2] at hB2
    rw [←hl2]
    have k5:=k3.grown hg4
    refine yp (h:=(WL.nil (WX.then_normal (WC.seq (WC.seq (WC.region (yp (h:=(yp (h:=(yp (h:=(WL.nil (WX.then_normal (WC.block ?_)))))))))))))))
    obtain ⟨I1,mu1,h0_1,HR1⟩:=H
    refine WC.loopF (fun n' L' w'=>∃ (t38:Int),∃ (t341:List PV),∃ (A_t341:Option Addr),∃ (c_t341:Nat),∃ (n_t341:Nat),∃ (hs_t341:List VH),∃ (t342:List (List UInt8)),∃ (A_t342:Option Addr),∃ (c_t342:Nat),∃ (n_t342:Nat),∃ (met:List (List UInt8 × Bool)),n'=mu1 t38 t341 t342 met∧L'=[(0,.int .i64 order),(1,.slice A_own own.length c_own),(2,.slice A_from from_.length c_from),(8,.pointer (some ⟨g1,0,none⟩)),(9,.map (some g_met)),(36,.slice A_own own.length c_own),(37,.int .i64 (own.length:Int)),(38,.int .i64 t38)]∧I1 t38 t341 t342 met∧n_t341=t341.length∧n_t342=t342.length∧w.grownBy w' none∧Own vv w' w.heap.size 41 A_t32 c_t32 hs_t32∧RelD deS w' hs_t32 t32∧Bl w' g1 126 [.int .i64 order,.slice A_t341 n_t341 c_t341,.slice A_t342 n_t342 c_t342,.slice A_t32 t32.length c_t32,.int .i64 (0:Int),.bool true]∧MapB vs okS vB w' g_met met∧Own vv w' w.heap.size 32 A_t341 c_t341 hs_t341∧RelD deV w' hs_t341 t341∧Own vs w' w.heap.size 9 A_t342 c_t342 t342∧Dj (blk A_t32) (some g1)∧Dj (blk A_t32) (some g_met)∧Dj (blk A_t32) (blk A_t341)∧Dj (blk A_t32) (blk A_t342)∧DnD deS hs_t32 t32 (blk A_t32)∧DnD deS hs_t32 t32 (some g1)∧DnD deS hs_t32 t32 (some g_met)∧DnD deS hs_t32 t32 (blk A_t341)∧DnD deS hs_t32 t32 (blk A_t342)∧Dj (some g1) (some g_met)∧Dj (some g1) (blk A_t341)∧Dj (some g1) (blk A_t342)∧Dj (some g_met) (blk A_t341)∧Dj (some g_met) (blk A_t342)∧Dj (blk A_t341) (blk A_t342)∧DnD deV hs_t341 t341 (blk A_t32)∧DnD deV hs_t341 t341 (some g1)∧DnD deV hs_t341 t341 (some g_met)∧DnD deV hs_t341 t341 (blk A_t341)∧DnD deV hs_t341 t341 (blk A_t342)∧OrD (fun p=>DnD deV hs_own own p∧DnD deS hs_from_ from_ p) deV hs_t341 t341 w.heap.size) _ _ ⟨(0:Int),[],none,0,0,[],[],none,0,0,([]:List (List UInt8 × Bool)),rfl,rfl,h0_1,rfl,rfl,(zd gr3 hg4),(k2.grown hg4),k5,(hB1.g0 hg4),hB2,(Own.nil vv w4 w.heap.size 32),(RelD.nil (d:=deV) (w:=w4)),(Own.nil vs w4 w.heap.size 9),(Dj.new k1.lt' (Ge.box hl1)),(Dj.new k2.lt' (Ge.box (Nat.le_of_eq hl2.symm))),Dj.nr,Dj.nr,dj1,(hr_t32.new (Ge.box hl1)),(k3.new (Ge.box (Nat.le_of_eq hl2.symm))),(DnD.none k5),(DnD.none k5),(Dj.new hB1.lt' (Ge.box (Nat.le_of_eq hl2.symm))),Dj.nr,Dj.nr,Dj.nr,Dj.nr,Dj.nl,DnD.nil,DnD.nil,DnD.nil,DnD.nil,DnD.nil,(fun p_ hp_ q_=>(DnD.nil (d:=deV)))⟩ (by repeat (first | exact Sub.nil | refine Sub.cons rfl ?_)) ?_
    clear h0_1
    rintro _ _ w5 ⟨t38,t341,A_t341,c_t341,n_t341,hs_t341,t342,A_t342,c_t342,n_t342,met,rfl,rfl,hI1,rfl,rfl,gr5,k7,k8,k9,k10,k11,k12,k13,dj2,dj3,dj4,dj5,dj6,dj7,dj8,dj9,dj10,dj11,dj12,dj13,dj14,dj15,dj16,dj17,dj18,dj19,dj20,dj21,or1⟩
    have H:=HR1 t38 t341 t342 met hI1
    refine WC.seq (WC.region (yp (h:=(WL.nil (WX.then_normal (WC.seq (WC.cond rfl (fun b3=>?_) (fun b3=>?_))))))))
    ·replace H:=H.1 (of_decide_eq_true b3)
     refine WC.skip (WX.then_normal (WC.seq ?_))
     obtain ⟨J1,H,hJ1⟩:=H
     refine WC.midF (fun L' w'=>∃ (t3412:List PV),∃ (A_t3412:Option Addr),∃ (c_t3412:Nat),∃ (n_t3412:Nat),∃ (hs_t3412:List VH),∃ (t3422:List (List UInt8)),∃ (A_t3422:Option Addr),∃ (c_t3422:Nat),∃ (n_t3422:Nat),∃ (m:List (List UInt8 × Bool)),L'=[(0,.int .i64 order),(1,.slice A_own own.length c_own),(2,.slice A_from from_.length c_from),(8,.pointer (some ⟨g1,0,none⟩)),(9,.map (some g_met)),(36,.slice A_own own.length c_own),(37,.int .i64 (own.length:Int)),(38,.int .i64 t38)]∧J1 t3412 t3422 m∧n_t3412=t3412.length∧n_t3422=t3422.length∧w.grownBy w' none∧Own vv w' w.heap.size 41 A_t32 c_t32 hs_t32∧RelD deS w' hs_t32 t32∧Bl w' g1 126 [.int .i64 order,.slice A_t3412 n_t3412 c_t3412,.slice A_t3422 n_t3422 c_t3422,.slice A_t32 t32.length c_t32,.int .i64 (0:Int),.bool true]∧MapB vs okS vB w' g_met m∧Own vv w' w.heap.size 32 A_t3412 c_t3412 hs_t3412∧RelD deV w' hs_t3412 t3412∧Own vs w' w.heap.size 9 A_t3422 c_t3422 t3422∧Dj (blk A_t32) (some g1)∧Dj (blk A_t32) (some g_met)∧Dj (blk A_t32) (blk A_t3412)∧Dj (blk A_t32) (blk A_t3422)∧DnD deS hs_t32 t32 (blk A_t32)∧DnD deS hs_t32 t32 (some g1)∧DnD deS hs_t32 t32 (some g_met)∧DnD deS hs_t32 t32 (blk A_t3412)∧DnD deS hs_t32 t32 (blk A_t3422)∧Dj (some g1) (some g_met)∧Dj (some g1) (blk A_t3412)∧Dj (some g1) (blk A_t3422)∧Dj (some g_met) (blk A_t3412)∧Dj (some g_met) (blk A_t3422)∧Dj (blk A_t3412) (blk A_t3422)∧DnD deV hs_t3412 t3412 (blk A_t32)∧DnD deV hs_t3412 t3412 (some g1)∧DnD deV hs_t3412 t3412 (some g_met)∧DnD deV hs_t3412 t3412 (blk A_t3412)∧DnD deV hs_t3412 t3412 (blk A_t3422)∧OrD (fun p=>DnD deV hs_own own p∧DnD deS hs_from_ from_ p) deV hs_t3412 t3412 w.heap.size) ?_ (fun hQ=>?_)
     ·clear H
      rintro _ w6 ⟨t3412,A_t3412,c_t3412,n_t3412,hs_t3412,t3422,A_t3422,c_t3422,n_t3422,m,rfl,H,rfl,rfl,gr6,k14,k15,k16,k17,k18,k19,k20,dj22,dj23,dj24,dj25,dj26,dj27,dj28,dj29,dj30,dj31,dj32,dj33,dj34,dj35,dj36,dj37,dj38,dj39,dj40,dj41,or2⟩
      replace H:=hJ1 t3412 t3422 m H
      refine WX.then_normal (WC.region ?_)
      obtain ⟨h1,H⟩:=H
      refine WL.y rfl (Yld.add rfl rfl h1) (yp (h:=(WL.nil ?_)))
      exact WX.roundF _ ⟨t38+(1:Int),t3412,A_t3412,c_t3412,t3412.length,hs_t3412,t3422,A_t3422,c_t3422,t3422.length,m,rfl,rfl,H.1,rfl,rfl,gr6,k14,k15,k16,k17,k18,k19,k20,dj22,dj23,dj24,dj25,dj26,dj27,dj28,dj29,dj30,dj31,dj32,dj33,dj34,dj35,dj36,dj37,dj38,dj39,dj40,dj41,or2⟩ (by repeat (first | exact Sub.nil | refine Sub.cons rfl ?_)) H.2
     ·clear hJ1
      refine WC.block (WC.seq (WC.region ?_))
      obtain ⟨h2,H⟩:=H
      refine WL.y rfl (Yld.iaddrW za (hown.grown gr5) rfl rfl hr_own.1.symm rfl h2.1 h2.2) ?_
      obtain ⟨⟨v_el,F_el⟩,eh1,hR1⟩:=RelD.at (hr_own.grown gr5) vh0 PV.nil (j:=t38.toNat) (Nat.lt_of_lt_of_eq (iltN h2 hr_own.1.symm) (hr_own.grown gr5).1)
      have hv4:RelD deV w5 [(v_el,F_el)] [own.getD t38.toNat PV.nil]:=RelD.cons hR1 RelD.nil
      refine WL.y rfl (Yld.to (v:=v_el.1) (Yld.iload vh0 za (hown.grown gr5) rfl rfl (iltN h2 hr_own.1.symm)) (congrArg vv eh1)) (yp (h:=(WL.nil (WX.then_normal (WC.seq (WC.region (yp (h:=(WL.call rfl rfl (W_val_Key (hG.grown gr5) hS3 hS7 hv4 H) ?_)))))))))
      rintro _ w7 ⟨hg5,t440,v_t441,t441,rfl,ht441,H⟩
      have gr7:=zd gr5 hg5
      have k21:=k7.grown hg5
      have k22:=k8.grown hg5
      have k23:=k9.g0 hg5
      have k24:=k10.g0 hg5
      have k25:=k11.grown hg5
      have k26:=k12.grown hg5
      have k27:=k13.grown hg5
      refine yp (h:=(yp (h:=(yp (h:=(yp (h:=(yp (h:=(WL.nil (WX.then_normal (WC.seq (WC.seq (WC.region (yp (h:=(WL.y rfl (Yld.errneq Tryz.underlying43 ht441 rfl) (WL.nil (WX.then_normal (WC.cond rfl (fun b4=>?_) (fun b4=>?_)))))))))))))))))))))
      ·replace H:=H.1 (nd_true b4)
       refine WC.seq (WC.region (yp (h:=?_)))
       have hv5:RelD deS w7 [(pnil,noF)] [PS.nil]:=deS_nil
       exact yp (h:=(yp (h:=(WL.nil (WX.then_normal (WC.ret (WX.then_ret (WX.block_ret (WX.then_ret (WX.then_ret (WX.block_ret (WX.then_ret (WX.ret2 rfl rfl rfl ⟨gr7,pnil,noF,PS.nil,v_t441,t441,rfl,hv5,(fun p_ hp_ v0_ v1_=>deS_nilD),(fun h_=>absurd rfl h_),ht441,H⟩)))))))))))))
      ·replace H:=H.2 (nd_false b4)
       refine WC.skip (WX.then_normal (WC.seq (WC.region (yp (h:=(yp (h:=?_)))))))
       obtain ⟨h3,H⟩:=H
       refine WL.y rfl (Yld.look (z:=false) (keyF_s Tryz.underlying9) Tryz.underlying127 (fun _=>by kernel_rfl) k24 rfl rfl h3) (yp (h:=(WL.nil (WX.then_normal (WC.cond rfl (fun b5=>?_) (fun b5=>?_))))))
       ·replace H:=H.1 (b5)
        refine WC.seq (WC.region (yp (h:=(yp (h:=?_)))))
        obtain ⟨h4,H⟩:=H
        refine WL.ef0 (Ef0.mapPut (keyF_s Tryz.underlying9) Tryz.underlying127 k24 h4.2 rfl rfl h4.1 rfl) ?_
        rintro w8 ⟨hB3,hg6⟩
        have gr8:=zk gr7 hg6 (Ge.le (Ge.box (Nat.le_of_eq hl2.symm)) (ze gr3))
        have k29:=k21.go hg6 dj3
        have k30:=k22.go hg6 dj8
        have k31:=k23.go hg6 dj11
        have k32:=k25.go hg6 dj14.symm
        have k33:=k26.go hg6 dj19
        have k34:=k27.go hg6 dj15.symm
        have k35:=(hv4.grown hg5).go hg6 (DnD.cons (DnD.at (hr_own.new (Ge.le (Ge.box (Nat.le_of_eq hl2.symm)) (ze gr3))) (hr_own.grown gr5).1 (Nat.lt_of_lt_of_eq (iltN h2 hr_own.1.symm) (hr_own.grown gr5).1) eh1) DnD.nil)
        refine WL.nil (WX.then_normal ?_)
        obtain ⟨J2,H,hJ2⟩:=H
        refine WC.hoist 1 mixed rfl rfl (by kernel_rfl) ?_
        refine WR.ordersF 16 (fun k => !(Nat.beq k 7 || Nat.beq k 8 || Nat.beq k 14 || Nat.beq k 15)) (fun w'=>GrL [(blk A_t341),(blk A_t342)] w8 w') (fun L' w'=>∃ (A_t64:Option Addr),∃ (c_t64:Nat),∃ (A_t71:Option Addr),∃ (c_t71:Nat),L'=[(0,.int .i64 order),(1,.slice A_own own.length c_own),(2,.slice A_from from_.length c_from),(8,.pointer (some ⟨g1,0,none⟩)),(9,.map (some g_met)),(36,.slice A_own own.length c_own),(37,.int .i64 (own.length:Int)),(38,.int .i64 t38),(56,.pointer (some ⟨g1,0,none⟩)),(57,.pointer (some ⟨g1,0,none⟩)),(64,.slice A_t64 ((t341++([own.getD t38.toNat PV.nil]:List PV)).length) c_t64),(71,.slice A_t71 ((t342++([t440]:List (List UInt8))).length) c_t71)]∧J2∧w.grownBy w' none∧Own vv w' w.heap.size 41 A_t32 c_t32 hs_t32∧RelD deS w' hs_t32 t32∧Bl w' g1 126 [.int .i64 order,.slice A_t341 t341.length c_t341,.slice A_t342 t342.length c_t342,.slice A_t32 t32.length c_t32,.int .i64 (0:Int),.bool true]∧MapB vs okS vB w' g_met (mput met t440 true)∧RelD deV w' hs_t341 t341∧Own vv w' w.heap.size 32 A_t64 c_t64 (hs_t341++([(v_el,F_el)]:List VH))∧RelD deV w' (hs_t341++([(v_el,F_el)]:List VH)) (t341++([own.getD t38.toNat PV.nil]:List PV))∧Own vs w' w.heap.size 9 A_t71 c_t71 (t342++([t440]:List (List UInt8)))∧Dj (blk A_t32) (blk A_t64)∧Dj (blk A_t32) (blk A_t71)∧DnD deS hs_t32 t32 (blk A_t64)∧DnD deS hs_t32 t32 (blk A_t71)∧Dj (some g1) (blk A_t64)∧Dj (some g1) (blk A_t71)∧Dj (some g_met) (blk A_t64)∧Dj (some g_met) (blk A_t71)∧DnD deV hs_t341 t341 (blk A_t64)∧DnD deV hs_t341 t341 (blk A_t71)∧Dj (blk A_t64) (blk A_t71)∧DnD deV (hs_t341++([(v_el,F_el)]:List VH)) (t341++([own.getD t38.toNat PV.nil]:List PV)) (blk A_t32)∧DnD deV (hs_t341++([(v_el,F_el)]:List VH)) (t341++([own.getD t38.toNat PV.nil]:List PV)) (some g1)∧DnD deV (hs_t341++([(v_el,F_el)]:List VH)) (t341++([own.getD t38.toNat PV.nil]:List PV)) (some g_met)∧DnD deV (hs_t341++([(v_el,F_el)]:List VH)) (t341++([own.getD t38.toNat PV.nil]:List PV)) (blk A_t64)∧DnD deV (hs_t341++([(v_el,F_el)]:List VH)) (t341++([own.getD t38.toNat PV.nil]:List PV)) (blk A_t71)∧OrD (fun p=>DnD deV hs_own own p∧DnD deS hs_from_ from_ p) deV (hs_t341++([(v_el,F_el)]:List VH)) (t341++([own.getD t38.toNat PV.nil]:List PV)) w.heap.size) (by kernel_rfl) (fun w' h=>GrL.eqv (GrL.refl _) h) ?_ ?_
        ·clear H
         rintro _ w9 ⟨A_t64,c_t64,A_t71,c_t71,rfl,H,gr9,k36,k37,k38,k39,k40,k41,k42,k43,dj42,dj43,dj44,dj45,dj46,dj47,dj48,dj49,dj50,dj51,dj52,dj53,dj54,dj55,dj56,dj57,or3⟩
         replace H:=hJ2  H
         refine yp (h:=(WL.y rfl (Yld.fa0 (o:=1) (by kernel_rfl) rfl) (WL.store1 one27 rfl rfl rfl k38 (by simp) (fun w10 hB5 hg7=>?_))))
         have hB4:Bl w10 g1 126 [.int .i64 order,.slice A_t64 ((t341++([own.getD t38.toNat PV.nil]:List PV)).length) c_t64,.slice A_t342 t342.length c_t342,.slice A_t32 t32.length c_t32,.int .i64 (0:Int),.bool true]:=hB5
         refine yp (h:=(WL.y rfl (Yld.fa0 (o:=2) (by kernel_rfl) rfl) (WL.store1 one108 rfl rfl rfl hB4 (by simp) (fun w11 hB7 hg8=>?_))))
         have hB6:Bl w11 g1 126 [.int .i64 order,.slice A_t64 ((t341++([own.getD t38.toNat PV.nil]:List PV)).length) c_t64,.slice A_t71 ((t342++([t440]:List (List UInt8))).length) c_t71,.slice A_t32 t32.length c_t32,.int .i64 (0:Int),.bool true]:=hB7
         refine WL.nil (WX.qn (WX.block_normal ?_))
         exact WX.weaken (by repeat (first | exact Sub.nil | refine Sub.cons rfl ?_)) (hQ _ _ ⟨t341++([own.getD t38.toNat PV.nil]:List PV),A_t64,c_t64,(t341++([own.getD t38.toNat PV.nil]:List PV)).length,hs_t341++([(v_el,F_el)]:List VH),t342++([t440]:List (List UInt8)),A_t71,c_t71,(t342++([t440]:List (List UInt8))).length,mput met t440 true,rfl,H,rfl,rfl,(zk (zk gr9 hg7 (Ge.le (Ge.box hl1) (ze gr2))) hg8 (Ge.le (Ge.box hl1) (ze gr2))),((k36.go hg7 dj2).go hg8 dj2),((k37.go hg7 dj7).go hg8 dj7),hB6,((k39.go hg7 dj11.symm).go hg8 dj11.symm),((k41.go hg7 dj46.symm).go hg8 dj46.symm),((k42.go hg7 dj54).go hg8 dj54),((k43.go hg7 dj47.symm).go hg8 dj47.symm),dj2,dj3,dj42,dj43,dj6,dj7,dj8,dj44,dj45,dj11,dj46,dj47,dj48,dj49,dj52,dj53,dj54,dj55,dj56,dj57,or3⟩)
        ·clear hJ2
         refine WA.y 1 rfl (by kernel_rfl) rfl (fun w' hw'=>Yld.pure za rfl) (WA.y 0 rfl (by kernel_rfl) rfl (fun w' hw'=>Yld.pure za rfl) (WA.y 2 rfl (by kernel_rfl) rfl (fun w' hw'=>Yld.pure za rfl) (WA.y 3 rfl (by kernel_rfl) rfl (fun w' hw'=>Yld.pure za rfl) (WA.y 4 rfl (by kernel_rfl) rfl (fun w' hw'=>Yld.fa0 (o:=1) (by kernel_rfl) rfl) (WA.y 5 rfl (by kernel_rfl) rfl (fun w' hw'=>Yld.bload za (Bl.goL k31 hw' (apC dj12 (apC dj13 apN))) rfl rfl rfl) (WA.y 6 rfl (by kernel_rfl) rfl (fun w' hw'=>Yld.pure za rfl) (WA.y 9 rfl (by kernel_rfl) rfl (fun w' hw'=>Yld.pure za rfl) (WA.y 10 rfl (by kernel_rfl) rfl (fun w' hw'=>Yld.pure za rfl) (WA.y 11 rfl (by kernel_rfl) rfl (fun w' hw'=>Yld.fa0 (o:=2) (by kernel_rfl) rfl) (WA.y 12 rfl (by kernel_rfl) rfl (fun w' hw'=>Yld.bload za (Bl.goL k31 hw' (apC dj12 (apC dj13 apN))) rfl rfl rfl) (WA.y 13 rfl (by kernel_rfl) rfl (fun w' hw'=>Yld.pure za rfl) (WA.split [7,14] (by kernel_rfl) (by kernel_rfl) ⟨?_,?_⟩))))))))))))
         ·refine WI.put rfl rfl rfl (Eff.lit (us:=[v_el.1]) za rfl rfl (zf v_el.2 zm) rfl (by omega)) (fun v w' ⟨_,_,h⟩=>GrL.add0 (GrL.refl _) h) ?_
          rintro _ w12 ⟨rfl,hB8,hg9⟩
          obtain ⟨g2,hl3⟩:∃ g,g=w8.heap.size:=⟨_,rfl⟩
          rw [←hl3] at hB8
          rw [←hl3]
          have hO1:Own vv w12 w.heap.size 32 (some ⟨g2,0,none⟩) 1 ([(v_el,F_el)]:List VH):=Own.ofBl hB8 (Nat.le_trans (ze gr8) (Nat.le_of_eq hl3.symm)) (by simp [maxLen]) rfl
          have gr12:=zd gr8 hg9
          have k56:=k29.grown hg9
          have k57:=k30.grown hg9
          have k58:=k31.g0 hg9
          have k59:=hB3.g0 hg9
          have k60:=k32.grown hg9
          have k61:=k33.grown hg9
          have k62:=k34.grown hg9
          have k63:=k35.grown hg9
          have hr1:RelD deV w12 ([(v_el,F_el)]:List VH) ([own.getD t38.toNat PV.nil]:List PV):=(RelD.cons (RelD.one k63) RelD.nil)
          have nd1:OrD (fun p=>DnD deV hs_own own p∧DnD deS hs_from_ from_ p) deV ([(v_el,F_el)]:List VH) ([own.getD t38.toNat PV.nil]:List PV) w.heap.size:=(OrD.cons (d:=deV) (fun p_ hp_ q_=>(DnD.one (DnD.cons (DnD.at (q_.1) (hr_own.grown gr5).1 (Nat.lt_of_lt_of_eq (iltN h2 hr_own.1.symm) (hr_own.grown gr5).1) eh1) DnD.nil))) (fun _ _ _=>DnD.nil))
          have dj58:DnD deV ([(v_el,F_el)]:List VH) ([own.getD t38.toNat PV.nil]:List PV) (blk A_t32):=(DnD.cons (d:=deV) (DnD.one (DnD.cons (DnD.at (hr_own.new k7.ge') (hr_own.grown gr5).1 (Nat.lt_of_lt_of_eq (iltN h2 hr_own.1.symm) (hr_own.grown gr5).1) eh1) DnD.nil)) DnD.nil)
          have dj59:DnD deV ([(v_el,F_el)]:List VH) ([own.getD t38.toNat PV.nil]:List PV) (some g1):=(DnD.cons (d:=deV) (DnD.one (DnD.cons (DnD.at (hr_own.new (Ge.le (Ge.box hl1) (ze gr2))) (hr_own.grown gr5).1 (Nat.lt_of_lt_of_eq (iltN h2 hr_own.1.symm) (hr_own.grown gr5).1) eh1) DnD.nil)) DnD.nil)
          have dj60:DnD deV ([(v_el,F_el)]:List VH) ([own.getD t38.toNat PV.nil]:List PV) (some g_met):=(DnD.cons (d:=deV) (DnD.one (DnD.cons (DnD.at (hr_own.new (Ge.le (Ge.box (Nat.le_of_eq hl2.symm)) (ze gr3))) (hr_own.grown gr5).1 (Nat.lt_of_lt_of_eq (iltN h2 hr_own.1.symm) (hr_own.grown gr5).1) eh1) DnD.nil)) DnD.nil)
          have dj61:DnD deV ([(v_el,F_el)]:List VH) ([own.getD t38.toNat PV.nil]:List PV) (blk A_t341):=(DnD.cons (d:=deV) (DnD.one (DnD.cons (DnD.at (hr_own.new k11.ge') (hr_own.grown gr5).1 (Nat.lt_of_lt_of_eq (iltN h2 hr_own.1.symm) (hr_own.grown gr5).1) eh1) DnD.nil)) DnD.nil)
          have dj62:DnD deV ([(v_el,F_el)]:List VH) ([own.getD t38.toNat PV.nil]:List PV) (blk A_t342):=(DnD.cons (d:=deV) (DnD.one (DnD.cons (DnD.at (hr_own.new k13.ge') (hr_own.grown gr5).1 (Nat.lt_of_lt_of_eq (iltN h2 hr_own.1.symm) (hr_own.grown gr5).1) eh1) DnD.nil)) DnD.nil)
          have dj63:DnD deV ([(v_el,F_el)]:List VH) ([own.getD t38.toNat PV.nil]:List PV) (blk (some ⟨g2,0,none⟩)):=(DnD.cons (d:=deV) (DnD.one (k35.new (Ge.box (Nat.le_of_eq hl3.symm)))) DnD.nil)
          have gt1:GrL [(blk A_t341),(blk A_t342)] w8 w12:=GrL.add0 (GrL.refl _) hg9
          refine WA.split [8,14] (by kernel_rfl) (by kernel_rfl) ⟨?_,?_⟩
          ·obtain ⟨h5,H⟩:=H
           have h6:((hs_t341:List VH).length+([(v_el,F_el)]:List VH).length)*16≤140737488355328:=by rw [k61.1,hr1.1]; exact h5
           refine WI.put rfl rfl rfl (Eff.append za rfl One.vv k60 rfl k12.1.symm hO1.rd rfl rfl h6 (zx h6) (ze gr12)) (fun v w' ⟨_,_,_,_,h,_⟩=>GrL.mod gt1 h (InP.mem (List.Mem.head _))) ?_
           rintro _ w13 ⟨A_t642,c_t642,rfl,hO2,hg10,hk1⟩
           have el1:(hs_t341++([(v_el,F_el)]:List VH)).length=(t341++([own.getD t38.toNat PV.nil]:List PV)).length:=by rw [List.length_append,List.length_append,k61.1,hr1.1]
           rw [el1]
           have gr13:=zk gr12 hg10 k60.ge'
           have k68:=k61.go hg10 dj20
           have k69:=k62.go hg10 dj16.symm
           have k72:=hr1.go hg10 dj61
           have hr2:RelD deV w13 (hs_t341++([(v_el,F_el)]:List VH)) (t341++([own.getD t38.toNat PV.nil]:List PV)):=RelD.append k68 k72
           have nd2:OrD (fun p=>DnD deV hs_own own p∧DnD deS hs_from_ from_ p) deV (hs_t341++([(v_el,F_el)]:List VH)) (t341++([own.getD t38.toNat PV.nil]:List PV)) w.heap.size:=OrD.append k61.1 or1 nd1
           have dj64:DnD deV (hs_t341++([(v_el,F_el)]:List VH)) (t341++([own.getD t38.toNat PV.nil]:List PV)) (blk A_t32):=(DnD.append k61.1 dj17 dj58)
           have dj65:DnD deV (hs_t341++([(v_el,F_el)]:List VH)) (t341++([own.getD t38.toNat PV.nil]:List PV)) (some g1):=(DnD.append k61.1 dj18 dj59)
           have dj66:DnD deV (hs_t341++([(v_el,F_el)]:List VH)) (t341++([own.getD t38.toNat PV.nil]:List PV)) (some g_met):=(DnD.append k61.1 dj19 dj60)
           have dj67:DnD deV (hs_t341++([(v_el,F_el)]:List VH)) (t341++([own.getD t38.toNat PV.nil]:List PV)) (blk A_t342):=(DnD.append k61.1 dj21 dj62)
           have dj68:DnD deV (hs_t341++([(v_el,F_el)]:List VH)) (t341++([own.getD t38.toNat PV.nil]:List PV)) (blk (some ⟨g2,0,none⟩)):=(DnD.append k61.1 (k33.new (Ge.box (Nat.le_of_eq hl3.symm))) dj63)
           have dj69:DnD deV (hs_t341++([(v_el,F_el)]:List VH)) (t341++([own.getD t38.toNat PV.nil]:List PV)) (blk A_t642):=(DnD.append k61.1 (RelD.app k61 dj20 hk1) (RelD.app hr1 dj61 hk1))
           have gt2:GrL [(blk A_t341),(blk A_t342)] w8 w13:=GrL.mod gt1 hg10 (InP.mem (List.Mem.head _))
           refine WA.split [14] (by kernel_rfl) (by kernel_rfl) ?_
           ·refine WI.put rfl rfl rfl (Eff.lit za rfl rfl (zf rfl zm) rfl (by omega)) (fun v w' ⟨_,_,h⟩=>GrL.add0 gt2 h) ?_
            rintro _ w14 ⟨rfl,hB9,hg11⟩
            obtain ⟨g_t70,hl4⟩:∃ g,g=w13.heap.size:=⟨_,rfl⟩
            rw [←hl4] at hB9
            rw [←hl4]
            have hO3:Own vs w14 w.heap.size 9 (some ⟨g_t70,0,none⟩) 1 ([t440]:List (List UInt8)):=Own.ofBl hB9 (Nat.le_trans (ze gr13) (Nat.le_of_eq hl4.symm)) (by simp [maxLen]) rfl
            have gr14:=zd gr13 hg11
            have k73:=(k56.go hg10 dj4).grown hg11
            have k74:=(k57.go hg10 dj9).grown hg11
            have k75:=(k58.go hg10 dj12).g0 hg11
            have k76:=(k59.go hg10 dj14).g0 hg11
            have k77:=k68.grown hg11
            have k78:=k69.grown hg11
            have k82:=hO2.grown hg11
            have k83:=hr2.grown hg11
            have gt3:GrL [(blk A_t341),(blk A_t342)] w8 w14:=GrL.add0 gt2 hg11
            refine WA.split [15] (by kernel_rfl) (by kernel_rfl) ?_
            ·obtain ⟨h7,H⟩:=H
             refine WI.put rfl rfl rfl (Eff.append za rfl One.s k78 rfl rfl hO3.rd rfl rfl h7 (zx h7) (ze gr14)) (fun v w' ⟨_,_,_,_,h,_⟩=>GrL.mod gt3 h (InP.mem (List.Mem.tail _ (List.Mem.head _)))) ?_
             rintro _ w15 ⟨A_t712,c_t712,rfl,hO4,hg12,hk2⟩
             have k89:=((k63.go hg10 (DnD.cons (DnD.at (hr_own.new k11.ge') (hr_own.grown gr5).1 (Nat.lt_of_lt_of_eq (iltN h2 hr_own.1.symm) (hr_own.grown gr5).1) eh1) DnD.nil)).grown hg11).go hg12 (DnD.cons (DnD.at (hr_own.new k13.ge') (hr_own.grown gr5).1 (Nat.lt_of_lt_of_eq (iltN h2 hr_own.1.symm) (hr_own.grown gr5).1) eh1) DnD.nil)
             have k90:=((hO1.go hg10 ((Dj.new k32.lt' (Ge.box (Nat.le_of_eq hl3.symm))).symm)).grown hg11).go hg12 ((Dj.new k34.lt' (Ge.box (Nat.le_of_eq hl3.symm))).symm)
             have k91:=(k72.grown hg11).go hg12 dj62
             have k94:=hO3.go hg12 ((Dj.new k69.lt' (Ge.box (Nat.le_of_eq hl4.symm))).symm)
             have gt4:GrL [(blk A_t341),(blk A_t342)] w8 w15:=GrL.mod gt3 hg12 (InP.mem (List.Mem.tail _ (List.Mem.head _)))
             exact WA.doneF _ (by kernel_rfl) ⟨A_t642,c_t642,A_t712,c_t712,rfl,H,(zk gr14 hg12 k78.ge'),(k73.go hg12 dj5),(k74.go hg12 dj10),(k75.go hg12 dj13),(k76.go hg12 dj15),(k77.go hg12 dj21),(k82.go hg12 (Dj.app dj16 k62.lt' hk1)),(k83.go hg12 dj67),hO4,(Dj.app dj4.symm k56.lt' hk1).symm,(Dj.app dj5.symm k73.lt' hk2).symm,(RelD.app k57 dj9 hk1),(RelD.app k74 dj10 hk2),(Dj.app dj12.symm k58.lt' hk1).symm,(Dj.app dj13.symm k75.lt' hk2).symm,(Dj.app dj14.symm k59.lt' hk1).symm,(Dj.app dj15.symm k76.lt' hk2).symm,(RelD.app k61 dj20 hk1),(RelD.app k77 dj21 hk2),(Dj.app (Dj.app dj16 k62.lt' hk1).symm k82.lt' hk2).symm,dj64,dj65,dj66,dj69,(RelD.app k83 dj67 hk2),nd2⟩ (by repeat (first | exact Sub.nil | refine Sub.cons rfl ?_))
          ·refine WI.put rfl rfl rfl (Eff.lit za rfl rfl (zf rfl zm) rfl (by omega)) (fun v w' ⟨_,_,h⟩=>GrL.add0 gt1 h) ?_
           rintro _ w16 ⟨rfl,hB10,hg13⟩
           obtain ⟨g_t702,hl5⟩:∃ g,g=w12.heap.size:=⟨_,rfl⟩
           rw [←hl5] at hB10
           rw [←hl5]
           have hO5:Own vs w16 w.heap.size 9 (some ⟨g_t702,0,none⟩) 1 ([t440]:List (List UInt8)):=Own.ofBl hB10 (Nat.le_trans (ze gr12) (Nat.le_of_eq hl5.symm)) (by simp [maxLen]) rfl
           have gr16:=zd gr12 hg13
           have k95:=k56.grown hg13
           have k96:=k57.grown hg13
           have k97:=k58.g0 hg13
           have k98:=k59.g0 hg13
           have k99:=k60.grown hg13
           have k100:=k61.grown hg13
           have k101:=k62.grown hg13
           have k103:=hO1.grown hg13
           have k104:=hr1.grown hg13
           have gt5:GrL [(blk A_t341),(blk A_t342)] w8 w16:=GrL.add0 gt1 hg13
           refine WA.split [8] (by kernel_rfl) (by kernel_rfl) ?_
           ·obtain ⟨h8,H⟩:=H
            have h9:((hs_t341:List VH).length+([(v_el,F_el)]:List VH).length)*16≤140737488355328:=by rw [k100.1,k104.1]; exact h8
            refine WI.put rfl rfl rfl (Eff.append za rfl One.vv k99 rfl k12.1.symm k103.rd rfl rfl h9 (zx h9) (ze gr16)) (fun v w' ⟨_,_,_,_,h,_⟩=>GrL.mod gt5 h (InP.mem (List.Mem.head _))) ?_
            rintro _ w17 ⟨A_t643,c_t643,rfl,hO6,hg14,hk3⟩
            have el2:(hs_t341++([(v_el,F_el)]:List VH)).length=(t341++([own.getD t38.toNat PV.nil]:List PV)).length:=by rw [List.length_append,List.length_append,k100.1,k104.1]
            rw [el2]
            have gr17:=zk gr16 hg14 k99.ge'
            have k105:=k95.go hg14 dj4
            have k106:=k96.go hg14 dj9
            have k107:=k97.go hg14 dj12
            have k108:=k98.go hg14 dj14
            have k109:=k100.go hg14 dj20
            have k110:=k101.go hg14 dj16.symm
            have k113:=k104.go hg14 dj61
            have k114:=hO5.go hg14 ((Dj.new k60.lt' (Ge.box (Nat.le_of_eq hl5.symm))).symm)
            have hr3:RelD deV w17 (hs_t341++([(v_el,F_el)]:List VH)) (t341++([own.getD t38.toNat PV.nil]:List PV)):=RelD.append k109 k113
            have nd3:OrD (fun p=>DnD deV hs_own own p∧DnD deS hs_from_ from_ p) deV (hs_t341++([(v_el,F_el)]:List VH)) (t341++([own.getD t38.toNat PV.nil]:List PV)) w.heap.size:=OrD.append k100.1 or1 nd1
            have dj70:DnD deV (hs_t341++([(v_el,F_el)]:List VH)) (t341++([own.getD t38.toNat PV.nil]:List PV)) (blk A_t32):=(DnD.append k100.1 dj17 dj58)
            have dj71:DnD deV (hs_t341++([(v_el,F_el)]:List VH)) (t341++([own.getD t38.toNat PV.nil]:List PV)) (some g1):=(DnD.append k100.1 dj18 dj59)
            have dj72:DnD deV (hs_t341++([(v_el,F_el)]:List VH)) (t341++([own.getD t38.toNat PV.nil]:List PV)) (some g_met):=(DnD.append k100.1 dj19 dj60)
            have dj73:DnD deV (hs_t341++([(v_el,F_el)]:List VH)) (t341++([own.getD t38.toNat PV.nil]:List PV)) (blk A_t342):=(DnD.append k100.1 dj21 dj62)
            have dj74:DnD deV (hs_t341++([(v_el,F_el)]:List VH)) (t341++([own.getD t38.toNat PV.nil]:List PV)) (blk (some ⟨g2,0,none⟩)):=(DnD.append k100.1 (k33.new (Ge.box (Nat.le_of_eq hl3.symm))) dj63)
            have dj75:DnD deV (hs_t341++([(v_el,F_el)]:List VH)) (t341++([own.getD t38.toNat PV.nil]:List PV)) (blk (some ⟨g_t702,0,none⟩)):=(DnD.append k100.1 (k61.new (Ge.box (Nat.le_of_eq hl5.symm))) (hr1.new (Ge.box (Nat.le_of_eq hl5.symm))))
            have dj76:DnD deV (hs_t341++([(v_el,F_el)]:List VH)) (t341++([own.getD t38.toNat PV.nil]:List PV)) (blk A_t643):=(DnD.append k100.1 (RelD.app k100 dj20 hk3) (RelD.app k104 dj61 hk3))
            have gt6:GrL [(blk A_t341),(blk A_t342)] w8 w17:=GrL.mod gt5 hg14 (InP.mem (List.Mem.head _))
            refine WA.split [15] (by kernel_rfl) (by kernel_rfl) ?_
            ·obtain ⟨h10,H⟩:=H
             refine WI.put rfl rfl rfl (Eff.append za rfl One.s k110 rfl rfl k114.rd rfl rfl h10 (zx h10) (ze gr17)) (fun v w' ⟨_,_,_,_,h,_⟩=>GrL.mod gt6 h (InP.mem (List.Mem.tail _ (List.Mem.head _)))) ?_
             rintro _ w18 ⟨A_t713,c_t713,rfl,hO7,hg15,hk4⟩
             have k120:=((k63.grown hg13).go hg14 (DnD.cons (DnD.at (hr_own.new k11.ge') (hr_own.grown gr5).1 (Nat.lt_of_lt_of_eq (iltN h2 hr_own.1.symm) (hr_own.grown gr5).1) eh1) DnD.nil)).go hg15 (DnD.cons (DnD.at (hr_own.new k13.ge') (hr_own.grown gr5).1 (Nat.lt_of_lt_of_eq (iltN h2 hr_own.1.symm) (hr_own.grown gr5).1) eh1) DnD.nil)
             have k121:=(k103.go hg14 ((Dj.new k32.lt' (Ge.box (Nat.le_of_eq hl3.symm))).symm)).go hg15 ((Dj.new k34.lt' (Ge.box (Nat.le_of_eq hl3.symm))).symm)
             have k122:=k113.go hg15 dj62
             have k123:=k114.go hg15 ((Dj.new k62.lt' (Ge.box (Nat.le_of_eq hl5.symm))).symm)
             have gt7:GrL [(blk A_t341),(blk A_t342)] w8 w18:=GrL.mod gt6 hg15 (InP.mem (List.Mem.tail _ (List.Mem.head _)))
             exact WA.doneF _ (by kernel_rfl) ⟨A_t643,c_t643,A_t713,c_t713,rfl,H,(zk gr17 hg15 k110.ge'),(k105.go hg15 dj5),(k106.go hg15 dj10),(k107.go hg15 dj13),(k108.go hg15 dj15),(k109.go hg15 dj21),(hO6.go hg15 (Dj.app dj16 k101.lt' hk3)),(hr3.go hg15 dj73),hO7,(Dj.app dj4.symm k95.lt' hk3).symm,(Dj.app dj5.symm k105.lt' hk4).symm,(RelD.app k96 dj9 hk3),(RelD.app k106 dj10 hk4),(Dj.app dj12.symm k97.lt' hk3).symm,(Dj.app dj13.symm k107.lt' hk4).symm,(Dj.app dj14.symm k98.lt' hk3).symm,(Dj.app dj15.symm k108.lt' hk4).symm,(RelD.app k100 dj20 hk3),(RelD.app k109 dj21 hk4),(Dj.app (Dj.app dj16 k101.lt' hk3).symm hO6.lt' hk4).symm,dj70,dj71,dj72,dj76,(RelD.app hr3 dj73 hk4),nd3⟩ (by repeat (first | exact Sub.nil | refine Sub.cons rfl ?_))
         ·refine WI.put rfl rfl rfl (Eff.lit za rfl rfl (zf rfl zm) rfl (by omega)) (fun v w' ⟨_,_,h⟩=>GrL.add0 (GrL.refl _) h) ?_
          rintro _ w19 ⟨rfl,hB11,hg16⟩
          obtain ⟨g_t703,hl6⟩:∃ g,g=w8.heap.size:=⟨_,rfl⟩
          rw [←hl6] at hB11
          rw [←hl6]
          have hO8:Own vs w19 w.heap.size 9 (some ⟨g_t703,0,none⟩) 1 ([t440]:List (List UInt8)):=Own.ofBl hB11 (Nat.le_trans (ze gr8) (Nat.le_of_eq hl6.symm)) (by simp [maxLen]) rfl
          have gr19:=zd gr8 hg16
          have k130:=k32.grown hg16
          have k131:=k33.grown hg16
          have k132:=k34.grown hg16
          have k133:=k35.grown hg16
          have gt8:GrL [(blk A_t341),(blk A_t342)] w8 w19:=GrL.add0 (GrL.refl _) hg16
          refine WA.split [7] (by kernel_rfl) (by kernel_rfl) ?_
          ·refine WI.put rfl rfl rfl (Eff.lit (us:=[v_el.1]) za rfl rfl (zf v_el.2 zm) rfl (by omega)) (fun v w' ⟨_,_,h⟩=>GrL.add0 gt8 h) ?_
           rintro _ w20 ⟨rfl,hB12,hg17⟩
           obtain ⟨g3,hl7⟩:∃ g,g=w19.heap.size:=⟨_,rfl⟩
           rw [←hl7] at hB12
           rw [←hl7]
           have hO9:Own vv w20 w.heap.size 32 (some ⟨g3,0,none⟩) 1 ([(v_el,F_el)]:List VH):=Own.ofBl hB12 (Nat.le_trans (ze gr19) (Nat.le_of_eq hl7.symm)) (by simp [maxLen]) rfl
           have gr20:=zd gr19 hg17
           have k134:=(k29.grown hg16).grown hg17
           have k135:=(k30.grown hg16).grown hg17
           have k136:=(k31.g0 hg16).g0 hg17
           have k137:=(hB3.g0 hg16).g0 hg17
           have k138:=k130.grown hg17
           have k139:=k131.grown hg17
           have k140:=k132.grown hg17
           have k141:=k133.grown hg17
           have hr4:RelD deV w20 ([(v_el,F_el)]:List VH) ([own.getD t38.toNat PV.nil]:List PV):=(RelD.cons (RelD.one k141) RelD.nil)
           have nd4:OrD (fun p=>DnD deV hs_own own p∧DnD deS hs_from_ from_ p) deV ([(v_el,F_el)]:List VH) ([own.getD t38.toNat PV.nil]:List PV) w.heap.size:=(OrD.cons (d:=deV) (fun p_ hp_ q_=>(DnD.one (DnD.cons (DnD.at (q_.1) (hr_own.grown gr5).1 (Nat.lt_of_lt_of_eq (iltN h2 hr_own.1.symm) (hr_own.grown gr5).1) eh1) DnD.nil))) (fun _ _ _=>DnD.nil))
           have dj77:DnD deV ([(v_el,F_el)]:List VH) ([own.getD t38.toNat PV.nil]:List PV) (blk A_t32):=(DnD.cons (d:=deV) (DnD.one (DnD.cons (DnD.at (hr_own.new k7.ge') (hr_own.grown gr5).1 (Nat.lt_of_lt_of_eq (iltN h2 hr_own.1.symm) (hr_own.grown gr5).1) eh1) DnD.nil)) DnD.nil)
           have dj78:DnD deV ([(v_el,F_el)]:List VH) ([own.getD t38.toNat PV.nil]:List PV) (some g1):=(DnD.cons (d:=deV) (DnD.one (DnD.cons (DnD.at (hr_own.new (Ge.le (Ge.box hl1) (ze gr2))) (hr_own.grown gr5).1 (Nat.lt_of_lt_of_eq (iltN h2 hr_own.1.symm) (hr_own.grown gr5).1) eh1) DnD.nil)) DnD.nil)
           have dj79:DnD deV ([(v_el,F_el)]:List VH) ([own.getD t38.toNat PV.nil]:List PV) (some g_met):=(DnD.cons (d:=deV) (DnD.one (DnD.cons (DnD.at (hr_own.new (Ge.le (Ge.box (Nat.le_of_eq hl2.symm)) (ze gr3))) (hr_own.grown gr5).1 (Nat.lt_of_lt_of_eq (iltN h2 hr_own.1.symm) (hr_own.grown gr5).1) eh1) DnD.nil)) DnD.nil)
           have dj80:DnD deV ([(v_el,F_el)]:List VH) ([own.getD t38.toNat PV.nil]:List PV) (blk A_t341):=(DnD.cons (d:=deV) (DnD.one (DnD.cons (DnD.at (hr_own.new k11.ge') (hr_own.grown gr5).1 (Nat.lt_of_lt_of_eq (iltN h2 hr_own.1.symm) (hr_own.grown gr5).1) eh1) DnD.nil)) DnD.nil)
           have dj81:DnD deV ([(v_el,F_el)]:List VH) ([own.getD t38.toNat PV.nil]:List PV) (blk A_t342):=(DnD.cons (d:=deV) (DnD.one (DnD.cons (DnD.at (hr_own.new k13.ge') (hr_own.grown gr5).1 (Nat.lt_of_lt_of_eq (iltN h2 hr_own.1.symm) (hr_own.grown gr5).1) eh1) DnD.nil)) DnD.nil)
           have dj82:DnD deV ([(v_el,F_el)]:List VH) ([own.getD t38.toNat PV.nil]:List PV) (blk (some ⟨g_t703,0,none⟩)):=(DnD.cons (d:=deV) (DnD.one (k35.new (Ge.box (Nat.le_of_eq hl6.symm)))) DnD.nil)
           have dj83:DnD deV ([(v_el,F_el)]:List VH) ([own.getD t38.toNat PV.nil]:List PV) (blk (some ⟨g3,0,none⟩)):=(DnD.cons (d:=deV) (DnD.one (k133.new (Ge.box (Nat.le_of_eq hl7.symm)))) DnD.nil)
           have gt9:GrL [(blk A_t341),(blk A_t342)] w8 w20:=GrL.add0 gt8 hg17
           refine WA.split [8] (by kernel_rfl) (by kernel_rfl) ?_
           ·obtain ⟨h11,H⟩:=H
            have h12:((hs_t341:List VH).length+([(v_el,F_el)]:List VH).length)*16≤140737488355328:=by rw [k139.1,hr4.1]; exact h11
            refine WI.put rfl rfl rfl (Eff.append za rfl One.vv k138 rfl k12.1.symm hO9.rd rfl rfl h12 (zx h12) (ze gr20)) (fun v w' ⟨_,_,_,_,h,_⟩=>GrL.mod gt9 h (InP.mem (List.Mem.head _))) ?_
            rintro _ w21 ⟨A_t644,c_t644,rfl,hO10,hg18,hk5⟩
            have el3:(hs_t341++([(v_el,F_el)]:List VH)).length=(t341++([own.getD t38.toNat PV.nil]:List PV)).length:=by rw [List.length_append,List.length_append,k139.1,hr4.1]
            rw [el3]
            have gr21:=zk gr20 hg18 k138.ge'
            have k143:=k134.go hg18 dj4
            have k144:=k135.go hg18 dj9
            have k145:=k136.go hg18 dj12
            have k146:=k137.go hg18 dj14
            have k147:=k139.go hg18 dj20
            have k148:=k140.go hg18 dj16.symm
            have k150:=(hO8.grown hg17).go hg18 ((Dj.new k32.lt' (Ge.box (Nat.le_of_eq hl6.symm))).symm)
            have k152:=hr4.go hg18 dj80
            have hr5:RelD deV w21 (hs_t341++([(v_el,F_el)]:List VH)) (t341++([own.getD t38.toNat PV.nil]:List PV)):=RelD.append k147 k152
            have nd5:OrD (fun p=>DnD deV hs_own own p∧DnD deS hs_from_ from_ p) deV (hs_t341++([(v_el,F_el)]:List VH)) (t341++([own.getD t38.toNat PV.nil]:List PV)) w.heap.size:=OrD.append k139.1 or1 nd4
            have dj84:DnD deV (hs_t341++([(v_el,F_el)]:List VH)) (t341++([own.getD t38.toNat PV.nil]:List PV)) (blk A_t32):=(DnD.append k139.1 dj17 dj77)
            have dj85:DnD deV (hs_t341++([(v_el,F_el)]:List VH)) (t341++([own.getD t38.toNat PV.nil]:List PV)) (some g1):=(DnD.append k139.1 dj18 dj78)
            have dj86:DnD deV (hs_t341++([(v_el,F_el)]:List VH)) (t341++([own.getD t38.toNat PV.nil]:List PV)) (some g_met):=(DnD.append k139.1 dj19 dj79)
            have dj87:DnD deV (hs_t341++([(v_el,F_el)]:List VH)) (t341++([own.getD t38.toNat PV.nil]:List PV)) (blk A_t342):=(DnD.append k139.1 dj21 dj81)
            have dj88:DnD deV (hs_t341++([(v_el,F_el)]:List VH)) (t341++([own.getD t38.toNat PV.nil]:List PV)) (blk (some ⟨g_t703,0,none⟩)):=(DnD.append k139.1 (k33.new (Ge.box (Nat.le_of_eq hl6.symm))) dj82)
            have dj89:DnD deV (hs_t341++([(v_el,F_el)]:List VH)) (t341++([own.getD t38.toNat PV.nil]:List PV)) (blk (some ⟨g3,0,none⟩)):=(DnD.append k139.1 (k131.new (Ge.box (Nat.le_of_eq hl7.symm))) dj83)
            have dj90:DnD deV (hs_t341++([(v_el,F_el)]:List VH)) (t341++([own.getD t38.toNat PV.nil]:List PV)) (blk A_t644):=(DnD.append k139.1 (RelD.app k139 dj20 hk5) (RelD.app hr4 dj80 hk5))
            have gt10:GrL [(blk A_t341),(blk A_t342)] w8 w21:=GrL.mod gt9 hg18 (InP.mem (List.Mem.head _))
            refine WA.split [15] (by kernel_rfl) (by kernel_rfl) ?_
            ·obtain ⟨h13,H⟩:=H
             refine WI.put rfl rfl rfl (Eff.append za rfl One.s k148 rfl rfl k150.rd rfl rfl h13 (zx h13) (ze gr21)) (fun v w' ⟨_,_,_,_,h,_⟩=>GrL.mod gt10 h (InP.mem (List.Mem.tail _ (List.Mem.head _)))) ?_
             rintro _ w22 ⟨A_t714,c_t714,rfl,hO11,hg19,hk6⟩
             have k158:=(k141.go hg18 (DnD.cons (DnD.at (hr_own.new k11.ge') (hr_own.grown gr5).1 (Nat.lt_of_lt_of_eq (iltN h2 hr_own.1.symm) (hr_own.grown gr5).1) eh1) DnD.nil)).go hg19 (DnD.cons (DnD.at (hr_own.new k13.ge') (hr_own.grown gr5).1 (Nat.lt_of_lt_of_eq (iltN h2 hr_own.1.symm) (hr_own.grown gr5).1) eh1) DnD.nil)
             have k159:=k150.go hg19 ((Dj.new k34.lt' (Ge.box (Nat.le_of_eq hl6.symm))).symm)
             have k160:=(hO9.go hg18 ((Dj.new k130.lt' (Ge.box (Nat.le_of_eq hl7.symm))).symm)).go hg19 ((Dj.new k132.lt' (Ge.box (Nat.le_of_eq hl7.symm))).symm)
             have k161:=k152.go hg19 dj81
             have gt11:GrL [(blk A_t341),(blk A_t342)] w8 w22:=GrL.mod gt10 hg19 (InP.mem (List.Mem.tail _ (List.Mem.head _)))
             exact WA.doneF _ (by kernel_rfl) ⟨A_t644,c_t644,A_t714,c_t714,rfl,H,(zk gr21 hg19 k148.ge'),(k143.go hg19 dj5),(k144.go hg19 dj10),(k145.go hg19 dj13),(k146.go hg19 dj15),(k147.go hg19 dj21),(hO10.go hg19 (Dj.app dj16 k140.lt' hk5)),(hr5.go hg19 dj87),hO11,(Dj.app dj4.symm k134.lt' hk5).symm,(Dj.app dj5.symm k143.lt' hk6).symm,(RelD.app k135 dj9 hk5),(RelD.app k144 dj10 hk6),(Dj.app dj12.symm k136.lt' hk5).symm,(Dj.app dj13.symm k145.lt' hk6).symm,(Dj.app dj14.symm k137.lt' hk5).symm,(Dj.app dj15.symm k146.lt' hk6).symm,(RelD.app k139 dj20 hk5),(RelD.app k147 dj21 hk6),(Dj.app (Dj.app dj16 k140.lt' hk5).symm hO10.lt' hk6).symm,dj84,dj85,dj86,dj90,(RelD.app hr5 dj87 hk6),nd5⟩ (by repeat (first | exact Sub.nil | refine Sub.cons rfl ?_))
       ·replace H:=H.2 (b5)
        refine WC.skip (WX.block_normal ?_)
        exact WX.weaken (by repeat (first | exact Sub.nil | refine Sub.cons rfl ?_)) (hQ _ _ ⟨t341,A_t341,c_t341,t341.length,hs_t341,t342,A_t342,c_t342,t342.length,met,rfl,H,rfl,rfl,gr7,k21,k22,k23,k24,k25,k26,k27,dj2,dj3,dj4,dj5,dj6,dj7,dj8,dj9,dj10,dj11,dj12,dj13,dj14,dj15,dj16,dj17,dj18,dj19,dj20,dj21,or1⟩)
    ·replace H:=H.2 (of_decide_eq_false b3)
     refine WC.exit (WX.then_exit (WX.then_exit (WX.block_same (WX.then_normal (WC.seq (WC.region (yp (h:=(yp (h:=(yp (h:=(WL.y rfl (Yld.fa0 (o:=1) (by kernel_rfl) rfl) (WL.y rfl (Yld.bload za k9 rfl rfl rfl) (yp (h:=(yp (h:=(yp (h:=(WL.y rfl (Yld.fa0 (o:=5) (by kernel_rfl) rfl) (WL.store1 one4 rfl rfl rfl k9 (by simp) (fun w23 hB14 hg20=>?_)))))))))))))))))))))))
     have hB13:Bl w23 g1 126 [.int .i64 order,.slice A_t341 t341.length c_t341,.slice A_t342 t342.length c_t342,.slice A_t32 t32.length c_t32,.int .i64 (0:Int),.bool (decide ((t341.length:Int)=(0:Int)))]:=hB14
     refine WL.nil (WX.then_normal (WC.seq (WC.seq (WC.region (yp (h:=(yp (h:=(yp (h:=(WL.nil (WX.then_normal (WC.block ?_)))))))))))))
     obtain ⟨I2,mu2,h0_2,HR2⟩:=H
     refine WC.loopF (fun n' L' w'=>∃ (t88:Int),∃ (t344:Int),∃ (t345:Bool),n'=mu2 t88 t344 t345∧L'=[(0,.int .i64 order),(1,.slice A_own own.length c_own),(2,.slice A_from from_.length c_from),(8,.pointer (some ⟨g1,0,none⟩)),(86,.slice A_from from_.length c_from),(87,.int .i64 (from_.length:Int)),(88,.int .i64 t88)]∧I2 t88 t344 t345∧w.grownBy w' none∧Own vv w' w.heap.size 41 A_t32 c_t32 hs_t32∧RelD deS w' hs_t32 t32∧Bl w' g1 126 [.int .i64 order,.slice A_t341 t341.length c_t341,.slice A_t342 t342.length c_t342,.slice A_t32 t32.length c_t32,.int .i64 t344,.bool t345]∧Own vv w' w.heap.size 32 A_t341 c_t341 hs_t341∧RelD deV w' hs_t341 t341∧Own vs w' w.heap.size 9 A_t342 c_t342 t342∧Dj (blk A_t32) (some g1)∧Dj (blk A_t32) (blk A_t341)∧Dj (blk A_t32) (blk A_t342)∧DnD deS hs_t32 t32 (blk A_t32)∧DnD deS hs_t32 t32 (some g1)∧DnD deS hs_t32 t32 (blk A_t341)∧DnD deS hs_t32 t32 (blk A_t342)∧Dj (some g1) (blk A_t341)∧Dj (some g1) (blk A_t342)∧Dj (blk A_t341) (blk A_t342)∧DnD deV hs_t341 t341 (blk A_t32)∧DnD deV hs_t341 t341 (some g1)∧DnD deV hs_t341 t341 (blk A_t341)∧DnD deV hs_t341 t341 (blk A_t342)∧OrD (fun p=>DnD deV hs_own own p∧DnD deS hs_from_ from_ p) deV hs_t341 t341 w.heap.size) _ _ ⟨(0:Int),(0:Int),decide ((t341.length:Int)=(0:Int)),rfl,rfl,h0_2,(zk gr5 hg20 (Ge.le (Ge.box hl1) (ze gr2))),(k7.go hg20 dj2),(k8.go hg20 dj7),hB13,(k11.go hg20 dj12.symm),(k12.go hg20 dj18),(k13.go hg20 dj13.symm),dj2,dj4,dj5,dj6,dj7,dj9,dj10,dj12,dj13,dj16,dj17,dj18,dj20,dj21,or1⟩ (by repeat (first | exact Sub.nil | refine Sub.cons rfl ?_)) ?_
     clear h0_2
     rintro _ _ w24 ⟨t88,t344,t345,rfl,rfl,hI2,gr24,k169,k170,k171,k172,k173,k174,dj91,dj92,dj93,dj94,dj95,dj96,dj97,dj98,dj99,dj100,dj101,dj102,dj103,dj104,or4⟩
     have H:=HR2 t88 t344 t345 hI2
     refine WC.seq (WC.region (yp (h:=(WL.nil (WX.then_normal (WC.seq (WC.cond rfl (fun b6=>?_) (fun b6=>?_))))))))
     ·replace H:=H.1 (of_decide_eq_true b6)
      refine WC.skip (WX.then_normal (WC.seq (WC.block (WC.seq (WC.region ?_)))))
      obtain ⟨h14,H⟩:=H
      refine WL.y rfl (Yld.iaddrW za (hfrom_.grown gr24) rfl rfl hr_from_.1.symm rfl h14.1 h14.2) ?_
      obtain ⟨⟨v_el2,F_el2⟩,eh2,hR2⟩:=RelD.at (hr_from_.grown gr24) vh0 PS.nil (j:=t88.toNat) (Nat.lt_of_lt_of_eq (iltN h14 hr_from_.1.symm) (hr_from_.grown gr24).1)
      have hv6:RelD deS w24 [(v_el2,F_el2)] [from_.getD t88.toNat PS.nil]:=RelD.cons hR2 RelD.nil
      refine WL.y rfl (Yld.to (v:=v_el2.1) (Yld.iload vh0 za (hfrom_.grown gr24) rfl rfl (iltN h14 hr_from_.1.symm)) (congrArg vv eh2)) (yp (h:=(WL.nil (WX.then_normal (WC.seq (WC.seq (WC.region ?_)))))))
      obtain ⟨h15,H⟩:=H
      obtain ⟨A_own2,c_own2,A_keys,c_keys,A_fr,c_fr,ho,hf,hv7,hB15,hR3,hr6,hR4,hR5,hr7,hd1,hd2,hd3,hd4,hd5,hd6⟩:=SR.out hv6 h15
      refine yp (h:=(WL.y rfl (nilpV hv7 rfl) (WL.y rfl (Yld.fa0 (o:=0) (by kernel_rfl) rfl) (WL.y rfl (Yld.bload za hB15 rfl rfl rfl) (yp (h:=(yp (h:=(yp (h:=(WL.midF 6 (fun L' w'=>∃ q2:Bool,L'=[(104,.bool q2),(0,.int .i64 order),(1,.slice A_own own.length c_own),(2,.slice A_from from_.length c_from),(8,.pointer (some ⟨g1,0,none⟩)),(15,v_el2.1),(86,.slice A_from from_.length c_from),(87,.int .i64 (from_.length:Int)),(88,.int .i64 t88)]∧((!decide (((from_.getD t88.toNat PS.nil).order)=order)) && (!decide (((from_.getD t88.toNat PS.nil).order)=(1:Int))))=q2∧w24=w') ?_ (fun hQ=>?_))))))))))))
      ·rintro _ _ ⟨q2,rfl,rfl,rfl⟩
       refine yp (h:=(WL.midF 3 (fun L' w'=>∃ q3:Bool,L'=[(108,.bool q3),(0,.int .i64 order),(1,.slice A_own own.length c_own),(2,.slice A_from from_.length c_from),(8,.pointer (some ⟨g1,0,none⟩)),(15,v_el2.1),(86,.slice A_from from_.length c_from),(87,.int .i64 (from_.length:Int)),(88,.int .i64 t88)]∧(((!decide (((from_.getD t88.toNat PS.nil).order)=order)) && (!decide (((from_.getD t88.toNat PS.nil).order)=(1:Int)))) && (!decide (order=(1:Int))))=q3∧w24=w') ?_ (fun hQ=>?_)))
       ·rintro _ _ ⟨q3,rfl,rfl,rfl⟩
        refine WL.nil (WX.then_normal (WC.cond rfl (fun b7=>?_) (fun b7=>?_)))
        ·replace H:=H.1 (b7)
         refine WC.seq (WC.quiet mixed (by kernel_rfl) ?_)
         obtain ⟨vE3,_,hE3⟩:=GOK.get (hG.grown gr24) 3 0 hS3 rfl rfl
         refine WQ.y rfl (Yld.cell za (ErrR.cell hE3 rfl) rfl rfl) ?_
         have hv8:RelD deS w24 [(pnil,noF)] [PS.nil]:=deS_nil
         exact WQ.y rfl (Yld.pure za rfl) (WQ.y rfl (Yld.pure za rfl) (WQ.nil (WX.then_normal (WC.ret (WX.then_ret (WX.block_ret (WX.then_ret (WX.then_ret (WX.block_ret (WX.then_ret (WX.ret2 rfl rfl rfl ⟨gr24,pnil,noF,PS.nil,vE3,(Er.e 3),rfl,hv8,(fun p_ hp_ v0_ v1_=>deS_nilD),(fun h_=>absurd rfl h_),hE3,H⟩)))))))))))
        ·replace H:=H.2 (b7)
         refine WC.skip (WX.then_normal (WC.seq (WC.chainF (fun k => !(Nat.beq k 13)) (LD [4,8] (fun w'=>Bl w' g1 126 [.int .i64 order,.slice A_t341 t341.length c_t341,.slice A_t342 t342.length c_t342,.slice A_t32 t32.length c_t32,.int .i64 t344,.bool t345]∧Bl w' (from_.getD t88.toNat PS.nil).id 126 [.int .i64 ((from_.getD t88.toNat PS.nil).order),.slice A_own2 ((from_.getD t88.toNat PS.nil).own.length) c_own2,.slice A_keys (((from_.getD t88.toNat PS.nil).own.map keyP).length) c_keys,.slice A_fr ((from_.getD t88.toNat PS.nil).fr.length) c_fr,.int .i64 ((from_.getD t88.toNat PS.nil).deep),.bool ((from_.getD t88.toNat PS.nil).empty)])) mixed (by kernel_rfl) (fun k w' h _=>⟨(zU h k171),(zU h hB15)⟩) (WJ.y rfl rfl (fun w' hw'=>Yld.pure za rfl) (WJ.y rfl rfl (fun w' hw'=>Yld.pure za rfl) (WJ.y rfl rfl (fun w' hw'=>Yld.pure za rfl) (WJ.y rfl rfl (fun w' hw'=>Yld.fa0 (o:=4) (by kernel_rfl) rfl) (WJ.y rfl rfl (fun w' hw'=>Yld.bload za (hw' rfl).1 rfl rfl rfl) (WJ.y rfl rfl (fun w' hw'=>Yld.pure za rfl) (WJ.y rfl rfl (fun w' hw'=>nilpV hv7 rfl) (WJ.y rfl rfl (fun w' hw'=>Yld.fa0 (o:=4) (by kernel_rfl) rfl) (WJ.y rfl rfl (fun w' hw'=>Yld.bload za (hw' rfl).2 rfl rfl rfl) ?_))))))))))))
         obtain ⟨h16,H⟩:=H
         refine WJ.y rfl rfl (fun w' hw'=>Yld.add rfl rfl h16) (WJ.y rfl rfl (fun w' hw'=>Yld.max2 rfl rfl) (WJ.y rfl rfl (fun w' hw'=>Yld.pure za rfl) (WJ.y rfl rfl (fun w' hw'=>Yld.fa0 (o:=4) (by kernel_rfl) rfl) (WJ.eff rfl (Ef0.store1 one3 rfl rfl rfl k171 (by simp)) (fun w' h=>DD.past (by kernel_rfl)) ?_))))
         rintro w25 ⟨hB17,hg21⟩
         have hB16:Bl w25 g1 126 [.int .i64 order,.slice A_t341 t341.length c_t341,.slice A_t342 t342.length c_t342,.slice A_t32 t32.length c_t32,.int .i64 (if t344<(((from_.getD t88.toNat PS.nil).deep)+(1:Int)) then ((from_.getD t88.toNat PS.nil).deep)+(1:Int) else t344),.bool t345]:=hB17
         have k180:=hv6.go hg21 (DnD.cons (DnD.at (hr_from_.new (Ge.le (Ge.box hl1) (ze gr2))) (hr_from_.grown gr24).1 (Nat.lt_of_lt_of_eq (iltN h14 hr_from_.1.symm) (hr_from_.grown gr24).1) eh2) DnD.nil)
         have k181:=hR3.go hg21 (hd2 _ (DnD.cons (DnD.at (hr_from_.new (Ge.le (Ge.box hl1) (ze gr2))) (hr_from_.grown gr24).1 (Nat.lt_of_lt_of_eq (iltN h14 hr_from_.1.symm) (hr_from_.grown gr24).1) eh2) DnD.nil))
         have k182:=hr6.go hg21 (hd3 _ (DnD.cons (DnD.at (hr_from_.new (Ge.le (Ge.box hl1) (ze gr2))) (hr_from_.grown gr24).1 (Nat.lt_of_lt_of_eq (iltN h14 hr_from_.1.symm) (hr_from_.grown gr24).1) eh2) DnD.nil))
         have k183:=hR4.go hg21 (hd4 _ (DnD.cons (DnD.at (hr_from_.new (Ge.le (Ge.box hl1) (ze gr2))) (hr_from_.grown gr24).1 (Nat.lt_of_lt_of_eq (iltN h14 hr_from_.1.symm) (hr_from_.grown gr24).1) eh2) DnD.nil))
         have k184:=hR5.go hg21 (hd5 _ (DnD.cons (DnD.at (hr_from_.new (Ge.le (Ge.box hl1) (ze gr2))) (hr_from_.grown gr24).1 (Nat.lt_of_lt_of_eq (iltN h14 hr_from_.1.symm) (hr_from_.grown gr24).1) eh2) DnD.nil))
         have k185:=hr7.go hg21 (hd6 _ (DnD.cons (DnD.at (hr_from_.new (Ge.le (Ge.box hl1) (ze gr2))) (hr_from_.grown gr24).1 (Nat.lt_of_lt_of_eq (iltN h14 hr_from_.1.symm) (hr_from_.grown gr24).1) eh2) DnD.nil))
         refine WJ.nil (WX.then_normal (WC.region (yp (h:=(yp (h:=(yp (h:=(WL.y rfl (Yld.fa0 (o:=5) (by kernel_rfl) rfl) (WL.y rfl (Yld.bload za hB16 rfl rfl rfl) (yp (h:=(WL.midF 5 (fun L' w'=>∃ q4:Bool,L'=[(133,.bool q4),(0,.int .i64 order),(1,.slice A_own own.length c_own),(2,.slice A_from from_.length c_from),(8,.pointer (some ⟨g1,0,none⟩)),(86,.slice A_from from_.length c_from),(87,.int .i64 (from_.length:Int)),(88,.int .i64 t88),(123,.pointer (some ⟨g1,0,none⟩))]∧(t345 && ((from_.getD t88.toNat PS.nil).empty))=q4∧w25=w') ?_ (fun hQ=>?_))))))))))))))
         ·rintro _ _ ⟨q4,rfl,rfl,rfl⟩
          refine yp (h:=(WL.y rfl (Yld.fa0 (o:=5) (by kernel_rfl) rfl) (WL.store1 one4 rfl rfl rfl hB16 (by simp) (fun w26 hB19 hg22=>?_))))
          have hB18:Bl w26 g1 126 [.int .i64 order,.slice A_t341 t341.length c_t341,.slice A_t342 t342.length c_t342,.slice A_t32 t32.length c_t32,.int .i64 (if t344<(((from_.getD t88.toNat PS.nil).deep)+(1:Int)) then ((from_.getD t88.toNat PS.nil).deep)+(1:Int) else t344),.bool (t345 && ((from_.getD t88.toNat PS.nil).empty))]:=hB19
          refine WL.nil (WX.block_normal (WX.then_normal (WC.region ?_)))
          obtain ⟨h17,H⟩:=H
          refine WL.y rfl (Yld.add rfl rfl h17) (yp (h:=(WL.nil ?_)))
          exact WX.roundF _ ⟨t88+(1:Int),(if t344<(((from_.getD t88.toNat PS.nil).deep)+(1:Int)) then ((from_.getD t88.toNat PS.nil).deep)+(1:Int) else t344),t345 && ((from_.getD t88.toNat PS.nil).empty),rfl,rfl,H.1,(zk (zk gr24 hg21 (Ge.le (Ge.box hl1) (ze gr2))) hg22 (Ge.le (Ge.box hl1) (ze gr2))),((k169.go hg21 dj91).go hg22 dj91),((k170.go hg21 dj95).go hg22 dj95),hB18,((k172.go hg21 dj98.symm).go hg22 dj98.symm),((k173.go hg21 dj102).go hg22 dj102),((k174.go hg21 dj99.symm).go hg22 dj99.symm),dj91,dj92,dj93,dj94,dj95,dj96,dj97,dj98,dj99,dj100,dj101,dj102,dj103,dj104,or4⟩ (by repeat (first | exact Sub.nil | refine Sub.cons rfl ?_)) H.2
         ·clear H
          rcases Bool.eq_false_or_eq_true (t345) with b8 | b8
          ·exact gp b8 (h:=(WL.gyes rfl rfl (okb b8) rfl (nilpV hv7 rfl) (WL.gyes rfl rfl (okb b8) rfl (Yld.fa0 (o:=5) (by kernel_rfl) rfl) (WL.gyes rfl rfl (okb b8) rfl (Yld.bload za (hB15.go hg21 (hd1 _ (DnD.cons (DnD.at (hr_from_.new (Ge.le (Ge.box hl1) (ze gr2))) (hr_from_.grown gr24).1 (Nat.lt_of_lt_of_eq (iltN h14 hr_from_.1.symm) (hr_from_.grown gr24).1) eh2) DnD.nil))) rfl rfl rfl) (WL.y rfl (Yld.pickT (okb b8) rfl) (wk (hQ _ _ ⟨(from_.getD t88.toNat PS.nil).empty,rfl,by rw [b8] <;> rfl,rfl⟩)))))))
          ·exact gn b8 (h:=(gn b8 (h:=(gn b8 (h:=(gn b8 (h:=(WL.y rfl (Yld.pickF (okb b8) rfl) (wk (hQ _ _ ⟨false,rfl,by rw [b8] <;> rfl,rfl⟩))))))))))
       ·clear H
        rcases Bool.eq_false_or_eq_true ((!decide (((from_.getD t88.toNat PS.nil).order)=order)) && (!decide (((from_.getD t88.toNat PS.nil).order)=(1:Int)))) with b9 | b9
        ·exact gp b9 (h:=(gp b9 (h:=(WL.y rfl (Yld.pickT (okb b9) rfl) (wk (hQ _ _ ⟨!decide (order=(1:Int)),rfl,by rw [b9] <;> rfl,rfl⟩))))))
        ·exact gn b9 (h:=(gn b9 (h:=(WL.y rfl (Yld.pickF (okb b9) rfl) (wk (hQ _ _ ⟨false,rfl,by rw [b9] <;> rfl,rfl⟩))))))
      ·clear H
       rcases Bool.eq_false_or_eq_true (!decide (((from_.getD t88.toNat PS.nil).order)=order)) with b10 | b10
       ·exact gp b10 (h:=(WL.gyes rfl rfl (okb b10) rfl (nilpV hv7 rfl) (WL.gyes rfl rfl (okb b10) rfl (Yld.fa0 (o:=0) (by kernel_rfl) rfl) (WL.gyes rfl rfl (okb b10) rfl (Yld.bload za hB15 rfl rfl rfl) (gp b10 (h:=(WL.y rfl (Yld.pickT (okb b10) rfl) (wk (hQ _ _ ⟨!decide (((from_.getD t88.toNat PS.nil).order)=(1:Int)),rfl,by rw [b10] <;> rfl,rfl⟩)))))))))
       ·exact gn b10 (h:=(gn b10 (h:=(gn b10 (h:=(gn b10 (h:=(gn b10 (h:=(WL.y rfl (Yld.pickF (okb b10) rfl) (wk (hQ _ _ ⟨false,rfl,by rw [b10] <;> rfl,rfl⟩))))))))))))
     ·replace H:=H.2 (of_decide_eq_false b6)
      refine WC.exit (WX.then_exit (WX.then_exit (WX.block_same (WX.then_normal (WC.seq (WC.seq (WC.region (yp (h:=(yp (h:=(WL.y rfl (Yld.fa0 (o:=4) (by kernel_rfl) rfl) (WL.y rfl (Yld.bload za k171 rfl rfl rfl) (yp (h:=(yp (h:=(WL.midF 4 (fun L' w'=>∃ q5:Bool,L'=[(146,.bool q5),(1,.slice A_own own.length c_own),(2,.slice A_from from_.length c_from),(8,.pointer (some ⟨g1,0,none⟩))]∧((decide ((1000:Int)<t344)) || (decide ((1024:Int)<(own.length:Int))))=q5∧w24=w') ?_ (fun hQ=>?_)))))))))))))))))))
      ·rintro _ _ ⟨q5,rfl,rfl,rfl⟩
       refine yp (h:=?_)
       obtain ⟨h18,H⟩:=H
       refine WL.midF 7 (fun L' w'=>∃ q6:Bool,L'=[(154,.bool q6),(8,.pointer (some ⟨g1,0,none⟩))]∧(((decide ((1000:Int)<t344)) || (decide ((1024:Int)<(own.length:Int)))) || (decide (((1024:Int) - (own.length:Int))<(from_.length:Int))))=q6∧w24=w') ?_ (fun hQ=>?_)
       ·rintro _ _ ⟨q6,rfl,rfl,rfl⟩
        refine WL.nil (WX.then_normal (WC.cond rfl (fun b11=>?_) (fun b11=>?_)))
        ·replace H:=H.1 (b11)
         refine WC.seq (WC.quiet mixed (by kernel_rfl) ?_)
         obtain ⟨vE4,_,hE4⟩:=GOK.get (hG.grown gr24) 7 1 hS7 rfl rfl
         refine WQ.y rfl (Yld.cell za (ErrR.cell hE4 rfl) rfl rfl) ?_
         have hv9:RelD deS w24 [(pnil,noF)] [PS.nil]:=deS_nil
         exact WQ.y rfl (Yld.pure za rfl) (WQ.y rfl (Yld.pure za rfl) (WQ.nil (WX.then_normal (WC.ret (WX.then_ret (WX.ret2 rfl rfl rfl ⟨gr24,pnil,noF,PS.nil,vE4,(Er.e 7),rfl,hv9,(fun p_ hp_ v0_ v1_=>deS_nilD),(fun h_=>absurd rfl h_),hE4,H⟩))))))
        ·replace H:=H.2 (b11)
         refine WC.skip (WX.then_normal (WC.seq (WC.region (yp (h:=(WL.nil (WX.then_normal (WC.seq (WC.seq (WC.region (yp (h:=?_))))))))))))
         obtain ⟨h19,H⟩:=H
         obtain ⟨h20,H⟩:=H
         obtain ⟨h21,H⟩:=H
         replace H:=H g1
         have hp1:=deS_pack (order:=order) (deep:=t344) (empty:=t345) (ho:=hs_t341) (hf:=hs_t32) (own:=t341) (fr:=t32) (keys:=t342) k171 k172.rd k173 h19 h20 k174.rd k169.rd k170 h21 k172.lt' k174.lt' k169.lt'
         refine WL.call rfl rfl (W_pdeps_Set_sets hp1.1 H) ?_
         rintro _ w27 ⟨hg23,t157,A_t157,c_t157,hs_t157,rfl,ht157,hr_t157,ho2,dj105,H⟩
         have hb2:=ht157.ge'
         have k192:=ht157.base (fun g hg=>Nat.le_trans (ze gr24) (hb2 g hg))
         have gr27:=zd gr24 hg23
         refine yp (h:=(yp (h:=(WL.nil (WX.then_normal (WC.block ?_))))))
         obtain ⟨I3,mu3,h0_3,HR3⟩:=H
         refine WC.loopF (fun n' L' w'=>∃ (n:Int),∃ (t159:Int),n'=mu3 n t159∧L'=[(8,.pointer (some ⟨g1,0,none⟩)),(16,.int .i64 n),(157,.slice A_t157 t157.length c_t157),(158,.int .i64 (t157.length:Int)),(159,.int .i64 t159)]∧I3 n t159∧w27=w') _ _ ⟨(0:Int),(0:Int),rfl,rfl,h0_3,rfl⟩ (by repeat (first | exact Sub.nil | refine Sub.cons rfl ?_)) ?_
         clear h0_3
         rintro _ _ _ ⟨n,t159,rfl,rfl,hI3,rfl⟩
         have H:=HR3 n t159 hI3
         refine WC.seq (WC.region (yp (h:=(WL.nil (WX.then_normal (WC.seq (WC.cond rfl (fun b12=>?_) (fun b12=>?_))))))))
         ·replace H:=H.1 (of_decide_eq_true b12)
          refine WC.skip (WX.then_normal (WC.seq (WC.block (WC.seq (WC.region ?_)))))
          obtain ⟨h22,H⟩:=H
          refine WL.y rfl (Yld.iaddrW za k192.rd rfl rfl hr_t157.1.symm rfl h22.1 h22.2) ?_
          obtain ⟨⟨v_el3,F_el3⟩,eh3,hR6⟩:=RelD.at hr_t157 vh0 PS.nil (j:=t159.toNat) (Nat.lt_of_lt_of_eq (iltN h22 hr_t157.1.symm) hr_t157.1)
          have hv10:RelD deS w27 [(v_el3,F_el3)] [t157.getD t159.toNat PS.nil]:=RelD.cons hR6 RelD.nil
          refine WL.y rfl (Yld.to (v:=v_el3.1) (Yld.iload vh0 za k192.rd rfl rfl (iltN h22 hr_t157.1.symm)) (congrArg vv eh3)) (yp (h:=(WL.nil (WX.then_normal (WC.seq (WC.region (yp (h:=(yp (h:=?_))))))))))
          obtain ⟨h23,H⟩:=H
          obtain ⟨A_own3,c_own3,A_keys2,c_keys2,A_fr2,c_fr2,ho2,hf2,hv11,hB20,hR7,hr8,hR8,hR9,hr9,hd7,hd8,hd9,hd10,hd11,hd12⟩:=SR.out hv10 h23
          refine WL.y rfl (nilpV hv11 rfl) (WL.y rfl (Yld.fa0 (o:=1) (by kernel_rfl) rfl) (WL.y rfl (Yld.bload za hB20 rfl rfl rfl) (yp (h:=?_))))
          obtain ⟨h24,H⟩:=H
          refine WL.y rfl (Yld.add rfl rfl h24) (yp (h:=(WL.nil (WX.then_normal (WC.seq (WC.region (yp (h:=(yp (h:=(WL.nil (WX.then_normal (WC.cond rfl (fun b13=>?_) (fun b13=>?_))))))))))))))
          ·replace H:=H.1 (of_decide_eq_true b13)
           refine WC.seq (WC.quiet mixed (by kernel_rfl) ?_)
           obtain ⟨vE5,_,hE5⟩:=GOK.get (hG.grown gr27) 7 1 hS7 rfl rfl
           refine WQ.y rfl (Yld.cell za (ErrR.cell hE5 rfl) rfl rfl) ?_
           have hv12:RelD deS w27 [(pnil,noF)] [PS.nil]:=deS_nil
           exact WQ.y rfl (Yld.pure za rfl) (WQ.y rfl (Yld.pure za rfl) (WQ.nil (WX.then_normal (WC.ret (WX.block_ret (WX.then_ret (WX.then_ret (WX.block_ret (WX.then_ret (WX.ret2 rfl rfl rfl ⟨gr27,pnil,noF,PS.nil,vE5,(Er.e 7),rfl,hv12,(fun p_ hp_ v0_ v1_=>deS_nilD),(fun h_=>absurd rfl h_),hE5,H⟩))))))))))
          ·replace H:=H.2 (of_decide_eq_false b13)
           refine WC.skip (WX.block_normal (WX.then_normal (WC.region ?_)))
           obtain ⟨h25,H⟩:=H
           refine WL.y rfl (Yld.add rfl rfl h25) (yp (h:=(WL.nil ?_)))
           exact WX.roundF _ ⟨n+((t157.getD t159.toNat PS.nil).own.length:Int),t159+(1:Int),rfl,rfl,H.1,rfl⟩ (by repeat (first | exact Sub.nil | refine Sub.cons rfl ?_)) H.2
         ·replace H:=H.2 (of_decide_eq_false b12)
          exact WC.exit (WX.then_exit (WX.then_exit (WX.block_same (WX.then_normal (WC.seq (WC.region (yp (h:=(yp (h:=(yp (h:=(WL.nil (WX.then_normal (WC.ret (WX.ret2 rfl rfl rfl ⟨gr27,(ovP g1),(FS g1 A_t341 A_t342 A_t32 hs_t341 hs_t32),(PS.mk g1 order t341 t32 t344 t345),.nilIface,Er.ok,rfl,(hp1.1.grown hg23),(fun p_ hp_ v0_ v1_=>have q_:=And.intro v0_ v1_; hp1.2 _ (Dj.new hp_ (Ge.le (Ge.box hl1) (ze gr2))).symm (Dj.new hp_ k172.ge').symm (Dj.new hp_ k174.ge').symm (Dj.new hp_ k169.ge').symm (or4 p_ hp_ q_) (ho1 p_ (fun g_ e_=>Nat.lt_of_lt_of_le (hp_ g_ e_) (ze gr1)) (q_.2))),(fun _=>((Ge.le (Ge.box hl1) (ze gr2))) _ rfl),(ErrR.okR (S:=S) (w:=w27)),H⟩))))))))))))))))
       ·clear H
        rcases Bool.eq_false_or_eq_true ((decide ((1000:Int)<t344)) || (decide ((1024:Int)<(own.length:Int)))) with b14 | b14
        ·exact gn b14 (h:=(gn b14 (h:=(gn b14 (h:=(gn b14 (h:=(gn b14 (h:=(gn b14 (h:=(WL.y rfl (Yld.pickT (okb b14) rfl) (wk (hQ _ _ ⟨true,rfl,by rw [b14] <;> rfl,rfl⟩))))))))))))))
        ·exact gp b14 (h:=(gp b14 (h:=(gp b14 (h:=(gp b14 (h:=(WL.gyes rfl rfl (okb b14) rfl (Yld.sub rfl rfl (h18 b14)) (gp b14 (h:=(WL.y rfl (Yld.pickF (okb b14) rfl) (wk (hQ _ _ ⟨decide (((1024:Int) - (own.length:Int))<(from_.length:Int)),rfl,by rw [b14] <;> rfl,rfl⟩)))))))))))))
      ·clear H
       rcases Bool.eq_false_or_eq_true (decide ((1000:Int)<t344)) with b15 | b15
       ·exact gn b15 (h:=(gn b15 (h:=(gn b15 (h:=(WL.y rfl (Yld.pickT (okb b15) rfl) (wk (hQ _ _ ⟨true,rfl,by rw [b15] <;> rfl,rfl⟩))))))))
       ·exact gp b15 (h:=(gp b15 (h:=(gp b15 (h:=(WL.y rfl (Yld.pickF (okb b15) rfl) (wk (hQ _ _ ⟨decide ((1024:Int)<(own.length:Int)),rfl,by rw [b15] <;> rfl,rfl⟩))))))))
 ·clear H
  rcases Bool.eq_false_or_eq_true (decide (order<(1:Int))) with b16 | b16
  ·exact gn b16 (h:=(gn b16 (h:=(WL.y rfl (Yld.pickT (okb b16) rfl) (wk (hQ _ _ ⟨true,rfl,by rw [b16] <;> rfl,rfl⟩))))))
  ·exact gp b16 (h:=(gp b16 (h:=(WL.y rfl (Yld.pickF (okb b16) rfl) (wk (hQ _ _ ⟨decide ((3:Int)<order),rfl,by rw [b16] <;> rfl,rfl⟩))))))
set_option maxHeartbeats 8000000 in
theorem W_pdeps_Set_Size {w:World} {v_s:OV} {F_s:Nat→Prop} {s:PS} {K:Int→Prop} (hs:RelD deS w [(v_s,F_s)] [s]) (H:M_pdeps_Set_Size s K):Fn Tryz.prog 24 ⟨[v_s.1]⟩ w (fun v w'=>w.grownBy w' none∧∃ (r:Int),v=.int .i64 r∧K r):=by
 unfold M_pdeps_Set_Size at H
 refine Fn.enter (by kernel_rfl) Tryz.func24 rfl Tryz.ntmps24 rfl ?_
 refine WC.seq (WC.region (yp (h:=(WL.nil (WX.then_normal (WC.seq (WC.region (yp (h:=(WL.call rfl rfl (W_pdeps_Set_sets hs H) ?_))))))))))
 rintro _ w1 ⟨hg1,t4,A_t4,c_t4,hs_t4,rfl,ht4,hr_t4,ho1,dj1,H⟩
 have hb1:=ht4.ge'
 have k1:=ht4.base (fun g hg=>Nat.le_trans (Nat.le_refl _) (hb1 g hg))
 exact yp (h:=(yp (h:=(WL.nil (WX.then_normal (WC.ret (WX.ret1 rfl rfl ⟨hg1,(t4.length:Int),rfl,H⟩)))))))
set_option maxHeartbeats 8000000 in
theorem W_pdeps_Set_Empty {w:World} {v_s:OV} {F_s:Nat→Prop} {s:PS} {K:Bool→Prop} (hs:RelD deS w [(v_s,F_s)] [s]) (H:M_pdeps_Set_Empty s K):Fn Tryz.prog 23 ⟨[v_s.1]⟩ w (fun v w'=>w=w'∧∃ (r:Bool),v=.bool r∧K r):=by
 unfold M_pdeps_Set_Empty at H
 refine Fn.enter (by kernel_rfl) Tryz.func23 rfl Tryz.ntmps23 rfl ?_
 refine WC.seq (WC.region (yp (h:=(WL.nil (WX.then_normal (WC.seq (WC.region (yp (h:=?_)))))))))
 obtain ⟨h1,H⟩:=H
 obtain ⟨A_own,c_own,A_keys,c_keys,A_fr,c_fr,ho,hf,hv1,hB1,hR1,hr1,hR2,hR3,hr2,hd1,hd2,hd3,hd4,hd5,hd6⟩:=SR.out hs h1
 exact WL.y rfl (nilpV hv1 rfl) (WL.y rfl (Yld.fa0 (o:=5) (by kernel_rfl) rfl) (WL.y rfl (Yld.bload za hB1 rfl rfl rfl) (yp (h:=(WL.nil (WX.then_normal (WC.ret (WX.ret1 rfl rfl ⟨rfl,s.empty,rfl,H⟩))))))))
end Go.Proofs.YtjjcdkfhaceicaaGreatDoor
 
namespace Go.Proofs.YtjjcdkfhaceicaaGreatDoor
open Go Go.RowKit
attribute [local irreducible] WL WC WX WQ WK WJ Yld Eff Ef0 Fn
def M_smithysee_Alike (a:Er) (b:Er) (K:Bool→Prop):Prop :=
 ((((decide (a=Er.ok)) || (decide (b=Er.ok)))=true→K ((decide (a=Er.ok)) && (decide (b=Er.ok)))) ∧
 (((decide (a=Er.ok)) || (decide (b=Er.ok)))=false→(¬ (a=Er.ok∧b=Er.ok)∧((∀ p n,a≠Er.at_ p n)∨∀ p n,b≠Er.at_ p n)) ∧
 K (decide (a=b))))
def zW (K:Int→Bool→Int→Bool→(List UInt8)→Prop):Prop :=
 K (0:Int) false (0:Int) false ([]:List UInt8)
def zJ (code:Int) (K:Int→Bool→Int→Bool→(List UInt8)→Prop):Prop :=
 K code false (0:Int) false ([]:List UInt8)
def qk (code:Int) (pos:Int) (K:Int→Bool→Int→Bool→(List UInt8)→Prop):Prop :=
 ((code=(0:Int)→zW (fun (t7_Code:Int) (t7_Placed:Bool) (t7_Pos:Int) (t7_Filed:Bool) (t7_File:List UInt8) =>
 K t7_Code t7_Placed t7_Pos t7_Filed t7_File)) ∧
 (¬ (code=(0:Int))→K code true pos false ([]:List UInt8)))
def z3 (a_Code:Int) (a_Placed:Bool) (a_Pos:Int) (a_Filed:Bool) (a_File:List UInt8) (b_Code:Int) (b_Placed:Bool) (b_Pos:Int) (b_Filed:Bool) (b_File:List UInt8) (K:Bool→Prop):Prop :=
 K (((((decide (a_Code=b_Code)) && (a_Placed == b_Placed)) && (decide (a_Pos=b_Pos))) && (a_Filed == b_Filed)) && (decide (a_File=b_File)))
set_option maxHeartbeats 8000000 in
theorem W_smithysee_Alike {S:List Nat} {w:World} {v_a:Value} {a:Er} {v_b:Value} {b:Er} {K:Bool→Prop} (ha:ErrR S w v_a a) (hb:ErrR S w v_b b) (H:M_smithysee_Alike a b K):Fn Tryz.prog 217 ⟨[v_a,v_b]⟩ w (fun v w'=>w=w'∧∃ (r:Bool),v=.bool r∧K r):=by
 unfold M_smithysee_Alike at H
 refine Fn.enter (by kernel_rfl) Tryz.func217 rfl Tryz.ntmps217 rfl ?_
 refine WC.seq (WC.region (yp (h:=(WL.nil (WX.then_normal (WC.seq (WC.seq (WC.region (yp (h:=(WL.y rfl (Yld.erreql Tryz.underlying43 ha rfl) (yp (h:=(WL.midF 3 (fun L' w'=>∃ q1:Bool,L'=[(10,.bool q1),(0,v_a),(1,v_b)]∧((decide (a=Er.ok)) || (decide (b=Er.ok)))=q1∧w=w') ?_ (fun hQ=>?_)))))))))))))))
 ·rintro _ _ ⟨q1,rfl,rfl,rfl⟩
  refine WL.nil (WX.then_normal (WC.cond rfl (fun b1=>?_) (fun b1=>?_)))
  ·replace H:=H.1 (b1)
   refine WC.seq (WC.region (yp (h:=(WL.y rfl (Yld.erreql Tryz.underlying43 ha rfl) (yp (h:=(WL.midF 3 (fun L' w'=>∃ q2:Bool,L'=[(16,.bool q2)]∧((decide (a=Er.ok)) && (decide (b=Er.ok)))=q2∧w=w') ?_ (fun hQ=>?_))))))))
   ·rintro _ _ ⟨q2,rfl,rfl,rfl⟩
    exact yp (h:=(WL.nil (WX.then_normal (WC.ret (WX.then_ret (WX.ret1 rfl rfl ⟨rfl,(decide (a=Er.ok)) && (decide (b=Er.ok)),rfl,H⟩))))))
   ·clear H
    rcases Bool.eq_false_or_eq_true (decide (a=Er.ok)) with b2 | b2
    ·exact gp b2 (h:=(WL.gyes rfl rfl (okb b2) rfl (Yld.erreql Tryz.underlying43 hb rfl) (WL.y rfl (Yld.pickT (okb b2) rfl) (wk (hQ _ _ ⟨decide (b=Er.ok),rfl,by rw [b2] <;> rfl,rfl⟩)))))
    ·exact gn b2 (h:=(gn b2 (h:=(WL.y rfl (Yld.pickF (okb b2) rfl) (wk (hQ _ _ ⟨false,rfl,by rw [b2] <;> rfl,rfl⟩))))))
  ·replace H:=H.2 (b1)
   refine WC.skip (WX.then_normal (WC.seq (WC.region (yp (h:=(yp (h:=?_)))))))
   obtain ⟨h1,H⟩:=H
   exact WL.y rfl (Yld.erreqA ha hb h1 rfl rfl) (yp (h:=(WL.nil (WX.then_normal (WC.ret (WX.ret1 rfl rfl ⟨rfl,decide (a=b),rfl,H⟩))))))
 ·clear H
  rcases Bool.eq_false_or_eq_true (decide (a=Er.ok)) with b3 | b3
  ·exact gn b3 (h:=(gn b3 (h:=(WL.y rfl (Yld.pickT (okb b3) rfl) (wk (hQ _ _ ⟨true,rfl,by rw [b3] <;> rfl,rfl⟩))))))
  ·exact gp b3 (h:=(WL.gyes rfl rfl (okb b3) rfl (Yld.erreql Tryz.underlying43 hb rfl) (WL.y rfl (Yld.pickF (okb b3) rfl) (wk (hQ _ _ ⟨decide (b=Er.ok),rfl,by rw [b3] <;> rfl,rfl⟩)))))
set_option maxHeartbeats 8000000 in
theorem W_smithyref_None {w:World} {K:Int→Bool→Int→Bool→(List UInt8)→Prop} (H:zW  K):Fn Tryz.prog 183 ⟨[]⟩ w (fun v w'=>w.grownBy w' none∧∃ (r_Code:Int),∃ (r_Placed:Bool),∃ (r_Pos:Int),∃ (r_Filed:Bool),∃ (r_File:List UInt8),v=.agg ⟨[.int .i64 r_Code,.bool r_Placed,.int .i64 r_Pos,.bool r_Filed,vs r_File]⟩∧K r_Code r_Placed r_Pos r_Filed r_File):=by
 unfold zW at H
 refine Fn.enter (by kernel_rfl) Tryz.func183 rfl Tryz.ntmps183 rfl ?_
 exact WC.seq (WC.region (WL.alloc rfl zero142 (fun g1 w1 hB1 hg1 hl1=>WL.nil (WX.then_normal (WC.seq (WC.region (WL.y rfl (Yld.struct (us:=[.int .i64 (0:Int),.bool false,.int .i64 (0:Int),.bool false,vs ([]:List UInt8)]) zero142 places142 rfl rfl) (WL.storeW (vs:=[.int .i64 (0:Int),.bool false,.int .i64 (0:Int),.bool false,vs ([]:List UInt8)]) za rfl rfl rfl (zf rfl (zf rfl (zf rfl (zf rfl (zf rfl zm))))) hB1 rfl rfl (fun w2 hB2 hg2=>WL.nil (WX.then_normal (WC.ret (WX.retc za rfl rfl rfl hB2 rfl ⟨(zk hg1 hg2 (Ge.le (Ge.box hl1) (Nat.le_refl _))),(0:Int),false,(0:Int),false,([]:List UInt8),rfl,H⟩))))))))))))
set_option maxHeartbeats 8000000 in
theorem W_smithyref_Bare {w:World} {code:Int} {K:Int→Bool→Int→Bool→(List UInt8)→Prop} (H:zJ code K):Fn Tryz.prog 79 ⟨[.int .i64 code]⟩ w (fun v w'=>w.grownBy w' none∧∃ (r_Code:Int),∃ (r_Placed:Bool),∃ (r_Pos:Int),∃ (r_Filed:Bool),∃ (r_File:List UInt8),v=.agg ⟨[.int .i64 r_Code,.bool r_Placed,.int .i64 r_Pos,.bool r_Filed,vs r_File]⟩∧K r_Code r_Placed r_Pos r_Filed r_File):=by
 unfold zJ at H
 refine Fn.enter (by kernel_rfl) Tryz.func79 rfl Tryz.ntmps79 rfl ?_
 exact WC.seq (WC.region (WL.alloc rfl zero142 (fun g1 w1 hB1 hg1 hl1=>WL.nil (WX.then_normal (WC.seq (WC.region (yp (h:=(WL.y rfl (Yld.struct (us:=[.int .i64 code,.bool false,.int .i64 (0:Int),.bool false,vs ([]:List UInt8)]) zero142 places142 rfl rfl) (WL.storeW (vs:=[.int .i64 code,.bool false,.int .i64 (0:Int),.bool false,vs ([]:List UInt8)]) za rfl rfl rfl (zf rfl (zf rfl (zf rfl (zf rfl (zf rfl zm))))) hB1 rfl rfl (fun w2 hB2 hg2=>WL.nil (WX.then_normal (WC.ret (WX.retc za rfl rfl rfl hB2 rfl ⟨(zk hg1 hg2 (Ge.le (Ge.box hl1) (Nat.le_refl _))),code,false,(0:Int),false,([]:List UInt8),rfl,H⟩))))))))))))))
set_option maxHeartbeats 8000000 in
theorem W_smithyref_Placed {w:World} {code:Int} {pos:Int} {K:Int→Bool→Int→Bool→(List UInt8)→Prop} (H:qk code pos K):Fn Tryz.prog 203 ⟨[.int .i64 code,.int .i64 pos]⟩ w (fun v w'=>w.grownBy w' none∧∃ (r_Code:Int),∃ (r_Placed:Bool),∃ (r_Pos:Int),∃ (r_Filed:Bool),∃ (r_File:List UInt8),v=.agg ⟨[.int .i64 r_Code,.bool r_Placed,.int .i64 r_Pos,.bool r_Filed,vs r_File]⟩∧K r_Code r_Placed r_Pos r_Filed r_File):=by
 unfold qk at H
 refine Fn.enter (by kernel_rfl) Tryz.func203 rfl Tryz.ntmps203 rfl ?_
 refine WC.seq (WC.region (WL.alloc rfl zero142 (fun g1 w1 hB1 hg1 hl1=>?_)))
 have gr1:=hg1
 refine WL.nil (WX.then_normal (WC.seq (WC.seq (WC.region (yp (h:=(yp (h:=(WL.nil (WX.then_normal (WC.cond rfl (fun b1=>?_) (fun b1=>?_))))))))))))
 ·replace H:=H.1 (of_decide_eq_true b1)
  refine WC.seq (WC.region (WL.call rfl rfl (W_smithyref_None H) ?_))
  rintro _ w2 ⟨hg2,t7_Code,t7_Placed,t7_Pos,t7_Filed,t7_File,rfl,H⟩
  exact WL.storeW (vs:=[.int .i64 t7_Code,.bool t7_Placed,.int .i64 t7_Pos,.bool t7_Filed,vs t7_File]) za rfl rfl rfl (zf rfl (zf rfl (zf rfl (zf rfl (zf rfl zm))))) (hB1.g0 hg2) rfl rfl (fun w3 hB2 hg3=>WL.nil (WX.then_normal (WC.ret (WX.then_ret (WX.retc za rfl rfl rfl hB2 rfl ⟨(zk (zd gr1 hg2) hg3 (Ge.le (Ge.box hl1) (Nat.le_refl _))),t7_Code,t7_Placed,t7_Pos,t7_Filed,t7_File,rfl,H⟩)))))
 ·replace H:=H.2 (of_decide_eq_false b1)
  exact WC.skip (WX.then_normal (WC.seq (WC.region (yp (h:=(yp (h:=(WL.y rfl (Yld.struct (us:=[.int .i64 code,.bool true,.int .i64 pos,.bool false,vs ([]:List UInt8)]) zero142 places142 rfl rfl) (WL.storeW (vs:=[.int .i64 code,.bool true,.int .i64 pos,.bool false,vs ([]:List UInt8)]) za rfl rfl rfl (zf rfl (zf rfl (zf rfl (zf rfl (zf rfl zm))))) hB1 rfl rfl (fun w4 hB3 hg4=>WL.nil (WX.then_normal (WC.ret (WX.retc za rfl rfl rfl hB3 rfl ⟨(zk gr1 hg4 (Ge.le (Ge.box hl1) (Nat.le_refl _))),code,true,pos,false,([]:List UInt8),rfl,H⟩)))))))))))))
set_option maxHeartbeats 8000000 in
theorem W_smithyref_SameFault {w:World} {a_Code:Int} {a_Placed:Bool} {a_Pos:Int} {a_Filed:Bool} {a_File:List UInt8} {b_Code:Int} {b_Placed:Bool} {b_Pos:Int} {b_Filed:Bool} {b_File:List UInt8} {K:Bool→Prop} (H:z3 a_Code a_Placed a_Pos a_Filed a_File b_Code b_Placed b_Pos b_Filed b_File K):Fn Tryz.prog 133 ⟨[.agg ⟨[.int .i64 a_Code,.bool a_Placed,.int .i64 a_Pos,.bool a_Filed,vs a_File]⟩,.agg ⟨[.int .i64 b_Code,.bool b_Placed,.int .i64 b_Pos,.bool b_Filed,vs b_File]⟩]⟩ w (fun v w'=>w.grownBy w' none∧∃ (r:Bool),v=.bool r∧K r):=by
 unfold z3 at H
 refine Fn.enter (by kernel_rfl) Tryz.func133 rfl Tryz.ntmps133 rfl ?_
 refine WC.seq (WC.region (WL.box (us:=[.int .i64 a_Code,.bool a_Placed,.int .i64 a_Pos,.bool a_Filed,vs a_File]) rfl rfl rfl (fun g1 w1 hB1 hg1 hl1=>WL.box (us:=[.int .i64 b_Code,.bool b_Placed,.int .i64 b_Pos,.bool b_Filed,vs b_File]) rfl rfl rfl (fun g2 w2 hB2 hg2 hl2=>?_))))
 have k1:=hB1.g0 hg2
 refine yp (h:=(WL.nil (WX.then_normal (WC.seq (WC.region (yp (h:=(WL.y rfl (Yld.bload za k1 rfl rfl rfl) (yp (h:=(WL.y rfl (Yld.bload za hB2 rfl rfl rfl) (yp (h:=(yp (h:=(WL.midF 6 (fun L' w'=>∃ q1:Bool,L'=[(16,.bool q1),(2,.pointer (some ⟨g1,0,none⟩)),(3,.pointer (some ⟨g2,0,none⟩))]∧((decide (a_Code=b_Code)) && (a_Placed == b_Placed))=q1∧w2=w') ?_ (fun hQ=>?_)))))))))))))))))
 ·rintro _ _ ⟨q1,rfl,rfl,rfl⟩
  refine yp (h:=(WL.midF 6 (fun L' w'=>∃ q2:Bool,L'=[(23,.bool q2),(2,.pointer (some ⟨g1,0,none⟩)),(3,.pointer (some ⟨g2,0,none⟩))]∧(((decide (a_Code=b_Code)) && (a_Placed == b_Placed)) && (decide (a_Pos=b_Pos)))=q2∧w2=w') ?_ (fun hQ=>?_)))
  ·rintro _ _ ⟨q2,rfl,rfl,rfl⟩
   refine yp (h:=(WL.midF 6 (fun L' w'=>∃ q3:Bool,L'=[(30,.bool q3),(2,.pointer (some ⟨g1,0,none⟩)),(3,.pointer (some ⟨g2,0,none⟩))]∧((((decide (a_Code=b_Code)) && (a_Placed == b_Placed)) && (decide (a_Pos=b_Pos))) && (a_Filed == b_Filed))=q3∧w2=w') ?_ (fun hQ=>?_)))
   ·rintro _ _ ⟨q3,rfl,rfl,rfl⟩
    refine yp (h:=(WL.midF 6 (fun L' w'=>∃ q4:Bool,L'=[(37,.bool q4)]∧(((((decide (a_Code=b_Code)) && (a_Placed == b_Placed)) && (decide (a_Pos=b_Pos))) && (a_Filed == b_Filed)) && (decide (a_File=b_File)))=q4∧w2=w') ?_ (fun hQ=>?_)))
    ·rintro _ _ ⟨q4,rfl,rfl,rfl⟩
     exact yp (h:=(WL.nil (WX.then_normal (WC.ret (WX.ret1 rfl rfl ⟨(zd hg1 hg2),((((decide (a_Code=b_Code)) && (a_Placed == b_Placed)) && (decide (a_Pos=b_Pos))) && (a_Filed == b_Filed)) && (decide (a_File=b_File)),rfl,H⟩)))))
    ·clear H
     rcases Bool.eq_false_or_eq_true ((((decide (a_Code=b_Code)) && (a_Placed == b_Placed)) && (decide (a_Pos=b_Pos))) && (a_Filed == b_Filed)) with b1 | b1
     ·exact gp b1 (h:=(WL.gyes rfl rfl (okb b1) rfl (Yld.bload za k1 rfl rfl rfl) (gp b1 (h:=(WL.gyes rfl rfl (okb b1) rfl (Yld.bload za hB2 rfl rfl rfl) (gp b1 (h:=(WL.y rfl (Yld.pickT (okb b1) rfl) (wk (hQ _ _ ⟨decide (a_File=b_File),rfl,by rw [b1] <;> rfl,rfl⟩))))))))))
     ·exact gn b1 (h:=(gn b1 (h:=(gn b1 (h:=(gn b1 (h:=(gn b1 (h:=(WL.y rfl (Yld.pickF (okb b1) rfl) (wk (hQ _ _ ⟨false,rfl,by rw [b1] <;> rfl,rfl⟩))))))))))))
   ·clear H
    rcases Bool.eq_false_or_eq_true (((decide (a_Code=b_Code)) && (a_Placed == b_Placed)) && (decide (a_Pos=b_Pos))) with b2 | b2
    ·exact gp b2 (h:=(WL.gyes rfl rfl (okb b2) rfl (Yld.bload za k1 rfl rfl rfl) (gp b2 (h:=(WL.gyes rfl rfl (okb b2) rfl (Yld.bload za hB2 rfl rfl rfl) (WL.gyes rfl rfl (okb b2) rfl (Yld.beql Tryz.underlying4 rfl rfl) (WL.y rfl (Yld.pickT (okb b2) rfl) (wk (hQ _ _ ⟨a_Filed == b_Filed,rfl,by rw [b2] <;> rfl,rfl⟩)))))))))
    ·exact gn b2 (h:=(gn b2 (h:=(gn b2 (h:=(gn b2 (h:=(gn b2 (h:=(WL.y rfl (Yld.pickF (okb b2) rfl) (wk (hQ _ _ ⟨false,rfl,by rw [b2] <;> rfl,rfl⟩))))))))))))
  ·clear H
   rcases Bool.eq_false_or_eq_true ((decide (a_Code=b_Code)) && (a_Placed == b_Placed)) with b3 | b3
   ·exact gp b3 (h:=(WL.gyes rfl rfl (okb b3) rfl (Yld.bload za k1 rfl rfl rfl) (gp b3 (h:=(WL.gyes rfl rfl (okb b3) rfl (Yld.bload za hB2 rfl rfl rfl) (gp b3 (h:=(WL.y rfl (Yld.pickT (okb b3) rfl) (wk (hQ _ _ ⟨decide (a_Pos=b_Pos),rfl,by rw [b3] <;> rfl,rfl⟩))))))))))
   ·exact gn b3 (h:=(gn b3 (h:=(gn b3 (h:=(gn b3 (h:=(gn b3 (h:=(WL.y rfl (Yld.pickF (okb b3) rfl) (wk (hQ _ _ ⟨false,rfl,by rw [b3] <;> rfl,rfl⟩))))))))))))
 ·clear H
  rcases Bool.eq_false_or_eq_true (decide (a_Code=b_Code)) with b4 | b4
  ·exact gp b4 (h:=(WL.gyes rfl rfl (okb b4) rfl (Yld.bload za k1 rfl rfl rfl) (gp b4 (h:=(WL.gyes rfl rfl (okb b4) rfl (Yld.bload za hB2 rfl rfl rfl) (WL.gyes rfl rfl (okb b4) rfl (Yld.beql Tryz.underlying4 rfl rfl) (WL.y rfl (Yld.pickT (okb b4) rfl) (wk (hQ _ _ ⟨a_Placed == b_Placed,rfl,by rw [b4] <;> rfl,rfl⟩)))))))))
  ·exact gn b4 (h:=(gn b4 (h:=(gn b4 (h:=(gn b4 (h:=(gn b4 (h:=(WL.y rfl (Yld.pickF (okb b4) rfl) (wk (hQ _ _ ⟨false,rfl,by rw [b4] <;> rfl,rfl⟩))))))))))))
end Go.Proofs.YtjjcdkfhaceicaaGreatDoor
 
namespace Go.Proofs.YtjjcdkfhaceicaaGreatDoor
open Go Go.RowKit
attribute [local irreducible] WL WC WX WQ WK WJ Yld Eff Ef0 Fn
theorem Rd.ofBlV {w:World} {g m:Nat} {e:TypeId} {us:List Value} (h:Bl w g e us) (hm:us.length=m) (hx:m≤maxLen):Rd (fun v=>v) w (some ⟨g,0,none⟩) m us:=⟨by omega,hx,fun _=>⟨_,rfl,fun j x hj=>by
 have:=h.cell j
 rw [hj] at this
 cases j with
 | zero=>simpa [Addr.add] using this
 | succ j=>simpa [Addr.add] using this⟩⟩
def errsV (S:List Nat) (w:World) (us:List Value):Prop:=us.length=17∧∀ n,n<17→ErrR S w (us.getD n .nilIface) (.e n)
theorem sentinels_fn {S:List Nat} {w:World} (hG:GOK S w) (hS:∀ n,n<17→n∈S):Fn Tryz.prog 216 ⟨[]⟩ w fun v w'=>w.grownBy w' none∧∃ g us,v=.slice (some ⟨g,0,none⟩) 17 17∧Bl w' g 43 us∧errsV S w' us:=by
 refine Fn.enter (by kernel_rfl) Tryz.func216 rfl Tryz.ntmps216 rfl ?_
 obtain ⟨v0,hc0,hE0⟩:=hG.get 0 3 (hS 0 (by omega)) rfl rfl
 obtain ⟨v1,hc1,hE1⟩:=hG.get 1 4 (hS 1 (by omega)) rfl rfl
 obtain ⟨v2,hc2,hE2⟩:=hG.get 2 5 (hS 2 (by omega)) rfl rfl
 obtain ⟨v3,hc3,hE3⟩:=hG.get 3 0 (hS 3 (by omega)) rfl rfl
 obtain ⟨v4,hc4,hE4⟩:=hG.get 4 6 (hS 4 (by omega)) rfl rfl
 obtain ⟨v5,hc5,hE5⟩:=hG.get 5 7 (hS 5 (by omega)) rfl rfl
 obtain ⟨v6,hc6,hE6⟩:=hG.get 6 8 (hS 6 (by omega)) rfl rfl
 obtain ⟨v7,hc7,hE7⟩:=hG.get 7 1 (hS 7 (by omega)) rfl rfl
 obtain ⟨v8,hc8,hE8⟩:=hG.get 8 9 (hS 8 (by omega)) rfl rfl
 obtain ⟨v9,hc9,hE9⟩:=hG.get 9 10 (hS 9 (by omega)) rfl rfl
 obtain ⟨v10,hc10,hE10⟩:=hG.get 10 11 (hS 10 (by omega)) rfl rfl
 obtain ⟨v11,hc11,hE11⟩:=hG.get 11 12 (hS 11 (by omega)) rfl rfl
 obtain ⟨v12,hc12,hE12⟩:=hG.get 12 13 (hS 12 (by omega)) rfl rfl
 obtain ⟨v13,hc13,hE13⟩:=hG.get 13 14 (hS 13 (by omega)) rfl rfl
 obtain ⟨v14,hc14,hE14⟩:=hG.get 14 15 (hS 14 (by omega)) rfl rfl
 obtain ⟨v15,hc15,hE15⟩:=hG.get 15 16 (hS 15 (by omega)) rfl rfl
 obtain ⟨v16,hc16,hE16⟩:=hG.get 16 17 (hS 16 (by omega)) rfl rfl
 repeat (first | refine WL.y rfl (Yld.cell za hc0 rfl rfl) ?_ | refine WL.y rfl (Yld.cell za hc1 rfl rfl) ?_ | refine WL.y rfl (Yld.cell za hc2 rfl rfl) ?_ | refine WL.y rfl (Yld.cell za hc3 rfl rfl) ?_ | refine WL.y rfl (Yld.cell za hc4 rfl rfl) ?_ | refine WL.y rfl (Yld.cell za hc5 rfl rfl) ?_ | refine WL.y rfl (Yld.cell za hc6 rfl rfl) ?_ | refine WL.y rfl (Yld.cell za hc7 rfl rfl) ?_ | refine WL.y rfl (Yld.cell za hc8 rfl rfl) ?_ | refine WL.y rfl (Yld.cell za hc9 rfl rfl) ?_ | refine WL.y rfl (Yld.cell za hc10 rfl rfl) ?_ | refine WL.y rfl (Yld.cell za hc11 rfl rfl) ?_ | refine WL.y rfl (Yld.cell za hc12 rfl rfl) ?_ | refine WL.y rfl (Yld.cell za hc13 rfl rfl) ?_ | refine WL.y rfl (Yld.cell za hc14 rfl rfl) ?_ | refine WL.y rfl (Yld.cell za hc15 rfl rfl) ?_ | refine WL.y rfl (Yld.cell za hc16 rfl rfl) ?_ | refine WC.seq ?_ | refine WC.block ?_ | refine WC.region ?_ | refine WL.nil ?_ | refine WX.then_normal ?_ | refine WC.skip ?_ | refine WC.exit ?_ | refine WC.ret ?_ | refine WX.then_exit ?_ | refine WX.then_ret ?_ | refine WX.block_normal ?_ | refine WX.block_ret ?_ | refine WX.block_same ?_ | refine WX.block_other rfl ?_ | refine WC.label ?_ | refine WC.scope ?_ | refine WX.scope_normal ?_ | refine WX.scope_ret ?_ | refine WX.scope_exit ?_ | refine WL.y rfl (Yld.add rfl rfl (by simp only [In]; omega)) ?_ | refine WL.y rfl (Yld.sub rfl rfl (by simp only [In]; omega)) ?_ | refine WL.y rfl (Yld.mul rfl rfl (by simp only [In]; omega)) ?_ | refine WL.y rfl (Yld.convB za rfl rfl rfl rfl) ?_ | refine WL.y rfl (Yld.conv za rfl rfl rfl (by simp only [In]; omega)) ?_ | refine WL.y rfl (Yld.quo rfl rfl (by omega) (by omega) (by simp only [In]; omega)) ?_ | refine WL.y rfl (Yld.rem rfl rfl (by omega) (by omega)) ?_ | refine WL.y rfl (Yld.shl rfl rfl (by omega)) ?_ | refine WL.y rfl (Yld.shr rfl rfl (by omega)) ?_ | refine WL.y rfl (Yld.pure za rfl) ?_ | refine WL.y rfl (Yld.fld zb rfl rfl rfl) ?_ | refine WL.y rfl (Yld.max2 rfl rfl) ?_ | refine WL.y rfl (Yld.min2 rfl rfl) ?_ | refine WL.y rfl (Yld.pickV rfl rfl rfl) ?_ | refine WL.gno rfl rfl rfl rfl ?_ | refine WL.gyes rfl rfl rfl rfl (Yld.add rfl rfl (by simp only [In]; omega)) ?_ | refine WL.gyes rfl rfl rfl rfl (Yld.sub rfl rfl (by simp only [In]; omega)) ?_ | refine WL.gyes rfl rfl rfl rfl (Yld.mul rfl rfl (by simp only [In]; omega)) ?_ | refine WL.gyes rfl rfl rfl rfl (Yld.convB za rfl rfl rfl rfl) ?_ | refine WL.gyes rfl rfl rfl rfl (Yld.conv za rfl rfl rfl (by simp only [In]; omega)) ?_ | refine WL.gyes rfl rfl rfl rfl (Yld.quo rfl rfl (by omega) (by omega) (by simp only [In]; omega)) ?_ | refine WL.gyes rfl rfl rfl rfl (Yld.rem rfl rfl (by omega) (by omega)) ?_ | refine WL.gyes rfl rfl rfl rfl (Yld.shl rfl rfl (by omega)) ?_ | refine WL.gyes rfl rfl rfl rfl (Yld.shr rfl rfl (by omega)) ?_ | refine WL.gyes rfl rfl rfl rfl (Yld.pure za rfl) ?_ | refine WL.gyes rfl rfl rfl rfl (Yld.fld zb rfl rfl rfl) ?_ | refine WL.gyes rfl rfl rfl rfl (Yld.max2 rfl rfl) ?_ | refine WL.gyes rfl rfl rfl rfl (Yld.min2 rfl rfl) ?_ | refine WL.gyes rfl rfl rfl rfl (Yld.pickV rfl rfl rfl) ?_ | refine WL.gun rfl rfl rfl rfl ?_)
 refine WL.lit za rfl rfl rfl (zf (ErrR.one hE0) (zf (ErrR.one hE1) (zf (ErrR.one hE2) (zf (ErrR.one hE3) (zf (ErrR.one hE4) (zf (ErrR.one hE5) (zf (ErrR.one hE6) (zf (ErrR.one hE7) (zf (ErrR.one hE8) (zf (ErrR.one hE9) (zf (ErrR.one hE10) (zf (ErrR.one hE11) (zf (ErrR.one hE12) (zf (ErrR.one hE13) (zf (ErrR.one hE14) (zf (ErrR.one hE15) (zf (ErrR.one hE16) zm))))))))))))))))) rfl (by omega) (fun g w' hB hg hl=>?_)
 repeat (first | refine WC.seq ?_ | refine WC.block ?_ | refine WC.region ?_ | refine WL.nil ?_ | refine WX.then_normal ?_ | refine WC.skip ?_ | refine WC.exit ?_ | refine WC.ret ?_ | refine WX.then_exit ?_ | refine WX.then_ret ?_ | refine WX.block_normal ?_ | refine WX.block_ret ?_ | refine WX.block_same ?_ | refine WX.block_other rfl ?_ | refine WC.label ?_ | refine WC.scope ?_ | refine WX.scope_normal ?_ | refine WX.scope_ret ?_ | refine WX.scope_exit ?_ | refine WL.y rfl (Yld.add rfl rfl (by simp only [In]; omega)) ?_ | refine WL.y rfl (Yld.sub rfl rfl (by simp only [In]; omega)) ?_ | refine WL.y rfl (Yld.mul rfl rfl (by simp only [In]; omega)) ?_ | refine WL.y rfl (Yld.convB za rfl rfl rfl rfl) ?_ | refine WL.y rfl (Yld.conv za rfl rfl rfl (by simp only [In]; omega)) ?_ | refine WL.y rfl (Yld.quo rfl rfl (by omega) (by omega) (by simp only [In]; omega)) ?_ | refine WL.y rfl (Yld.rem rfl rfl (by omega) (by omega)) ?_ | refine WL.y rfl (Yld.shl rfl rfl (by omega)) ?_ | refine WL.y rfl (Yld.shr rfl rfl (by omega)) ?_ | refine WL.y rfl (Yld.pure za rfl) ?_ | refine WL.y rfl (Yld.fld zb rfl rfl rfl) ?_ | refine WL.y rfl (Yld.max2 rfl rfl) ?_ | refine WL.y rfl (Yld.min2 rfl rfl) ?_ | refine WL.y rfl (Yld.pickV rfl rfl rfl) ?_ | refine WL.gno rfl rfl rfl rfl ?_ | refine WL.gyes rfl rfl rfl rfl (Yld.add rfl rfl (by simp only [In]; omega)) ?_ | refine WL.gyes rfl rfl rfl rfl (Yld.sub rfl rfl (by simp only [In]; omega)) ?_ | refine WL.gyes rfl rfl rfl rfl (Yld.mul rfl rfl (by simp only [In]; omega)) ?_ | refine WL.gyes rfl rfl rfl rfl (Yld.convB za rfl rfl rfl rfl) ?_ | refine WL.gyes rfl rfl rfl rfl (Yld.conv za rfl rfl rfl (by simp only [In]; omega)) ?_ | refine WL.gyes rfl rfl rfl rfl (Yld.quo rfl rfl (by omega) (by omega) (by simp only [In]; omega)) ?_ | refine WL.gyes rfl rfl rfl rfl (Yld.rem rfl rfl (by omega) (by omega)) ?_ | refine WL.gyes rfl rfl rfl rfl (Yld.shl rfl rfl (by omega)) ?_ | refine WL.gyes rfl rfl rfl rfl (Yld.shr rfl rfl (by omega)) ?_ | refine WL.gyes rfl rfl rfl rfl (Yld.pure za rfl) ?_ | refine WL.gyes rfl rfl rfl rfl (Yld.fld zb rfl rfl rfl) ?_ | refine WL.gyes rfl rfl rfl rfl (Yld.max2 rfl rfl) ?_ | refine WL.gyes rfl rfl rfl rfl (Yld.min2 rfl rfl) ?_ | refine WL.gyes rfl rfl rfl rfl (Yld.pickV rfl rfl rfl) ?_ | refine WL.gun rfl rfl rfl rfl ?_)
 refine WX.ret1 rfl rfl ⟨hg,g,_,rfl,hB,rfl,fun n hn=>?_⟩
 match n,hn with
 | 0,_=>exact hE0.grown hg
 | 1,_=>exact hE1.grown hg
 | 2,_=>exact hE2.grown hg
 | 3,_=>exact hE3.grown hg
 | 4,_=>exact hE4.grown hg
 | 5,_=>exact hE5.grown hg
 | 6,_=>exact hE6.grown hg
 | 7,_=>exact hE7.grown hg
 | 8,_=>exact hE8.grown hg
 | 9,_=>exact hE9.grown hg
 | 10,_=>exact hE10.grown hg
 | 11,_=>exact hE11.grown hg
 | 12,_=>exact hE12.grown hg
 | 13,_=>exact hE13.grown hg
 | 14,_=>exact hE14.grown hg
 | 15,_=>exact hE15.grown hg
 | 16,_=>exact hE16.grown hg
 | n+17,hn=>omega
def sentV:Er→Int
 | .ok => -1
 | .e n=>101+n
 | .at_ _ _ => -1
def zK (e:Er) (K:Int→Prop):Prop:=K (sentV e)
theorem W_smithysee_sentinel {S:List Nat} {w:World} {v:Value} {e:Er} {K:Int→Prop} (hG:GOK S w) (hS0:0∈S) (hS1:1∈S) (hS2:2∈S) (hS3:3∈S) (hS4:4∈S) (hS5:5∈S) (hS6:6∈S) (hS7:7∈S) (hS8:8∈S) (hS9:9∈S) (hS10:10∈S) (hS11:11∈S) (hS12:12∈S) (hS13:13∈S) (hS14:14∈S) (hS15:15∈S) (hS16:16∈S) (hE:ErrR S w v e) (H:zK e K):Fn Tryz.prog 202 ⟨[v]⟩ w (fun r w'=>w.grownBy w' none∧∃ n:Int,r=.int .i64 n∧K n):=by
 have hS:∀ n,n<17→n∈S:=fun n hn=>by
  match n,hn with
  | 0,_=>exact hS0
  | 1,_=>exact hS1
  | 2,_=>exact hS2
  | 3,_=>exact hS3
  | 4,_=>exact hS4
  | 5,_=>exact hS5
  | 6,_=>exact hS6
  | 7,_=>exact hS7
  | 8,_=>exact hS8
  | 9,_=>exact hS9
  | 10,_=>exact hS10
  | 11,_=>exact hS11
  | 12,_=>exact hS12
  | 13,_=>exact hS13
  | 14,_=>exact hS14
  | 15,_=>exact hS15
  | 16,_=>exact hS16
  | n+17,hn=>omega
 unfold zK at H
 refine Fn.enter (by kernel_rfl) Tryz.func202 rfl Tryz.ntmps202 rfl ?_
 repeat (first | refine WC.seq ?_ | refine WC.block ?_ | refine WC.region ?_ | refine WL.nil ?_ | refine WX.then_normal ?_ | refine WC.skip ?_ | refine WC.exit ?_ | refine WC.ret ?_ | refine WX.then_exit ?_ | refine WX.then_ret ?_ | refine WX.block_normal ?_ | refine WX.block_ret ?_ | refine WX.block_same ?_ | refine WX.block_other rfl ?_ | refine WC.label ?_ | refine WC.scope ?_ | refine WX.scope_normal ?_ | refine WX.scope_ret ?_ | refine WX.scope_exit ?_ | refine WL.y rfl (Yld.add rfl rfl (by simp only [In]; omega)) ?_ | refine WL.y rfl (Yld.sub rfl rfl (by simp only [In]; omega)) ?_ | refine WL.y rfl (Yld.mul rfl rfl (by simp only [In]; omega)) ?_ | refine WL.y rfl (Yld.convB za rfl rfl rfl rfl) ?_ | refine WL.y rfl (Yld.conv za rfl rfl rfl (by simp only [In]; omega)) ?_ | refine WL.y rfl (Yld.quo rfl rfl (by omega) (by omega) (by simp only [In]; omega)) ?_ | refine WL.y rfl (Yld.rem rfl rfl (by omega) (by omega)) ?_ | refine WL.y rfl (Yld.shl rfl rfl (by omega)) ?_ | refine WL.y rfl (Yld.shr rfl rfl (by omega)) ?_ | refine WL.y rfl (Yld.pure za rfl) ?_ | refine WL.y rfl (Yld.fld zb rfl rfl rfl) ?_ | refine WL.y rfl (Yld.max2 rfl rfl) ?_ | refine WL.y rfl (Yld.min2 rfl rfl) ?_ | refine WL.y rfl (Yld.pickV rfl rfl rfl) ?_ | refine WL.gno rfl rfl rfl rfl ?_ | refine WL.gyes rfl rfl rfl rfl (Yld.add rfl rfl (by simp only [In]; omega)) ?_ | refine WL.gyes rfl rfl rfl rfl (Yld.sub rfl rfl (by simp only [In]; omega)) ?_ | refine WL.gyes rfl rfl rfl rfl (Yld.mul rfl rfl (by simp only [In]; omega)) ?_ | refine WL.gyes rfl rfl rfl rfl (Yld.convB za rfl rfl rfl rfl) ?_ | refine WL.gyes rfl rfl rfl rfl (Yld.conv za rfl rfl rfl (by simp only [In]; omega)) ?_ | refine WL.gyes rfl rfl rfl rfl (Yld.quo rfl rfl (by omega) (by omega) (by simp only [In]; omega)) ?_ | refine WL.gyes rfl rfl rfl rfl (Yld.rem rfl rfl (by omega) (by omega)) ?_ | refine WL.gyes rfl rfl rfl rfl (Yld.shl rfl rfl (by omega)) ?_ | refine WL.gyes rfl rfl rfl rfl (Yld.shr rfl rfl (by omega)) ?_ | refine WL.gyes rfl rfl rfl rfl (Yld.pure za rfl) ?_ | refine WL.gyes rfl rfl rfl rfl (Yld.fld zb rfl rfl rfl) ?_ | refine WL.gyes rfl rfl rfl rfl (Yld.max2 rfl rfl) ?_ | refine WL.gyes rfl rfl rfl rfl (Yld.min2 rfl rfl) ?_ | refine WL.gyes rfl rfl rfl rfl (Yld.pickV rfl rfl rfl) ?_ | refine WL.gun rfl rfl rfl rfl ?_)
 refine WL.call rfl rfl (sentinels_fn hG hS) ?_
 rintro _ w1 ⟨hg1,g,us,rfl,hB,hlen,hus⟩
 have hR:=Rd.ofBlV hB hlen (by simp [maxLen])
 have hE1:=hE.grown hg1
 repeat (first | refine WC.seq ?_ | refine WC.block ?_ | refine WC.region ?_ | refine WL.nil ?_ | refine WX.then_normal ?_ | refine WC.skip ?_ | refine WC.exit ?_ | refine WC.ret ?_ | refine WX.then_exit ?_ | refine WX.then_ret ?_ | refine WX.block_normal ?_ | refine WX.block_ret ?_ | refine WX.block_same ?_ | refine WX.block_other rfl ?_ | refine WC.label ?_ | refine WC.scope ?_ | refine WX.scope_normal ?_ | refine WX.scope_ret ?_ | refine WX.scope_exit ?_ | refine WL.y rfl (Yld.add rfl rfl (by simp only [In]; omega)) ?_ | refine WL.y rfl (Yld.sub rfl rfl (by simp only [In]; omega)) ?_ | refine WL.y rfl (Yld.mul rfl rfl (by simp only [In]; omega)) ?_ | refine WL.y rfl (Yld.convB za rfl rfl rfl rfl) ?_ | refine WL.y rfl (Yld.conv za rfl rfl rfl (by simp only [In]; omega)) ?_ | refine WL.y rfl (Yld.quo rfl rfl (by omega) (by omega) (by simp only [In]; omega)) ?_ | refine WL.y rfl (Yld.rem rfl rfl (by omega) (by omega)) ?_ | refine WL.y rfl (Yld.shl rfl rfl (by omega)) ?_ | refine WL.y rfl (Yld.shr rfl rfl (by omega)) ?_ | refine WL.y rfl (Yld.pure za rfl) ?_ | refine WL.y rfl (Yld.fld zb rfl rfl rfl) ?_ | refine WL.y rfl (Yld.max2 rfl rfl) ?_ | refine WL.y rfl (Yld.min2 rfl rfl) ?_ | refine WL.y rfl (Yld.pickV rfl rfl rfl) ?_ | refine WL.gno rfl rfl rfl rfl ?_ | refine WL.gyes rfl rfl rfl rfl (Yld.add rfl rfl (by simp only [In]; omega)) ?_ | refine WL.gyes rfl rfl rfl rfl (Yld.sub rfl rfl (by simp only [In]; omega)) ?_ | refine WL.gyes rfl rfl rfl rfl (Yld.mul rfl rfl (by simp only [In]; omega)) ?_ | refine WL.gyes rfl rfl rfl rfl (Yld.convB za rfl rfl rfl rfl) ?_ | refine WL.gyes rfl rfl rfl rfl (Yld.conv za rfl rfl rfl (by simp only [In]; omega)) ?_ | refine WL.gyes rfl rfl rfl rfl (Yld.quo rfl rfl (by omega) (by omega) (by simp only [In]; omega)) ?_ | refine WL.gyes rfl rfl rfl rfl (Yld.rem rfl rfl (by omega) (by omega)) ?_ | refine WL.gyes rfl rfl rfl rfl (Yld.shl rfl rfl (by omega)) ?_ | refine WL.gyes rfl rfl rfl rfl (Yld.shr rfl rfl (by omega)) ?_ | refine WL.gyes rfl rfl rfl rfl (Yld.pure za rfl) ?_ | refine WL.gyes rfl rfl rfl rfl (Yld.fld zb rfl rfl rfl) ?_ | refine WL.gyes rfl rfl rfl rfl (Yld.max2 rfl rfl) ?_ | refine WL.gyes rfl rfl rfl rfl (Yld.min2 rfl rfl) ?_ | refine WL.gyes rfl rfl rfl rfl (Yld.pickV rfl rfl rfl) ?_ | refine WL.gun rfl rfl rfl rfl ?_)
 refine WC.loopF (fun n' L' w'=>∃ i:Nat,n'=17 - i∧L'=[(4,vi i),(3,.slice (some ⟨g,0,none⟩) 17 17),(0,v)]∧i≤17∧(∀ j,j<i→e≠.e j)∧w1=w') _ _ ⟨0,rfl,rfl,by omega,fun j hj=>by omega,rfl⟩ (by repeat (first | exact Sub.nil | refine Sub.cons rfl ?_)) ?_
 rintro _ _ _ ⟨i,rfl,rfl,hi,hne,rfl⟩
 repeat (first | refine WC.seq ?_ | refine WC.block ?_ | refine WC.region ?_ | refine WL.nil ?_ | refine WX.then_normal ?_ | refine WC.skip ?_ | refine WC.exit ?_ | refine WC.ret ?_ | refine WX.then_exit ?_ | refine WX.then_ret ?_ | refine WX.block_normal ?_ | refine WX.block_ret ?_ | refine WX.block_same ?_ | refine WX.block_other rfl ?_ | refine WC.label ?_ | refine WC.scope ?_ | refine WX.scope_normal ?_ | refine WX.scope_ret ?_ | refine WX.scope_exit ?_ | refine WL.y rfl (Yld.add rfl rfl (by simp only [In]; omega)) ?_ | refine WL.y rfl (Yld.sub rfl rfl (by simp only [In]; omega)) ?_ | refine WL.y rfl (Yld.mul rfl rfl (by simp only [In]; omega)) ?_ | refine WL.y rfl (Yld.convB za rfl rfl rfl rfl) ?_ | refine WL.y rfl (Yld.conv za rfl rfl rfl (by simp only [In]; omega)) ?_ | refine WL.y rfl (Yld.quo rfl rfl (by omega) (by omega) (by simp only [In]; omega)) ?_ | refine WL.y rfl (Yld.rem rfl rfl (by omega) (by omega)) ?_ | refine WL.y rfl (Yld.shl rfl rfl (by omega)) ?_ | refine WL.y rfl (Yld.shr rfl rfl (by omega)) ?_ | refine WL.y rfl (Yld.pure za rfl) ?_ | refine WL.y rfl (Yld.fld zb rfl rfl rfl) ?_ | refine WL.y rfl (Yld.max2 rfl rfl) ?_ | refine WL.y rfl (Yld.min2 rfl rfl) ?_ | refine WL.y rfl (Yld.pickV rfl rfl rfl) ?_ | refine WL.gno rfl rfl rfl rfl ?_ | refine WL.gyes rfl rfl rfl rfl (Yld.add rfl rfl (by simp only [In]; omega)) ?_ | refine WL.gyes rfl rfl rfl rfl (Yld.sub rfl rfl (by simp only [In]; omega)) ?_ | refine WL.gyes rfl rfl rfl rfl (Yld.mul rfl rfl (by simp only [In]; omega)) ?_ | refine WL.gyes rfl rfl rfl rfl (Yld.convB za rfl rfl rfl rfl) ?_ | refine WL.gyes rfl rfl rfl rfl (Yld.conv za rfl rfl rfl (by simp only [In]; omega)) ?_ | refine WL.gyes rfl rfl rfl rfl (Yld.quo rfl rfl (by omega) (by omega) (by simp only [In]; omega)) ?_ | refine WL.gyes rfl rfl rfl rfl (Yld.rem rfl rfl (by omega) (by omega)) ?_ | refine WL.gyes rfl rfl rfl rfl (Yld.shl rfl rfl (by omega)) ?_ | refine WL.gyes rfl rfl rfl rfl (Yld.shr rfl rfl (by omega)) ?_ | refine WL.gyes rfl rfl rfl rfl (Yld.pure za rfl) ?_ | refine WL.gyes rfl rfl rfl rfl (Yld.fld zb rfl rfl rfl) ?_ | refine WL.gyes rfl rfl rfl rfl (Yld.max2 rfl rfl) ?_ | refine WL.gyes rfl rfl rfl rfl (Yld.min2 rfl rfl) ?_ | refine WL.gyes rfl rfl rfl rfl (Yld.pickV rfl rfl rfl) ?_ | refine WL.gun rfl rfl rfl rfl ?_)
 refine WC.cond rfl (fun h=>?_) (fun h=>?_)
 ·simp only [decide_eq_true_eq] at h
  have hi':i<17:=by omega
  repeat (first | refine WL.y rfl (Yld.iaddrN za hR rfl rfl hlen.symm rfl (by omega)) ?_ | refine WL.y rfl (Yld.iload .nilIface za hR rfl rfl (by omega)) ?_ | refine WC.seq ?_ | refine WC.block ?_ | refine WC.region ?_ | refine WL.nil ?_ | refine WX.then_normal ?_ | refine WC.skip ?_ | refine WC.exit ?_ | refine WC.ret ?_ | refine WX.then_exit ?_ | refine WX.then_ret ?_ | refine WX.block_normal ?_ | refine WX.block_ret ?_ | refine WX.block_same ?_ | refine WX.block_other rfl ?_ | refine WC.label ?_ | refine WC.scope ?_ | refine WX.scope_normal ?_ | refine WX.scope_ret ?_ | refine WX.scope_exit ?_ | refine WL.y rfl (Yld.add rfl rfl (by simp only [In]; omega)) ?_ | refine WL.y rfl (Yld.sub rfl rfl (by simp only [In]; omega)) ?_ | refine WL.y rfl (Yld.mul rfl rfl (by simp only [In]; omega)) ?_ | refine WL.y rfl (Yld.convB za rfl rfl rfl rfl) ?_ | refine WL.y rfl (Yld.conv za rfl rfl rfl (by simp only [In]; omega)) ?_ | refine WL.y rfl (Yld.quo rfl rfl (by omega) (by omega) (by simp only [In]; omega)) ?_ | refine WL.y rfl (Yld.rem rfl rfl (by omega) (by omega)) ?_ | refine WL.y rfl (Yld.shl rfl rfl (by omega)) ?_ | refine WL.y rfl (Yld.shr rfl rfl (by omega)) ?_ | refine WL.y rfl (Yld.pure za rfl) ?_ | refine WL.y rfl (Yld.fld zb rfl rfl rfl) ?_ | refine WL.y rfl (Yld.max2 rfl rfl) ?_ | refine WL.y rfl (Yld.min2 rfl rfl) ?_ | refine WL.y rfl (Yld.pickV rfl rfl rfl) ?_ | refine WL.gno rfl rfl rfl rfl ?_ | refine WL.gyes rfl rfl rfl rfl (Yld.add rfl rfl (by simp only [In]; omega)) ?_ | refine WL.gyes rfl rfl rfl rfl (Yld.sub rfl rfl (by simp only [In]; omega)) ?_ | refine WL.gyes rfl rfl rfl rfl (Yld.mul rfl rfl (by simp only [In]; omega)) ?_ | refine WL.gyes rfl rfl rfl rfl (Yld.convB za rfl rfl rfl rfl) ?_ | refine WL.gyes rfl rfl rfl rfl (Yld.conv za rfl rfl rfl (by simp only [In]; omega)) ?_ | refine WL.gyes rfl rfl rfl rfl (Yld.quo rfl rfl (by omega) (by omega) (by simp only [In]; omega)) ?_ | refine WL.gyes rfl rfl rfl rfl (Yld.rem rfl rfl (by omega) (by omega)) ?_ | refine WL.gyes rfl rfl rfl rfl (Yld.shl rfl rfl (by omega)) ?_ | refine WL.gyes rfl rfl rfl rfl (Yld.shr rfl rfl (by omega)) ?_ | refine WL.gyes rfl rfl rfl rfl (Yld.pure za rfl) ?_ | refine WL.gyes rfl rfl rfl rfl (Yld.fld zb rfl rfl rfl) ?_ | refine WL.gyes rfl rfl rfl rfl (Yld.max2 rfl rfl) ?_ | refine WL.gyes rfl rfl rfl rfl (Yld.min2 rfl rfl) ?_ | refine WL.gyes rfl rfl rfl rfl (Yld.pickV rfl rfl rfl) ?_ | refine WL.gun rfl rfl rfl rfl ?_)
  refine WL.call rfl rfl (W_smithysee_Alike (K:=fun b=>b=decide (e=.e i)) hE1 (hus i hi') ?_) ?_
  ·unfold M_smithysee_Alike
   cases e <;> simp
  rintro _ _ ⟨rfl,b,rfl,hb⟩
  subst hb
  refine WL.nil ?_
  repeat (first | refine WC.seq ?_ | refine WC.block ?_ | refine WC.region ?_ | refine WL.nil ?_ | refine WX.then_normal ?_ | refine WC.skip ?_ | refine WC.exit ?_ | refine WC.ret ?_ | refine WX.then_exit ?_ | refine WX.then_ret ?_ | refine WX.block_normal ?_ | refine WX.block_ret ?_ | refine WX.block_same ?_ | refine WX.block_other rfl ?_ | refine WC.label ?_ | refine WC.scope ?_ | refine WX.scope_normal ?_ | refine WX.scope_ret ?_ | refine WX.scope_exit ?_ | refine WL.y rfl (Yld.add rfl rfl (by simp only [In]; omega)) ?_ | refine WL.y rfl (Yld.sub rfl rfl (by simp only [In]; omega)) ?_ | refine WL.y rfl (Yld.mul rfl rfl (by simp only [In]; omega)) ?_ | refine WL.y rfl (Yld.convB za rfl rfl rfl rfl) ?_ | refine WL.y rfl (Yld.conv za rfl rfl rfl (by simp only [In]; omega)) ?_ | refine WL.y rfl (Yld.quo rfl rfl (by omega) (by omega) (by simp only [In]; omega)) ?_ | refine WL.y rfl (Yld.rem rfl rfl (by omega) (by omega)) ?_ | refine WL.y rfl (Yld.shl rfl rfl (by omega)) ?_ | refine WL.y rfl (Yld.shr rfl rfl (by omega)) ?_ | refine WL.y rfl (Yld.pure za rfl) ?_ | refine WL.y rfl (Yld.fld zb rfl rfl rfl) ?_ | refine WL.y rfl (Yld.max2 rfl rfl) ?_ | refine WL.y rfl (Yld.min2 rfl rfl) ?_ | refine WL.y rfl (Yld.pickV rfl rfl rfl) ?_ | refine WL.gno rfl rfl rfl rfl ?_ | refine WL.gyes rfl rfl rfl rfl (Yld.add rfl rfl (by simp only [In]; omega)) ?_ | refine WL.gyes rfl rfl rfl rfl (Yld.sub rfl rfl (by simp only [In]; omega)) ?_ | refine WL.gyes rfl rfl rfl rfl (Yld.mul rfl rfl (by simp only [In]; omega)) ?_ | refine WL.gyes rfl rfl rfl rfl (Yld.convB za rfl rfl rfl rfl) ?_ | refine WL.gyes rfl rfl rfl rfl (Yld.conv za rfl rfl rfl (by simp only [In]; omega)) ?_ | refine WL.gyes rfl rfl rfl rfl (Yld.quo rfl rfl (by omega) (by omega) (by simp only [In]; omega)) ?_ | refine WL.gyes rfl rfl rfl rfl (Yld.rem rfl rfl (by omega) (by omega)) ?_ | refine WL.gyes rfl rfl rfl rfl (Yld.shl rfl rfl (by omega)) ?_ | refine WL.gyes rfl rfl rfl rfl (Yld.shr rfl rfl (by omega)) ?_ | refine WL.gyes rfl rfl rfl rfl (Yld.pure za rfl) ?_ | refine WL.gyes rfl rfl rfl rfl (Yld.fld zb rfl rfl rfl) ?_ | refine WL.gyes rfl rfl rfl rfl (Yld.max2 rfl rfl) ?_ | refine WL.gyes rfl rfl rfl rfl (Yld.min2 rfl rfl) ?_ | refine WL.gyes rfl rfl rfl rfl (Yld.pickV rfl rfl rfl) ?_ | refine WL.gun rfl rfl rfl rfl ?_)
  refine WC.cond rfl (fun h2=>?_) (fun h2=>?_)
  ·have h3:e=.e i:=of_decide_eq_true h2
   subst h3
   repeat (first | refine WC.seq ?_ | refine WC.block ?_ | refine WC.region ?_ | refine WL.nil ?_ | refine WX.then_normal ?_ | refine WC.skip ?_ | refine WC.exit ?_ | refine WC.ret ?_ | refine WX.then_exit ?_ | refine WX.then_ret ?_ | refine WX.block_normal ?_ | refine WX.block_ret ?_ | refine WX.block_same ?_ | refine WX.block_other rfl ?_ | refine WC.label ?_ | refine WC.scope ?_ | refine WX.scope_normal ?_ | refine WX.scope_ret ?_ | refine WX.scope_exit ?_ | refine WL.y rfl (Yld.add rfl rfl (by simp only [In]; omega)) ?_ | refine WL.y rfl (Yld.sub rfl rfl (by simp only [In]; omega)) ?_ | refine WL.y rfl (Yld.mul rfl rfl (by simp only [In]; omega)) ?_ | refine WL.y rfl (Yld.convB za rfl rfl rfl rfl) ?_ | refine WL.y rfl (Yld.conv za rfl rfl rfl (by simp only [In]; omega)) ?_ | refine WL.y rfl (Yld.quo rfl rfl (by omega) (by omega) (by simp only [In]; omega)) ?_ | refine WL.y rfl (Yld.rem rfl rfl (by omega) (by omega)) ?_ | refine WL.y rfl (Yld.shl rfl rfl (by omega)) ?_ | refine WL.y rfl (Yld.shr rfl rfl (by omega)) ?_ | refine WL.y rfl (Yld.pure za rfl) ?_ | refine WL.y rfl (Yld.fld zb rfl rfl rfl) ?_ | refine WL.y rfl (Yld.max2 rfl rfl) ?_ | refine WL.y rfl (Yld.min2 rfl rfl) ?_ | refine WL.y rfl (Yld.pickV rfl rfl rfl) ?_ | refine WL.gno rfl rfl rfl rfl ?_ | refine WL.gyes rfl rfl rfl rfl (Yld.add rfl rfl (by simp only [In]; omega)) ?_ | refine WL.gyes rfl rfl rfl rfl (Yld.sub rfl rfl (by simp only [In]; omega)) ?_ | refine WL.gyes rfl rfl rfl rfl (Yld.mul rfl rfl (by simp only [In]; omega)) ?_ | refine WL.gyes rfl rfl rfl rfl (Yld.convB za rfl rfl rfl rfl) ?_ | refine WL.gyes rfl rfl rfl rfl (Yld.conv za rfl rfl rfl (by simp only [In]; omega)) ?_ | refine WL.gyes rfl rfl rfl rfl (Yld.quo rfl rfl (by omega) (by omega) (by simp only [In]; omega)) ?_ | refine WL.gyes rfl rfl rfl rfl (Yld.rem rfl rfl (by omega) (by omega)) ?_ | refine WL.gyes rfl rfl rfl rfl (Yld.shl rfl rfl (by omega)) ?_ | refine WL.gyes rfl rfl rfl rfl (Yld.shr rfl rfl (by omega)) ?_ | refine WL.gyes rfl rfl rfl rfl (Yld.pure za rfl) ?_ | refine WL.gyes rfl rfl rfl rfl (Yld.fld zb rfl rfl rfl) ?_ | refine WL.gyes rfl rfl rfl rfl (Yld.max2 rfl rfl) ?_ | refine WL.gyes rfl rfl rfl rfl (Yld.min2 rfl rfl) ?_ | refine WL.gyes rfl rfl rfl rfl (Yld.pickV rfl rfl rfl) ?_ | refine WL.gun rfl rfl rfl rfl ?_)
   exact WX.ret1 rfl rfl ⟨hg1,_,rfl,H⟩
  ·have h3:e≠.e i:=of_decide_eq_false h2
   repeat (first | refine WC.seq ?_ | refine WC.block ?_ | refine WC.region ?_ | refine WL.nil ?_ | refine WX.then_normal ?_ | refine WC.skip ?_ | refine WC.exit ?_ | refine WC.ret ?_ | refine WX.then_exit ?_ | refine WX.then_ret ?_ | refine WX.block_normal ?_ | refine WX.block_ret ?_ | refine WX.block_same ?_ | refine WX.block_other rfl ?_ | refine WC.label ?_ | refine WC.scope ?_ | refine WX.scope_normal ?_ | refine WX.scope_ret ?_ | refine WX.scope_exit ?_ | refine WL.y rfl (Yld.add rfl rfl (by simp only [In]; omega)) ?_ | refine WL.y rfl (Yld.sub rfl rfl (by simp only [In]; omega)) ?_ | refine WL.y rfl (Yld.mul rfl rfl (by simp only [In]; omega)) ?_ | refine WL.y rfl (Yld.convB za rfl rfl rfl rfl) ?_ | refine WL.y rfl (Yld.conv za rfl rfl rfl (by simp only [In]; omega)) ?_ | refine WL.y rfl (Yld.quo rfl rfl (by omega) (by omega) (by simp only [In]; omega)) ?_ | refine WL.y rfl (Yld.rem rfl rfl (by omega) (by omega)) ?_ | refine WL.y rfl (Yld.shl rfl rfl (by omega)) ?_ | refine WL.y rfl (Yld.shr rfl rfl (by omega)) ?_ | refine WL.y rfl (Yld.pure za rfl) ?_ | refine WL.y rfl (Yld.fld zb rfl rfl rfl) ?_ | refine WL.y rfl (Yld.max2 rfl rfl) ?_ | refine WL.y rfl (Yld.min2 rfl rfl) ?_ | refine WL.y rfl (Yld.pickV rfl rfl rfl) ?_ | refine WL.gno rfl rfl rfl rfl ?_ | refine WL.gyes rfl rfl rfl rfl (Yld.add rfl rfl (by simp only [In]; omega)) ?_ | refine WL.gyes rfl rfl rfl rfl (Yld.sub rfl rfl (by simp only [In]; omega)) ?_ | refine WL.gyes rfl rfl rfl rfl (Yld.mul rfl rfl (by simp only [In]; omega)) ?_ | refine WL.gyes rfl rfl rfl rfl (Yld.convB za rfl rfl rfl rfl) ?_ | refine WL.gyes rfl rfl rfl rfl (Yld.conv za rfl rfl rfl (by simp only [In]; omega)) ?_ | refine WL.gyes rfl rfl rfl rfl (Yld.quo rfl rfl (by omega) (by omega) (by simp only [In]; omega)) ?_ | refine WL.gyes rfl rfl rfl rfl (Yld.rem rfl rfl (by omega) (by omega)) ?_ | refine WL.gyes rfl rfl rfl rfl (Yld.shl rfl rfl (by omega)) ?_ | refine WL.gyes rfl rfl rfl rfl (Yld.shr rfl rfl (by omega)) ?_ | refine WL.gyes rfl rfl rfl rfl (Yld.pure za rfl) ?_ | refine WL.gyes rfl rfl rfl rfl (Yld.fld zb rfl rfl rfl) ?_ | refine WL.gyes rfl rfl rfl rfl (Yld.max2 rfl rfl) ?_ | refine WL.gyes rfl rfl rfl rfl (Yld.min2 rfl rfl) ?_ | refine WL.gyes rfl rfl rfl rfl (Yld.pickV rfl rfl rfl) ?_ | refine WL.gun rfl rfl rfl rfl ?_)
   refine WX.roundF _ ⟨i+1,rfl,rfl,by omega,fun j hj=>?_,rfl⟩ (by repeat (first | exact Sub.nil | refine Sub.cons rfl ?_)) (by omega)
   rcases Nat.lt_or_ge j i with hji | hji
   ·exact hne j hji
   ·obtain rfl:j=i:=by omega
    exact h3
 ·simp only [decide_eq_false_iff_not] at h
  repeat (first | refine WC.seq ?_ | refine WC.block ?_ | refine WC.region ?_ | refine WL.nil ?_ | refine WX.then_normal ?_ | refine WC.skip ?_ | refine WC.exit ?_ | refine WC.ret ?_ | refine WX.then_exit ?_ | refine WX.then_ret ?_ | refine WX.block_normal ?_ | refine WX.block_ret ?_ | refine WX.block_same ?_ | refine WX.block_other rfl ?_ | refine WC.label ?_ | refine WC.scope ?_ | refine WX.scope_normal ?_ | refine WX.scope_ret ?_ | refine WX.scope_exit ?_ | refine WL.y rfl (Yld.add rfl rfl (by simp only [In]; omega)) ?_ | refine WL.y rfl (Yld.sub rfl rfl (by simp only [In]; omega)) ?_ | refine WL.y rfl (Yld.mul rfl rfl (by simp only [In]; omega)) ?_ | refine WL.y rfl (Yld.convB za rfl rfl rfl rfl) ?_ | refine WL.y rfl (Yld.conv za rfl rfl rfl (by simp only [In]; omega)) ?_ | refine WL.y rfl (Yld.quo rfl rfl (by omega) (by omega) (by simp only [In]; omega)) ?_ | refine WL.y rfl (Yld.rem rfl rfl (by omega) (by omega)) ?_ | refine WL.y rfl (Yld.shl rfl rfl (by omega)) ?_ | refine WL.y rfl (Yld.shr rfl rfl (by omega)) ?_ | refine WL.y rfl (Yld.pure za rfl) ?_ | refine WL.y rfl (Yld.fld zb rfl rfl rfl) ?_ | refine WL.y rfl (Yld.max2 rfl rfl) ?_ | refine WL.y rfl (Yld.min2 rfl rfl) ?_ | refine WL.y rfl (Yld.pickV rfl rfl rfl) ?_ | refine WL.gno rfl rfl rfl rfl ?_ | refine WL.gyes rfl rfl rfl rfl (Yld.add rfl rfl (by simp only [In]; omega)) ?_ | refine WL.gyes rfl rfl rfl rfl (Yld.sub rfl rfl (by simp only [In]; omega)) ?_ | refine WL.gyes rfl rfl rfl rfl (Yld.mul rfl rfl (by simp only [In]; omega)) ?_ | refine WL.gyes rfl rfl rfl rfl (Yld.convB za rfl rfl rfl rfl) ?_ | refine WL.gyes rfl rfl rfl rfl (Yld.conv za rfl rfl rfl (by simp only [In]; omega)) ?_ | refine WL.gyes rfl rfl rfl rfl (Yld.quo rfl rfl (by omega) (by omega) (by simp only [In]; omega)) ?_ | refine WL.gyes rfl rfl rfl rfl (Yld.rem rfl rfl (by omega) (by omega)) ?_ | refine WL.gyes rfl rfl rfl rfl (Yld.shl rfl rfl (by omega)) ?_ | refine WL.gyes rfl rfl rfl rfl (Yld.shr rfl rfl (by omega)) ?_ | refine WL.gyes rfl rfl rfl rfl (Yld.pure za rfl) ?_ | refine WL.gyes rfl rfl rfl rfl (Yld.fld zb rfl rfl rfl) ?_ | refine WL.gyes rfl rfl rfl rfl (Yld.max2 rfl rfl) ?_ | refine WL.gyes rfl rfl rfl rfl (Yld.min2 rfl rfl) ?_ | refine WL.gyes rfl rfl rfl rfl (Yld.pickV rfl rfl rfl) ?_ | refine WL.gun rfl rfl rfl rfl ?_)
  refine WX.ret1 rfl rfl ⟨hg1,_,rfl,?_⟩
  have:sentV e = -1:=by
   cases e with
   | e n =>
    by_cases hn:n<17
    ·exact absurd rfl (hne n (by omega))
    ·exact absurd (ErV.lt hE.1) hn
   | ok=>rfl
   | at_ p n=>rfl
  rw [this] at H
  exact H
end Go.Proofs.YtjjcdkfhaceicaaGreatDoor
 
namespace Go.Proofs.YtjjcdkfhaceicaaGreatDoor
open Go Go.RowKit
attribute [local irreducible] WL WC WX WQ WK WJ Yld Eff Ef0 Fn
def ql (e:Er) (K:Int→Bool→Int→Bool→(List UInt8)→Prop):Prop :=
 ((∀ (pos:Int) (n:Nat),e=Er.at_ pos n→(((Er.e n)=Er.ok→zJ (-1:Int) (fun (t24_Code:Int) (t24_Placed:Bool) (t24_Pos:Int) (t24_Filed:Bool) (t24_File:List UInt8) =>
 K t24_Code t24_Placed t24_Pos t24_Filed t24_File)) ∧
 (¬ ((Er.e n)=Er.ok)→zK (Er.e n) (fun (t29:Int) =>
 qk t29 pos (fun (t34_Code:Int) (t34_Placed:Bool) (t34_Pos:Int) (t34_Filed:Bool) (t34_File:List UInt8) =>
 K t34_Code t34_Placed t34_Pos t34_Filed t34_File))))) ∧
 ((∀ p n,e≠Er.at_ p n)→zK e (fun (t13:Int) =>
 zJ t13 (fun (t14_Code:Int) (t14_Placed:Bool) (t14_Pos:Int) (t14_Filed:Bool) (t14_File:List UInt8) =>
 K t14_Code t14_Placed t14_Pos t14_Filed t14_File))))
def qp (e:Er) (K:Int→Bool→Int→Bool→(List UInt8)→Prop):Prop :=
 ((e=Er.ok→zW (fun (t8_Code:Int) (t8_Placed:Bool) (t8_Pos:Int) (t8_Filed:Bool) (t8_File:List UInt8) =>
 K t8_Code t8_Placed t8_Pos t8_Filed t8_File)) ∧
 (¬ (e=Er.ok)→ql e (fun (t17_Code:Int) (t17_Placed:Bool) (t17_Pos:Int) (t17_Filed:Bool) (t17_File:List UInt8) =>
 K t17_Code t17_Placed t17_Pos t17_Filed t17_File)))
def qy (e:Er) (f_Code:Int) (f_Placed:Bool) (f_Pos:Int) (f_Filed:Bool) (f_File:List UInt8) (K:Bool→Prop):Prop :=
 qp e (fun (t6_Code:Int) (t6_Placed:Bool) (t6_Pos:Int) (t6_Filed:Bool) (t6_File:List UInt8) =>
 z3 t6_Code t6_Placed t6_Pos t6_Filed t6_File f_Code f_Placed f_Pos f_Filed f_File (fun (t4:Bool) =>
 K t4))
def zX (e:Er) (code:Int) (K:Bool→Prop):Prop :=
 zJ code (fun (t7_Code:Int) (t7_Placed:Bool) (t7_Pos:Int) (t7_Filed:Bool) (t7_File:List UInt8) =>
 qy e t7_Code t7_Placed t7_Pos t7_Filed t7_File (fun (t4:Bool) =>
 K t4))
set_option maxHeartbeats 8000000 in
theorem W_smithysee_placed {S:List Nat} {w:World} {v_e:Value} {e:Er} {K:Int→Bool→Int→Bool→(List UInt8)→Prop} (hG:GOK S w) (hS0:0∈S) (hS1:1∈S) (hS2:2∈S) (hS3:3∈S) (hS4:4∈S) (hS5:5∈S) (hS6:6∈S) (hS7:7∈S) (hS8:8∈S) (hS9:9∈S) (hS10:10∈S) (hS11:11∈S) (hS12:12∈S) (hS13:13∈S) (hS14:14∈S) (hS15:15∈S) (hS16:16∈S) (he:ErrR S w v_e e) (H:ql e K):Fn Tryz.prog 184 ⟨[v_e]⟩ w (fun v w'=>w.grownBy w' none∧∃ (r_Code:Int),∃ (r_Placed:Bool),∃ (r_Pos:Int),∃ (r_Filed:Bool),∃ (r_File:List UInt8),v=.agg ⟨[.int .i64 r_Code,.bool r_Placed,.int .i64 r_Pos,.bool r_Filed,vs r_File]⟩∧K r_Code r_Placed r_Pos r_Filed r_File):=by
 unfold ql at H
 refine Fn.enter (by kernel_rfl) Tryz.func184 rfl Tryz.ntmps184 rfl ?_
 refine WC.seq (WC.region (WL.alloc rfl zero142 (fun g1 w1 hB1 hg1 hl1=>?_)))
 have gr1:=hg1
 refine WL.nil (WX.then_normal (WC.seq (WC.region (yp (h:=?_)))))
 rcases Er.atCases e with ⟨pos,n,he1⟩ | he1
 ·replace H:=H.1 pos n he1
  obtain ⟨b1,vE1,hv1,hB2,hE1⟩:=ErrR.atOut (he1 ▸ (he.grown gr1))
  refine WL.y rfl (Yld.assertYes Tryz.underlying298 rfl hv1) (yp (h:=(yp (h:=(yp (h:=(yp (h:=(yp (h:=(WL.nil (WX.then_normal (WC.seq (WC.seq (WC.region (yp (h:=(yp (h:=(WL.nil (WX.then_normal (WC.cond rfl (fun h=>by cases h) (fun _=>WC.skip (WX.then_normal (WC.seq (WC.seq (WC.region (yp (h:=(WL.y rfl (Yld.peqnil Tryz.underlying298 rfl rfl) (yp (h:=(WL.midF 6 (fun L' w'=>∃ q1:Bool,L'=[(23,.bool q1),(2,.pointer (some ⟨g1,0,none⟩)),(3,.pointer (some ⟨b1,0,none⟩))]∧(decide ((Er.e n)=Er.ok))=q1∧w1=w') ?_ (fun hQ=>?_))))))))))))))))))))))))))))))))))
  ·rintro _ _ ⟨q1,rfl,rfl,rfl⟩
   refine WL.nil (WX.then_normal (WC.cond rfl (fun b2=>?_) (fun b2=>?_)))
   ·replace H:=H.1 (of_decide_eq_true b2)
    refine WC.seq (WC.region (WL.call rfl rfl (W_smithyref_Bare H) ?_))
    rintro _ w2 ⟨hg2,t24_Code,t24_Placed,t24_Pos,t24_Filed,t24_File,rfl,H⟩
    exact WL.storeW (vs:=[.int .i64 t24_Code,.bool t24_Placed,.int .i64 t24_Pos,.bool t24_Filed,vs t24_File]) za rfl rfl rfl (zf rfl (zf rfl (zf rfl (zf rfl (zf rfl zm))))) (hB1.g0 hg2) rfl rfl (fun w3 hB3 hg3=>WL.nil (WX.then_normal (WC.ret (WX.then_ret (WX.retc za rfl rfl rfl hB3 rfl ⟨(zk (zd gr1 hg2) hg3 (Ge.le (Ge.box hl1) (Nat.le_refl _))),t24_Code,t24_Placed,t24_Pos,t24_Filed,t24_File,rfl,H⟩)))))
   ·replace H:=H.2 (of_decide_eq_false b2)
    refine WC.skip (WX.then_normal (WC.seq (WC.chainF (fun k => !(Nat.beq k 4 || Nat.beq k 9 || Nat.beq k 10)) (LD [3,8] (fun w'=>Bl w' b1 302 [.int .i64 pos,vE1])) mixed (by kernel_rfl) (fun k w' h _=>(zU h hB2)) (WJ.y rfl rfl (fun w' hw'=>Yld.pure za rfl) (WJ.y rfl rfl (fun w' hw'=>Yld.pure za rfl) (WJ.y rfl rfl (fun w' hw'=>Yld.pure za rfl) (WJ.y rfl rfl (fun w' hw'=>Yld.bload za (hw' rfl) rfl rfl rfl) (WJ.call rfl (zo) rfl rfl (W_smithysee_sentinel (hG.grown gr1) hS0 hS1 hS2 hS3 hS4 hS5 hS6 hS7 hS8 hS9 hS10 hS11 hS12 hS13 hS14 hS15 hS16 hE1 H) (fun v w' h w2 e=>DD.keep (Bl.g0 hB2 (zq h.1 e))) ?_))))))))
    rintro _ w4 ⟨hg4,t29,rfl,H⟩
    have k3:=hE1.grown hg4
    have k4:=hB2.g0 hg4
    refine WJ.y rfl rfl (fun w' hw'=>Yld.pure za rfl) (WJ.y rfl rfl (fun w' hw'=>Yld.pure za rfl) (WJ.y rfl rfl (fun w' hw'=>Yld.pure za rfl) (WJ.y rfl rfl (fun w' hw'=>Yld.bload za (hw' rfl) rfl rfl rfl) (WJ.call rfl (zo) rfl rfl (W_smithyref_Placed H) (fun v w' h w2 e=>DD.keep (Bl.g0 k4 (zq h.1 e))) ?_))))
    rintro _ w5 ⟨hg5,t34_Code,t34_Placed,t34_Pos,t34_Filed,t34_File,rfl,H⟩
    have k6:=k4.g0 hg5
    refine WJ.eff rfl (Ef0.storeW (vs:=[.int .i64 t34_Code,.bool t34_Placed,.int .i64 t34_Pos,.bool t34_Filed,vs t34_File]) za rfl rfl rfl (zf rfl (zf rfl (zf rfl (zf rfl (zf rfl zm))))) ((hB1.g0 hg4).g0 hg5) rfl rfl) (fun w' h=>DD.past (by kernel_rfl)) ?_
    rintro w6 ⟨hB4,hg6⟩
    exact WJ.nil (WX.then_normal (WC.ret (WX.retc za rfl rfl rfl hB4 rfl ⟨(zk (zd (zd gr1 hg4) hg5) hg6 (Ge.le (Ge.box hl1) (Nat.le_refl _))),t34_Code,t34_Placed,t34_Pos,t34_Filed,t34_File,rfl,H⟩)))
  ·clear H
   exact WL.gyes rfl rfl (rfl) rfl (Yld.pure za rfl) (WL.gyes rfl rfl (rfl) rfl (Yld.pure za rfl) (WL.gyes rfl rfl (rfl) rfl (Yld.pure za rfl) (WL.gyes rfl rfl (rfl) rfl (Yld.bload za hB2 rfl rfl rfl) (WL.gyes rfl rfl (rfl) rfl (Yld.erreql Tryz.underlying43 hE1 rfl) (WL.y rfl (Yld.pickF (rfl) rfl) (wk (hQ _ _ ⟨decide ((Er.e n)=Er.ok),rfl,rfl,rfl⟩)))))))
 ·replace H:=H.2 he1
  refine WL.y rfl (Yld.assertNo Tryz.underlying298 (fun _=>by kernel_rfl) (he.grown gr1) rfl rfl (.inr he1)) (yp (h:=(yp (h:=(yp (h:=(yp (h:=(yp (h:=(WL.nil (WX.then_normal (WC.seq (WC.seq (WC.region (yp (h:=(yp (h:=(WL.nil (WX.then_normal (WC.cond rfl (fun _=>WC.seq (WC.region (yp (h:=(WL.call rfl rfl (W_smithysee_sentinel (hG.grown gr1) hS0 hS1 hS2 hS3 hS4 hS5 hS6 hS7 hS8 hS9 hS10 hS11 hS12 hS13 hS14 hS15 hS16 (he.grown gr1) H) ?_))))) (fun h=>by cases h)))))))))))))))))))))))
  rintro _ w7 ⟨hg7,t13,rfl,H⟩
  refine WL.call rfl rfl (W_smithyref_Bare H) ?_
  rintro _ w8 ⟨hg8,t14_Code,t14_Placed,t14_Pos,t14_Filed,t14_File,rfl,H⟩
  exact WL.storeW (vs:=[.int .i64 t14_Code,.bool t14_Placed,.int .i64 t14_Pos,.bool t14_Filed,vs t14_File]) za rfl rfl rfl (zf rfl (zf rfl (zf rfl (zf rfl (zf rfl zm))))) ((hB1.g0 hg7).g0 hg8) rfl rfl (fun w9 hB5 hg9=>WL.nil (WX.then_normal (WC.ret (WX.then_ret (WX.retc za rfl rfl rfl hB5 rfl ⟨(zk (zd (zd gr1 hg7) hg8) hg9 (Ge.le (Ge.box hl1) (Nat.le_refl _))),t14_Code,t14_Placed,t14_Pos,t14_Filed,t14_File,rfl,H⟩)))))
set_option maxHeartbeats 8000000 in
theorem W_smithysee_Fault {S:List Nat} {w:World} {v_e:Value} {e:Er} {K:Int→Bool→Int→Bool→(List UInt8)→Prop} (hG:GOK S w) (hS0:0∈S) (hS1:1∈S) (hS2:2∈S) (hS3:3∈S) (hS4:4∈S) (hS5:5∈S) (hS6:6∈S) (hS7:7∈S) (hS8:8∈S) (hS9:9∈S) (hS10:10∈S) (hS11:11∈S) (hS12:12∈S) (hS13:13∈S) (hS14:14∈S) (hS15:15∈S) (hS16:16∈S) (he:ErrR S w v_e e) (H:qp e K):Fn Tryz.prog 134 ⟨[v_e]⟩ w (fun v w'=>w.grownBy w' none∧∃ (r_Code:Int),∃ (r_Placed:Bool),∃ (r_Pos:Int),∃ (r_Filed:Bool),∃ (r_File:List UInt8),v=.agg ⟨[.int .i64 r_Code,.bool r_Placed,.int .i64 r_Pos,.bool r_Filed,vs r_File]⟩∧K r_Code r_Placed r_Pos r_Filed r_File):=by
 unfold qp at H
 refine Fn.enter (by kernel_rfl) Tryz.func134 rfl Tryz.ntmps134 rfl ?_
 refine WC.seq (WC.region (WL.alloc rfl zero142 (fun g1 w1 hB1 hg1 hl1=>?_)))
 have gr1:=hg1
 refine WL.nil (WX.then_normal (WC.seq (WC.seq (WC.region (yp (h:=(WL.y rfl (Yld.erreql Tryz.underlying43 (he.grown gr1) rfl) (WL.nil (WX.then_normal (WC.cond rfl (fun b1=>?_) (fun b1=>?_)))))))))))
 ·replace H:=H.1 (of_decide_eq_true b1)
  refine WC.seq (WC.region (WL.call rfl rfl (W_smithyref_None H) ?_))
  rintro _ w2 ⟨hg2,t8_Code,t8_Placed,t8_Pos,t8_Filed,t8_File,rfl,H⟩
  exact WL.storeW (vs:=[.int .i64 t8_Code,.bool t8_Placed,.int .i64 t8_Pos,.bool t8_Filed,vs t8_File]) za rfl rfl rfl (zf rfl (zf rfl (zf rfl (zf rfl (zf rfl zm))))) (hB1.g0 hg2) rfl rfl (fun w3 hB2 hg3=>WL.nil (WX.then_normal (WC.ret (WX.then_ret (WX.retc za rfl rfl rfl hB2 rfl ⟨(zk (zd gr1 hg2) hg3 (Ge.le (Ge.box hl1) (Nat.le_refl _))),t8_Code,t8_Placed,t8_Pos,t8_Filed,t8_File,rfl,H⟩)))))
 ·replace H:=H.2 (of_decide_eq_false b1)
  refine WC.skip (WX.then_normal (WC.seq (WC.region (yp (h:=(WL.y rfl (Yld.assertNo Tryz.underlying275 (fun _=>by kernel_rfl) (he.grown gr1) rfl rfl (.inl rfl)) (yp (h:=(yp (h:=(yp (h:=(yp (h:=(yp (h:=(WL.nil (WX.then_normal (WC.seq (WC.seq (WC.region (yp (h:=(yp (h:=(WL.nil (WX.then_normal (WC.cond rfl (fun _=>WC.seq (WC.region (yp (h:=(WL.call rfl rfl (W_smithysee_placed (hG.grown gr1) hS0 hS1 hS2 hS3 hS4 hS5 hS6 hS7 hS8 hS9 hS10 hS11 hS12 hS13 hS14 hS15 hS16 (he.grown gr1) H) ?_))))) (fun h=>by cases h)))))))))))))))))))))))))))))
  rintro _ w4 ⟨hg4,t17_Code,t17_Placed,t17_Pos,t17_Filed,t17_File,rfl,H⟩
  exact WL.storeW (vs:=[.int .i64 t17_Code,.bool t17_Placed,.int .i64 t17_Pos,.bool t17_Filed,vs t17_File]) za rfl rfl rfl (zf rfl (zf rfl (zf rfl (zf rfl (zf rfl zm))))) (hB1.g0 hg4) rfl rfl (fun w5 hB3 hg5=>WL.nil (WX.then_normal (WC.ret (WX.then_ret (WX.retc za rfl rfl rfl hB3 rfl ⟨(zk (zd gr1 hg4) hg5 (Ge.le (Ge.box hl1) (Nat.le_refl _))),t17_Code,t17_Placed,t17_Pos,t17_Filed,t17_File,rfl,H⟩)))))
set_option maxHeartbeats 8000000 in
theorem W_smithysee_Same {S:List Nat} {w:World} {v_e:Value} {e:Er} {f_Code:Int} {f_Placed:Bool} {f_Pos:Int} {f_Filed:Bool} {f_File:List UInt8} {K:Bool→Prop} (hG:GOK S w) (hS0:0∈S) (hS1:1∈S) (hS2:2∈S) (hS3:3∈S) (hS4:4∈S) (hS5:5∈S) (hS6:6∈S) (hS7:7∈S) (hS8:8∈S) (hS9:9∈S) (hS10:10∈S) (hS11:11∈S) (hS12:12∈S) (hS13:13∈S) (hS14:14∈S) (hS15:15∈S) (hS16:16∈S) (he:ErrR S w v_e e) (H:qy e f_Code f_Placed f_Pos f_Filed f_File K):Fn Tryz.prog 78 ⟨[v_e,.agg ⟨[.int .i64 f_Code,.bool f_Placed,.int .i64 f_Pos,.bool f_Filed,vs f_File]⟩]⟩ w (fun v w'=>w.grownBy w' none∧∃ (r:Bool),v=.bool r∧K r):=by
 unfold qy at H
 refine Fn.enter (by kernel_rfl) Tryz.func78 rfl Tryz.ntmps78 rfl ?_
 refine WC.seq (WC.region (WL.box (us:=[.int .i64 f_Code,.bool f_Placed,.int .i64 f_Pos,.bool f_Filed,vs f_File]) rfl rfl rfl (fun g1 w1 hB1 hg1 hl1=>?_)))
 have gr1:=hg1
 refine yp (h:=(WL.nil (WX.then_normal (WC.seq (WC.chainF (fun k => !(Nat.beq k 1 || Nat.beq k 3)) (LD [2] (fun w'=>Bl w' g1 142 [.int .i64 f_Code,.bool f_Placed,.int .i64 f_Pos,.bool f_Filed,vs f_File])) mixed (by kernel_rfl) (fun k w' h _=>(zU h hB1)) (WJ.y rfl rfl (fun w' hw'=>Yld.pure za rfl) (WJ.call rfl (zo) rfl rfl (W_smithysee_Fault (hG.grown gr1) hS0 hS1 hS2 hS3 hS4 hS5 hS6 hS7 hS8 hS9 hS10 hS11 hS12 hS13 hS14 hS15 hS16 (he.grown gr1) H) (fun v w' h w2 e=>DD.keep (Bl.g0 hB1 (zq h.1 e))) ?_)))))))
 rintro _ w2 ⟨hg2,t6_Code,t6_Placed,t6_Pos,t6_Filed,t6_File,rfl,H⟩
 have k1:=hB1.g0 hg2
 refine WJ.y rfl rfl (fun w' hw'=>Yld.bagg (vs:=[.int .i64 f_Code,.bool f_Placed,.int .i64 f_Pos,.bool f_Filed,vs f_File]) za (hw' rfl) rfl rfl rfl rfl) (WJ.call rfl (zo) rfl rfl (W_smithyref_SameFault H) (fun v w' h w2 e=>DD.keep (Bl.g0 k1 (zq h.1 e))) ?_)
 rintro _ w3 ⟨hg3,t4,rfl,H⟩
 have k2:=k1.g0 hg3
 exact WJ.y rfl rfl (fun w' hw'=>Yld.pure za rfl) (WJ.nil (WX.then_normal (WC.ret (WX.ret1 rfl rfl ⟨(zd (zd gr1 hg2) hg3),t4,rfl,H⟩))))
set_option maxHeartbeats 8000000 in
theorem W_smithysee_Is {S:List Nat} {w:World} {v_e:Value} {e:Er} {code:Int} {K:Bool→Prop} (hG:GOK S w) (hS0:0∈S) (hS1:1∈S) (hS2:2∈S) (hS3:3∈S) (hS4:4∈S) (hS5:5∈S) (hS6:6∈S) (hS7:7∈S) (hS8:8∈S) (hS9:9∈S) (hS10:10∈S) (hS11:11∈S) (hS12:12∈S) (hS13:13∈S) (hS14:14∈S) (hS15:15∈S) (hS16:16∈S) (he:ErrR S w v_e e) (H:zX e code K):Fn Tryz.prog 15 ⟨[v_e,.int .i64 code]⟩ w (fun v w'=>w.grownBy w' none∧∃ (r:Bool),v=.bool r∧K r):=by
 unfold zX at H
 refine Fn.enter (by kernel_rfl) Tryz.func15 rfl Tryz.ntmps15 rfl ?_
 refine WC.seq (WC.region (yp (h:=(WL.nil (WX.then_normal (WC.seq (WC.region (yp (h:=(yp (h:=(WL.call rfl rfl (W_smithyref_Bare H) ?_))))))))))))
 rintro _ w1 ⟨hg1,t7_Code,t7_Placed,t7_Pos,t7_Filed,t7_File,rfl,H⟩
 have gr1:=hg1
 refine WL.call rfl rfl (W_smithysee_Same (hG.grown gr1) hS0 hS1 hS2 hS3 hS4 hS5 hS6 hS7 hS8 hS9 hS10 hS11 hS12 hS13 hS14 hS15 hS16 (he.grown gr1) H) ?_
 rintro _ w2 ⟨hg2,t4,rfl,H⟩
 exact yp (h:=(WL.nil (WX.then_normal (WC.ret (WX.ret1 rfl rfl ⟨(zd gr1 hg2),t4,rfl,H⟩)))))
end Go.Proofs.YtjjcdkfhaceicaaGreatDoor
 
namespace Go.Proofs.YtjjcdkfhaceicaaGreatDoor
open Go Go.RowKit
attribute [local irreducible] WL WC WX WQ WK WJ Yld Eff Ef0 Fn
def zL (n:Int) (below:Int) (K:Int→Prop):Prop :=
 (below≠0) ∧
 (In .i64 ((n.tmod below)+below)) ∧
 (below≠0) ∧
 K (((n.tmod below)+below).tmod below)
def z9 (l:List (Int × List Int × List Int)) (K:Bool→Prop):Prop :=
 (l.length≤maxLen →
 (((20:Int)<(l.length:Int)→K false) ∧
 (¬ ((20:Int)<(l.length:Int))→Lp1 (fun (i:Int) kont1=>((i<(l.length:Int)→(0≤i∧i<(l.length:Nat)) ∧
 ((decide ((10:Int)<(((l.getD i.toNat (0,[],[])).2.1).length:Int)))=false→(0≤i∧i<(l.length:Nat))) ∧
 ((((decide ((10:Int)<(((l.getD i.toNat (0,[],[])).2.1).length:Int))) || (decide ((6:Int)<(((l.getD i.toNat (0,[],[])).2.2).length:Int))))=true→K false) ∧
 (((decide ((10:Int)<(((l.getD i.toNat (0,[],[])).2.1).length:Int))) || (decide ((6:Int)<(((l.getD i.toNat (0,[],[])).2.2).length:Int))))=false→(In .i64 (i+(1:Int))) ∧
 kont1 (i+(1:Int))))) ∧
 (¬ (i<(l.length:Int))→K true))) (0:Int))))
def qi (s:PS) (K:(List UInt8)→Prop):Prop :=
 M_pdeps_Set_All s (fun (t70:List PV) (t71:Er) =>
 ((¬ (t71=Er.ok)→K ([]:List UInt8)) ∧
 (t71=Er.ok→M_val_Tuple t70 (fun (t13:PV) =>
 M_val_Repr t13 (fun (t2:List UInt8) =>
 K t2)))))
def qh (l:List (Int × List Int × List Int)) (K:(List PS)→Bool→Prop):Prop :=
 (l.length≤maxLen →
 Lp2 (fun (out:List PS) (i:Int) kont1=>((i<(l.length:Int)→Lp2 (fun (own:List PV) (k:Int) kont2=>(0≤i∧i<(l.length:Nat)) ∧
 ((k<(((l.getD i.toNat (0,[],[])).2.1).length:Int)→(0≤i∧i<(l.length:Nat)) ∧
 (0≤k∧k<(((l.getD i.toNat (0,[],[])).2.1).length:Nat)) ∧
 qa (((l.getD i.toNat (0,[],[])).2.1).getD k.toNat 0) (fun (t37:PV) =>
 ((own.length+(([t37]:List PV)).length)*16≤140737488355328) ∧
 (In .i64 (k+(1:Int))) ∧
 kont2 (own++([t37]:List PV)) (k+(1:Int)))) ∧
 (¬ (k<(((l.getD i.toNat (0,[],[])).2.1).length:Int))→Lp2 (fun (from_:List PS) (k_2:Int) kont3=>(0≤i∧i<(l.length:Nat)) ∧
 ((((decide (k_2<(((l.getD i.toNat (0,[],[])).2.2).length:Int))) && (decide ((0:Int)<i)))=true→(0≤i∧i<(l.length:Nat)) ∧
 (0≤k_2∧k_2<(((l.getD i.toNat (0,[],[])).2.2).length:Nat)) ∧
 zL (((l.getD i.toNat (0,[],[])).2.2).getD k_2.toNat 0) i (fun (t65:Int) =>
 (0≤t65∧t65<(out.length:Nat)) ∧
 ((from_.length+(([out.getD t65.toNat PS.nil]:List PS)).length)*8≤140737488355328) ∧
 (In .i64 (k_2+(1:Int))) ∧
 kont3 (from_++([out.getD t65.toNat PS.nil]:List PS)) (k_2+(1:Int)))) ∧
 (((decide (k_2<(((l.getD i.toNat (0,[],[])).2.2).length:Int))) && (decide ((0:Int)<i)))=false→(0≤i∧i<(l.length:Nat)) ∧
 qq ((l.getD i.toNat (0,[],[])).1) own from_ (fun (t780:PS) (t781:Er) =>
 (t780≠PS.nil→∀ x∈out,∀ y,zV x y→y≠PS.nil→y.id≠t780.id) →
 (t780≠PS.nil→∀ x∈from_,∀ y,zV x y→y≠PS.nil→y.id≠t780.id) →
 (((t780.isNil || (!decide (t781=Er.ok)))=true→K out false) ∧
 ((t780.isNil || (!decide (t781=Er.ok)))=false→((out.length+(([t780]:List PS)).length)*8≤140737488355328) ∧
 (In .i64 (i+(1:Int))) ∧
 kont1 (out++([t780]:List PS)) (i+(1:Int)))))))) [] (0:Int)))) [] (0:Int)) ∧
 (¬ (i<(l.length:Int))→K out true))) [] (0:Int))
def z8 (K:Bool→Prop):Prop :=
 Lp2 (fun (order:Int) (l:List (Int × List Int × List Int)) kont1=>4=l.length→((order≤(3:Int)→Lp2 (fun (i:Int) (l2:List (Int × List Int × List Int)) kont2=>4=l2.length→((i<(4:Int)→(0≤i∧i<(4:Nat)) ∧
 (In .i64 (i+(1:Int))) ∧
 kont2 (i+(1:Int)) (l2.set i.toNat ((order,(l2.getD i.toNat (0,[],[])).2.1,(l2.getD i.toNat (0,[],[])).2.2):Int × List Int × List Int))) ∧
 (¬ (i<(4:Int))→qh l2 (fun (t370:List PS) (t371:Bool) =>
 ∃ J1:Bool→Prop,((((!t371)=true→J1 true) ∧
 ((!t371)=false→(0≤(3:Int)∧(3:Int)<(t370.length:Nat)) ∧
 qi (t370.getD 3 PS.nil) (fun (t46:List UInt8) =>
 (In .i64 (order - (1:Int))) ∧
 (0≤order - (1:Int)∧order - (1:Int)<(3:Nat)) ∧
 J1 (!decide (t46=(([([40,52,44,32,50,44,32,49,44,32,51,41]:List UInt8),([40,49,44,32,50,44,32,51,44,32,52,41]:List UInt8),([40,52,44,32,50,44,32,51,44,32,49,41]:List UInt8)]:List (List UInt8)).getD ((order - (1:Int)).toNat) []))))))) ∧
 (∀ q1:Bool,J1 q1→((q1=true→K false) ∧
 (q1=false→(In .i64 (order+(1:Int))) ∧
 kont1 (order+(1:Int)) l2))))))) (0:Int) l) ∧
 (¬ (order≤(3:Int))→K true))) (1:Int) ([((0:Int),([(1:Int)]:List Int),[]),((0:Int),([(2:Int)]:List Int),([(0:Int)]:List Int)),((0:Int),([(3:Int)]:List Int),([(0:Int)]:List Int)),((0:Int),([(4:Int)]:List Int),([(1:Int),(2:Int)]:List Int))]:List (Int × List Int × List Int))
set_option maxHeartbeats 8000000 in
theorem W_smithyworld_Number {w:World} {n:Int} {below:Int} {K:Int→Prop} (H:zL n below K):Fn Tryz.prog 12 ⟨[.int .i64 n,.int .i64 below]⟩ w (fun v w'=>w=w'∧∃ (r:Int),v=.int .i64 r∧K r):=by
 unfold zL at H
 refine Fn.enter (by kernel_rfl) Tryz.func12 rfl Tryz.ntmps12 rfl ?_
 refine WC.seq (WC.region (yp (h:=(WL.nil (WX.then_normal (WC.seq (WC.region (yp (h:=(yp (h:=?_)))))))))))
 obtain ⟨h1,H⟩:=H
 refine WL.y rfl (Yld.rem' rfl rfl h1) (yp (h:=?_))
 obtain ⟨h2,H⟩:=H
 refine WL.y rfl (Yld.add rfl rfl h2) (yp (h:=?_))
 obtain ⟨h3,H⟩:=H
 exact WL.y rfl (Yld.rem' rfl rfl h3) (yp (h:=(WL.nil (WX.then_normal (WC.ret (WX.ret1 rfl rfl ⟨rfl,((n.tmod below)+below).tmod below,rfl,H⟩))))))
set_option maxHeartbeats 8000000 in
theorem W_smithylaw13_light {w:World} {l:List (Int × List Int × List Int)} {A_l:Option Addr} {c_l:Nat} {hs_l:List (Int × Hdr × Hdr)} {n_l:Nat} {K:Bool→Prop} (hl:RdK 3 encH30 w A_l c_l hs_l) (hn_l:n_l=l.length) (hr_l:RelD de30 w hs_l l) (H:z9 l K):Fn Tryz.prog 9 ⟨[.slice A_l n_l c_l]⟩ w (fun v w'=>w=w'∧∃ (r:Bool),v=.bool r∧K r):=by
 subst hn_l
 unfold z9 at H
 refine Fn.enter (by kernel_rfl) Tryz.func9 rfl Tryz.ntmps9 rfl ?_
 replace H:=H (by rw [←hr_l.1]; exact Nat.le_trans hl.cap hl.max)
 refine WC.seq (WC.region (yp (h:=(WL.nil (WX.then_normal (WC.seq (WC.seq (WC.region (yp (h:=(yp (h:=(yp (h:=(WL.nil (WX.then_normal (WC.cond rfl (fun b1=>?_) (fun b1=>?_))))))))))))))))))
 ·replace H:=H.1 (of_decide_eq_true b1)
  exact WC.seq (WC.region (yp (h:=(WL.nil (WX.then_normal (WC.ret (WX.then_ret (WX.ret1 rfl rfl ⟨rfl,false,rfl,H⟩))))))))
 ·replace H:=H.2 (of_decide_eq_false b1)
  refine WC.skip (WX.then_normal (WC.seq (WC.seq (WC.region (yp (h:=(WL.nil (WX.then_normal (WC.block ?_)))))))))
  obtain ⟨I1,mu1,h0_1,HR1⟩:=H
  refine WC.loopF (fun n' L' w'=>∃ (i:Int),n'=mu1 i∧L'=[(0,.slice A_l l.length c_l),(3,.int .i64 i)]∧I1 i∧w=w') _ _ ⟨(0:Int),rfl,rfl,h0_1,rfl⟩ (by repeat (first | exact Sub.nil | refine Sub.cons rfl ?_)) ?_
  clear h0_1
  rintro _ _ _ ⟨i,rfl,rfl,hI1,rfl⟩
  have H:=HR1 i hI1
  refine WC.seq (WC.seq (WC.region (yp (h:=(yp (h:=(yp (h:=(yp (h:=(WL.nil (WX.then_normal (WC.cond rfl (fun b2=>?_) (fun b2=>?_))))))))))))))
  ·replace H:=H.1 (of_decide_eq_true b2)
   refine WC.skip (WX.then_normal (WC.seq (WC.block (WC.seq (WC.region (yp (h:=(yp (h:=?_)))))))))
   obtain ⟨h1,H⟩:=H
   refine WL.y rfl (Yld.iaddrK za hl rfl rfl hr_l.1.symm rfl h1.1 h1.2) (WL.y rfl (Yld.faddrK za hl (iltN h1 hr_l.1.symm) rfl rfl rfl) ?_)
   obtain ⟨⟨f1,⟨A_el,n1,c_el⟩,⟨A_el2,n2,c_el2⟩⟩,eh1,⟨en1,⟨en2,hR1⟩,⟨en3,hR2⟩⟩⟩:=RelD.at hr_l (0,hd0,hd0) (0,[],[]) (j:=i.toNat) (Nat.lt_of_lt_of_eq (iltN h1 hr_l.1.symm) hr_l.1)
   have en1:f1=(l.getD i.toNat (0,[],[])).1:=en1
   subst en1
   have en2:n1=((l.getD i.toNat (0,[],[])).2.1).length:=en2
   subst en2
   have en3:n2=((l.getD i.toNat (0,[],[])).2.2).length:=en3
   subst en3
   refine WL.y rfl (Yld.iloadF (v:=.slice A_el (((l.getD i.toNat (0,[],[])).2.1).length) c_el) (0,hd0,hd0) za hl rfl rfl (iltN h1 hr_l.1.symm) (by rw [eh1]; rfl)) (yp (h:=(yp (h:=(yp (h:=?_))))))
   obtain ⟨h2,H⟩:=H
   refine WL.midF 8 (fun L' w'=>∃ q1:Bool,L'=[(28,.bool q1),(0,.slice A_l l.length c_l),(3,.int .i64 i)]∧((decide ((10:Int)<(((l.getD i.toNat (0,[],[])).2.1).length:Int))) || (decide ((6:Int)<(((l.getD i.toNat (0,[],[])).2.2).length:Int))))=q1∧w=w') ?_ (fun hQ=>?_)
   ·rintro _ _ ⟨q1,rfl,rfl,rfl⟩
    refine WL.nil (WX.then_normal (WC.cond rfl (fun b3=>?_) (fun b3=>?_)))
    ·replace H:=H.1 (b3)
     exact WC.seq (WC.region (yp (h:=(WL.nil (WX.then_normal (WC.ret (WX.block_ret (WX.then_ret (WX.then_ret (WX.block_ret (WX.then_ret (WX.ret1 rfl rfl ⟨rfl,false,rfl,H⟩))))))))))))
    ·replace H:=H.2 (b3)
     refine WC.skip (WX.block_normal (WX.then_normal (WC.region (yp (h:=?_)))))
     obtain ⟨h3,H⟩:=H
     refine WL.y rfl (Yld.add rfl rfl h3) (yp (h:=(WL.nil ?_)))
     exact WX.roundF _ ⟨i+(1:Int),rfl,rfl,H.1,rfl⟩ (by repeat (first | exact Sub.nil | refine Sub.cons rfl ?_)) H.2
   ·clear H
    rcases Bool.eq_false_or_eq_true (decide ((10:Int)<(((l.getD i.toNat (0,[],[])).2.1).length:Int))) with b4 | b4
    ·exact gn b4 (h:=(gn b4 (h:=(gn b4 (h:=(gn b4 (h:=(gn b4 (h:=(gn b4 (h:=(gn b4 (h:=(WL.y rfl (Yld.pickT (okb b4) rfl) (wk (hQ _ _ ⟨true,rfl,by rw [b4] <;> rfl,rfl⟩))))))))))))))))
    ·exact gp b4 (h:=(gp b4 (h:=(WL.gyes rfl rfl (okb b4) rfl (Yld.iaddrK za hl rfl rfl hr_l.1.symm rfl (h2 b4).1 (h2 b4).2) (WL.gyes rfl rfl (okb b4) rfl (Yld.faddrK za hl (iltN (h2 b4) hr_l.1.symm) rfl rfl rfl) (WL.gyes rfl rfl (okb b4) rfl (Yld.iloadF (v:=.slice A_el2 (((l.getD i.toNat (0,[],[])).2.2).length) c_el2) (0,hd0,hd0) za hl rfl rfl (iltN (h2 b4) hr_l.1.symm) (by rw [eh1]; rfl)) (gp b4 (h:=(gp b4 (h:=(WL.y rfl (Yld.pickF (okb b4) rfl) (wk (hQ _ _ ⟨decide ((6:Int)<(((l.getD i.toNat (0,[],[])).2.2).length:Int)),rfl,by rw [b4] <;> rfl,rfl⟩)))))))))))))
  ·replace H:=H.2 (of_decide_eq_false b2)
   exact WC.exit (WX.then_exit (WX.then_exit (WX.block_same (WX.then_normal (WC.seq (WC.region (yp (h:=(WL.nil (WX.then_normal (WC.ret (WX.ret1 rfl rfl ⟨rfl,true,rfl,H⟩))))))))))))
set_option maxHeartbeats 8000000 in
theorem W_smithylaw13_told {S:List Nat} {w:World} {v_s:OV} {F_s:Nat→Prop} {s:PS} {K:(List UInt8)→Prop} (hG:GOK S w) (hS7:7∈S) (hs:RelD deS w [(v_s,F_s)] [s]) (H:qi s K):Fn Tryz.prog 68 ⟨[v_s.1]⟩ w (fun v w'=>w.grownBy w' none∧∃ (r:List UInt8),v=vs r∧K r):=by
 unfold qi at H
 refine Fn.enter (by kernel_rfl) Tryz.func68 rfl Tryz.ntmps68 rfl ?_
 refine WC.seq (WC.region (yp (h:=(WL.nil (WX.then_normal (WC.seq (WC.region (yp (h:=(WL.call rfl rfl (W_pdeps_Set_All hG hS7 hs H) ?_))))))))))
 rintro _ w1 ⟨hg1,t70,A_t70,c_t70,hs_t70,v_t71,t71,rfl,ht70,hr_t70,ho1,dj1,ht71,H⟩
 have hb1:=ht70.ge'
 have gr1:=hg1
 refine yp (h:=(yp (h:=(yp (h:=(yp (h:=(yp (h:=(WL.nil (WX.then_normal (WC.seq (WC.seq (WC.region (yp (h:=(WL.y rfl (Yld.errneq Tryz.underlying43 ht71 rfl) (WL.nil (WX.then_normal (WC.cond rfl (fun b1=>?_) (fun b1=>?_)))))))))))))))))))))
 ·replace H:=H.1 (nd_true b1)
  exact WC.seq (WC.region (yp (h:=(WL.nil (WX.then_normal (WC.ret (WX.then_ret (WX.ret1 rfl rfl ⟨gr1,([]:List UInt8),rfl,H⟩))))))))
 ·replace H:=H.2 (nd_false b1)
  refine WC.skip (WX.then_normal (WC.seq (WC.region (yp (h:=(WL.call rfl rfl (W_val_Tuple (ht70.base (fun g hg=>Nat.le_trans (Nat.le_refl _) (hb1 g hg))).rd rfl hr_t70 H) ?_))))))
  rintro _ w2 ⟨hg2,v_t13,F_t13,t13,rfl,ht13,ho2,H⟩
  refine WL.call rfl rfl (W_val_Repr ht13 H) ?_
  rintro _ w3 ⟨hg3,t2,rfl,H⟩
  exact yp (h:=(WL.nil (WX.then_normal (WC.ret (WX.ret1 rfl rfl ⟨(zd (zd gr1 hg2) hg3),t2,rfl,H⟩)))))
set_option maxHeartbeats 8000000 in
theorem W_smithylaw13_made {S:List Nat} {w:World} {l:List (Int × List Int × List Int)} {A_l:Option Addr} {c_l:Nat} {hs_l:List (Int × Hdr × Hdr)} {n_l:Nat} {K:(List PS)→Bool→Prop} (hG:GOK S w) (hS3:3∈S) (hS7:7∈S) (hl:RdK 3 encH30 w A_l c_l hs_l) (hn_l:n_l=l.length) (hr_l:RelD de30 w hs_l l) (H:qh l K):Fn Tryz.prog 67 ⟨[.slice A_l n_l c_l]⟩ w (fun v w'=>w.grownBy w' none∧∃ (r0:List PS),∃ (A_r0:Option Addr),∃ (c_r0:Nat),∃ (hs_r0:List VH),∃ (r1:Bool),v=.tuple #[.slice A_r0 r0.length c_r0,.bool r1]∧Own vv w' w.heap.size 41 A_r0 c_r0 hs_r0∧RelD deS w' hs_r0 r0∧(∀ p:Option Nat,Lt p w.heap.size→DnD deS hs_r0 r0 p)∧DnD deS hs_r0 r0 (blk A_r0)∧K r0 r1):=by
 subst hn_l
 unfold qh at H
 refine Fn.enter (by kernel_rfl) Tryz.func67 rfl Tryz.ntmps67 rfl ?_
 replace H:=H (by rw [←hr_l.1]; exact Nat.le_trans hl.cap hl.max)
 refine WC.seq (WC.region (yp (h:=(yp (h:=(WL.nil (WX.then_normal (WC.seq (WC.region (yp (h:=(WL.nil (WX.then_normal (WC.seq (WC.seq (WC.region (yp (h:=(WL.nil (WX.then_normal (WC.block ?_)))))))))))))))))))))
 obtain ⟨I1,mu1,h0_1,HR1⟩:=H
 refine WC.loopF (fun n' L' w'=>∃ (out:List PS),∃ (A_out:Option Addr),∃ (c_out:Nat),∃ (n_out:Nat),∃ (hs_out:List VH),∃ (i:Int),n'=mu1 out i∧L'=[(0,.slice A_l l.length c_l),(4,.slice A_out n_out c_out),(5,.int .i64 i)]∧I1 out i∧n_out=out.length∧w.grownBy w' none∧Own vv w' w.heap.size 41 A_out c_out hs_out∧RelD deS w' hs_out out∧DnD deS hs_out out (blk A_out)∧NewD deS hs_out out w.heap.size) _ _ ⟨[],none,0,0,[],(0:Int),rfl,rfl,h0_1,rfl,(zN _ _),(Own.nil vv w w.heap.size 41),(RelD.nil (d:=deS) (w:=w)),DnD.nil,(NewD.nil (d:=deS))⟩ (by repeat (first | exact Sub.nil | refine Sub.cons rfl ?_)) ?_
 clear h0_1
 rintro _ _ w1 ⟨out,A_out,c_out,n_out,hs_out,i,rfl,rfl,hI1,rfl,gr1,k1,k2,dj1,or1⟩
 have H:=HR1 out i hI1
 refine WC.seq (WC.seq (WC.region (yp (h:=(yp (h:=(yp (h:=(yp (h:=(WL.nil (WX.then_normal (WC.cond rfl (fun b1=>?_) (fun b1=>?_))))))))))))))
 ·replace H:=H.1 (of_decide_eq_true b1)
  refine WC.skip (WX.then_normal (WC.seq (WC.block (WC.seq (WC.region (yp (h:=(WL.nil (WX.then_normal (WC.seq (WC.region (yp (h:=(WL.nil (WX.then_normal (WC.seq (WC.seq (WC.region (yp (h:=(WL.nil (WX.then_normal (WC.block ?_)))))))))))))))))))))))
  obtain ⟨I2,mu2,h0_2,HR2⟩:=H
  refine WC.loopF (fun n' L' w'=>∃ (own:List PV),∃ (A_own:Option Addr),∃ (c_own:Nat),∃ (n_own:Nat),∃ (hs_own:List VH),∃ (k:Int),n'=mu2 own k∧L'=[(0,.slice A_l l.length c_l),(4,.slice A_out out.length c_out),(5,.int .i64 i),(6,.slice A_own n_own c_own),(7,.slice none 0 0),(8,.int .i64 k)]∧I2 own k∧n_own=own.length∧w.grownBy w' none∧Own vv w' w.heap.size 41 A_out c_out hs_out∧RelD deS w' hs_out out∧Own vv w' w.heap.size 32 A_own c_own hs_own∧RelD deV w' hs_own own∧Dj (blk A_out) (blk A_own)∧DnD deS hs_out out (blk A_out)∧DnD deS hs_out out (blk A_own)∧DnD deV hs_own own (blk A_out)∧DnD deV hs_own own (blk A_own)∧NewD deS hs_out out w.heap.size∧NewD deV hs_own own w.heap.size) _ _ ⟨[],none,0,0,[],(0:Int),rfl,rfl,h0_2,rfl,gr1,k1,k2,(Own.nil vv w1 w.heap.size 32),(RelD.nil (d:=deV) (w:=w1)),Dj.nr,dj1,(DnD.none k2),DnD.nil,DnD.nil,or1,(NewD.nil (d:=deV))⟩ (by repeat (first | exact Sub.nil | refine Sub.cons rfl ?_)) ?_
  clear h0_2
  rintro _ _ w2 ⟨own,A_own,c_own,n_own,hs_own,k,rfl,rfl,hI2,rfl,gr2,k3,k4,k5,k6,dj2,dj3,dj4,dj5,dj6,or2,or3⟩
  have H:=HR2 own k hI2
  refine WC.seq (WC.seq (WC.region (yp (h:=(yp (h:=(yp (h:=?_))))))))
  obtain ⟨h1,H⟩:=H
  refine WL.y rfl (Yld.iaddrK za (hl.grown gr2) rfl rfl hr_l.1.symm rfl h1.1 h1.2) (WL.y rfl (Yld.faddrK za (hl.grown gr2) (iltN h1 hr_l.1.symm) rfl rfl rfl) ?_)
  obtain ⟨⟨f1,⟨A_el,n1,c_el⟩,⟨A_el2,n2,c_el2⟩⟩,eh1,⟨en1,⟨en2,hR1⟩,⟨en3,hR2⟩⟩⟩:=RelD.at hr_l (0,hd0,hd0) (0,[],[]) (j:=i.toNat) (Nat.lt_of_lt_of_eq (iltN h1 hr_l.1.symm) hr_l.1)
  have en1:f1=(l.getD i.toNat (0,[],[])).1:=en1
  subst en1
  have en2:n1=((l.getD i.toNat (0,[],[])).2.1).length:=en2
  subst en2
  have en3:n2=((l.getD i.toNat (0,[],[])).2.2).length:=en3
  subst en3
  refine WL.y rfl (Yld.iloadF (v:=.slice A_el (((l.getD i.toNat (0,[],[])).2.1).length) c_el) (0,hd0,hd0) za (hl.grown gr2) rfl rfl (iltN h1 hr_l.1.symm) (by rw [eh1]; rfl)) (yp (h:=(yp (h:=(WL.nil (WX.then_normal (WC.cond rfl (fun b2=>?_) (fun b2=>?_))))))))
  ·replace H:=H.1 (of_decide_eq_true b2)
   refine WC.skip (WX.then_normal (WC.seq (WC.block (WC.region (yp (h:=(yp (h:=(yp (h:=?_))))))))))
   obtain ⟨h2,H⟩:=H
   refine WL.y rfl (Yld.iaddrK za (hl.grown gr2) rfl rfl hr_l.1.symm rfl h2.1 h2.2) (WL.y rfl (Yld.faddrK za (hl.grown gr2) (iltN h2 hr_l.1.symm) rfl rfl rfl) (WL.y rfl (Yld.iloadF (v:=.slice A_el (((l.getD i.toNat (0,[],[])).2.1).length) c_el) (0,hd0,hd0) za (hl.grown gr2) rfl rfl (iltN h2 hr_l.1.symm) (by rw [eh1]; rfl)) (yp (h:=?_))))
   obtain ⟨h3,H⟩:=H
   refine WL.y rfl (Yld.iaddrW za (hR1.grown gr2) rfl rfl rfl rfl h3.1 h3.2) (WL.y rfl (Yld.iload 0 za (hR1.grown gr2) rfl rfl (iltN h3 rfl)) (WL.call rfl rfl (W_smithylaw13_small H) ?_))
   rintro _ w3 ⟨hg1,v_t37,F_t37,t37,rfl,ht37,ho1,H⟩
   have gr3:=zd gr2 hg1
   have k10:=k6.grown hg1
   refine WL.lit (us:=[v_t37.1]) za rfl rfl rfl (zf v_t37.2 zm) rfl (by omega) (fun g2 w5 hB2 hg3 hl2=>?_)
   have hO2:Own vv w5 w.heap.size 32 (some ⟨g2,0,none⟩) 1 ([(v_t37,F_t37)]:List VH):=Own.ofBl hB2 (Nat.le_trans (ze gr3) hl2) (by simp [maxLen]) rfl
   have gr4:=zd gr3 hg3
   have k11:=(k3.grown hg1).grown hg3
   have k12:=(k4.grown hg1).grown hg3
   have k13:=(k5.grown hg1).grown hg3
   have k14:=k10.grown hg3
   have hr1:RelD deV w5 ([(v_t37,F_t37)]:List VH) ([t37]:List PV):=(RelD.cons (RelD.one (ht37.grown hg3)) RelD.nil)
   have nd1:NewD deV ([(v_t37,F_t37)]:List VH) ([t37]:List PV) w.heap.size:=(NewD.cons (d:=deV) (fun p_ hp_=>(DnD.one (ho1 p_ (fun g_ e_=>Nat.lt_of_lt_of_le (hp_ g_ e_) (ze gr2))))) NewD.nil)
   have dj7:DnD deV ([(v_t37,F_t37)]:List VH) ([t37]:List PV) (blk A_out):=(DnD.cons (d:=deV) (DnD.one (ho1 _ k3.lt')) DnD.nil)
   have dj8:DnD deV ([(v_t37,F_t37)]:List VH) ([t37]:List PV) (blk A_own):=(DnD.cons (d:=deV) (DnD.one (ho1 _ k5.lt')) DnD.nil)
   have dj9:DnD deV ([(v_t37,F_t37)]:List VH) ([t37]:List PV) (blk (some ⟨g2,0,none⟩)):=(DnD.cons (d:=deV) (DnD.one (ht37.new (Ge.box hl2))) DnD.nil)
   obtain ⟨h4,H⟩:=H
   have h5:((hs_own:List VH).length+([(v_t37,F_t37)]:List VH).length)*16≤140737488355328:=by rw [k14.1,hr1.1]; exact h4
   refine WL.append za rfl rfl One.vv k13 rfl k6.1.symm hO2.rd rfl rfl h5 (zx h5) (ze gr4) (fun A_own2 c_own2 w6 hO3 hg4 hk1=>?_)
   have el1:(hs_own++([(v_t37,F_t37)]:List VH)).length=(own++([t37]:List PV)).length:=by rw [List.length_append,List.length_append,k14.1,hr1.1]
   rw [el1]
   have hr2:RelD deV w6 (hs_own++([(v_t37,F_t37)]:List VH)) (own++([t37]:List PV)):=RelD.append (k14.go hg4 dj6) (hr1.go hg4 dj8)
   have nd2:NewD deV (hs_own++([(v_t37,F_t37)]:List VH)) (own++([t37]:List PV)) w.heap.size:=NewD.append k14.1 or3 nd1
   have dj10:DnD deV (hs_own++([(v_t37,F_t37)]:List VH)) (own++([t37]:List PV)) (blk A_out):=(DnD.append k14.1 dj5 dj7)
   have dj11:DnD deV (hs_own++([(v_t37,F_t37)]:List VH)) (own++([t37]:List PV)) (blk (some ⟨g2,0,none⟩)):=(DnD.append k14.1 (k10.new (Ge.box hl2)) dj9)
   have dj12:DnD deV (hs_own++([(v_t37,F_t37)]:List VH)) (own++([t37]:List PV)) (blk A_own2):=(DnD.append k14.1 (RelD.app k14 dj6 hk1) (RelD.app hr1 dj8 hk1))
   refine yp (h:=(WL.nil (WX.block_normal (WX.then_normal (WC.region (yp (h:=?_)))))))
   obtain ⟨h6,H⟩:=H
   refine WL.y rfl (Yld.add rfl rfl h6) (yp (h:=(WL.nil ?_)))
   exact WX.roundF _ ⟨own++([t37]:List PV),A_own2,c_own2,(own++([t37]:List PV)).length,hs_own++([(v_t37,F_t37)]:List VH),k+(1:Int),rfl,rfl,H.1,rfl,(zk gr4 hg4 k13.ge'),(k11.go hg4 dj2),(k12.go hg4 dj4),hO3,hr2,(Dj.app dj2.symm k11.lt' hk1).symm,dj3,(RelD.app k12 dj4 hk1),dj10,dj12,or2,nd2⟩ (by repeat (first | exact Sub.nil | refine Sub.cons rfl ?_)) H.2
  ·replace H:=H.2 (of_decide_eq_false b2)
   refine WC.exit (WX.then_exit (WX.then_exit (WX.block_same (WX.then_normal (WC.seq (WC.seq (WC.region (yp (h:=(WL.nil (WX.then_normal (WC.block ?_))))))))))))
   obtain ⟨I3,mu3,h0_3,HR3⟩:=H
   refine WC.loopF (fun n' L' w'=>∃ (from_:List PS),∃ (A_from:Option Addr),∃ (c_from:Nat),∃ (n_from:Nat),∃ (hs_from:List VH),∃ (k_2:Int),n'=mu3 from_ k_2∧L'=[(0,.slice A_l l.length c_l),(4,.slice A_out out.length c_out),(5,.int .i64 i),(6,.slice A_own own.length c_own),(7,.slice A_from n_from c_from),(9,.int .i64 k_2)]∧I3 from_ k_2∧n_from=from_.length∧w.grownBy w' none∧Own vv w' w.heap.size 41 A_out c_out hs_out∧RelD deS w' hs_out out∧Own vv w' w.heap.size 32 A_own c_own hs_own∧RelD deV w' hs_own own∧Own vv w' w.heap.size 41 A_from c_from hs_from∧RelD deS w' hs_from from_∧Dj (blk A_out) (blk A_own)∧Dj (blk A_out) (blk A_from)∧DnD deS hs_out out (blk A_out)∧DnD deS hs_out out (blk A_own)∧DnD deS hs_out out (blk A_from)∧Dj (blk A_own) (blk A_from)∧DnD deV hs_own own (blk A_out)∧DnD deV hs_own own (blk A_own)∧DnD deV hs_own own (blk A_from)∧DnD deS hs_from from_ (blk A_out)∧DnD deS hs_from from_ (blk A_own)∧DnD deS hs_from from_ (blk A_from)∧NewD deS hs_out out w.heap.size∧NewD deV hs_own own w.heap.size∧NewD deS hs_from from_ w.heap.size) _ _ ⟨[],none,0,0,[],(0:Int),rfl,rfl,h0_3,rfl,gr2,k3,k4,k5,k6,(Own.nil vv w2 w.heap.size 41),(RelD.nil (d:=deS) (w:=w2)),dj2,Dj.nr,dj3,dj4,(DnD.none k4),Dj.nr,dj5,dj6,(DnD.none k6),DnD.nil,DnD.nil,DnD.nil,or2,or3,(NewD.nil (d:=deS))⟩ (by repeat (first | exact Sub.nil | refine Sub.cons rfl ?_)) ?_
   clear h0_3
   rintro _ _ w7 ⟨from_,A_from,c_from,n_from,hs_from,k_2,rfl,rfl,hI3,rfl,gr6,k20,k21,k22,k23,k24,k25,dj13,dj14,dj15,dj16,dj17,dj18,dj19,dj20,dj21,dj22,dj23,dj24,or4,or5,or6⟩
   have H:=HR3 from_ k_2 hI3
   refine WC.seq (WC.seq (WC.region (yp (h:=(yp (h:=(yp (h:=?_))))))))
   obtain ⟨h7,H⟩:=H
   refine WL.y rfl (Yld.iaddrK za (hl.grown gr6) rfl rfl hr_l.1.symm rfl h7.1 h7.2) (WL.y rfl (Yld.faddrK za (hl.grown gr6) (iltN h7 hr_l.1.symm) rfl rfl rfl) (WL.y rfl (Yld.iloadF (v:=.slice A_el2 (((l.getD i.toNat (0,[],[])).2.2).length) c_el2) (0,hd0,hd0) za (hl.grown gr6) rfl rfl (iltN h7 hr_l.1.symm) (by rw [eh1]; rfl)) (yp (h:=(yp (h:=(yp (h:=(WL.midF 3 (fun L' w'=>∃ q1:Bool,L'=[(51,.bool q1),(0,.slice A_l l.length c_l),(4,.slice A_out out.length c_out),(5,.int .i64 i),(6,.slice A_own own.length c_own),(7,.slice A_from from_.length c_from),(9,.int .i64 k_2)]∧((decide (k_2<(((l.getD i.toNat (0,[],[])).2.2).length:Int))) && (decide ((0:Int)<i)))=q1∧w7=w') ?_ (fun hQ=>?_))))))))))
   ·rintro _ _ ⟨q1,rfl,rfl,rfl⟩
    refine WL.nil (WX.then_normal (WC.cond rfl (fun b3=>?_) (fun b3=>?_)))
    ·replace H:=H.1 (b3)
     refine WC.skip (WX.then_normal (WC.seq (WC.block (WC.region (yp (h:=(yp (h:=(yp (h:=(yp (h:=?_))))))))))))
     obtain ⟨h8,H⟩:=H
     refine WL.y rfl (Yld.iaddrK za (hl.grown gr6) rfl rfl hr_l.1.symm rfl h8.1 h8.2) (WL.y rfl (Yld.faddrK za (hl.grown gr6) (iltN h8 hr_l.1.symm) rfl rfl rfl) (WL.y rfl (Yld.iloadF (v:=.slice A_el2 (((l.getD i.toNat (0,[],[])).2.2).length) c_el2) (0,hd0,hd0) za (hl.grown gr6) rfl rfl (iltN h8 hr_l.1.symm) (by rw [eh1]; rfl)) (yp (h:=?_))))
     obtain ⟨h9,H⟩:=H
     refine WL.y rfl (Yld.iaddrW za (hR2.grown gr6) rfl rfl rfl rfl h9.1 h9.2) (WL.y rfl (Yld.iload 0 za (hR2.grown gr6) rfl rfl (iltN h9 rfl)) (yp (h:=(WL.call rfl rfl (W_smithyworld_Number H) ?_))))
     rintro _ _ ⟨rfl,t65,rfl,H⟩
     obtain ⟨h10,H⟩:=H
     refine WL.y rfl (Yld.iaddrW za k20.rd rfl rfl k2.1.symm rfl h10.1 h10.2) ?_
     obtain ⟨⟨v_el,F_el⟩,eh2,hR3⟩:=RelD.at k21 vh0 PS.nil (j:=t65.toNat) (Nat.lt_of_lt_of_eq (iltN h10 k2.1.symm) k21.1)
     have hv1:RelD deS w7 [(v_el,F_el)] [out.getD t65.toNat PS.nil]:=RelD.cons hR3 RelD.nil
     refine WL.y rfl (Yld.to (v:=v_el.1) (Yld.iload vh0 za k20.rd rfl rfl (iltN h10 k2.1.symm)) (congrArg vv eh2)) (WL.lit (us:=[v_el.1]) za rfl rfl rfl (zf v_el.2 zm) rfl (by omega) (fun g4 w9 hB4 hg6 hl4=>?_))
     have hO5:Own vv w9 w.heap.size 41 (some ⟨g4,0,none⟩) 1 ([(v_el,F_el)]:List VH):=Own.ofBl hB4 (Nat.le_trans (ze gr6) hl4) (by simp [maxLen]) rfl
     have gr7:=zd gr6 hg6
     have k26:=k20.grown hg6
     have k27:=k21.grown hg6
     have k28:=k22.grown hg6
     have k29:=k23.grown hg6
     have k30:=k24.grown hg6
     have k31:=k25.grown hg6
     have hr3:RelD deS w9 ([(v_el,F_el)]:List VH) ([out.getD t65.toNat PS.nil]:List PS):=(RelD.cons (RelD.one (hv1.grown hg6)) RelD.nil)
     have nd3:NewD deS ([(v_el,F_el)]:List VH) ([out.getD t65.toNat PS.nil]:List PS) w.heap.size:=(NewD.cons (d:=deS) (fun p_ hp_=>(DnD.one (DnD.cons (DnD.at (or4 p_ hp_) k21.1 (Nat.lt_of_lt_of_eq (iltN h10 k2.1.symm) k21.1) eh2) DnD.nil))) NewD.nil)
     have dj25:DnD deS ([(v_el,F_el)]:List VH) ([out.getD t65.toNat PS.nil]:List PS) (blk A_out):=(DnD.cons (d:=deS) (DnD.one (DnD.cons (DnD.at dj15 k21.1 (Nat.lt_of_lt_of_eq (iltN h10 k2.1.symm) k21.1) eh2) DnD.nil)) DnD.nil)
     have dj26:DnD deS ([(v_el,F_el)]:List VH) ([out.getD t65.toNat PS.nil]:List PS) (blk A_own):=(DnD.cons (d:=deS) (DnD.one (DnD.cons (DnD.at dj16 k21.1 (Nat.lt_of_lt_of_eq (iltN h10 k2.1.symm) k21.1) eh2) DnD.nil)) DnD.nil)
     have dj27:DnD deS ([(v_el,F_el)]:List VH) ([out.getD t65.toNat PS.nil]:List PS) (blk A_from):=(DnD.cons (d:=deS) (DnD.one (DnD.cons (DnD.at dj17 k21.1 (Nat.lt_of_lt_of_eq (iltN h10 k2.1.symm) k21.1) eh2) DnD.nil)) DnD.nil)
     have dj28:DnD deS ([(v_el,F_el)]:List VH) ([out.getD t65.toNat PS.nil]:List PS) (blk (some ⟨g4,0,none⟩)):=(DnD.cons (d:=deS) (DnD.one (hv1.new (Ge.box hl4))) DnD.nil)
     obtain ⟨h11,H⟩:=H
     have h12:((hs_from:List VH).length+([(v_el,F_el)]:List VH).length)*8≤140737488355328:=by rw [k31.1,hr3.1]; exact h11
     refine WL.append za rfl rfl One.vv k30 rfl k25.1.symm hO5.rd rfl rfl h12 (zx h12) (ze gr7) (fun A_from2 c_from2 w10 hO6 hg7 hk2=>?_)
     have el2:(hs_from++([(v_el,F_el)]:List VH)).length=(from_++([out.getD t65.toNat PS.nil]:List PS)).length:=by rw [List.length_append,List.length_append,k31.1,hr3.1]
     rw [el2]
     have hr4:RelD deS w10 (hs_from++([(v_el,F_el)]:List VH)) (from_++([out.getD t65.toNat PS.nil]:List PS)):=RelD.append (k31.go hg7 dj24) (hr3.go hg7 dj27)
     have nd4:NewD deS (hs_from++([(v_el,F_el)]:List VH)) (from_++([out.getD t65.toNat PS.nil]:List PS)) w.heap.size:=NewD.append k31.1 or6 nd3
     have dj29:DnD deS (hs_from++([(v_el,F_el)]:List VH)) (from_++([out.getD t65.toNat PS.nil]:List PS)) (blk A_out):=(DnD.append k31.1 dj22 dj25)
     have dj30:DnD deS (hs_from++([(v_el,F_el)]:List VH)) (from_++([out.getD t65.toNat PS.nil]:List PS)) (blk A_own):=(DnD.append k31.1 dj23 dj26)
     have dj31:DnD deS (hs_from++([(v_el,F_el)]:List VH)) (from_++([out.getD t65.toNat PS.nil]:List PS)) (blk (some ⟨g4,0,none⟩)):=(DnD.append k31.1 (k25.new (Ge.box hl4)) dj28)
     have dj32:DnD deS (hs_from++([(v_el,F_el)]:List VH)) (from_++([out.getD t65.toNat PS.nil]:List PS)) (blk A_from2):=(DnD.append k31.1 (RelD.app k31 dj24 hk2) (RelD.app hr3 dj27 hk2))
     refine yp (h:=(WL.nil (WX.block_normal (WX.then_normal (WC.region (yp (h:=?_)))))))
     obtain ⟨h13,H⟩:=H
     refine WL.y rfl (Yld.add rfl rfl h13) (yp (h:=(WL.nil ?_)))
     exact WX.roundF _ ⟨from_++([out.getD t65.toNat PS.nil]:List PS),A_from2,c_from2,(from_++([out.getD t65.toNat PS.nil]:List PS)).length,hs_from++([(v_el,F_el)]:List VH),k_2+(1:Int),rfl,rfl,H.1,rfl,(zk gr7 hg7 k30.ge'),(k26.go hg7 dj14),(k27.go hg7 dj17),(k28.go hg7 dj18),(k29.go hg7 dj21),hO6,hr4,dj13,(Dj.app dj14.symm k26.lt' hk2).symm,dj15,dj16,(RelD.app k27 dj17 hk2),(Dj.app dj18.symm k28.lt' hk2).symm,dj19,dj20,(RelD.app k29 dj21 hk2),dj29,dj30,dj32,or4,or5,nd4⟩ (by repeat (first | exact Sub.nil | refine Sub.cons rfl ?_)) H.2
    ·replace H:=H.2 (b3)
     refine WC.exit (WX.then_exit (WX.then_exit (WX.block_same (WX.then_normal (WC.seq (WC.region (yp (h:=(yp (h:=?_))))))))))
     obtain ⟨h14,H⟩:=H
     refine WL.y rfl (Yld.iaddrK za (hl.grown gr6) rfl rfl hr_l.1.symm rfl h14.1 h14.2) (WL.y rfl (Yld.faddrK za (hl.grown gr6) (iltN h14 hr_l.1.symm) rfl rfl rfl) (WL.y rfl (Yld.iloadF (v:=.int .i64 ((l.getD i.toNat (0,[],[])).1)) (0,hd0,hd0) za (hl.grown gr6) rfl rfl (iltN h14 hr_l.1.symm) (by rw [eh1]; rfl)) (yp (h:=(yp (h:=(WL.call rfl rfl (W_deps_New (hG.grown gr6) hS3 hS7 k22.rd rfl k23 k24.rd rfl k25 H) ?_)))))))
     rintro _ w11 ⟨hg8,v_t780,F_t780,t780,v_t781,t781,rfl,ht780,ho2,hf1,ht781,H⟩
     replace H:=H (fun hn_ x_ hx_ y_ hr_ hm_=>deS_fresh k21 hx_ hr_ hm_ (hf1 hn_))
     replace H:=H (fun hn_ x_ hx_ y_ hr_ hm_=>deS_fresh k25 hx_ hr_ hm_ (hf1 hn_))
     have gr9:=zd gr6 hg8
     have k39:=k20.grown hg8
     have k40:=k21.grown hg8
     refine yp (h:=(yp (h:=(yp (h:=(yp (h:=(yp (h:=(WL.nil (WX.then_normal (WC.seq (WC.seq (WC.region (yp (h:=?_))))))))))))))))
     have hv2:RelD deS w11 [(pnil,noF)] [PS.nil]:=deS_nil
     refine WL.y rfl (deS_eqnil Tryz.underlying41 ht780 rfl rfl) (yp (h:=(WL.midF 3 (fun L' w'=>∃ q2:Bool,L'=[(86,.bool q2),(0,.slice A_l l.length c_l),(4,.slice A_out out.length c_out),(5,.int .i64 i),(10,v_t780.1)]∧(t780.isNil || (!decide (t781=Er.ok)))=q2∧w11=w') ?_ (fun hQ=>?_))))
     ·rintro _ _ ⟨q2,rfl,rfl,rfl⟩
      refine WL.nil (WX.then_normal (WC.cond rfl (fun b4=>?_) (fun b4=>?_)))
      ·replace H:=H.1 (b4)
       exact WC.seq (WC.region (yp (h:=(yp (h:=(yp (h:=(WL.nil (WX.then_normal (WC.ret (WX.then_ret (WX.block_ret (WX.then_ret (WX.then_ret (WX.block_ret (WX.then_ret (WX.ret2 rfl rfl rfl ⟨gr9,out,A_out,c_out,hs_out,false,(by rw [k2.1.symm]),k39,k40,or4,dj15,H⟩)))))))))))))))))
      ·replace H:=H.2 (b4)
       refine WC.skip (WX.then_normal (WC.region (yp (h:=(yp (h:=(WL.lit (us:=[v_t780.1]) za rfl rfl rfl (zf v_t780.2 zm) rfl (by omega) (fun g6 w13 hB6 hg10 hl6=>?_))))))))
       have hO8:Own vv w13 w.heap.size 41 (some ⟨g6,0,none⟩) 1 ([(v_t780,F_t780)]:List VH):=Own.ofBl hB6 (Nat.le_trans (ze gr9) hl6) (by simp [maxLen]) rfl
       have gr10:=zd gr9 hg10
       have k41:=k39.grown hg10
       have k42:=k40.grown hg10
       have hr5:RelD deS w13 ([(v_t780,F_t780)]:List VH) ([t780]:List PS):=(RelD.cons (RelD.one (ht780.grown hg10)) RelD.nil)
       have nd5:NewD deS ([(v_t780,F_t780)]:List VH) ([t780]:List PS) w.heap.size:=(NewD.cons (d:=deS) (fun p_ hp_=>(DnD.one (ho2 p_ (fun g_ e_=>Nat.lt_of_lt_of_le (hp_ g_ e_) (ze gr6)) (or5 p_ hp_) (or6 p_ hp_)))) NewD.nil)
       have dj33:DnD deS ([(v_t780,F_t780)]:List VH) ([t780]:List PS) (blk A_out):=(DnD.cons (d:=deS) (DnD.one (ho2 _ k20.lt' dj19 dj22)) DnD.nil)
       have dj34:DnD deS ([(v_t780,F_t780)]:List VH) ([t780]:List PS) (blk (some ⟨g6,0,none⟩)):=(DnD.cons (d:=deS) (DnD.one (ht780.new (Ge.box hl6))) DnD.nil)
       obtain ⟨h15,H⟩:=H
       have h16:((hs_out:List VH).length+([(v_t780,F_t780)]:List VH).length)*8≤140737488355328:=by rw [k42.1,hr5.1]; exact h15
       refine WL.append za rfl rfl One.vv k41 rfl k2.1.symm hO8.rd rfl rfl h16 (zx h16) (ze gr10) (fun A_out2 c_out2 w14 hO9 hg11 hk3=>?_)
       have el3:(hs_out++([(v_t780,F_t780)]:List VH)).length=(out++([t780]:List PS)).length:=by rw [List.length_append,List.length_append,k42.1,hr5.1]
       rw [el3]
       have hr6:RelD deS w14 (hs_out++([(v_t780,F_t780)]:List VH)) (out++([t780]:List PS)):=RelD.append (k42.go hg11 dj15) (hr5.go hg11 dj33)
       have nd6:NewD deS (hs_out++([(v_t780,F_t780)]:List VH)) (out++([t780]:List PS)) w.heap.size:=NewD.append k42.1 or4 nd5
       have dj35:DnD deS (hs_out++([(v_t780,F_t780)]:List VH)) (out++([t780]:List PS)) (blk (some ⟨g6,0,none⟩)):=(DnD.append k42.1 (k40.new (Ge.box hl6)) dj34)
       have dj36:DnD deS (hs_out++([(v_t780,F_t780)]:List VH)) (out++([t780]:List PS)) (blk A_out2):=(DnD.append k42.1 (RelD.app k42 dj15 hk3) (RelD.app hr5 dj33 hk3))
       refine yp (h:=(WL.nil (WX.block_normal (WX.then_normal (WC.region (yp (h:=?_)))))))
       obtain ⟨h17,H⟩:=H
       refine WL.y rfl (Yld.add rfl rfl h17) (yp (h:=(WL.nil ?_)))
       exact WX.roundF _ ⟨out++([t780]:List PS),A_out2,c_out2,(out++([t780]:List PS)).length,hs_out++([(v_t780,F_t780)]:List VH),i+(1:Int),rfl,rfl,H.1,rfl,(zk gr10 hg11 k41.ge'),hO9,hr6,dj36,nd6⟩ (by repeat (first | exact Sub.nil | refine Sub.cons rfl ?_)) H.2
     ·clear H
      rcases Bool.eq_false_or_eq_true (t780.isNil) with b5 | b5
      ·exact gn b5 (h:=(gn b5 (h:=(WL.y rfl (Yld.pickT (okb b5) rfl) (wk (hQ _ _ ⟨true,rfl,by rw [b5] <;> rfl,rfl⟩))))))
      ·exact gp b5 (h:=(WL.gyes rfl rfl (okb b5) rfl (Yld.errneq Tryz.underlying43 ht781 rfl) (WL.y rfl (Yld.pickF (okb b5) rfl) (wk (hQ _ _ ⟨!decide (t781=Er.ok),rfl,by rw [b5] <;> rfl,rfl⟩)))))
   ·clear H
    rcases Bool.eq_false_or_eq_true (decide (k_2<(((l.getD i.toNat (0,[],[])).2.2).length:Int))) with b6 | b6
    ·exact gp b6 (h:=(gp b6 (h:=(WL.y rfl (Yld.pickT (okb b6) rfl) (wk (hQ _ _ ⟨decide ((0:Int)<i),rfl,by rw [b6] <;> rfl,rfl⟩))))))
    ·exact gn b6 (h:=(gn b6 (h:=(WL.y rfl (Yld.pickF (okb b6) rfl) (wk (hQ _ _ ⟨false,rfl,by rw [b6] <;> rfl,rfl⟩))))))
 ·replace H:=H.2 (of_decide_eq_false b1)
  exact WC.exit (WX.then_exit (WX.then_exit (WX.block_same (WX.then_normal (WC.seq (WC.region (yp (h:=(yp (h:=(yp (h:=(WL.nil (WX.then_normal (WC.ret (WX.ret2 rfl rfl rfl ⟨gr1,out,A_out,c_out,hs_out,true,(by rw [k2.1.symm]),k1,k2,or1,dj1,H⟩))))))))))))))))
set_option maxHeartbeats 8000000 in
theorem W_smithylaw13_first {S:List Nat} {w:World} {K:Bool→Prop} (hG:GOK S w) (hS3:3∈S) (hS7:7∈S) (H:z8  K):Fn Tryz.prog 8 ⟨[]⟩ w (fun v w'=>w.grownBy w' none∧∃ (r:Bool),v=.bool r∧K r):=by
 unfold z8 at H
 refine Fn.enter (by kernel_rfl) Tryz.func8 rfl Tryz.ntmps8 rfl ?_
 refine WC.seq (WC.region (yp (h:=(WL.nil (WX.then_normal (WC.seq (WC.region (WL.lit za rfl rfl rfl (zf rfl zm) rfl (by omega) (fun g1 w1 hB1 hg1 hl1=>?_)))))))))
 have hO1:Own vi w1 w.heap.size 3 (some ⟨g1,0,none⟩) 1 ([(1:Int)]:List Int):=Own.ofBl hB1 (Nat.le_trans (Nat.le_refl _) hl1) (by simp [maxLen]) rfl
 have gr1:=hg1
 refine WL.y rfl (Yld.struct (us:=[.int .i64 (0:Int),.slice (some ⟨g1,0,none⟩) 1 1,.slice none 0 0]) zero30 places30 rfl rfl) (WL.lit za rfl rfl rfl (zf rfl zm) rfl (by omega) (fun g2 w2 hB2 hg2 hl2=>?_))
 have hO2:Own vi w2 w.heap.size 3 (some ⟨g2,0,none⟩) 1 ([(2:Int)]:List Int):=Own.ofBl hB2 (Nat.le_trans (ze gr1) hl2) (by simp [maxLen]) rfl
 have gr2:=zd gr1 hg2
 refine WL.lit za rfl rfl rfl (zf rfl zm) rfl (by omega) (fun g3 w3 hB3 hg3 hl3=>?_)
 have hO3:Own vi w3 w.heap.size 3 (some ⟨g3,0,none⟩) 1 ([(0:Int)]:List Int):=Own.ofBl hB3 (Nat.le_trans (ze gr2) hl3) (by simp [maxLen]) rfl
 have gr3:=zd gr2 hg3
 refine WL.y rfl (Yld.struct (us:=[.int .i64 (0:Int),.slice (some ⟨g2,0,none⟩) 1 1,.slice (some ⟨g3,0,none⟩) 1 1]) zero30 places30 rfl rfl) (WL.lit za rfl rfl rfl (zf rfl zm) rfl (by omega) (fun g4 w4 hB4 hg4 hl4=>?_))
 have hO4:Own vi w4 w.heap.size 3 (some ⟨g4,0,none⟩) 1 ([(3:Int)]:List Int):=Own.ofBl hB4 (Nat.le_trans (ze gr3) hl4) (by simp [maxLen]) rfl
 have gr4:=zd gr3 hg4
 refine WL.lit za rfl rfl rfl (zf rfl zm) rfl (by omega) (fun g5 w5 hB5 hg5 hl5=>?_)
 have hO5:Own vi w5 w.heap.size 3 (some ⟨g5,0,none⟩) 1 ([(0:Int)]:List Int):=Own.ofBl hB5 (Nat.le_trans (ze gr4) hl5) (by simp [maxLen]) rfl
 have gr5:=zd gr4 hg5
 refine WL.y rfl (Yld.struct (us:=[.int .i64 (0:Int),.slice (some ⟨g4,0,none⟩) 1 1,.slice (some ⟨g5,0,none⟩) 1 1]) zero30 places30 rfl rfl) (WL.lit za rfl rfl rfl (zf rfl zm) rfl (by omega) (fun g6 w6 hB6 hg6 hl6=>?_))
 have hO6:Own vi w6 w.heap.size 3 (some ⟨g6,0,none⟩) 1 ([(4:Int)]:List Int):=Own.ofBl hB6 (Nat.le_trans (ze gr5) hl6) (by simp [maxLen]) rfl
 have gr6:=zd gr5 hg6
 refine WL.lit za rfl rfl rfl (zf rfl (zf rfl zm)) rfl (by omega) (fun g7 w7 hB7 hg7 hl7=>?_)
 have hO7:Own vi w7 w.heap.size 3 (some ⟨g7,0,none⟩) 2 ([(1:Int),(2:Int)]:List Int):=Own.ofBl hB7 (Nat.le_trans (ze gr6) hl7) (by simp [maxLen]) rfl
 have gr7:=zd gr6 hg7
 have k16:=(((((hO1.grown hg2).grown hg3).grown hg4).grown hg5).grown hg6).grown hg7
 have k17:=((((hO2.grown hg3).grown hg4).grown hg5).grown hg6).grown hg7
 have k18:=(((hO3.grown hg4).grown hg5).grown hg6).grown hg7
 have k19:=((hO4.grown hg5).grown hg6).grown hg7
 have k20:=(hO5.grown hg6).grown hg7
 have k21:=hO6.grown hg7
 refine WL.y rfl (Yld.struct (us:=[.int .i64 (0:Int),.slice (some ⟨g6,0,none⟩) 1 1,.slice (some ⟨g7,0,none⟩) 2 2]) zero30 places30 rfl rfl) (WL.litK (f:=encH30) ([((0:Int),⟨(some ⟨g1,0,none⟩),1,1⟩,⟨none,0,0⟩),((0:Int),⟨(some ⟨g2,0,none⟩),1,1⟩,⟨(some ⟨g3,0,none⟩),1,1⟩),((0:Int),⟨(some ⟨g4,0,none⟩),1,1⟩,⟨(some ⟨g5,0,none⟩),1,1⟩),((0:Int),⟨(some ⟨g6,0,none⟩),1,1⟩,⟨(some ⟨g7,0,none⟩),2,2⟩)]:List (Int × Hdr × Hdr)) encH30_ok rfl ow22 rfl rfl rfl (fun g9 w9 hB9 hg9 hl9=>?_))
 have hO9:OwnK 3 encH30 w9 w.heap.size 30 (some ⟨g9,0,none⟩) 4 ([((0:Int),⟨(some ⟨g1,0,none⟩),1,1⟩,⟨none,0,0⟩),((0:Int),⟨(some ⟨g2,0,none⟩),1,1⟩,⟨(some ⟨g3,0,none⟩),1,1⟩),((0:Int),⟨(some ⟨g4,0,none⟩),1,1⟩,⟨(some ⟨g5,0,none⟩),1,1⟩),((0:Int),⟨(some ⟨g6,0,none⟩),1,1⟩,⟨(some ⟨g7,0,none⟩),2,2⟩)]:List (Int × Hdr × Hdr)):=OwnK.ofBl encH30_ok hB9 (Nat.le_trans (ze gr7) hl9) (by simp [maxLen]) rfl
 have gr8:=zd gr7 hg9
 have k22:=k16.grown hg9
 have k23:=k17.grown hg9
 have k24:=k18.grown hg9
 have k25:=k19.grown hg9
 have k26:=k20.grown hg9
 have k27:=k21.grown hg9
 have k28:=hO7.grown hg9
 have hr1:RelD de30 w9 ([((0:Int),⟨(some ⟨g1,0,none⟩),1,1⟩,⟨none,0,0⟩),((0:Int),⟨(some ⟨g2,0,none⟩),1,1⟩,⟨(some ⟨g3,0,none⟩),1,1⟩),((0:Int),⟨(some ⟨g4,0,none⟩),1,1⟩,⟨(some ⟨g5,0,none⟩),1,1⟩),((0:Int),⟨(some ⟨g6,0,none⟩),1,1⟩,⟨(some ⟨g7,0,none⟩),2,2⟩)]:List (Int × Hdr × Hdr)) ([((0:Int),([(1:Int)]:List Int),[]),((0:Int),([(2:Int)]:List Int),([(0:Int)]:List Int)),((0:Int),([(3:Int)]:List Int),([(0:Int)]:List Int)),((0:Int),([(4:Int)]:List Int),([(1:Int),(2:Int)]:List Int))]:List (Int × List Int × List Int)):=(RelD.cons ⟨rfl,⟨rfl,k22.rd⟩,⟨rfl,(Own.nil vi w9 w.heap.size 3).rd⟩⟩ (RelD.cons ⟨rfl,⟨rfl,k23.rd⟩,⟨rfl,k24.rd⟩⟩ (RelD.cons ⟨rfl,⟨rfl,k25.rd⟩,⟨rfl,k26.rd⟩⟩ (RelD.cons ⟨rfl,⟨rfl,k27.rd⟩,⟨rfl,k28.rd⟩⟩ RelD.nil))))
 have nd1:NewD de30 ([((0:Int),⟨(some ⟨g1,0,none⟩),1,1⟩,⟨none,0,0⟩),((0:Int),⟨(some ⟨g2,0,none⟩),1,1⟩,⟨(some ⟨g3,0,none⟩),1,1⟩),((0:Int),⟨(some ⟨g4,0,none⟩),1,1⟩,⟨(some ⟨g5,0,none⟩),1,1⟩),((0:Int),⟨(some ⟨g6,0,none⟩),1,1⟩,⟨(some ⟨g7,0,none⟩),2,2⟩)]:List (Int × Hdr × Hdr)) ([((0:Int),([(1:Int)]:List Int),[]),((0:Int),([(2:Int)]:List Int),([(0:Int)]:List Int)),((0:Int),([(3:Int)]:List Int),([(0:Int)]:List Int)),((0:Int),([(4:Int)]:List Int),([(1:Int),(2:Int)]:List Int))]:List (Int × List Int × List Int)) w.heap.size:=(NewD.cons (d:=de30) (fun p_ hp_=>⟨trivial,(Dn.of (Dj.new hp_ k22.ge').symm),(fun h=>absurd rfl h)⟩) (NewD.cons (d:=de30) (fun p_ hp_=>⟨trivial,(Dn.of (Dj.new hp_ k23.ge').symm),(Dn.of (Dj.new hp_ k24.ge').symm)⟩) (NewD.cons (d:=de30) (fun p_ hp_=>⟨trivial,(Dn.of (Dj.new hp_ k25.ge').symm),(Dn.of (Dj.new hp_ k26.ge').symm)⟩) (NewD.cons (d:=de30) (fun p_ hp_=>⟨trivial,(Dn.of (Dj.new hp_ k27.ge').symm),(Dn.of (Dj.new hp_ k28.ge').symm)⟩) NewD.nil))))
 have dj1:DnD de30 ([((0:Int),⟨(some ⟨g1,0,none⟩),1,1⟩,⟨none,0,0⟩),((0:Int),⟨(some ⟨g2,0,none⟩),1,1⟩,⟨(some ⟨g3,0,none⟩),1,1⟩),((0:Int),⟨(some ⟨g4,0,none⟩),1,1⟩,⟨(some ⟨g5,0,none⟩),1,1⟩),((0:Int),⟨(some ⟨g6,0,none⟩),1,1⟩,⟨(some ⟨g7,0,none⟩),2,2⟩)]:List (Int × Hdr × Hdr)) ([((0:Int),([(1:Int)]:List Int),[]),((0:Int),([(2:Int)]:List Int),([(0:Int)]:List Int)),((0:Int),([(3:Int)]:List Int),([(0:Int)]:List Int)),((0:Int),([(4:Int)]:List Int),([(1:Int),(2:Int)]:List Int))]:List (Int × List Int × List Int)) (blk (some ⟨g9,0,none⟩)):=(DnD.cons (d:=de30) ⟨trivial,(Dn.of (Dj.new k16.lt' (Ge.box hl9))),(Dn.of Dj.nl)⟩ (DnD.cons (d:=de30) ⟨trivial,(Dn.of (Dj.new k17.lt' (Ge.box hl9))),(Dn.of (Dj.new k18.lt' (Ge.box hl9)))⟩ (DnD.cons (d:=de30) ⟨trivial,(Dn.of (Dj.new k19.lt' (Ge.box hl9))),(Dn.of (Dj.new k20.lt' (Ge.box hl9)))⟩ (DnD.cons (d:=de30) ⟨trivial,(Dn.of (Dj.new k21.lt' (Ge.box hl9))),(Dn.of (Dj.new hO7.lt' (Ge.box hl9)))⟩ DnD.nil))))
 refine yp (h:=(WL.nil (WX.then_normal (WC.seq (WC.region (WL.lit za rfl rfl rfl (zf rfl (zf rfl (zf rfl zm))) rfl (by omega) (fun g10 w10 hB10 hg10 hl10=>?_)))))))
 have hO10:Own vs w10 w.heap.size 9 (some ⟨g10,0,none⟩) 3 ([([40,52,44,32,50,44,32,49,44,32,51,41]:List UInt8),([40,49,44,32,50,44,32,51,44,32,52,41]:List UInt8),([40,52,44,32,50,44,32,51,44,32,49,41]:List UInt8)]:List (List UInt8)):=Own.ofBl hB10 (Nat.le_trans (ze gr8) hl10) (by simp [maxLen]) rfl
 have k30:=hr1.grown hg10
 refine yp (h:=(WL.nil (WX.then_normal (WC.seq (WC.seq (WC.region (yp (h:=(WL.nil (WX.then_normal (WC.block ?_)))))))))))
 obtain ⟨I1,mu1,h0_1,HR1⟩:=H
 refine WC.loopF (fun n' L' w'=>∃ (order:Int),∃ (l:List (Int × List Int × List Int)),∃ (hs:List (Int × Hdr × Hdr)),n'=mu1 order l∧L'=[(1,.slice (some ⟨g9,0,none⟩) 4 4),(2,.slice (some ⟨g10,0,none⟩) 3 3),(3,.int .i64 order)]∧I1 order l∧4=l.length∧w.grownBy w' none∧OwnK 3 encH30 w' w.heap.size 30 (some ⟨g9,0,none⟩) 4 hs∧RelD de30 w' hs l∧Own vs w' w.heap.size 9 (some ⟨g10,0,none⟩) 3 ([([40,52,44,32,50,44,32,49,44,32,51,41]:List UInt8),([40,49,44,32,50,44,32,51,44,32,52,41]:List UInt8),([40,52,44,32,50,44,32,51,44,32,49,41]:List UInt8)]:List (List UInt8))∧Dj (blk (some ⟨g9,0,none⟩)) (blk (some ⟨g10,0,none⟩))∧DnD de30 hs l (blk (some ⟨g9,0,none⟩))∧DnD de30 hs l (blk (some ⟨g10,0,none⟩))∧NewD de30 hs l w.heap.size) _ _ ⟨(1:Int),([((0:Int),([(1:Int)]:List Int),[]),((0:Int),([(2:Int)]:List Int),([(0:Int)]:List Int)),((0:Int),([(3:Int)]:List Int),([(0:Int)]:List Int)),((0:Int),([(4:Int)]:List Int),([(1:Int),(2:Int)]:List Int))]:List (Int × List Int × List Int)),([((0:Int),⟨(some ⟨g1,0,none⟩),1,1⟩,⟨none,0,0⟩),((0:Int),⟨(some ⟨g2,0,none⟩),1,1⟩,⟨(some ⟨g3,0,none⟩),1,1⟩),((0:Int),⟨(some ⟨g4,0,none⟩),1,1⟩,⟨(some ⟨g5,0,none⟩),1,1⟩),((0:Int),⟨(some ⟨g6,0,none⟩),1,1⟩,⟨(some ⟨g7,0,none⟩),2,2⟩)]:List (Int × Hdr × Hdr)),rfl,rfl,h0_1,(rfl.trans k30.1),(zd gr8 hg10),(hO9.grown hg10),k30,hO10,(Dj.new hO9.lt' (Ge.box hl10)),dj1,(hr1.new (Ge.box hl10)),nd1⟩ (by repeat (first | exact Sub.nil | refine Sub.cons rfl ?_)) ?_
 clear h0_1
 rintro _ _ w11 ⟨order,l,hs,rfl,rfl,hI1,hn_l,gr10,k31,k32,k33,dj2,dj3,dj4,or1⟩
 have H:=HR1 order l hI1
 replace H:=H hn_l
 refine WC.seq (WC.seq (WC.region (yp (h:=(yp (h:=(WL.nil (WX.then_normal (WC.cond rfl (fun b1=>?_) (fun b1=>?_))))))))))
 ·replace H:=H.1 (of_decide_eq_true b1)
  refine WC.skip (WX.then_normal (WC.seq (WC.block (WC.seq (WC.seq (WC.region (yp (h:=(WL.nil (WX.then_normal (WC.block ?_)))))))))))
  obtain ⟨I2,mu2,h0_2,HR2⟩:=H
  refine WC.loopF (fun n' L' w'=>∃ (i:Int),∃ (l2:List (Int × List Int × List Int)),∃ (hs2:List (Int × Hdr × Hdr)),n'=mu2 i l2∧L'=[(1,.slice (some ⟨g9,0,none⟩) 4 4),(2,.slice (some ⟨g10,0,none⟩) 3 3),(3,.int .i64 order),(4,.int .i64 i)]∧I2 i l2∧4=l2.length∧w.grownBy w' none∧OwnK 3 encH30 w' w.heap.size 30 (some ⟨g9,0,none⟩) 4 hs2∧RelD de30 w' hs2 l2∧Own vs w' w.heap.size 9 (some ⟨g10,0,none⟩) 3 ([([40,52,44,32,50,44,32,49,44,32,51,41]:List UInt8),([40,49,44,32,50,44,32,51,44,32,52,41]:List UInt8),([40,52,44,32,50,44,32,51,44,32,49,41]:List UInt8)]:List (List UInt8))∧Dj (blk (some ⟨g9,0,none⟩)) (blk (some ⟨g10,0,none⟩))∧DnD de30 hs2 l2 (blk (some ⟨g9,0,none⟩))∧DnD de30 hs2 l2 (blk (some ⟨g10,0,none⟩))∧NewD de30 hs2 l2 w.heap.size) _ _ ⟨(0:Int),l,hs,rfl,rfl,h0_2,((hn_l.trans k32.1.symm).trans k32.1),gr10,k31,k32,k33,dj2,dj3,dj4,or1⟩ (by repeat (first | exact Sub.nil | refine Sub.cons rfl ?_)) ?_
  clear h0_2
  rintro _ _ w12 ⟨i,l2,hs2,rfl,rfl,hI2,hn_l2,gr11,k34,k35,k36,dj5,dj6,dj7,or2⟩
  have H:=HR2 i l2 hI2
  replace H:=H hn_l2
  refine WC.seq (WC.seq (WC.region (yp (h:=(yp (h:=(yp (h:=(yp (h:=(WL.nil (WX.then_normal (WC.cond rfl (fun b2=>?_) (fun b2=>?_))))))))))))))
  ·replace H:=H.1 (of_decide_eq_true b2)
   refine WC.skip (WX.then_normal (WC.seq (WC.block (WC.region (yp (h:=(yp (h:=(yp (h:=?_))))))))))
   obtain ⟨h1,H⟩:=H
   refine WL.y rfl (Yld.iaddrK za k34.rd rfl rfl (hn_l2.trans k35.1.symm) rfl h1.1 h1.2) (WL.y rfl (Yld.faddrK za k34.rd (iltN h1 (hn_l2.trans k35.1.symm)) rfl rfl rfl) (WL.ostoreF (v:=((order,(hs2.getD i.toNat (0,hd0,hd0)).2.1,(hs2.getD i.toNat (0,hd0,hd0)).2.2):Int × Hdr × Hdr)) (0,hd0,hd0) one3 rfl k34 rfl rfl (iltN h1 (hn_l2.trans k35.1.symm)) rfl rfl (fun w13 hO11 hg11=>?_)))
   have k37:=k35.go hg11 dj6
   obtain ⟨_,rfl,r1⟩:=RelD.at k37 (0,hd0,hd0) (0,[],[]) (j:=i.toNat) (Nat.lt_of_lt_of_eq (iltN h1 (hn_l2.trans k35.1.symm)) k35.1)
   have hr2:RelD de30 w13 (hs2.set i.toNat ((order,(hs2.getD i.toNat (0,hd0,hd0)).2.1,(hs2.getD i.toNat (0,hd0,hd0)).2.2):Int × Hdr × Hdr)) (l2.set i.toNat ((order,(l2.getD i.toNat (0,[],[])).2.1,(l2.getD i.toNat (0,[],[])).2.2):Int × List Int × List Int)):=RelD.set (h:=((order,(hs2.getD i.toNat (0,hd0,hd0)).2.1,(hs2.getD i.toNat (0,hd0,hd0)).2.2):Int × Hdr × Hdr)) (x:=((order,(l2.getD i.toNat (0,[],[])).2.1,(l2.getD i.toNat (0,[],[])).2.2):Int × List Int × List Int)) k37 ⟨rfl,r1.2.1,r1.2.2⟩ i.toNat
   have nd2:NewD de30 (hs2.set i.toNat ((order,(hs2.getD i.toNat (0,hd0,hd0)).2.1,(hs2.getD i.toNat (0,hd0,hd0)).2.2):Int × Hdr × Hdr)) (l2.set i.toNat ((order,(l2.getD i.toNat (0,[],[])).2.1,(l2.getD i.toNat (0,[],[])).2.2):Int × List Int × List Int)) w.heap.size:=fun p_ hp_=>DnD.set (h:=((order,(hs2.getD i.toNat (0,hd0,hd0)).2.1,(hs2.getD i.toNat (0,hd0,hd0)).2.2):Int × Hdr × Hdr)) (x:=((order,(l2.getD i.toNat (0,[],[])).2.1,(l2.getD i.toNat (0,[],[])).2.2):Int × List Int × List Int)) (or2 p_ hp_) ⟨trivial,(DnD.at (or2 p_ hp_) k35.1 (Nat.lt_of_lt_of_eq (iltN h1 (hn_l2.trans k35.1.symm)) k35.1) rfl).2.1,(DnD.at (or2 p_ hp_) k35.1 (Nat.lt_of_lt_of_eq (iltN h1 (hn_l2.trans k35.1.symm)) k35.1) rfl).2.2⟩ i.toNat
   have dj8:DnD de30 (hs2.set i.toNat ((order,(hs2.getD i.toNat (0,hd0,hd0)).2.1,(hs2.getD i.toNat (0,hd0,hd0)).2.2):Int × Hdr × Hdr)) (l2.set i.toNat ((order,(l2.getD i.toNat (0,[],[])).2.1,(l2.getD i.toNat (0,[],[])).2.2):Int × List Int × List Int)) (blk (some ⟨g9,0,none⟩)):=(DnD.set (h:=((order,(hs2.getD i.toNat (0,hd0,hd0)).2.1,(hs2.getD i.toNat (0,hd0,hd0)).2.2):Int × Hdr × Hdr)) (x:=((order,(l2.getD i.toNat (0,[],[])).2.1,(l2.getD i.toNat (0,[],[])).2.2):Int × List Int × List Int)) dj6 ⟨trivial,(DnD.at dj6 k35.1 (Nat.lt_of_lt_of_eq (iltN h1 (hn_l2.trans k35.1.symm)) k35.1) rfl).2.1,(DnD.at dj6 k35.1 (Nat.lt_of_lt_of_eq (iltN h1 (hn_l2.trans k35.1.symm)) k35.1) rfl).2.2⟩ i.toNat)
   have dj9:DnD de30 (hs2.set i.toNat ((order,(hs2.getD i.toNat (0,hd0,hd0)).2.1,(hs2.getD i.toNat (0,hd0,hd0)).2.2):Int × Hdr × Hdr)) (l2.set i.toNat ((order,(l2.getD i.toNat (0,[],[])).2.1,(l2.getD i.toNat (0,[],[])).2.2):Int × List Int × List Int)) (blk (some ⟨g10,0,none⟩)):=(DnD.set (h:=((order,(hs2.getD i.toNat (0,hd0,hd0)).2.1,(hs2.getD i.toNat (0,hd0,hd0)).2.2):Int × Hdr × Hdr)) (x:=((order,(l2.getD i.toNat (0,[],[])).2.1,(l2.getD i.toNat (0,[],[])).2.2):Int × List Int × List Int)) dj7 ⟨trivial,(DnD.at dj7 k35.1 (Nat.lt_of_lt_of_eq (iltN h1 (hn_l2.trans k35.1.symm)) k35.1) rfl).2.1,(DnD.at dj7 k35.1 (Nat.lt_of_lt_of_eq (iltN h1 (hn_l2.trans k35.1.symm)) k35.1) rfl).2.2⟩ i.toNat)
   refine WL.nil (WX.block_normal (WX.then_normal (WC.region (yp (h:=?_)))))
   obtain ⟨h2,H⟩:=H
   refine WL.y rfl (Yld.add rfl rfl h2) (yp (h:=(WL.nil ?_)))
   exact WX.roundF _ ⟨i+(1:Int),l2.set i.toNat ((order,(l2.getD i.toNat (0,[],[])).2.1,(l2.getD i.toNat (0,[],[])).2.2):Int × List Int × List Int),hs2.set i.toNat ((order,(hs2.getD i.toNat (0,hd0,hd0)).2.1,(hs2.getD i.toNat (0,hd0,hd0)).2.2):Int × Hdr × Hdr),rfl,rfl,H.1,(((hn_l2.trans k35.1.symm).trans List.length_set.symm).trans hr2.1),(zk gr11 hg11 k34.ge'),hO11,hr2,(k36.go hg11 dj5.symm),dj5,dj8,dj9,nd2⟩ (by repeat (first | exact Sub.nil | refine Sub.cons rfl ?_)) H.2
  ·replace H:=H.2 (of_decide_eq_false b2)
   refine WC.exit (WX.then_exit (WX.then_exit (WX.block_same (WX.then_normal (WC.seq (WC.region (yp (h:=(WL.call rfl rfl (W_smithylaw13_made (hG.grown gr11) hS3 hS7 k34.rd ((hn_l2.trans k35.1.symm).trans k35.1) k35 H) ?_)))))))))
   rintro _ w14 ⟨hg12,t370,A_t370,c_t370,hs_t370,t371,rfl,ht370,hr_t370,ho1,dj10,H⟩
   have hb1:=ht370.ge'
   have k39:=ht370.base (fun g hg=>Nat.le_trans (ze gr11) (hb1 g hg))
   have gr13:=zd gr11 hg12
   have k40:=k34.grown hg12
   have k41:=k35.grown hg12
   have k42:=k36.grown hg12
   refine yp (h:=(yp (h:=(yp (h:=(yp (h:=(yp (h:=(WL.nil (WX.then_normal (WC.seq (WC.chainF (fun k => !(Nat.beq k 6)) (LD [5,11] (fun w'=>Rd vv w' A_t370 c_t370 hs_t370∧Rd vs w' (some ⟨g10,0,none⟩) 3 ([([40,52,44,32,50,44,32,49,44,32,51,41]:List UInt8),([40,49,44,32,50,44,32,51,44,32,52,41]:List UInt8),([40,52,44,32,50,44,32,51,44,32,49,41]:List UInt8)]:List (List UInt8)))) mixed (by kernel_rfl) (fun k w' h _=>⟨(rd_eqv h k39.rd),(rd_eqv h k42.rd)⟩) (WJ.y rfl rfl (fun w' hw'=>Yld.pure za rfl) (WJ.y rfl rfl (fun w' hw'=>Yld.pure za rfl) (WJ.y rfl rfl (fun w' hw'=>Yld.pure za rfl) ?_))))))))))))))))
   obtain ⟨J1,H,hJ1⟩:=H
   refine WJ.midF 11 (fun L' w'=>∃ q1:Bool,L'=[(53,.bool q1),(1,.slice (some ⟨g9,0,none⟩) 4 4),(2,.slice (some ⟨g10,0,none⟩) 3 3),(3,.int .i64 order)]∧J1 q1∧w.grownBy w' none∧OwnK 3 encH30 w' w.heap.size 30 (some ⟨g9,0,none⟩) 4 hs2∧RelD de30 w' hs2 l2∧Own vs w' w.heap.size 9 (some ⟨g10,0,none⟩) 3 ([([40,52,44,32,50,44,32,49,44,32,51,41]:List UInt8),([40,49,44,32,50,44,32,51,44,32,52,41]:List UInt8),([40,52,44,32,50,44,32,51,44,32,49,41]:List UInt8)]:List (List UInt8))∧Own vv w' w.heap.size 41 A_t370 c_t370 hs_t370) ?_ (fun hQ=>?_)
   ·clear H
    rintro _ w15 ⟨q1,rfl,H,gr14,k43,k44,k45,k46⟩
    replace H:=hJ1 q1 H
    refine WJ.nil (WX.then_normal (WC.cond rfl (fun b3=>?_) (fun b3=>?_)))
    ·replace H:=H.1 (b3)
     exact WC.seq (WC.region (yp (h:=(WL.nil (WX.then_normal (WC.ret (WX.block_ret (WX.then_ret (WX.then_ret (WX.block_ret (WX.then_ret (WX.ret1 rfl rfl ⟨gr14,false,rfl,H⟩))))))))))))
    ·replace H:=H.2 (b3)
     refine WC.skip (WX.block_normal (WX.then_normal (WC.region (yp (h:=?_)))))
     obtain ⟨h3,H⟩:=H
     refine WL.y rfl (Yld.add rfl rfl h3) (yp (h:=(WL.nil ?_)))
     exact WX.roundF _ ⟨order+(1:Int),l2,hs2,rfl,rfl,H.1,((hn_l2.trans k35.1.symm).trans k44.1),gr14,k43,k44,k45,dj5,dj6,dj7,or2⟩ (by repeat (first | exact Sub.nil | refine Sub.cons rfl ?_)) H.2
   ·clear hJ1
    rcases Bool.eq_false_or_eq_true (!t371) with b4 | b4
    ·replace H:=H.1 b4
     refine WJ.no rfl rfl (okb b4) rfl (WJ.no rfl rfl (okb b4) rfl (WJ.no rfl rfl (okb b4) rfl (WJ.no rfl rfl (okb b4) rfl (WJ.no rfl rfl (okb b4) rfl (WJ.no rfl rfl (okb b4) rfl (WJ.no rfl rfl (okb b4) rfl (WJ.no rfl rfl (okb b4) rfl (WJ.no rfl rfl (okb b4) rfl (WJ.no rfl rfl (okb b4) rfl (WJ.y rfl rfl (fun w' hw'=>Yld.pickT (okb b4) rfl) ?_))))))))))
     exact WJ.weaken (by repeat (first | exact Sub.nil | refine Sub.cons rfl ?_)) (hQ _ _ ⟨true,rfl,H,gr13,k40,k41,k42,k39⟩)
    ·replace H:=H.2 b4
     refine WJ.yw rfl (zc rfl rfl (okb b4)) rfl (fun w' hw'=>Yld.pure za rfl) ?_
     obtain ⟨h4,H⟩:=H
     refine WJ.yw rfl (zc rfl rfl (okb b4)) rfl (fun w' hw'=>Yld.iaddrW za k39.rd rfl rfl hr_t370.1.symm rfl h4.1 h4.2) ?_
     obtain ⟨⟨v_el,F_el⟩,eh1,hR1⟩:=RelD.at hr_t370 vh0 PS.nil (j:=3) (Nat.lt_of_lt_of_eq (iltN h4 hr_t370.1.symm) hr_t370.1)
     have hv1:RelD deS w14 [(v_el,F_el)] [t370.getD 3 PS.nil]:=RelD.cons hR1 RelD.nil
     refine WJ.yw rfl (zc rfl rfl (okb b4)) rfl (fun w' hw'=>Yld.to (v:=v_el.1) (Yld.iload vh0 za (hw' rfl).1 rfl rfl (iltN h4 hr_t370.1.symm)) (congrArg vv eh1)) (WJ.call rfl (zc rfl rfl (okb b4)) rfl rfl (W_smithylaw13_told (hG.grown gr13) hS7 hv1 H) (fun v w' h w2 e=>DD.keep (⟨(Rd.grown k39.rd (zq h.1 e)),(Rd.grown k42.rd (zq h.1 e))⟩)) ?_)
     rintro _ w16 ⟨hg13,t46,rfl,H⟩
     have k49:=k42.grown hg13
     have k51:=hr_t370.grown hg13
     have k52:=hv1.grown hg13
     refine WJ.yw rfl (zc rfl rfl (okb b4)) rfl (fun w' hw'=>Yld.pure za rfl) (WJ.yw rfl (zc rfl rfl (okb b4)) rfl (fun w' hw'=>Yld.pure za rfl) ?_)
     obtain ⟨h5,H⟩:=H
     refine WJ.yw rfl (zc rfl rfl (okb b4)) rfl (fun w' hw'=>Yld.sub rfl rfl h5) ?_
     obtain ⟨h6,H⟩:=H
     refine WJ.yw rfl (zc rfl rfl (okb b4)) rfl (fun w' hw'=>Yld.iaddrW za k49.rd rfl rfl rfl rfl h6.1 h6.2) (WJ.yw rfl (zc rfl rfl (okb b4)) rfl (fun w' hw'=>Yld.iload [] za (hw' rfl).2 rfl rfl (iltN h6 rfl)) (WJ.yw rfl (zc rfl rfl (okb b4)) rfl (fun w' hw'=>Yld.pure za rfl) (WJ.y rfl rfl (fun w' hw'=>Yld.pickF (okb b4) rfl) ?_)))
     exact WJ.weaken (by repeat (first | exact Sub.nil | refine Sub.cons rfl ?_)) (hQ _ _ ⟨!decide (t46=(([([40,52,44,32,50,44,32,49,44,32,51,41]:List UInt8),([40,49,44,32,50,44,32,51,44,32,52,41]:List UInt8),([40,52,44,32,50,44,32,51,44,32,49,41]:List UInt8)]:List (List UInt8)).getD ((order - (1:Int)).toNat) [])),rfl,H,(zd gr13 hg13),(k40.grown hg13),(k41.grown hg13),k49,(k39.grown hg13)⟩)
 ·replace H:=H.2 (of_decide_eq_false b1)
  exact WC.exit (WX.then_exit (WX.then_exit (WX.block_same (WX.then_normal (WC.seq (WC.region (yp (h:=(WL.nil (WX.then_normal (WC.ret (WX.ret1 rfl rfl ⟨gr10,true,rfl,H⟩))))))))))))
end Go.Proofs.YtjjcdkfhaceicaaGreatDoor
 
namespace Go.Proofs.YtjjcdkfhaceicaaGreatDoor
open Go Go.RowKit
def isB:Er→Int→Bool
 | .ok,c=>decide (0=c)
 | .e n,c=>decide (101+(n:Int)=c)
 | .at_ _ _,_=>false
theorem is_M {e:Er} {code:Int} {K:Bool→Prop} (h:K (isB e code)):zX e code K:=by
 unfold zX zJ qy qp zW z3 ql zK zJ qk zW
 cases e with
 | ok=>refine ⟨fun _=>?_,fun h2=>absurd rfl h2⟩; exact (congrArg K (show isB .ok code=_ by simp [isB])).mp h
 | e n=>refine ⟨fun h2=>(by cases h2),fun _=>⟨fun p m h2=>(by cases h2),fun _=>?_⟩⟩; exact (congrArg K (show isB (.e n) code=_ by rw [Bool.eq_iff_iff]; simp [isB,sentV]; exact decide_eq_true_iff.symm)).mp h
 | at_ p n =>
  refine ⟨fun h2=>(by cases h2),fun _=>⟨fun p' m h2=>?_,fun h2=>absurd rfl (h2 p n)⟩⟩
  cases h2
  refine ⟨fun h2=>(by simp at h2),fun _=>⟨fun h2=>(by simp only [sentV] at h2; omega),fun _=>?_⟩⟩
  exact (congrArg K (show isB (.at_ p n) code=_ by simp [isB])).mp h
end Go.Proofs.YtjjcdkfhaceicaaGreatDoor
 
namespace Go.Proofs.YtjjcdkfhaceicaaGreatDoor
open Go Go.RowKit
theorem dd_inj (a:Nat):∀ b,dd a=dd b→a=b:=by
 induction a using Nat.strongRecOn with
 | _ a ih =>
  intro b h
  rcases Nat.eq_zero_or_pos a with ha | ha
  ·subst ha
   rcases Nat.eq_zero_or_pos b with hb | hb
   ·exact hb.symm
   ·rw [dd_zero,dd_pos hb] at h; cases h
  ·rcases Nat.eq_zero_or_pos b with hb | hb
   ·subst hb; rw [dd_zero,dd_pos ha] at h; cases h
   ·rw [dd_pos ha,dd_pos hb] at h
    injection h with h1 h2
    have h3:=ih (a / 10) (by omega) _ h2
    have h4:=congrArg UInt8.toNat h1
    rw [dc_toNat,dc_toNat] at h4
    omega
theorem dd_dig (n:Nat):∀ c∈dd n,48≤c.toNat∧c.toNat≤57:=by
 induction n using Nat.strongRecOn with
 | _ n ih =>
  intro c hc
  rcases Nat.eq_zero_or_pos n with h | h
  ·subst h; rw [dd_zero] at hc; cases hc
  ·rw [dd_pos h] at hc
   rcases List.mem_cons.1 hc with rfl | hc
   ·rw [dc_toNat]; omega
   ·exact ih (n / 10) (by omega) c hc
theorem txt_inj {a b:Int} (h:txt a=txt b):a=b:=by
 have key:∀ n:Nat,0<n→(dd n).reverse≠[48]:=fun n hn e=>by
  have e2:dd n=[48]:=by have:=congrArg List.reverse e; simpa using this
  rw [dd_pos hn] at e2
  injection e2 with h1 h2
  have h3:=congrArg UInt8.toNat h1
  rw [dc_toNat] at h3
  have h4:n / 10=0:=dd_inj _ 0 (by rw [h2,dd_zero])
  have:(48:UInt8).toNat=48:=rfl
  omega
 have m45:∀ (n:Nat) (l:List UInt8),(dd n).reverse≠45 :: l:=fun n l e=>by
  have:=dd_dig n 45 (by rw [←List.mem_reverse,e]; exact List.mem_cons_self)
  revert this; decide
 unfold txt at h
 by_cases ha:a=0
 ·by_cases hb:b=0
  ·omega
  ·rw [if_pos ha,if_neg hb] at h
   by_cases b0:b<0
   ·rw [if_pos b0] at h; injection h with h1; exact absurd h1 (by decide)
   ·rw [if_neg b0] at h; exact absurd h.symm (key _ (by omega))
 ·by_cases hb:b=0
  ·rw [if_neg ha,if_pos hb] at h
   by_cases a0:a<0
   ·rw [if_pos a0] at h; injection h with h1; exact absurd h1 (by decide)
   ·rw [if_neg a0] at h; exact absurd h (key _ (by omega))
  ·rw [if_neg ha,if_neg hb] at h
   by_cases a0:a<0
   ·by_cases b0:b<0
    ·rw [if_pos a0,if_pos b0] at h
     have:=dd_inj _ _ (List.reverse_inj.1 (List.append_cancel_left h))
     omega
    ·rw [if_pos a0,if_neg b0] at h
     exact absurd h.symm (m45 _ _)
   ·by_cases b0:b<0
    ·rw [if_neg a0,if_pos b0] at h
     exact absurd h (m45 _ _)
    ·rw [if_neg a0,if_neg b0] at h
     have:=dd_inj _ _ (List.reverse_inj.1 (List.append_cancel_left h))
     omega
theorem txt_len {z:Int} (h : -100000000<z∧z<100000000):(txt z).length≤9:=by
 have:=dd_len 8 z.natAbs (by omega)
 unfold txt
 split
 ·simp
 ·split <;> simp <;> omega
theorem keyP_iff {a b:Int}:keyP (.int a)=keyP (.int b)↔a=b:=by
 refine ⟨fun h=>?_,fun h=>by rw [h]⟩
 unfold keyP at h
 injection h with _ h
 exact txt_inj (List.append_cancel_right h)
theorem full_M {p:List UInt8} {K:Bool→Prop} (hp:p.length<65536) (h:K false):zG p K:=by
 intro _
 rw [decide_eq_false (by omega)]; exact h
theorem put_M {p t:List UInt8} {K:List UInt8→Prop} (hp:p.length+t.length≤65536) (h:K (p++t)):zl p [t] K:=by
 intro _ _
 refine ⟨fun i q=>(i=0∧q=p)∨(i=1∧q=p++t),fun i _=>(1 - i).toNat,.inl ⟨rfl,rfl⟩,?_⟩
 rintro i q (⟨rfl,rfl⟩ | ⟨rfl,rfl⟩)
 ·have e:(if (65536:Int) - (q.length:Int)<(t.length:Int) then (65536:Int) - (q.length:Int) else (t.length:Int)).toNat=t.length:=by
   split <;> omega
  refine ⟨fun _=>⟨by simp,by simp only [In]; omega,?_,?_,by simp only [In]; omega,?_,by dsimp only; omega⟩,fun hn=>absurd (by simp) hn⟩
  ·simp only [Int.toNat_zero,List.getD_cons_zero]; split <;> omega
  ·simp only [Int.toNat_zero,List.getD_cons_zero,e,List.take_length]; omega
  ·simp only [Int.toNat_zero,List.getD_cons_zero,e,List.take_length]
   exact .inr ⟨by omega,by first | rfl | trivial⟩
 ·exact ⟨fun hl=>absurd hl (by simp),fun _=>h⟩
theorem text_M {z:Int} {K:List UInt8→Prop} (h:K (txt z)):qr z 3 K:=⟨by decide,h⟩
theorem repr_int {p:List UInt8} {z deep:Int} {K:List UInt8→Prop} (hp:p.length+(txt z).length≤65000) (h:K (p++txt z)):z7 p (.int z) deep K:=by
 intro _
 refine full_M (by omega) ⟨fun e=>(by cases e),fun _=>⟨fun e=>(by cases e),fun z' e=>?_,fun e=>absurd rfl (e z)⟩⟩
 cases e
 exact text_M (put_M (by omega) h)
theorem comT_push:∀ (l:List Int) (z:Int),comT (l++[z])=comT l++(if l=[] then [] else [44,32])++txt z
 | [],z=>by simp [comT]
 | [y],z=>by simp [comT]
 | y :: x :: l,z=>by
  have:=comT_push (x :: l) z
  rw [List.cons_append,List.cons_append,comT,←List.cons_append,this,comT]
  simp
theorem comT_len:∀ {l:List Int},(∀ z∈l,(txt z).length≤9)→(comT l).length≤11*l.length
 | [],_=>by simp [comT]
 | [z],h=>by have:=h z (by simp); simp [comT]; omega
 | z :: y :: l,h=>by
  have h1:=comT_len (l:=y :: l) fun x hx=>h x (List.mem_cons_of_mem _ hx)
  have h2:=h z (by simp)
  rw [comT]
  simp only [List.length_append,List.length_cons,List.length_nil] at h1 ⊢
  omega
theorem zt {α:Type} {l:List α} {i:Nat} {d:α} (h:i<l.length):l.getD i d=l[i]:=by simp [List.getD,h]
theorem items_M {p:List UInt8} {l:List Int} {deep:Int} {K:List UInt8→Prop} (hl:l.length≤2000) (hp:p.length≤1000) (ht:∀ z∈l,(txt z).length≤9) (h:K (p++comT l)):zD p (l.map .int) deep K:=by
 intro _ _
 refine ⟨fun i q=>0≤i∧i≤l.length∧q=p++comT (l.take i.toNat),fun i _=>((l.length:Int) - i).toNat,⟨by omega,by omega,by simp [comT]⟩,?_⟩
 rintro i q ⟨h0,h1,rfl⟩
 have hc:=comT_len (l:=l.take i.toNat) fun z hz=>ht z (List.mem_of_mem_take hz)
 have hcl:(l.take i.toNat).length≤2000:=by rw [List.length_take]; omega
 rw [List.length_map]
 refine ⟨fun hi=>⟨⟨h0,by omega⟩,full_M (by simp; omega) ⟨fun e=>(by cases e),fun _=>?_⟩⟩,fun hi=>?_⟩
 ·have hlt:i.toNat<l.length:=by omega
  have e1:(l.map PV.int).getD i.toNat PV.nil=.int l[i.toNat]:=by rw [zt (by simpa using hlt)]; simp
  have e2:l.take (i+1).toNat=l.take i.toNat++[l[i.toNat]]:=by
   rw [show (i+1).toNat=i.toNat+1 by omega,List.take_add_one,List.getElem?_eq_getElem hlt]; rfl
  have e3:=ht l[i.toNat] (List.getElem_mem hlt)
  refine ⟨fun q=>q=p++(comT (l.take i.toNat)++(if l.take i.toNat=[] then [] else [44,32])),⟨fun hpos=>?_,fun hn=>?_⟩,?_⟩
  ·refine put_M (by simp; omega) ?_
   have:l.take i.toNat≠[]:=by
    intro e
    have:=congrArg List.length e
    rw [List.length_take,List.length_nil] at this
    omega
   rw [if_neg this,List.append_assoc]
  ·have e0:i=0:=by omega
   subst e0
   simp
  ·rintro _ rfl
   rw [e1]
   refine repr_int ?_ ⟨by simp only [In]; omega,⟨by omega,by omega,?_⟩,by dsimp only; omega⟩
   ·simp only [List.length_append]
    split <;> simp only [List.length_nil,List.length_cons] <;> omega
   ·rw [e2,comT_push]; simp
 ·have:l.take i.toNat=l:=List.take_of_length_le (by omega)
  rw [this]; exact h
theorem vrepr_tup {l:List Int} {K:List UInt8→Prop} (hl:l.length≤1000) (ht:∀ z∈l,(txt z).length≤9) (h:K (tupT l)):M_val_Repr (.tup l) K:=by
 have hc:=comT_len ht
 intro _
 refine full_M (by decide) ⟨fun e=>(by cases e),fun _=>⟨fun e=>(by cases e),fun z' e=>(by cases e),fun _=>?_⟩⟩
 intro _
 refine ⟨fun e=>absurd e (by decide),fun _=>⟨fun e=>(by cases e),fun _=>⟨fun l' e=>?_,fun e=>absurd rfl (e l)⟩⟩⟩
 cases e
 refine put_M (by simp) ⟨by simp only [In]; omega,items_M (by omega) (by simp) ht ?_⟩
 refine ⟨fun q=>q=[40]++comT l++(if l.length=1 then [44] else []),⟨fun e=>?_,fun e=>?_⟩,?_⟩
 ·rw [List.length_map] at e
  rw [if_pos (by omega)]
  exact put_M (by simp; omega) rfl
 ·rw [List.length_map] at e
  rw [if_neg (by omega),List.append_nil]; rfl
 ·rintro _ rfl
  refine put_M (by simp only [List.length_append]; split <;> simp <;> omega) ?_
  have:[40]++comT l++(if l.length=1 then [44] else [])++[41]=tupT l:=by
   unfold tupT
   split <;> simp
  rw [this]; exact h
theorem key_int {z:Int} {K:List UInt8→Er→Prop} (ht:(txt z).length≤1000) (h:K (keyP (.int z)) .ok):M_val_Key (.int z) K:=by
 intro _
 refine ⟨by simp only [In]; omega,fun e=>absurd e (by decide),fun _=>⟨fun q=>q=73 :: txt z,⟨⟨fun e=>(by cases e),fun z' e=>?_,fun e=>absurd rfl (e z)⟩,?_⟩⟩⟩
 ·cases e
  exact ⟨by decide,text_M ⟨by simp; omega,rfl⟩⟩
 ·rintro _ rfl
  exact ⟨by simp; omega,fun e=>absurd rfl e,fun _=>h⟩
theorem weight_M {v:PV} {most:Int} {K:Int→Prop} (hv:v=.emp∨∃ z,v=.int z) (h:K 1):M_val_weight v most K:=by
 refine ⟨fun l=>l=[],⟨fun _=>rfl,fun _=>⟨fun l e=>?_,fun _=>rfl⟩⟩,?_⟩
 ·rcases hv with rfl | ⟨z,rfl⟩ <;> cases e
 ·rintro _ rfl
  exact ⟨fun n i=>n=1∧i=0,fun _ _=>0,⟨rfl,rfl⟩,fun n i ⟨e1,e2⟩=>⟨fun hl=>by subst e2; simp at hl,fun _=>by rw [e1]; exact h⟩⟩
theorem light_M {l:List PV} {K:Bool→Prop} (hl:l.length≤4096) (hv:∀ v∈l,v=.emp∨∃ z,v=.int z) (h:K true):M_val_Light 4096 l K:=by
 intro _
 refine ⟨fun m i=>0≤i∧i≤l.length∧m=4096 - i,fun _ i=>((l.length:Int) - i).toNat,⟨by omega,by omega,by omega⟩,?_⟩
 rintro m i ⟨h0,h1,rfl⟩
 refine ⟨fun hi=>⟨⟨h0,by omega⟩,weight_M ?_ ⟨by simp only [In]; omega,fun e=>by omega,fun _=>⟨by simp only [In]; omega,⟨by omega,by omega,by omega⟩,by dsimp only; omega⟩⟩⟩,fun _=>h⟩
 rw [zt (by omega)]
 exact hv _ (List.getElem_mem (by omega))
end Go.Proofs.YtjjcdkfhaceicaaGreatDoor
 
namespace Go.Proofs.YtjjcdkfhaceicaaGreatDoor
open Go Go.RowKit
theorem mget_in {κ:Type} [DecidableEq κ] {l:List κ} {q:κ} (h:(mget (l.map fun x=>(x,true)) q).getD false=true):q∈l:=by
 rw [mget_true] at h; exact of_decide_eq_true h
theorem mget_out {κ:Type} [DecidableEq κ] {l:List κ} {q:κ} (h:(mget (l.map fun x=>(x,true)) q).getD false=false):q∉l:=by
 rw [mget_true] at h; exact of_decide_eq_false h
theorem ownT_snoc (l:List PV) (i:Nat) (t:TS) (h:i<l.length):ownT (l.take (i+1)) t=stepT (ownT (l.take i) t) l[i]:=by
 rw [List.take_add_one,List.getElem?_eq_getElem h]
 exact ownT_push _ _ _
theorem ownT_keys:∀ (l:List PV) (t:TS),t.keys=t.out.map keyP→(ownT l t).keys=(ownT l t).out.map keyP
 | [],_,h=>h
 | v :: l,t,h=>by
  rw [zO]
  refine ownT_keys l _ ?_
  unfold stepT
  split
  ·exact h
  ·simp [h]
theorem ownT_sub:∀ (l:List PV) (t:TS),∀ x∈(ownT l t).out,x∈t.out∨x∈l
 | [],_,_,h=>.inl h
 | v :: l,t,x,h=>by
  rw [zO] at h
  rcases ownT_sub l _ x h with h | h
  ·unfold stepT at h
   split at h
   ·exact .inl h
   ·rcases List.mem_append.1 h with h | h
    ·exact .inl h
    ·exact .inr (by rw [List.mem_singleton.1 h]; exact List.mem_cons_self)
  ·exact .inr (List.mem_cons_of_mem _ h)
theorem ownT_olen:∀ (l:List PV) (t:TS),(ownT l t).out.length≤t.out.length+l.length
 | [],t=>Nat.le_refl _
 | v :: l,t=>by
  rw [zO]
  refine Nat.le_trans (ownT_olen l _) ?_
  unfold stepT
  split <;> simp <;> omega
theorem dedP_sub {l:List PV} {x:PV} (h:x∈dedP l):x∈l:=(ownT_sub l ts0 x h).resolve_left (by simp [ts0])
theorem dedP_len (l:List PV):(dedP l).length≤l.length:=by
 have h:=ownT_olen l ts0
 have h0:ts0.out.length=0:=rfl
 show (ownT l ts0).out.length≤_
 omega
def deepF (fr:List PS):Int:=fr.foldl (fun d f=>if d<f.deep+1 then f.deep+1 else d) 0
def emptyF (own:List PV) (fr:List PS):Bool:=fr.foldl (fun e f=>e && f.empty) (decide ((own.length:Int)=0))
theorem deepF_bd:∀ (fr:List PS) (d m:Int),0≤d→d≤m→(∀ f∈fr,f.deep<m)→0≤fr.foldl (fun d f=>if d<f.deep+1 then f.deep+1 else d) d∧fr.foldl (fun d f=>if d<f.deep+1 then f.deep+1 else d) d≤m
 | [],d,m,h0,h1,_=>⟨h0,h1⟩
 | f :: fr,d,m,h0,h1,h=>by
  have:=h f List.mem_cons_self
  refine deepF_bd fr _ m ?_ ?_ fun g hg=>h g (List.mem_cons_of_mem _ hg)
  ·dsimp only; split <;> omega
  ·dsimp only; split <;> omega
structure Few (s:PS) (n m:Nat):Prop where
 some:∀ l,Some' s l→l.length≤n
 sum:∀ l,SetsOf s l→(l.map fun x=>x.own.length).sum≤m
theorem sum_take {l:List Nat} {i:Nat}:(l.take i).sum≤l.sum:=by
 have:=congrArg List.sum (List.take_append_drop i l)
 rw [List.sum_append] at this
 omega
theorem reach_split {s x:PS} (hr:zV s x):x=s∨∃ f∈s.fr,zV f x:=by
 induction hr with
 | refl=>exact .inl rfl
 | @step y f hy hf ih =>
  rcases ih with rfl | ⟨f0,h1,h2⟩
  ·exact .inr ⟨f,hf,.refl⟩
  ·exact .inr ⟨f0,h1,.step h2 hf⟩
theorem new_M {order:Int} {own:List PV} {fr:List PS} {K:PS→Er→Prop} (ho:1≤order∧order≤3) (hown:∀ v∈own,∃ z,v=.int z∧(txt z).length≤30) (hol:own.length+fr.length≤1024)
  (hfr:∀ f∈fr,f≠.nil∧(f.order=order∨f.order=1∨order=1) ∧ -10≤f.deep∧f.deep<1000)
  (hs:∀ g,Few (.mk g order (dedP own) fr (deepF fr) (emptyF (dedP own) fr)) 100000 1024) (hn:∀ f∈fr,∀ y,zV f y→y≠.nil)
  (hK:∀ g,K (.mk g order (dedP own) fr (deepF fr) (emptyF (dedP own) fr)) .ok):qq order own fr K:=by
 intro _ _
 refine ⟨fun e=>?_,fun _=>light_M (by omega) (fun v hv=>.inr ?_) ⟨fun e=>(by cases e),fun _=>clone_MS (by omega) ?_⟩⟩
 ·exfalso
  rw [Bool.or_eq_true,decide_eq_true_eq,decide_eq_true_eq] at e
  omega
 ·obtain ⟨z,h,_⟩:=hown v hv
  exact ⟨z,h⟩
 refine ⟨fun i a b m=>0≤i∧i≤own.length∧a=(ownT (own.take i.toNat) ts0).out∧b=(ownT (own.take i.toNat) ts0).keys∧m=(ownT (own.take i.toNat) ts0).keys.map fun x=>(x,true),
  fun i _ _ _=>((own.length:Int) - i).toNat,⟨by omega,by omega,rfl,rfl,rfl⟩,?_⟩
 rintro i _ _ _ ⟨h0,h1,rfl,rfl,rfl⟩
 refine ⟨fun hi=>?_,fun hi=>?_⟩
 ·have hlt:i.toNat<own.length:=by omega
  obtain ⟨z,hz,htz⟩:=hown own[i.toNat] (List.getElem_mem hlt)
  have hol':=ownT_olen (own.take i.toNat) ts0
  have htl:(own.take i.toNat).length≤1024:=by rw [List.length_take]; omega
  have hkl:(ownT (own.take i.toNat) ts0).keys.length=(ownT (own.take i.toNat) ts0).out.length:=by rw [ownT_keys _ _ rfl,List.length_map]
  have h00:ts0.out.length=0:=rfl
  refine ⟨fun a b m=>a=(ownT (own.take (i.toNat+1)) ts0).out∧b=(ownT (own.take (i.toNat+1)) ts0).keys∧m=(ownT (own.take (i.toNat+1)) ts0).keys.map fun x=>(x,true),⟨⟨h0,by omega⟩,?_⟩,?_⟩
  ·rw [zt hlt,ownT_snoc _ _ _ hlt,hz]
   refine key_int (by omega) ⟨fun e=>absurd rfl e,fun _=>⟨by simp [keyP,maxLen]; omega,fun e=>?_,fun e=>?_⟩⟩
   ·replace e:=mget_out (by rw [Bool.not_eq_true'] at e; exact e)
    refine ⟨⟨by simp [keyP,maxLen]; omega,by simp [maxLen]; omega⟩,True,⟨by simp; omega,by simp; omega,trivial⟩,fun _=>?_⟩
    unfold stepT
    rw [if_neg e,mput_true e]
    exact ⟨rfl,rfl,rfl⟩
   ·replace e:=mget_in (by rw [Bool.not_eq_false'] at e; exact e)
    unfold stepT
    rw [if_pos e]
    exact ⟨rfl,rfl,rfl⟩
  ·rintro _ _ _ ⟨rfl,rfl,rfl⟩
   refine ⟨by simp only [In]; omega,⟨by omega,by omega,?_⟩,by dsimp only; omega⟩
   rw [show (i+1).toNat=i.toNat+1 by omega]
   exact ⟨rfl,rfl,rfl⟩
 ·have e1:own.take i.toNat=own:=List.take_of_length_le (by omega)
  rw [e1]
  refine ⟨fun k d e=>0≤k∧k≤fr.length∧d=deepF (fr.take k.toNat)∧e=emptyF (dedP own) (fr.take k.toNat),fun k _ _=>((fr.length:Int) - k).toNat,⟨by omega,by omega,rfl,rfl⟩,?_⟩
  rintro k _ _ ⟨k0,k1,rfl,rfl⟩
  refine ⟨fun hk=>?_,fun hk=>?_⟩
  ·have hlt:k.toNat<fr.length:=by omega
   obtain ⟨f1,f2,f3,f4⟩:=hfr _ (List.getElem_mem hlt)
   rw [zt hlt]
   refine ⟨⟨k0,by omega⟩,f1,fun e=>?_,fun _=>⟨by simp only [In]; omega,by simp only [In]; omega,⟨by omega,by omega,?_,?_⟩,by dsimp only; omega⟩⟩
   ·exfalso
    simp only [Bool.and_eq_true,Bool.not_eq_true',decide_eq_false_iff_not] at e
    rcases f2 with f2 | f2 | f2
    ·exact e.1.1 f2
    ·exact e.1.2 f2
    ·exact e.2 f2
   ·rw [show (k+1).toNat=k.toNat+1 by omega,List.take_add_one,List.getElem?_eq_getElem hlt]
    unfold deepF
    rw [List.foldl_append]; rfl
   ·rw [show (k+1).toNat=k.toNat+1 by omega,List.take_add_one,List.getElem?_eq_getElem hlt]
    unfold emptyF
    rw [List.foldl_append]; rfl
  ·have e2:fr.take k.toNat=fr:=List.take_of_length_le (by omega)
   rw [e2]
   have hd:=deepF_bd fr 0 1000 (by omega) (by omega) fun f hf=>(hfr f hf).2.2.2
   have hd':deepF fr≤1000:=hd.2
   refine ⟨fun _=>by simp only [In]; omega,fun e=>?_,fun _=>⟨fun x hx=>?_,?_,fun x hx=>(hfr x hx).1,fun g=>⟨(by intro e; cases e),(hs g).some,fun l hl=>?_⟩⟩⟩
   ·exfalso
    simp only [Bool.or_eq_true,decide_eq_true_eq] at e
    omega
   ·obtain ⟨z,h,_⟩:=hown x (dedP_sub hx)
    exact ⟨z,h⟩
   ·exact ownT_keys own ts0 rfl
   ·have hsum:=(hs g).sum l hl
    have hll:=(hs g).some l hl.toSome'
    have hnn:∀ x∈l,x≠.nil:=fun x hx=>by
     have hr:=hl.re x hx
     rcases reach_split hr with rfl | ⟨f,h1,h2⟩
     ·intro e; cases e
     ·exact hn f h1 x h2
    refine ⟨fun n q=>0≤q∧q≤l.length∧n=(((l.take q.toNat).map fun x=>x.own.length).sum:Nat),fun _ q=>((l.length:Int) - q).toNat,⟨by omega,by omega,rfl⟩,?_⟩
    rintro n q ⟨q0,q1,rfl⟩
    refine ⟨fun hq=>?_,fun _=>hK g⟩
    have hlt:q.toNat<l.length:=by omega
    rw [zt hlt]
    have e3:((l.take (q.toNat+1)).map fun x=>x.own.length).sum=((l.take q.toNat).map fun x=>x.own.length).sum+l[q.toNat].own.length:=by
     rw [List.take_add_one,List.getElem?_eq_getElem hlt,List.map_append,List.sum_append]
     show _+List.sum [_]=_
     simp
    have e4:((l.take (q.toNat+1)).map fun x=>x.own.length).sum≤(l.map fun x=>x.own.length).sum:=by
     rw [List.map_take]; exact sum_take
    refine ⟨⟨q0,by omega⟩,hnn _ (List.getElem_mem hlt),by simp only [In]; omega,fun e=>by omega,fun _=>⟨by simp only [In]; omega,⟨by omega,by omega,?_⟩,by dsimp only; omega⟩⟩
    rw [show (q+1).toNat=q.toNat+1 by omega,e3]
    omega
structure AllIn (s:PS) (C:List PS):Prop where
 top:s∈C
 nn:∀ x∈C,x≠.nil
 cl:∀ x∈C,∀ f∈x.fr,f∈C
theorem AllIn.reach {s:PS} {C:List PS} (h:AllIn s C):∀ x,zV s x→x∈C:=fun x hr=>by
 induction hr with
 | refl=>exact h.top
 | step _ hf ih=>exact h.cl _ ih _ hf
theorem AllIn.few {s:PS} {C:List PS} {n k:Nat} (h:AllIn s C) (hn:C.length≤n) (hk:∀ x∈C,x.own.length≤k):Few s n (n*k):=by
 have key:∀ l,Some' s l→l.length≤n:=fun l hl=>by
  have h1:=List.Nodup.length_le_of_subset hl.nd (l₂:=C.map PS.id) fun i hi=>by
   obtain ⟨x,hx,rfl⟩:=List.mem_map.1 hi
   exact List.mem_map.2 ⟨x,h.reach x (hl.re x hx),rfl⟩
  rw [List.length_map,List.length_map] at h1
  omega
 refine ⟨key,fun l hl=>?_⟩
 have h1:=key l hl.toSome'
 have h2:∀ l:List PS,(∀ x∈l,x∈C)→(l.map fun x=>x.own.length).sum≤l.length*k:=fun l=>by
  induction l with
  | nil=>intro _; simp
  | cons x l ih =>
   intro h
   have:=ih fun y hy=>h y (List.mem_cons_of_mem _ hy)
   have h3:=hk x (h x List.mem_cons_self)
   simp only [List.map_cons,List.sum_cons,List.length_cons,Nat.succ_mul]
   omega
 exact Nat.le_trans (h2 l fun x hx=>h.reach x (hl.re x hx)) (Nat.mul_le_mul_right k h1)
theorem Few.mono {s:PS} {n m n' m':Nat} (h:Few s n m) (a:n≤n') (b:m≤m'):Few s n' m':=⟨fun l hl=>Nat.le_trans (h.some l hl) a,fun l hl=>Nat.le_trans (h.sum l hl) b⟩
theorem uniq_id {C:List PS} (nd:(C.map PS.id).Nodup) {x y:PS} (hx:x∈C) (hy:y∈C) (e:x.id=y.id):x=y:=by
 induction C with
 | nil=>cases hx
 | cons c C ih =>
  rw [List.map_cons,List.nodup_cons] at nd
  rcases List.mem_cons.1 hx with h1 | h1
  ·rcases List.mem_cons.1 hy with h2 | h2
   ·rw [h1,h2]
   ·exact absurd (List.mem_map.2 ⟨y,h2,by rw [←e,h1]⟩) nd.1
  ·rcases List.mem_cons.1 hy with h2 | h2
   ·exact absurd (List.mem_map.2 ⟨x,h1,by rw [e,h2]⟩) nd.1
   ·exact ih nd.2 h1 h2
theorem AllIn.size {s:PS} {C:List PS} (h:AllIn s C) (hr:∀ x∈C,zV s x) (nd:(C.map PS.id).Nodup) {l:List PS} (hl:SetsOf s l):l.length=C.length:=by
 have h1:∀ x,zV s x→x∈l:=fun x hx=>by
  induction hx with
  | refl=>exact hl.top
  | @step x f hx hf ih =>
   obtain ⟨y,hy,e⟩:=hl.cl x ih f hf
   have:=uniq_id nd (h.reach y (hl.re y hy)) (h.cl x (h.reach x hx) f hf) e
   exact this ▸ hy
 have h2:=List.Nodup.length_le_of_subset hl.nd (l₂:=C.map PS.id) fun i hi=>by
  obtain ⟨x,hx,rfl⟩:=List.mem_map.1 hi
  exact List.mem_map.2 ⟨x,h.reach x (hl.re x hx),rfl⟩
 have h3:=List.Nodup.length_le_of_subset nd (l₂:=l.map PS.id) fun i hi=>by
  obtain ⟨x,hx,rfl⟩:=List.mem_map.1 hi
  exact List.mem_map.2 ⟨x,h1 x (hr x hx),rfl⟩
 simp only [List.length_map] at h2 h3
 omega
end Go.Proofs.YtjjcdkfhaceicaaGreatDoor
 
namespace Go.Proofs.YtjjcdkfhaceicaaGreatDoor
open Go Go.RowKit
def dval:List UInt8→Nat:=fun t=>t.foldl (fun v c=>v*10+(c.toNat - 48)) 0
theorem dval_push (a:List UInt8) (c:UInt8):dval (a++[c])=dval a*10+(c.toNat - 48):=by simp [dval]
def digB (c:UInt8):Bool:=decide (48≤c.toNat∧c.toNat≤57)
end Go.Proofs.YtjjcdkfhaceicaaGreatDoor
 
namespace Go.Proofs.YtjjcdkfhaceicaaGreatDoor
open Go Go.RowKit
theorem dc_of {v:Nat} {c:UInt8} (h:digB c=true):dc (v*10+(c.toNat - 48))=c:=by
 have h':=of_decide_eq_true h
 unfold dc
 apply UInt8.toNat_inj.mp
 rw [UInt8.toNat_ofNat']
 omega
theorem dd_dval:∀ (k:Nat) (t:List UInt8),t.length=k→t.all digB=true→t.head?≠some 48→dd (dval t)=t.reverse:=by
 intro k
 induction k with
 | zero=>intro t ht _ _; obtain rfl:t=[]:=List.length_eq_zero_iff.mp ht; simp [dval,dd_zero]
 | succ k ih =>
  intro t ht hall hh
  have hne:t≠[]:=by intro e; subst e; simp at ht
  obtain ⟨s,c,rfl⟩:∃ s c,t=s++[c]:=⟨t.dropLast,t.getLast hne,(List.dropLast_concat_getLast hne).symm⟩
  simp only [List.all_append,List.all_cons,List.all_nil,Bool.and_true,Bool.and_eq_true] at hall
  have hs:s.length=k:=by simpa using ht
  have hc:=of_decide_eq_true hall.2
  rw [dval_push,List.reverse_append]
  simp only [List.reverse_cons,List.reverse_nil,List.nil_append,List.singleton_append]
  by_cases he:s=[]
  ·subst he
   have h0:c≠48:=by intro e; subst e; simp at hh
   have h1:c.toNat≠48:=fun e=>h0 (UInt8.toNat_inj.mp (by rw [e]; rfl))
   have:dval []=0:=rfl
   rw [dd_pos (by omega),dc_of hall.2,this,show (0*10+(c.toNat - 48)) / 10=0 by omega,dd_zero]
   rfl
  ·have hh':s.head?≠some 48:=by
    cases s with
    | nil=>exact absurd rfl he
    | cons x s=>simpa using hh
   have h2:=ih s hs hall.1 hh'
   have h3:dval s≠0:=fun e=>by
    rw [e,dd_zero] at h2
    exact he (List.reverse_eq_nil_iff.mp h2.symm)
   rw [dd_pos (by omega),dc_of hall.2,show (dval s*10+(c.toNat - 48)) / 10=dval s by omega,h2]
end Go.Proofs.YtjjcdkfhaceicaaGreatDoor
 
namespace Go.Proofs.YtjjcdkfhaceicaaGreatDoor
open Go Go.RowKit
def lv:List Int→Int
 | []=>0
 | x :: l=>x+10000*lv l
def Lb (l:List Int):Prop:=∀ x∈l,0≤x∧x<10000
def Cn (l:List Int):Prop:=Lb l∧(l=[]∨l.getD (l.length - 1) 0≠0)
theorem lpow_succ (n:Nat):(10000:Int) ^ (n+1)=10000*10000 ^ n:=by rw [Int.pow_succ,Int.mul_comm]
theorem lpow_pos (n:Nat):(0:Int)<10000 ^ n:=by
 induction n with
 | zero=>decide
 | succ n ih=>rw [lpow_succ]; omega
theorem lpow_mono {m n:Nat} (h:m≤n):(10000:Int) ^ m≤10000 ^ n:=by
 induction n with
 | zero=>rw [Nat.le_zero.1 h]; exact Int.le_refl _
 | succ n ih =>
  rcases Nat.lt_or_ge m (n+1) with h1 | h1
  ·have:=ih (by omega)
   have:=lpow_pos n
   rw [lpow_succ]; omega
  ·obtain rfl:m=n+1:=by omega
   exact Int.le_refl _
theorem lv_append (a b:List Int):lv (a++b)=lv a+10000 ^ a.length*lv b:=by
 induction a with
 | nil=>simp [lv]
 | cons x a ih=>simp only [List.cons_append,lv,ih,List.length_cons,lpow_succ]; grind
theorem lv_push (a:List Int) (x:Int):lv (a++[x])=lv a+10000 ^ a.length*x:=by
 rw [lv_append]; simp [lv]
theorem Lb.nil:Lb []:=fun _ h=>by cases h
theorem Lb.push {a:List Int} {x:Int} (ha:Lb a) (h0:0≤x) (h1:x<10000):Lb (a++[x]):=fun y h=>by
 rcases List.mem_append.1 h with h | h
 ·exact ha y h
 ·simp at h; subst h; exact ⟨h0,h1⟩
theorem Lb.cons {a:List Int} {x:Int} (ha:Lb a) (h0:0≤x) (h1:x<10000):Lb (x :: a):=fun y h=>by
 rcases List.mem_cons.1 h with h | h
 ·subst h; exact ⟨h0,h1⟩
 ·exact ha y h
theorem Lb.take {a:List Int} (ha:Lb a) (n:Nat):Lb (a.take n):=fun x h=>ha x (List.mem_of_mem_take h)
theorem Lb.drop {a:List Int} (ha:Lb a) (n:Nat):Lb (a.drop n):=fun x h=>ha x (List.mem_of_mem_drop h)
theorem Lb.getD {l:List Int} (h:Lb l) (i:Nat):0≤l.getD i 0∧l.getD i 0<10000:=by
 rcases Nat.lt_or_ge i l.length with h1 | h1
 ·have:=h _ (List.getElem_mem h1)
  simpa [List.getD,h1] using this
 ·simp [List.getD,List.getElem?_eq_none h1]
theorem Lb.set {l:List Int} (h:Lb l) (i:Nat) {x:Int} (h0:0≤x) (h1:x<10000):Lb (l.set i x):=fun y hy=>by
 rcases List.mem_or_eq_of_mem_set hy with h2 | h2
 ·exact h y h2
 ·subst h2; exact ⟨h0,h1⟩
theorem lv_nonneg:∀ {l:List Int},Lb l→0≤lv l
 | [],_=>by simp [lv]
 | x :: l,h=>by
  have h1:=h x (by simp)
  have h2:=lv_nonneg (l:=l) fun y hy=>h y (by simp [hy])
  simp only [lv]; omega
theorem lv_take_succ:∀ (l:List Int) (i:Nat),lv (l.take (i+1))=lv (l.take i)+10000 ^ i*l.getD i 0
 | [],i=>by simp [lv]
 | x :: l,0=>by simp [lv]
 | x :: l,i+1=>by
  have ih:=lv_take_succ l i
  simp only [List.take_succ_cons,lv,List.getD_cons_succ,lpow_succ] at ih ⊢
  rw [ih]; grind
theorem Cn.ge {l:List Int} (h:Cn l) (hne:l≠[]):(10000:Int) ^ (l.length - 1)≤lv l:=by
 have hl:0<l.length:=List.length_pos_iff.2 hne
 have h1:=h.2.resolve_left hne
 have h2:=h.1.getD (l.length - 1)
 have h3:=lv_take_succ l (l.length - 1)
 rw [show l.length - 1+1=l.length by omega,List.take_length] at h3
 have h4:=lv_nonneg (h.1.take (l.length - 1))
 have h5:(10000:Int) ^ (l.length - 1)*1≤10000 ^ (l.length - 1)*l.getD (l.length - 1) 0:=Int.mul_le_mul_of_nonneg_left (by omega) (Int.le_of_lt (lpow_pos _))
 omega
theorem Cn.nil:Cn []:=⟨Lb.nil,.inl rfl⟩
theorem Cn.zero {l:List Int} (h:Cn l):lv l=0↔l=[]:=by
 constructor
 ·intro h1
  rcases Decidable.em (l=[]) with h2 | h2
  ·exact h2
  ·have:=h.ge h2
   have:=lpow_pos (l.length - 1)
   omega
 ·rintro rfl; rfl
end Go.Proofs.YtjjcdkfhaceicaaGreatDoor
 
namespace Go.Proofs.YtjjcdkfhaceicaaGreatDoor
open Go Go.RowKit
def fourB (x:Int):List UInt8:=[dc (x.toNat / 1000),dc (x.toNat / 100),dc (x.toNat / 10),dc x.toNat]
def tops:List Int→List UInt8
 | []=>[]
 | x :: l=>tops l++fourB x
theorem dval_four (s:List UInt8) {x:Int} (h0:0≤x) (h1:x<10000):(dval (s++fourB x):Int)=dval s*10000+x:=by
 have e:s++fourB x=(((s++[dc (x.toNat / 1000)])++[dc (x.toNat / 100)])++[dc (x.toNat / 10)])++[dc x.toNat]:=by simp [fourB]
 rw [e,dval_push,dval_push,dval_push,dval_push,dc_toNat,dc_toNat,dc_toNat,dc_toNat]
 omega
theorem dig_dc (n:Nat):digB (dc n)=true:=by
 unfold digB
 rw [dc_toNat,decide_eq_true_eq]
 omega
theorem tops_spec:∀ {l:List Int},Lb l→(dval (tops l):Int)=lv l∧(tops l).all digB=true
 | [],_=>⟨rfl,rfl⟩
 | x :: l,h=>by
  have hx:=h x (by simp)
  obtain ⟨h1,h2⟩:=tops_spec (l:=l) fun y hy=>h y (by simp [hy])
  refine ⟨?_,?_⟩
  ·rw [tops,dval_four _ hx.1 hx.2,h1,lv]
   omega
  ·rw [tops,List.all_append,h2]
   simp [fourB,dig_dc]
theorem tops_len:∀ l:List Int,(tops l).length=4*l.length
 | []=>rfl
 | x :: l=>by rw [tops,List.length_append,tops_len l]; simp [fourB]; omega
theorem tops_drop (l:List Int) {i:Nat} (h:i<l.length):tops (l.drop i)=tops (l.drop (i+1))++fourB (l.getD i 0):=by
 rw [List.drop_eq_getElem_cons h,tops]
 simp [List.getD,h]
theorem dval_zero_cons (s:List UInt8):dval (48 :: s)=dval s:=by simp [dval]
theorem dval_drop_zeros:∀ (k:Nat) (s:List UInt8),(∀ j,j<k→s.getD j 0=48)→k≤s.length→dval (s.drop k)=dval s
 | 0,s,_,_=>rfl
 | k+1,[],_,h=>by simp at h
 | k+1,c :: s,h,hl=>by
  have hc:c=48:=h 0 (by omega)
  subst hc
  rw [List.drop_succ_cons,dval_zero_cons]
  exact dval_drop_zeros k s (fun j hj=>by simpa using h (j+1) (by omega)) (by simpa using hl)
theorem txt_of_digits {s:List UInt8} (hd:s.all digB=true) (hh:s.head?≠some 48) (neg:Bool):txt (if neg then -(dval s:Int) else dval s)=if s=[] then [48] else if neg then 45 :: s else s:=by
 by_cases e:s=[]
 ·subst e
  cases neg <;> rfl
 ·rw [if_neg e]
  have hdd:=dd_dval s.length s rfl hd hh
  have hpos:0<dval s:=by
   rcases Nat.eq_zero_or_pos (dval s) with h0 | h0
   ·rw [h0,dd_zero] at hdd
    exact absurd (by simpa using hdd.symm) e
   ·exact h0
  unfold txt
  cases neg with
  | true=>rw [if_neg (by simp; omega),if_pos (by simp; omega)]; simp [hdd]
  | false=>rw [if_neg (by simp; omega),if_neg (by simp)]; simp [hdd]
theorem trim_spec {l:List Int} (h:Lb l) {n:Nat} (hn:n≤l.length) (hz:∀ j,n≤j→l.getD j 0=0) (ht:n=0∨l.getD (n - 1) 0≠0):Cn (l.take n)∧lv (l.take n)=lv l:=by
 refine ⟨⟨h.take n,?_⟩,?_⟩
 ·rcases ht with rfl | ht
  ·exact .inl rfl
  ·by_cases e:n=0
   ·subst e; exact .inl rfl
   ·refine .inr ?_
    rw [List.length_take,Nat.min_eq_left hn]
    simp only [List.getD,List.getElem?_take] at ht ⊢
    rw [if_pos (by omega)]
    exact ht
 ·have:∀ k,lv (l.take (n+k))=lv (l.take n):=by
   intro k
   induction k with
   | zero=>rfl
   | succ k ih=>rw [←Nat.add_assoc,lv_take_succ,hz _ (by omega),ih]; simp
  have h2:=this (l.length - n)
  rw [show n+(l.length - n)=l.length by omega,List.take_length] at h2
  exact h2.symm
end Go.Proofs.YtjjcdkfhaceicaaGreatDoor
 
namespace Go.Proofs.YtjjcdkfhaceicaaGreatDoor
open Go Go.RowKit
structure RN (neg:Bool) (L:List Int) (z:Int) (m:Nat):Prop where
 cn:Cn L
 zr:L=[]→neg=false
 val:z=bif neg then -lv L else lv L
 len:L.length≤m
theorem lgetD_ge {l:List Int} {j:Nat} (h:l.length≤j):l.getD j 0=0:=by simp [List.getD,List.getElem?_eq_none h]
theorem trim_M {neg:Bool} {l:List Int} {K:Bool→List Int→Prop} (h:Lb l) (hl:l.length≤100000) (k:∀ L,Cn L→lv L=lv l→L.length≤l.length→K (neg && decide ((0:Int)<(L.length:Int))) L):z5 neg l K:=by
 intro _
 refine ⟨fun n=>0≤n∧n≤l.length∧∀ j,n.toNat≤j→l.getD j 0=0,fun n=>n.toNat,⟨by omega,by omega,fun j hj=>lgetD_ge (by omega)⟩,fun n ⟨a0,a1,a2⟩=>⟨fun h1=>?_,fun h1=>?_,fun h1=>?_,fun h1=>⟨by omega,?_⟩⟩⟩
 ·rw [decide_eq_true_eq] at h1; simp only [In]; omega
 ·rw [decide_eq_true_eq] at h1; omega
 ·rw [Bool.and_eq_true,decide_eq_true_eq,decide_eq_true_eq] at h1
  refine ⟨by simp only [In]; omega,⟨by omega,by omega,fun j hj=>?_⟩,by dsimp only; omega⟩
  by_cases e:j=(n - 1).toNat
  ·rw [e]; exact h1.2
  ·exact a2 j (by omega)
 ·rw [Bool.and_eq_false_iff,decide_eq_false_iff_not,decide_eq_false_iff_not] at h1
  have ht:n.toNat=0∨l.getD (n.toNat - 1) 0≠0:=by
   rcases h1 with h1 | h1
   ·exact .inl (by omega)
   ·rw [show (n - 1).toNat=n.toNat - 1 by omega] at h1
    exact .inr h1
  obtain ⟨hC,hv⟩:=trim_spec h (n:=n.toNat) (by omega) a2 ht
  have hlen:(l.take n.toNat).length=n.toNat:=by rw [List.length_take]; omega
  have:=k _ hC hv (by omega)
  rw [hlen] at this
  rw [List.drop_zero,Nat.sub_zero]
  rw [show decide ((0:Int)<((n.toNat:Nat):Int))=decide ((0:Int)<n) by rw [Bool.eq_iff_iff,decide_eq_true_eq,decide_eq_true_eq]; omega] at this
  exact this
theorem trimR_M {neg:Bool} {l:List Int} {z:Int} {m:Nat} {K:Bool→List Int→Prop} (h:Lb l) (hl:l.length≤m) (hm:m≤100000) (hz:z=bif neg then -lv l else lv l) (k:∀ n L,RN n L z m→K n L):z5 neg l K :=
 trim_M h (by omega) fun L hC hv hL=>k _ L ⟨hC,fun e=>by subst e; simp,by
  by_cases e:L=[]
  ·subst e
   have h0:lv l=0:=by rw [←hv]; rfl
   rw [hz,h0]
   simp [lv]
  ·have:0<L.length:=List.length_pos_iff.2 e
   rw [decide_eq_true (by omega),Bool.and_true,hz,hv],by omega⟩
end Go.Proofs.YtjjcdkfhaceicaaGreatDoor
 
namespace Go.Proofs.YtjjcdkfhaceicaaGreatDoor
open Go Go.RowKit
end Go.Proofs.YtjjcdkfhaceicaaGreatDoor
 namespace Go.Proofs.YtjjcdkfhaceicaaGreatDoor
open Go Go.RowKit
attribute [local irreducible] WL WC WX WQ WK Yld Eff Ef0 Fn
theorem Dg.cons {l:List Nat} (h:Dg l) {d:Nat} (hd:d<1000000000):Dg (d :: l):=fun i=>by
 cases i with
 | zero=>simpa using hd
 | succ i=>simpa using h i
end Go.Proofs.YtjjcdkfhaceicaaGreatDoor
 namespace Go.Proofs.YtjjcdkfhaceicaaGreatDoor
open Go Go.RowKit
attribute [local irreducible] WL WC WX WQ WK Yld Eff Ef0 Fn
theorem Nm.no {w:World} {a b:Value} {z:Int} {m:Nat} (h:Nm w (.agg ⟨[a,b]⟩) z m):∀ u∈[a,b],∀ x,u≠vd x:=by
 obtain ⟨neg,A,c,l,h1,_⟩:=h
 simp only [Value.agg.injEq,Array.mk.injEq,List.cons.injEq,and_true] at h1
 obtain ⟨rfl,rfl⟩:=h1
 intro u hu x
 simp only [List.mem_cons,List.not_mem_nil,or_false] at hu
 rcases hu with rfl | rfl <;> intro e <;> cases e
def Floor (x y q r:Int):Prop:=x=q*y+r∧((0≤r∧r<y)∨(y<r∧r≤0))
theorem Floor.ne {x y q r:Int} (h:Floor x y q r):y≠0:=by
 rcases h.2 with h | h <;> omega
end Go.Proofs.YtjjcdkfhaceicaaGreatDoor
 
namespace Go.Proofs.YtjjcdkfhaceicaaGreatDoor
open Go Go.RowKit
theorem of_M {n:Int} {K:Bool→List Int→Prop} (hn:In .i64 n) (k:∀ s L,RN s L n 5→K s L):qD n K:=by
 simp only [In] at hn
 refine ⟨fun l m=>(-9223372036854775808≤m∧m≤9223372036854775807)∧Lb l∧l.length≤5∧(m≠0→l.length<5)∧lv l+10000 ^ l.length*(m.natAbs:Int)=n.natAbs,fun _ m=>m.natAbs,⟨by omega,Lb.nil,by simp,fun _=>by simp,by simp [lv]⟩,fun l m ⟨⟨a0,a0'⟩,a1,a2,a3,a4⟩=>⟨fun h=>⟨by decide,?_⟩,fun h=>?_⟩⟩
 ·have h1:(m.tmod 10000).natAbs=m.natAbs % 10000:=by rw [Int.natAbs_tmod]; rfl
  have h2:(m.tdiv 10000).natAbs=m.natAbs / 10000:=by rw [Int.natAbs_tdiv]; rfl
  have h3:=a3 h
  refine ⟨fun d=>d=((m.natAbs % 10000:Nat):Int),⟨fun h4=>⟨by simp only [In]; omega,by omega⟩,fun h4=>by omega⟩,?_⟩
  rintro d rfl
  have hw:IntKind.wrap .i64 (m.tdiv 10000)=m.tdiv 10000:=by
   simp only [IntKind.wrap,IntKind.bits,IntKind.signed]
   simp
   split <;> omega
  have hv:lv (l++[((m.natAbs % 10000:Nat):Int)])+10000 ^ (l.length+1)*((m.tdiv 10000).natAbs:Int)=n.natAbs:=by
   rw [lv_push,h2,lpow_succ,←a4]
   have:(m.natAbs:Int)=((m.natAbs % 10000:Nat):Int)+10000*((m.natAbs / 10000:Nat):Int):=by omega
   rw [this]
   generalize (10000:Int) ^ l.length=P
   grind
  rw [hw]
  refine ⟨by simp only [List.length_singleton]; omega,by decide,⟨⟨by omega,by omega⟩,a1.push (by omega) (by omega),by simp; omega,fun h5=>?_,by simpa using hv⟩,by dsimp only; omega⟩
  rw [List.length_append,List.length_singleton]
  rcases Nat.lt_or_ge (l.length+1) 5 with h6 | h6
  ·exact h6
  ·exfalso
   have h7:=lpow_mono (m:=5) (n:=l.length+1) h6
   have h8:=lv_nonneg (l:=l++[((m.natAbs % 10000:Nat):Int)]) (a1.push (by omega) (by omega))
   have h9:(10000:Int) ^ (l.length+1)*1≤10000 ^ (l.length+1)*((m.tdiv 10000).natAbs:Int):=Int.mul_le_mul_of_nonneg_left (by omega) (Int.le_of_lt (lpow_pos _))
   omega
 ·subst h
  have hv:lv l=n.natAbs:=by simpa using a4
  exact trimR_M a1 (m:=5) a2 (by omega) (by
   rw [hv]
   by_cases hneg:n<0
   ·rw [decide_eq_true hneg]; simp; omega
   ·rw [decide_eq_false hneg]; simp; omega) k
theorem RN.mono {s:Bool} {L:List Int} {z:Int} {m k:Nat} (h:RN s L z m) (hk:m≤k):RN s L z k:=⟨h.cn,h.zr,h.val,Nat.le_trans h.len hk⟩
theorem RN.nil (m:Nat):RN false [] 0 m:=⟨Cn.nil,fun _=>rfl,rfl,by simp⟩
end Go.Proofs.YtjjcdkfhaceicaaGreatDoor
 namespace Go.Proofs.YtjjcdkfhaceicaaGreatDoor
open Go Go.RowKit
attribute [local irreducible] WL WC WX WQ WK Yld Eff Ef0 Fn
def In64 (x:Int):Prop := -9223372036854775808≤x∧x≤9223372036854775807
end Go.Proofs.YtjjcdkfhaceicaaGreatDoor
 
namespace Go.Proofs.YtjjcdkfhaceicaaGreatDoor
open Go Go.RowKit
theorem dig1 {a:Int} (h0:0≤a) (h1:a<10):((([48,49,50,51,52,53,54,55,56,57]:List UInt8).drop a.toNat).take ((a+(1:Int)).toNat - a.toNat))=[dc a.toNat]:=by
 have:∀ n:Fin 10,((([48,49,50,51,52,53,54,55,56,57]:List UInt8).drop n.val).take 1)=[dc n.val]:=by decide
 rw [show (a+1).toNat - a.toNat=1 by omega]
 exact this ⟨a.toNat,by omega⟩
theorem dc_mod {m n:Nat} (h:m % 10=n % 10):dc m=dc n:=by unfold dc; rw [h]
theorem four_M {x:Int} {K:List UInt8→Prop} (h0:0≤x) (h1:x<10000) (k:K (fourB x)):z4 x K:=by
 unfold z4
 rw [dig1 (a:=x / 1000) (by omega) (by omega),dig1 (a:=x / 100 % 10) (by omega) (by omega),dig1 (a:=x / 10 % 10) (by omega) (by omega),dig1 (a:=x % 10) (by omega) (by omega)]
 have e:fourB x=((([dc (x / 1000).toNat]++[dc (x / 100 % 10).toNat])++[dc (x / 10 % 10).toNat])++[dc (x % 10).toNat]):=by
  unfold fourB
  rw [dc_mod (show x.toNat / 1000 % 10=(x / 1000).toNat % 10 by omega),dc_mod (show x.toNat / 100 % 10=(x / 100 % 10).toNat % 10 by omega),dc_mod (show x.toNat / 10 % 10=(x / 10 % 10).toNat % 10 by omega),dc_mod (show x.toNat % 10=(x % 10).toNat % 10 by omega)]
  rfl
 rw [←e]
 refine ⟨⟨by omega,by omega,by simp only [In]; omega⟩,⟨by omega,by omega,by simp only [In]; omega⟩,by omega,⟨by omega,by omega,by simp only [In]; omega⟩,by omega,by omega,by simp only [In]; omega,by simp only [List.length_cons,List.length_nil]; omega,by simp only [In]; omega,by simp only [List.length_cons,List.length_nil]; omega,by simp,by simp only [In]; omega,by simp only [List.length_cons,List.length_nil]; omega,by simp,by simp only [In]; omega,by simp only [List.length_cons,List.length_nil]; omega,by simp,k⟩
theorem all_sub {d e:List UInt8} (h:d.all digB=true) (hs:∀ x∈e,x∈d):e.all digB=true:=by
 rw [List.all_eq_true] at h ⊢
 exact fun x hx=>h x (hs x hx)
theorem rtext_M {s:Bool} {L:List Int} {z:Int} {m:Nat} {K:List UInt8→Prop} (h:RN s L z m) (hm:m≤10000) (k:K (txt z)):zz s L K:=by
 intro _
 have hl:=h.len
 refine ⟨by simp only [In]; omega,fun t i => -1≤i∧i<L.length∧t=tops (L.drop (i+1).toNat),fun _ i=>(i+1).toNat,⟨by omega,by omega,?_⟩,fun t i ⟨a0,a1,a2⟩=>⟨fun hi=>?_,fun hi=>?_⟩⟩
 ·rw [List.drop_eq_nil_of_le (by omega)]; rfl
 ·have g:=h.cn.1.getD i.toNat
  refine ⟨by omega,four_M g.1 g.2 ⟨?_,by simp only [In]; omega,⟨by omega,by omega,?_⟩,by dsimp only; omega⟩⟩
  ·rw [a2,tops_len,List.length_drop]; simp [fourB]; omega
  ·rw [show (i - 1+1).toNat=i.toNat by omega,tops_drop L (by omega),a2,show (i+1).toNat=i.toNat+1 by omega]
 ·have ht:t=tops L:=by rw [a2,show (i+1).toNat=0 by omega,List.drop_zero]
  obtain ⟨hv,hd⟩:=tops_spec h.cn.1
  rw [←ht] at hv hd
  have htl:t.length≤40000:=by rw [ht,tops_len]; omega
  refine ⟨fun kk=>0≤kk∧kk≤t.length∧∀ j,j<kk.toNat→t.getD j 0=48,fun kk=>(t.length - kk).toNat,⟨by omega,by omega,fun j hj=>by simp at hj⟩,fun kk ⟨b0,b1,b2⟩=>⟨fun h1=>?_,fun h1=>?_,fun h1=>⟨by omega,?_⟩⟩⟩
  ·rw [decide_eq_true_eq] at h1; omega
  ·rw [Bool.and_eq_true,decide_eq_true_eq,decide_eq_true_eq] at h1
   refine ⟨by simp only [In]; omega,⟨by omega,by omega,fun j hj=>?_⟩,by dsimp only; omega⟩
   by_cases e:j=kk.toNat
   ·rw [e]; exact UInt8.toNat_inj.mp (by have:=h1.2; rw [show (48:UInt8).toNat=48 from rfl]; omega)
   ·exact b2 j (by omega)
  ·rw [Bool.and_eq_false_iff,decide_eq_false_iff_not,decide_eq_false_iff_not] at h1
   have hdv:=dval_drop_zeros kk.toNat t b2 (by omega)
   have hh:(t.drop kk.toNat).head?≠some 48:=by
    intro e
    rw [List.head?_drop] at e
    obtain ⟨hlt,he⟩:=List.getElem?_eq_some_iff.1 e
    rcases h1 with h1 | h1
    ·omega
    ·apply h1
     simp [List.getD,hlt,he]
   have hall:(t.drop kk.toNat).all digB=true:=all_sub hd fun x hx=>List.mem_of_mem_drop hx
   have hz:z=if s=true then -(dval (t.drop kk.toNat):Int) else dval (t.drop kk.toNat):=by
    rw [hdv,hv,h.val]
    cases s <;> rfl
   have hx:=txt_of_digits hall hh s
   rw [←hz] at hx
   rw [hx] at k
   refine ⟨fun h2=>?_,fun h2=>⟨fun h3=>⟨by simp only [List.length_cons,List.length_nil,List.length_drop]; omega,?_⟩,fun h3=>?_⟩⟩
   ·rw [if_pos h2] at k; exact k
   ·rw [if_neg h2,if_pos h3] at k; exact k
   ·rw [if_neg h2,if_neg (by rw [h3]; decide)] at k; exact k
instance decIn64 (x:Int):Decidable (In64 x):=inferInstanceAs (Decidable (-9223372036854775808≤x∧x≤9223372036854775807))
end Go.Proofs.YtjjcdkfhaceicaaGreatDoor
 
namespace Go.Proofs.YtjjcdkfhaceicaaGreatDoor
open Go Go.RowKit
def zR (x:RV):Int:=bif x.2.1.1 then -(lv x.2.1.2) else lv x.2.1.2
def pvR (x:RV):PV:=.int (zR x)
structure OkN (x:RV):Prop where
 kind:x.1=3
 obj:x.2.2=.nil
 rn:RN x.2.1.1 x.2.1.2 (zR x) 5
structure MirQ (P:List (PS × RV)) (q:PS × RV):Prop where
 an:q.1≠.nil
 bn:q.2.2.2≠.nil
 itm:∀ x∈q.2.2.2.items,OkN x
 own:q.1.own=q.2.2.2.items.map pvR
 ord:q.1.order=q.2.2.2.order
 deep:q.1.deep=q.2.2.2.deep
 fr:∃ l:List (PS × RV),(∀ p∈l,p∈P)∧q.1.fr=l.map Prod.fst∧q.2.2.2.fr=l.map Prod.snd
structure MirP (P:List (PS × RV)):Prop where
 nda:(P.map fun q=>q.1.id).Nodup
 ndb:(P.map fun q=>q.2.2.2.id).Nodup
 ok:∀ q∈P,MirQ P q
theorem MirQ.mono {P P':List (PS × RV)} {q:PS × RV} (h:MirQ P q) (hs:∀ p∈P,p∈P'):MirQ P' q:=by
 obtain ⟨l,h1,h2,h3⟩:=h.fr
 exact ⟨h.an,h.bn,h.itm,h.own,h.ord,h.deep,l,fun p hp=>hs p (h1 p hp),h2,h3⟩
theorem nodup_inj {α β:Type} {f:α→β} {l:List α} (nd:(l.map f).Nodup) {x y:α} (hx:x∈l) (hy:y∈l) (e:f x=f y):x=y:=by
 induction l with
 | nil=>cases hx
 | cons c C ih =>
  rw [List.map_cons,List.nodup_cons] at nd
  rcases List.mem_cons.1 hx with h1 | h1
  ·rcases List.mem_cons.1 hy with h2 | h2
   ·rw [h1,h2]
   ·exact absurd (List.mem_map.2 ⟨y,h2,by rw [←e,h1]⟩) nd.1
  ·rcases List.mem_cons.1 hy with h2 | h2
   ·exact absurd (List.mem_map.2 ⟨x,h1,by rw [e,h2]⟩) nd.1
   ·exact ih nd.2 h1 h2
theorem PS.cases_ne {s:PS} (h:s≠.nil):∃ g o own fr d e,s=.mk g o own fr d e:=by
 cases s with
 | nil=>exact absurd rfl h
 | mk a b c d e f=>exact ⟨a,b,c,d,e,f,rfl⟩
theorem RO.cases_ne {s:RO} (h:s≠.nil):∃ g its o fr d,s=.mk g its o fr d:=by
 cases s with
 | nil=>exact absurd rfl h
 | mk a b c d e=>exact ⟨a,b,c,d,e,rfl⟩
theorem dep_succ' {n:Nat} {s:PS} (hs:s≠.nil) (h:dep n s):∃ m,n=m+1∧∀ f∈s.fr,dep m f:=by
 obtain ⟨g,o,own,fr,d,e,rfl⟩:=PS.cases_ne hs
 cases n with
 | zero=>exact h.elim
 | succ n=>exact ⟨n,rfl,h⟩
theorem depO_succ {n:Nat} {s:RO} (hs:s≠.nil) (h:depO n s):∃ m,n=m+1∧∀ f∈s.fr,depO m f.2.2:=by
 obtain ⟨g,its,o,fr,d,rfl⟩:=RO.cases_ne hs
 cases n with
 | zero=>exact h.elim
 | succ n=>exact ⟨n,rfl,h⟩
theorem dep_mk {n:Nat} {s:PS} (h:∀ f∈s.fr,dep n f):dep (n+1) s:=by
 cases s with
 | nil=>exact trivial
 | mk a b c d e f=>exact h
theorem depO_mk {n:Nat} {s:RO} (h:∀ f∈s.fr,depO n f.2.2):depO (n+1) s:=by
 cases s with
 | nil=>exact trivial
 | mk a b c d e=>exact h
theorem mir_dep {P:List (PS × RV)} (M:MirP P):∀ (n:Nat) (q:PS × RV),q∈P→(dep n q.1↔depO n q.2.2.2):=by
 intro n
 induction n with
 | zero =>
  intro q hq
  have h:=M.ok q hq
  obtain ⟨_,_,_,_,_,_,e1⟩:=PS.cases_ne h.an
  obtain ⟨_,_,_,_,_,e2⟩:=RO.cases_ne h.bn
  rw [e1,e2]
  exact Iff.rfl
 | succ n ih =>
  intro q hq
  have h:=M.ok q hq
  obtain ⟨l,hl,e1,e2⟩:=h.fr
  constructor
  ·intro hd
   obtain ⟨m,em,hf⟩:=dep_succ' h.an hd
   obtain rfl:n=m:=by omega
   refine depO_mk fun f hf'=>?_
   rw [e2] at hf'
   obtain ⟨p,hp,rfl⟩:=List.mem_map.1 hf'
   exact (ih p (hl p hp)).1 (hf _ (by rw [e1]; exact List.mem_map.2 ⟨p,hp,rfl⟩))
  ·intro hd
   obtain ⟨m,em,hf⟩:=depO_succ h.bn hd
   obtain rfl:n=m:=by omega
   refine dep_mk fun f hf'=>?_
   rw [e1] at hf'
   obtain ⟨p,hp,rfl⟩:=List.mem_map.1 hf'
   exact (ih p (hl p hp)).2 (hf _ (by rw [e2]; exact List.mem_map.2 ⟨p,hp,rfl⟩))
structure Sim (kf:RV→List UInt8) (P:List (PS × RV)) (t:TS) (t':TQ):Prop where
 vis:∃ V:List (PS × RV),(∀ v∈V,v∈P)∧t.sets=V.map (fun v=>v.1.id)∧t'.seen=V.map (fun v=>v.2.2.2)
 out:t.out=t'.out.map pvR
 ok:∀ x∈t'.out,OkN x
 ka:t.keys=t'.out.map fun x=>keyP (pvR x)
 kb:t'.keys=t'.out.map kf
section
variable {kf:RV→List UInt8} {P:List (PS × RV)} {t:TS} {t':TQ}
theorem sim_item (hkf:∀ x y,OkN x→OkN y→(kf x=kf y↔zR x=zR y)) (h:Sim kf P t t') {x:RV} (hx:OkN x):Sim kf P (stepT t (pvR x)) (zj kf t' x):=by
 have e:keyP (pvR x)∈t.keys↔kf x∈t'.keys:=by
  rw [h.ka,h.kb,List.mem_map,List.mem_map]
  constructor
  ·rintro ⟨y,hy,e⟩
   exact ⟨y,hy,(hkf y x (h.ok y hy) hx).2 (keyP_iff.1 e)⟩
  ·rintro ⟨y,hy,e⟩
   exact ⟨y,hy,keyP_iff.2 ((hkf y x (h.ok y hy) hx).1 e)⟩
 unfold stepT zj
 by_cases hm:kf x∈t'.keys
 ·rw [if_pos (e.2 hm),if_pos hm]; exact h
 ·rw [if_neg (fun k=>hm (e.1 k)),if_neg hm]
  refine ⟨h.vis,by simp [h.out],fun y hy=>?_,by simp [h.ka],by simp [h.kb]⟩
  rcases List.mem_append.1 hy with hy | hy
  ·exact h.ok y hy
  ·rw [List.mem_singleton.1 hy]; exact hx
theorem sim_items (hkf:∀ x y,OkN x→OkN y→(kf x=kf y↔zR x=zR y)):∀ (l:List RV) {t:TS} {t':TQ},Sim kf P t t'→(∀ x∈l,OkN x)→Sim kf P (ownT (l.map pvR) t) (l.foldl (zj kf) t')
 | [],_,_,h,_=>h
 | x :: l,t,t',h,hl=>by
  rw [List.map_cons,zO,List.foldl_cons]
  exact sim_items hkf l (sim_item hkf h (hl x List.mem_cons_self)) fun y hy=>hl y (List.mem_cons_of_mem _ hy)
theorem sim_fold {f:TS→PS→TS} {g:TQ→RV→TQ}:∀ (l:List (PS × RV)) {t:TS} {t':TQ},(∀ p∈l,∀ t t',Sim kf P t t'→Sim kf P (f t p.1) (g t' p.2))→Sim kf P t t'→Sim kf P ((l.map Prod.fst).foldl f t) ((l.map Prod.snd).foldl g t')
 | [],_,_,_,h=>h
 | p :: l,t,t',hs,h=>by
  rw [List.map_cons,List.map_cons,List.foldl_cons,List.foldl_cons]
  exact sim_fold l (fun q hq=>hs q (List.mem_cons_of_mem _ hq)) (hs p List.mem_cons_self _ _ h)
theorem sim_set (M:MirP P) (hkf:∀ x y,OkN x→OkN y→(kf x=kf y↔zR x=zR y)) {o:Int} (ho:1≤o∧o≤3):∀ (n:Nat) (q:PS × RV),q∈P→∀ t t',Sim kf P t t'→Sim kf P (zH n o q.1 t) (setQ kf n o q.2.2.2 t'):=by
 intro n
 induction n with
 | zero=>intro q hq t t' h; exact h
 | succ n ih =>
  intro q hq t t' h
  have hM:=M.ok q hq
  obtain ⟨V,hV,e1,e2⟩:=h.vis
  have e:q.1.id∈t.sets↔q.2.2.2.id∈t'.seen.map RO.id:=by
   rw [e1,e2,List.map_map,List.mem_map,List.mem_map]
   constructor
   ·rintro ⟨v,hv,e⟩
    exact ⟨v,hv,by rw [nodup_inj M.nda (hV v hv) hq e]; rfl⟩
   ·rintro ⟨v,hv,e⟩
    exact ⟨v,hv,by rw [nodup_inj M.ndb (hV v hv) hq e]⟩
  rw [tellN_succ,setQ]
  by_cases hm:q.2.2.2.id∈t'.seen.map RO.id
  ·rw [if_pos (e.2 hm),if_pos hm]; exact h
  ·rw [if_neg (fun k=>hm (e.1 k)),if_neg hm]
   dsimp only
   have h1:Sim kf P { t with sets:=t.sets++[q.1.id] } { t' with seen:=t'.seen++[q.2.2.2] }:=by
    refine ⟨⟨V++[q],fun v hv=>?_,by simp [e1],by simp [e2]⟩,h.out,h.ok,h.ka,h.kb⟩
    rcases List.mem_append.1 hv with hv | hv
    ·exact hV v hv
    ·rw [List.mem_singleton.1 hv]; exact hq
   obtain ⟨l,hl,f1,f2⟩:=hM.fr
   have hfold:∀ (l:List (PS × RV)),(∀ p∈l,p∈P)→∀ {t:TS} {t':TQ},Sim kf P t t'→Sim kf P ((l.map Prod.fst).foldl (fun t f=>zH n o f t) t) ((l.map Prod.snd).foldl (fun t f=>setQ kf n o f.2.2 t) t'):=fun l hl t t' h=>sim_fold l (fun p hp t t' h=>ih p (hl p hp) t t' h) h
   rw [if_neg (by omega:¬ o=0)]
   have:o=1∨o=2∨o=3:=by omega
   rcases this with rfl | rfl | rfl
   ·simp only [postT,midT,preT,f1,f2,hM.own,Int.reduceEq,reduceIte]
    exact hfold l hl (sim_items hkf _ h1 hM.itm)
   ·simp only [postT,midT,preT,f1,f2,hM.own,Int.reduceEq,reduceIte]
    exact sim_items hkf _ (hfold l hl h1) hM.itm
   ·simp only [postT,midT,preT,f1,f2,hM.own,Int.reduceEq,reduceIte,←List.map_reverse]
    exact sim_items hkf _ (hfold l.reverse (fun p hp=>hl p (List.mem_reverse.1 hp)) h1) fun x hx=>hM.itm x (List.mem_reverse.1 hx)
theorem sim0:Sim kf P ts0 tq0:=⟨⟨[],fun _ h=>(by cases h),rfl,rfl⟩,rfl,fun _ h=>(by cases h),rfl,rfl⟩
theorem sim_all (M:MirP P) (hkf:∀ x y,OkN x→OkN y→(kf x=kf y↔zR x=zR y)) {q:PS × RV} (hq:q∈P) (ho:1≤q.1.order∧q.1.order≤3) (n:Nat):allN n q.1=(allQ kf n q.2.2.2).map pvR∧∀ x∈allQ kf n q.2.2.2,OkN x:=by
 have h:=sim_set M hkf ho n q hq ts0 tq0 sim0
 have e:=(M.ok q hq).ord
 unfold allN allQ
 rw [←e]
 split
 ·exact ⟨by rw [h.out,List.map_reverse],fun x hx=>h.ok x (List.mem_reverse.1 hx)⟩
 ·exact ⟨h.out,h.ok⟩
end
theorem nodup_of_map {α β:Type} {f:α→β}:∀ {l:List α},(l.map f).Nodup→l.Nodup
 | [],_=>List.nodup_nil
 | x :: l,h=>by
  rw [List.map_cons,List.nodup_cons] at h
  rw [List.nodup_cons]
  exact ⟨fun hx=>h.1 (List.mem_map.2 ⟨x,hx,rfl⟩),nodup_of_map h.2⟩
theorem seen_len {kf:RV→List UInt8} {C:List RO} (hC:∀ y∈C,∀ f∈y.fr,f.2.2∈C) (o:Int) (n:Nat) {s:RO} (hs:s∈C):(setQ kf n o s tq0).seen.length≤C.length∧∀ y∈(setQ kf n o s tq0).seen,y∈C:=by
 obtain ⟨a,b⟩:=seen_in (kf:=kf) (C:=fun y=>y∈C) hC o n s tq0 hs (fun _ h=>by cases h) List.nodup_nil
 exact ⟨List.Nodup.length_le_of_subset (nodup_of_map b) fun y hy=>a y hy,a⟩
structure Srch (P:List (PS × RV)) (top:PS) (V V':List (PS × RV)):Prop where
 sub:∀ v∈V',v∈P
 inc:∀ v∈V,v∈V'
 nd:(V'.map fun v=>v.1.id).Nodup
 re:∀ v∈V',v∈V∨zV top v.1
 cl:∀ v∈V',v∈V∨∀ p:PS × RV,p∈P→p.1∈v.1.fr→p∈V'
theorem Srch.refl {P:List (PS × RV)} {top:PS} {V:List (PS × RV)} (h:∀ v∈V,v∈P) (nd:(V.map fun v=>v.1.id).Nodup):Srch P top V V:=⟨h,fun _ h=>h,nd,fun _ h=>.inl h,fun _ h=>.inl h⟩
theorem Srch.trans {P:List (PS × RV)} {top:PS} {V V1 V2:List (PS × RV)} (a:Srch P top V V1) (b:Srch P top V1 V2):Srch P top V V2:=by
 refine ⟨b.sub,fun v hv=>b.inc v (a.inc v hv),b.nd,fun v hv=>?_,fun v hv=>?_⟩
 ·rcases b.re v hv with h | h
  ·exact a.re v h
  ·exact .inr h
 ·rcases b.cl v hv with h | h
  ·rcases a.cl v h with h | h
   ·exact .inl h
   ·exact .inr fun p hp hf=>b.inc p (h p hp hf)
  ·exact .inr h
theorem items_nil {kf:RV→List UInt8}:∀ (l:List RV) (t:TQ),t.keys.length=t.out.length→((l.foldl (zj kf) t).out=[]↔t.out=[]∧l=[])
 | [],t,_=>by simp
 | x :: l,t,h=>by
  have h1:(zj kf t x).keys.length=(zj kf t x).out.length:=by unfold zj; split <;> simp [h]
  have h2:(zj kf t x).out≠[]:=by
   unfold zj
   split
   ·rename_i hm
    intro e
    have:t.keys=[]:=List.length_eq_zero_iff.1 (by rw [h,e]; rfl)
    rw [this] at hm; cases hm
   ·simp
  rw [List.foldl_cons,items_nil l _ h1]
  simp [h2]
def preQ (kf:RV→List UInt8) (o:Int) (s:RO) (t:TQ):TQ:=if o=1 then s.items.foldl (zj kf) t else t
def frQ (o:Int) (s:RO):List RV:=if o=0∨o=1∨o=2 then s.fr else s.fr.reverse
def postQ (kf:RV→List UInt8) (o:Int) (s:RO) (t:TQ):TQ:=if o=0∨o=1 then t else (if o=2 then s.items else s.items.reverse).foldl (zj kf) t
theorem setQ_succ (kf:RV→List UInt8) (n:Nat) (o:Int) (s:RO) (t:TQ):setQ kf (n+1) o s t=if s.id∈t.seen.map RO.id then t else postQ kf o s ((frQ o s).foldl (fun t f=>setQ kf n o f.2.2 t) (preQ kf o s { t with seen:=t.seen++[s] })):=by
 rw [setQ]
 split
 ·rfl
 ·dsimp only
  unfold postQ preQ frQ
  by_cases h0:o=0
  ·subst h0; simp
  ·by_cases h1:o=1
   ·subst h1; simp
   ·by_cases h2:o=2
    ·subst h2; simp
    ·simp [h0,h1,h2]
theorem items_seen {kf:RV→List UInt8}:∀ (l:List RV) (t:TQ),(l.foldl (zj kf) t).seen=t.seen
 | [],_=>rfl
 | x :: l,t=>by
  rw [List.foldl_cons,items_seen l]
  unfold zj
  split <;> rfl
theorem items_kl {kf:RV→List UInt8}:∀ (l:List RV) (t:TQ),t.keys.length=t.out.length→(l.foldl (zj kf) t).keys.length=(l.foldl (zj kf) t).out.length
 | [],_,h=>h
 | x :: l,t,h=>by
  rw [List.foldl_cons]
  refine items_kl l _ ?_
  unfold zj; split <;> simp [h]
def Emp (o:Int) (t t':TQ) (V V':List (PS × RV)):Prop:=o≠0→(t'.out=[]↔t.out=[]∧∀ v∈V',v∈V∨v.2.2.2.items=[])
theorem Emp.trans {o:Int} {t t1 t2:TQ} {V V1 V2:List (PS × RV)} (a:Emp o t t1 V V1) (b:Emp o t1 t2 V1 V2) (h1:∀ v∈V,v∈V1) (h2:∀ v∈V1,v∈V2):Emp o t t2 V V2:=fun ho=>by
 rw [b ho,a ho]
 constructor
 ·rintro ⟨⟨e,f⟩,g⟩
  refine ⟨e,fun v hv=>?_⟩
  rcases g v hv with h | h
  ·exact f v h
  ·exact .inr h
 ·rintro ⟨e,f⟩
  refine ⟨⟨e,fun v hv=>f v (h2 v hv)⟩,fun v hv=>?_⟩
  rcases f v hv with h | h
  ·exact .inl (h1 v h)
  ·exact .inr h
theorem srch_set {kf:RV→List UInt8} {P:List (PS × RV)} (M:MirP P) (top:PS) (o:Int):∀ (n:Nat) (q:PS × RV),q∈P→zV top q.1→dep n q.1→∀ (V:List (PS × RV)) (t:TQ),(∀ v∈V,v∈P)→(V.map fun v=>v.1.id).Nodup→t.seen=V.map (fun v=>v.2.2.2)→t.keys.length=t.out.length →
  ∃ V',(setQ kf n o q.2.2.2 t).seen=V'.map (fun v=>v.2.2.2)∧Srch P top V V'∧q∈V'∧(setQ kf n o q.2.2.2 t).keys.length=(setQ kf n o q.2.2.2 t).out.length∧Emp o t (setQ kf n o q.2.2.2 t) V V':=by
 intro n
 induction n with
 | zero =>
  intro q hq _ hd
  obtain ⟨_,_,_,_,_,_,e1⟩:=PS.cases_ne (M.ok q hq).an
  rw [e1] at hd; exact hd.elim
 | succ n ih =>
  intro q hq hr hd V t hV nd e2 kl
  have hM:=M.ok q hq
  obtain ⟨m,em,hdf⟩:=dep_succ' hM.an hd
  obtain rfl:n=m:=by omega
  have e:q∈V↔q.2.2.2.id∈t.seen.map RO.id:=by
   rw [e2,List.map_map,List.mem_map]
   constructor
   ·intro h; exact ⟨q,h,rfl⟩
   ·rintro ⟨v,hv,e⟩
    rw [←nodup_inj M.ndb (hV v hv) hq e]; exact hv
  rw [setQ_succ]
  by_cases hm:q.2.2.2.id∈t.seen.map RO.id
  ·rw [if_pos hm]
   exact ⟨V,e2,Srch.refl hV nd,e.2 hm,kl,fun _=>⟨fun h=>⟨h,fun _ h=>.inl h⟩,fun h=>h.1⟩⟩
  ·rw [if_neg hm]
   have hqV:q∉V:=fun k=>hm (e.1 k)
   obtain ⟨l,hl,f1,f2⟩:=hM.fr
   have f3:frQ o q.2.2.2=(if o=0∨o=1∨o=2 then l else l.reverse).map Prod.snd:=by
    unfold frQ; split <;> simp [f2]
   rw [f3]
   have hV1:∀ v∈V++[q],v∈P:=fun v hv=>by
    rcases List.mem_append.1 hv with hv | hv
    ·exact hV v hv
    ·rw [List.mem_singleton.1 hv]; exact hq
   have nd1:((V++[q]).map fun v=>v.1.id).Nodup:=by
    rw [List.map_append,List.nodup_append]
    refine ⟨nd,by simp,fun a ha b hb e=>?_⟩
    rw [List.map_cons,List.map_nil,List.mem_singleton] at hb
    obtain ⟨v,hv,rfl⟩:=List.mem_map.1 ha
    exact hqV (nodup_inj M.nda (hV v hv) hq (e.trans hb) ▸ hv)
   have hfold:∀ (l:List (PS × RV)),(∀ p∈l,p∈P∧p.1∈q.1.fr)→∀ (V:List (PS × RV)) (t:TQ),(∀ v∈V,v∈P)→(V.map fun v=>v.1.id).Nodup→t.seen=V.map (fun v=>v.2.2.2)→t.keys.length=t.out.length →
     ∃ V',((l.map Prod.snd).foldl (fun t f=>setQ kf n o f.2.2 t) t).seen=V'.map (fun v=>v.2.2.2)∧Srch P top V V'∧(∀ p∈l,p∈V')∧((l.map Prod.snd).foldl (fun t f=>setQ kf n o f.2.2 t) t).keys.length=((l.map Prod.snd).foldl (fun t f=>setQ kf n o f.2.2 t) t).out.length∧Emp o t ((l.map Prod.snd).foldl (fun t f=>setQ kf n o f.2.2 t) t) V V':=fun l=>by
    induction l with
    | nil=>intro _ V t a b c d; exact ⟨V,c,Srch.refl a b,(fun _ h=>by cases h),d,fun _=>⟨fun h=>⟨h,fun _ h=>.inl h⟩,fun h=>h.1⟩⟩
    | cons p l ihl =>
     intro hp V t a b c d
     obtain ⟨hpP,hpf⟩:=hp p List.mem_cons_self
     obtain ⟨V1,c1,s1,m1,d1,x1⟩:=ih p hpP (.step hr hpf) (hdf _ hpf) V t a b c d
     obtain ⟨V2,c2,s2,m2,d2,x2⟩:=ihl (fun p' hp'=>hp p' (List.mem_cons_of_mem _ hp')) V1 _ s1.sub s1.nd c1 d1
     refine ⟨V2,c2,s1.trans s2,fun x hx=>?_,d2,x1.trans x2 s1.inc s2.inc⟩
     rcases List.mem_cons.1 hx with rfl | hx
     ·exact s2.inc _ m1
     ·exact m2 x hx
   have hmem:∀ p,p∈(if o=0∨o=1∨o=2 then l else l.reverse)↔p∈l:=fun p=>by split <;> simp
   have hpre:(preQ kf o q.2.2.2 { t with seen:=t.seen++[q.2.2.2] }).seen=(V++[q]).map (fun v=>v.2.2.2)∧(preQ kf o q.2.2.2 { t with seen:=t.seen++[q.2.2.2] }).keys.length=(preQ kf o q.2.2.2 { t with seen:=t.seen++[q.2.2.2] }).out.length ∧
     ((preQ kf o q.2.2.2 { t with seen:=t.seen++[q.2.2.2] }).out=[]↔t.out=[]∧(o=1→q.2.2.2.items=[])):=by
    unfold preQ
    split
    ·rename_i h1
     refine ⟨by rw [items_seen]; simp [e2],items_kl _ { t with seen:=t.seen++[q.2.2.2] } kl,?_⟩
     rw [items_nil q.2.2.2.items { t with seen:=t.seen++[q.2.2.2] } kl]
     simp [h1]
    ·rename_i h1
     exact ⟨by simp [e2],kl,by simp [h1]⟩
   obtain ⟨p1,p2,p3⟩:=hpre
   obtain ⟨V',c,s,m,kl',x⟩:=hfold (if o=0∨o=1∨o=2 then l else l.reverse) (fun p hp=>⟨hl p ((hmem p).1 hp),by rw [f1]; exact List.mem_map.2 ⟨p,(hmem p).1 hp,rfl⟩⟩) (V++[q]) _ hV1 nd1 p1 p2
   generalize ((if o=0∨o=1∨o=2 then l else l.reverse).map Prod.snd).foldl (fun t f=>setQ kf n o f.2.2 t) (preQ kf o q.2.2.2 { t with seen:=t.seen++[q.2.2.2] })=T at c kl' x ⊢
   have hqV':q∈V':=s.inc q (List.mem_append_right _ (List.mem_singleton.2 rfl))
   have hpost:(postQ kf o q.2.2.2 T).seen=T.seen∧(postQ kf o q.2.2.2 T).keys.length=(postQ kf o q.2.2.2 T).out.length∧((postQ kf o q.2.2.2 T).out=[]↔T.out=[]∧(o≠0∧o≠1→q.2.2.2.items=[])):=by
    unfold postQ
    split
    ·rename_i h1
     exact ⟨rfl,kl',by constructor; exact fun h=>⟨h,fun h2=>by omega⟩; exact fun h=>h.1⟩
    ·rename_i h1
     refine ⟨items_seen _ _,items_kl _ _ kl',?_⟩
     rw [items_nil _ _ kl']
     have:(if o=2 then q.2.2.2.items else q.2.2.2.items.reverse)=[]↔q.2.2.2.items=[]:=by split <;> simp
     rw [this]
     constructor
     ·exact fun h=>⟨h.1,fun _=>h.2⟩
     ·exact fun h=>⟨h.1,h.2 (by omega)⟩
   refine ⟨V',hpost.1.trans c,⟨s.sub,fun v hv=>s.inc v (List.mem_append_left _ hv),s.nd,fun v hv=>?_,fun v hv=>?_⟩,hqV',hpost.2.1,fun ho=>?_⟩
   ·rcases s.re v hv with h | h
    ·rcases List.mem_append.1 h with h | h
     ·exact .inl h
     ·rw [List.mem_singleton.1 h]; exact .inr hr
    ·exact .inr h
   ·rcases s.cl v hv with h | h
    ·rcases List.mem_append.1 h with h | h
     ·exact .inl h
     ·refine .inr fun p hp hf=>?_
      rw [List.mem_singleton.1 h,f1] at hf
      obtain ⟨p',hp',e⟩:=List.mem_map.1 hf
      have:p'=p:=nodup_inj M.nda (hl p' hp') hp (by rw [e])
      exact this ▸ m p' ((hmem p').2 hp')
    ·exact .inr h
   ·rw [hpost.2.2,x ho,p3]
    constructor
    ·rintro ⟨⟨⟨a,b⟩,d⟩,g⟩
     have hit:q.2.2.2.items=[]:=by
      by_cases h1:o=1
      ·exact b h1
      ·exact g ⟨ho,h1⟩
     refine ⟨a,fun v hv=>?_⟩
     rcases d v hv with h | h
     ·rcases List.mem_append.1 h with h | h
      ·exact .inl h
      ·rw [List.mem_singleton.1 h]; exact .inr hit
     ·exact .inr h
    ·rintro ⟨a,b⟩
     have hit:q.2.2.2.items=[]:=(b q hqV').resolve_left hqV
     refine ⟨⟨⟨a,fun _=>hit⟩,fun v hv=>?_⟩,fun _=>hit⟩
     rcases b v hv with h | h
     ·exact .inl (List.mem_append_left _ h)
     ·exact .inr h
theorem srch_all {P:List (PS × RV)} (M:MirP P) {q:PS × RV} {V:List (PS × RV)} (s:Srch P q.1 [] V) (m:q∈V):AllIn q.1 (V.map Prod.fst)∧∀ x∈V.map Prod.fst,zV q.1 x:=by
 have hcl:∀ v∈V,∀ f∈v.1.fr,f∈V.map Prod.fst:=fun v hv f hf=>by
  obtain ⟨l,h1,h2,h3⟩:=(M.ok v (s.sub v hv)).fr
  rw [h2] at hf
  obtain ⟨p,hp,rfl⟩:=List.mem_map.1 hf
  exact List.mem_map.2 ⟨p,((s.cl v hv).resolve_left (by simp)) p (h1 p hp) (by rw [h2]; exact List.mem_map.2 ⟨p,hp,rfl⟩),rfl⟩
 refine ⟨⟨List.mem_map.2 ⟨q,m,rfl⟩,fun x hx=>?_,fun x hx f hf=>?_⟩,fun x hx=>?_⟩
 ·obtain ⟨v,hv,rfl⟩:=List.mem_map.1 hx
  exact (M.ok v (s.sub v hv)).an
 ·obtain ⟨v,hv,rfl⟩:=List.mem_map.1 hx
  exact hcl v hv f hf
 ·obtain ⟨v,hv,rfl⟩:=List.mem_map.1 hx
  exact (s.re v hv).resolve_left (by simp)
theorem mir_size {P:List (PS × RV)} (M:MirP P) {q:PS × RV} (hq:q∈P) {n:Nat} (hd:depO n q.2.2.2) {l:List PS} (hl:SetsOf q.1 l):l.length=(setQ (fun _=>[]) n 0 q.2.2.2 tq0).seen.length:=by
 obtain ⟨V,e,s,m,_⟩:=srch_set (kf:=fun _=>[]) M q.1 0 n q hq .refl ((mir_dep M n q hq).2 hd) [] tq0 (fun _ h=>by cases h) List.nodup_nil rfl rfl
 rw [e,List.length_map]
 obtain ⟨hA,hR⟩:=srch_all M s m
 rw [hA.size hR (by rw [List.map_map]; exact s.nd) hl,List.length_map]
theorem mir_empty {kf:RV→List UInt8} {P:List (PS × RV)} (M:MirP P) {q:PS × RV} (hq:q∈P) {n:Nat} (hd:depO n q.2.2.2) (ho:q.1.order≠0):allQ kf n q.2.2.2=[]↔∀ y,zV q.1 y→y.own=[]:=by
 have e:=(M.ok q hq).ord
 obtain ⟨V,_,s,m,_,x⟩:=srch_set (kf:=kf) M q.1 q.1.order n q hq .refl ((mir_dep M n q hq).2 hd) [] tq0 (fun _ h=>by cases h) List.nodup_nil rfl rfl
 obtain ⟨hA,hR⟩:=srch_all M s m
 have h1:allQ kf n q.2.2.2=[]↔(setQ kf n q.1.order q.2.2.2 tq0).out=[]:=by
  unfold allQ; rw [←e]; split <;> simp
 rw [h1,x ho]
 constructor
 ·rintro ⟨_,h⟩ y hy
  obtain ⟨v,hv,rfl⟩:=List.mem_map.1 (hA.reach y hy)
  rw [(M.ok v (s.sub v hv)).own,(h v hv).resolve_left (by simp)]; rfl
 ·intro h
  refine ⟨rfl,fun v hv=>.inr ?_⟩
  have:=h v.1 (hR _ (List.mem_map.2 ⟨v,hv,rfl⟩))
  rw [(M.ok v (s.sub v hv)).own] at this
  exact List.map_eq_nil_iff.1 this
end Go.Proofs.YtjjcdkfhaceicaaGreatDoor
 
namespace Go.Proofs.YtjjcdkfhaceicaaGreatDoor
open Go Go.RowKit
def numI (n b:Int):Int:=(n.tmod b+b).tmod b
theorem numI_bd (n:Int) {b:Int} (hb:0<b):0≤numI n b∧numI n b<b:=by
 have h2 : -b<n.tmod b:=Int.lt_tmod_of_pos n hb
 exact ⟨Int.tmod_nonneg b (by omega),Int.tmod_lt_of_pos _ hb⟩
theorem numI_M {n b:Int} {K:Int→Prop} (hb:0<b) (hb2:b≤100000) (h:K (numI n b)):zL n b K:=by
 have h1:=Int.tmod_lt_of_pos n hb
 have h2 : -b<n.tmod b:=Int.lt_tmod_of_pos n hb
 exact ⟨by omega,by simp only [In]; omega,by omega,h⟩
theorem numI_lt {n b:Int} (h0:0≤n) (h1:n<b):numI n b=n:=by
 unfold numI
 rw [Int.tmod_eq_of_lt h0 h1,Int.tmod_eq_emod_of_nonneg (by omega),Int.add_emod_right,Int.emod_eq_of_lt h0 h1]
theorem small_M {n:Int} {K:PV→Prop} (hn:In .i64 n) (h:K (.int n)):qa n K:=⟨by simpa only [In] using hn,h⟩
abbrev RowD:=Int × List Int × List Int
def zC (prev:List PS) (fs:List Int):List PS:=if prev=[] then [] else fs.map fun f=>prev.getD (numI f prev.length).toNat .nil
def rowS (o:Int) (r:RowD) (prev:List PS) (g:Nat):PS:=.mk g o (dedP (r.2.1.map .int)) (zC prev r.2.2) (deepF (zC prev r.2.2)) (emptyF (dedP (r.2.1.map .int)) (zC prev r.2.2))
inductive Mds (l:List RowD) (o:Int):List PS→Prop
 | nil:Mds l o []
 | snoc {out:List PS} (g:Nat) (h:Mds l o out) (hlt:out.length<l.length) (hg:∀ x∈out,x.id≠g):Mds l o (out++[rowS o (l.getD out.length (0,[],[])) out g])
theorem qx {prev:List PS} {fs:List Int} {f:PS} (h:f∈zC prev fs):f∈prev:=by
 unfold zC at h
 split at h
 ·cases h
 ·rename_i hne
  obtain ⟨z,_,rfl⟩:=List.mem_map.1 h
  have hp:=List.length_pos_iff.2 hne
  have:=numI_bd z (b:=(prev.length:Int)) (by omega)
  rw [zt (by omega)]
  exact List.getElem_mem _
structure MdsF (o:Int) (out:List PS):Prop where
 nn:∀ x∈out,x≠.nil
 cl:∀ x∈out,∀ f∈x.fr,f∈out
 ord:∀ x∈out,x.order=o
 deep:∀ x∈out,0≤x.deep∧x.deep<out.length
theorem Mds.facts {l:List RowD} {o:Int} {out:List PS} (h:Mds l o out):MdsF o out:=by
 induction h with
 | nil=>exact ⟨fun _ h=>(by cases h),fun _ h=>(by cases h),fun _ h=>(by cases h),fun _ h=>(by cases h)⟩
 | @snoc out g h hlt hg ih =>
  have hd:=deepF_bd (zC out (l.getD out.length (0,[],[])).2.2) 0 out.length (by omega) (by omega) fun f hf=>(ih.deep f (qx hf)).2
  refine ⟨fun x hx=>?_,fun x hx f hf=>?_,fun x hx=>?_,fun x hx=>?_⟩
  ·rcases List.mem_append.1 hx with hx | hx
   ·exact ih.nn x hx
   ·rw [List.mem_singleton.1 hx]; intro e; cases e
  ·rcases List.mem_append.1 hx with hx | hx
   ·exact List.mem_append_left _ (ih.cl x hx f hf)
   ·rw [List.mem_singleton.1 hx] at hf
    exact List.mem_append_left _ (qx hf)
  ·rcases List.mem_append.1 hx with hx | hx
   ·exact ih.ord x hx
   ·rw [List.mem_singleton.1 hx]; rfl
  ·rcases List.mem_append.1 hx with hx | hx
   ·have:=ih.deep x hx
    rw [List.length_append]; simp; omega
   ·rw [List.mem_singleton.1 hx,List.length_append]
    show 0≤deepF _∧deepF _<_
    have h1:(List.length out:Int)<((List.length out+[rowS o (l.getD out.length (0,[],[])) out g].length:Nat):Int):=by simp; omega
    exact ⟨hd.1,Int.lt_of_le_of_lt hd.2 h1⟩
theorem MdsF.reach {o:Int} {out:List PS} (h:MdsF o out) {f y:PS} (hf:f∈out) (hr:zV f y):y∈out:=by
 induction hr with
 | refl=>exact hf
 | step _ hg ih=>exact h.cl _ ih _ hg
theorem Mds.own {l:List RowD} {o:Int} {out:List PS} {n:Nat} (h:Mds l o out) (hr:∀ r∈l,r.2.1.length≤n):∀ x∈out,x.own.length≤n:=by
 induction h with
 | nil=>intro _ h; cases h
 | @snoc out g h hlt hg ih =>
  intro x hx
  rcases List.mem_append.1 hx with hx | hx
  ·exact ih x hx
  ·rw [List.mem_singleton.1 hx]
   show (dedP _).length≤n
   refine Nat.le_trans (dedP_len _) ?_
   rw [List.length_map,zt hlt]
   exact hr _ (List.getElem_mem hlt)
theorem made_M {l:List RowD} {o:Int} {K:List PS→Bool→Prop} (hl:l.length≤20) (ho:1≤o∧o≤3) (hr:∀ r∈l,r.1=o∧r.2.1.length≤10∧r.2.2.length≤6∧∀ z∈r.2.1,-100000000<z∧z<100000000)
  (hK:∀ out,Mds l o out→out.length=l.length→K out true):qh l K:=by
 intro _
 refine ⟨fun out i=>0≤i∧i≤l.length∧out.length=i.toNat∧Mds l o out,fun _ i=>((l.length:Int) - i).toNat,⟨by omega,by omega,rfl,.nil⟩,?_⟩
 rintro out i ⟨h0,h1,hlen,hm⟩
 refine ⟨fun hi=>?_,fun hi=>hK out hm (by omega)⟩
 have hlt:i.toNat<l.length:=by omega
 have hF:=hm.facts
 generalize hrow:l[i.toNat]=r
 have hrow':l.getD i.toNat (0,[],[])=r:=by rw [zt hlt,hrow]
 obtain ⟨ho',hws,hfs,hz⟩:=hr r (by rw [←hrow]; exact List.getElem_mem hlt)
 simp only [hrow']
 have hib:0≤i∧i<(l.length:Nat):=⟨h0,hi⟩
 refine ⟨fun own k=>0≤k∧k≤r.2.1.length∧own=(r.2.1.take k.toNat).map .int,fun _ k=>((r.2.1.length:Int) - k).toNat,⟨by omega,by omega,rfl⟩,?_⟩
 rintro _ k ⟨k0,k1,rfl⟩
 refine ⟨hib,fun hk=>?_,fun hk=>?_⟩
 ·have hkl:k.toNat<r.2.1.length:=by omega
  rw [zt hkl]
  have hzz:=hz _ (List.getElem_mem hkl)
  refine ⟨hib,⟨k0,by omega⟩,small_M (by simp only [In]; omega) ⟨?_,by simp only [In]; omega,⟨by omega,by omega,?_⟩,by dsimp only; omega⟩⟩
  ·simp only [List.length_map,List.length_take,List.length_cons,List.length_nil]; omega
  ·rw [show (k+1).toNat=k.toNat+1 by omega,List.take_add_one,List.getElem?_eq_getElem hkl,List.map_append]
   rfl
 ·have e1:r.2.1.take k.toNat=r.2.1:=List.take_of_length_le (by omega)
  rw [e1]
  refine ⟨fun from_ q=>0≤q∧q≤r.2.2.length∧from_=zC out (r.2.2.take q.toNat),fun _ q=>((r.2.2.length:Int) - q).toNat,⟨by omega,by omega,by unfold zC; simp⟩,?_⟩
  rintro _ q ⟨q0,q1,rfl⟩
  refine ⟨hib,fun hq=>?_,fun hq=>?_⟩
  ·rw [Bool.and_eq_true,decide_eq_true_eq,decide_eq_true_eq] at hq
   have hql:q.toNat<r.2.2.length:=by omega
   have hone:out≠[]:=by intro e; rw [e] at hlen; simp at hlen; omega
   have hnb:=numI_bd r.2.2[q.toNat] hq.2
   rw [zt hql]
   have e5:zC out (r.2.2.take (q.toNat+1))=zC out (r.2.2.take q.toNat)++[out.getD (numI r.2.2[q.toNat] i).toNat .nil]:=by
    unfold zC
    rw [if_neg hone,if_neg hone,List.take_add_one,List.getElem?_eq_getElem hql,hlen,Int.toNat_of_nonneg h0,List.map_append]
    rfl
   refine ⟨hib,⟨q0,by omega⟩,numI_M hq.2 (by omega) ⟨⟨hnb.1,by omega⟩,?_,by simp only [In]; omega,⟨by omega,by omega,?_⟩,by dsimp only; omega⟩⟩
   ·unfold zC
    rw [if_neg hone]
    simp only [List.length_map,List.length_take,List.length_cons,List.length_nil]; omega
   ·rw [show (q+1).toNat=q.toNat+1 by omega,e5]
  ·have e6:zC out (r.2.2.take q.toNat)=zC out r.2.2:=by
    rw [Bool.and_eq_false_iff,decide_eq_false_iff_not,decide_eq_false_iff_not] at hq
    rcases hq with hq | hq
    ·rw [List.take_of_length_le (by omega)]
    ·have:out=[]:=List.length_eq_zero_iff.1 (by omega)
     unfold zC
     rw [if_pos this,if_pos this]
   rw [e6,ho']
   have hfl:(zC out r.2.2).length≤6:=by
    unfold zC
    split
    ·simp
    ·simpa using hfs
   have hdp:(dedP (r.2.1.map PV.int)).length≤10:=Nat.le_trans (dedP_len _) (by simpa using hws)
   refine ⟨hib,new_M ho (fun v hv=>?_) (by rw [List.length_map]; omega) (fun f hf=>⟨hF.nn f (qx hf),.inl (hF.ord f (qx hf)),?_,?_⟩) (fun g=>?_) (fun f hf y hy=>hF.nn y (hF.reach (qx hf) hy)) (fun g hfrA hfrB=>?_)⟩
   ·obtain ⟨z,hz',rfl⟩:=List.mem_map.1 hv
    exact ⟨z,rfl,Nat.le_trans (txt_len (hz z hz')) (by omega)⟩
   ·have:=hF.deep f (qx hf); omega
   ·have:=hF.deep f (qx hf); omega
   ·have hA:AllIn (PS.mk g o (dedP (r.2.1.map .int)) (zC out r.2.2) (deepF (zC out r.2.2)) (emptyF (dedP (r.2.1.map .int)) (zC out r.2.2))) (PS.mk g o (dedP (r.2.1.map .int)) (zC out r.2.2) (deepF (zC out r.2.2)) (emptyF (dedP (r.2.1.map .int)) (zC out r.2.2)) :: out):=by
     refine ⟨List.mem_cons_self,fun x hx=>?_,fun x hx f hf=>?_⟩
     ·rcases List.mem_cons.1 hx with rfl | hx
      ·intro e; cases e
      ·exact hF.nn x hx
     ·rcases List.mem_cons.1 hx with rfl | hx
      ·exact List.mem_cons_of_mem _ (qx hf)
      ·exact List.mem_cons_of_mem _ (hF.cl x hx f hf)
    refine (hA.few (n:=21) (k:=10) (by simp; omega) fun x hx=>?_).mono (by omega) (by omega)
    rcases List.mem_cons.1 hx with rfl | hx
    ·exact hdp
    ·exact hm.own (fun r hr'=>(hr r hr').2.1) x hx
   ·have hne:(PS.mk g o (dedP (r.2.1.map .int)) (zC out r.2.2) (deepF (zC out r.2.2)) (emptyF (dedP (r.2.1.map .int)) (zC out r.2.2)))≠.nil:=by intro e; cases e
    have hg:∀ x∈out,x.id≠g:=fun x hx=>hfrA hne x hx x .refl (hF.nn x hx)
    refine ⟨fun e=>by simp [PS.isNil] at e,fun _=>⟨by simp; omega,by simp only [In]; omega,⟨by omega,by omega,by simp; omega,?_⟩,by (try dsimp only); omega⟩⟩
    have:=Mds.snoc (l:=l) (o:=o) g hm (by omega) hg
    rw [hlen,hrow'] at this
    exact this
end Go.Proofs.YtjjcdkfhaceicaaGreatDoor
 
namespace Go.Proofs.YtjjcdkfhaceicaaGreatDoor
open Go Go.RowKit
theorem told_M {s:PS} {zs:List Int} {K:List UInt8→Prop} (hs:s≠.nil) (hd:∀ n,dep n s→(zH n s.order s ts0).sets.length≤100000∧allN n s=zs.map .int) (hz:zs.length≤1000∧∀ z∈zs,(txt z).length≤9) (h:K (tupT zs)):qi s K:=by
 refine ⟨hs,fun n hn=>?_⟩
 obtain ⟨h1,h2⟩:=hd n hn
 have h3:(zH n s.order s ts0).out.length=(allN n s).length:=by
  unfold allN; split <;> simp
 refine ⟨h1,by rw [h3,h2,List.length_map]; omega,fun e=>absurd rfl e,fun _=>⟨by rw [h2,List.length_map]; omega,zs,h2,vrepr_tup hz.1 hz.2 h⟩⟩
def ex4 (o:Int):List RowD:=[(o,[1],[]),(o,[2],[0]),(o,[3],[0]),(o,[4],[1,2])]
theorem ded1 (z:Int):dedP [.int z]=[.int z]:=by
 simp [dedP,ownT,ts0]
theorem fromsP_c (x:PS) (l:List PS) (fs:List Int):zC (x :: l) fs=fs.map fun f=>(x :: l).getD (numI f (x :: l).length).toNat .nil:=by
 unfold zC; rw [if_neg (by simp)]
theorem ex4_out {o:Int} {out:List PS} (h:Mds (ex4 o) o out) (hl:out.length=4):∃ a b c d:Nat,∃ d1 d2 d3 d4:Int,∃ e1 e2 e3 e4:Bool,a≠b∧a≠c∧b≠c∧a≠d∧b≠d∧c≠d ∧
  out=[.mk a o [.int 1] [] d1 e1,.mk b o [.int 2] [.mk a o [.int 1] [] d1 e1] d2 e2,.mk c o [.int 3] [.mk a o [.int 1] [] d1 e1] d3 e3,
   .mk d o [.int 4] [.mk b o [.int 2] [.mk a o [.int 1] [] d1 e1] d2 e2,.mk c o [.int 3] [.mk a o [.int 1] [] d1 e1] d3 e3] d4 e4]:=by
 obtain _ | @⟨o3,g4,h,l4,f4⟩:=h
 ·simp at hl
 simp only [List.length_append,List.length_cons,List.length_nil,Nat.zero_add,Nat.add_right_cancel_iff] at hl
 obtain _ | @⟨o2,g3,h,l3,f3⟩:=h
 ·simp at hl
 simp only [List.length_append,List.length_cons,List.length_nil,Nat.zero_add,Nat.add_right_cancel_iff] at hl
 obtain _ | @⟨o1,g2,h,l2,f2⟩:=h
 ·simp at hl
 simp only [List.length_append,List.length_cons,List.length_nil,Nat.zero_add,Nat.add_right_cancel_iff] at hl
 obtain _ | @⟨o0,g1,h,l1,f1⟩:=h
 ·simp at hl
 simp only [List.length_append,List.length_cons,List.length_nil,Nat.zero_add,Nat.add_right_cancel_iff] at hl
 have h0:o0=[]:=List.length_eq_zero_iff.1 (by omega)
 subst h0
 have key:∀ (prev:List PS) (g:Nat) (z:Int) (fs:List Int) (fr:List PS),zC prev fs=fr→∃ d:Int,∃ e:Bool,rowS o (o,[z],fs) prev g=.mk g o [.int z] fr d e:=fun prev g z fs fr h=>by
  subst h
  refine ⟨deepF (zC prev fs),emptyF (dedP [.int z]) (zC prev fs),?_⟩
  unfold rowS
  simp only [List.map_cons,List.map_nil,ded1]
 obtain ⟨d1,e1,h1⟩:=key [] g1 1 [] [] rfl
 rw [show []++[rowS o ((ex4 o).getD (List.length []) (0,[],[])) [] g1]=[.mk g1 o [.int 1] [] d1 e1] by rw [←h1]; rfl] at f2 f3 f4 ⊢
 obtain ⟨d2,e2,h2⟩:=key [.mk g1 o [.int 1] [] d1 e1] g2 2 [0] [.mk g1 o [.int 1] [] d1 e1] (by rw [fromsP_c,List.map_cons,List.map_nil,numI_lt (n:=0) (by omega) (by simp)]; rfl)
 rw [show [.mk g1 o [.int 1] [] d1 e1]++[rowS o ((ex4 o).getD (List.length [PS.mk g1 o [.int 1] [] d1 e1]) (0,[],[])) [.mk g1 o [.int 1] [] d1 e1] g2]=[.mk g1 o [.int 1] [] d1 e1,.mk g2 o [.int 2] [.mk g1 o [.int 1] [] d1 e1] d2 e2] by rw [←h2]; rfl] at f3 f4 ⊢
 obtain ⟨d3,e3,h3⟩:=key [.mk g1 o [.int 1] [] d1 e1,.mk g2 o [.int 2] [.mk g1 o [.int 1] [] d1 e1] d2 e2] g3 3 [0] [.mk g1 o [.int 1] [] d1 e1] (by rw [fromsP_c,List.map_cons,List.map_nil,numI_lt (n:=0) (by omega) (by simp)]; rfl)
 rw [show [.mk g1 o [.int 1] [] d1 e1,.mk g2 o [.int 2] [.mk g1 o [.int 1] [] d1 e1] d2 e2]++[rowS o ((ex4 o).getD (List.length [PS.mk g1 o [.int 1] [] d1 e1,.mk g2 o [.int 2] [.mk g1 o [.int 1] [] d1 e1] d2 e2]) (0,[],[])) [.mk g1 o [.int 1] [] d1 e1,.mk g2 o [.int 2] [.mk g1 o [.int 1] [] d1 e1] d2 e2] g3] =
  [.mk g1 o [.int 1] [] d1 e1,.mk g2 o [.int 2] [.mk g1 o [.int 1] [] d1 e1] d2 e2,.mk g3 o [.int 3] [.mk g1 o [.int 1] [] d1 e1] d3 e3] by rw [←h3]; rfl] at f4 ⊢
 obtain ⟨d4,e4,h4⟩:=key [.mk g1 o [.int 1] [] d1 e1,.mk g2 o [.int 2] [.mk g1 o [.int 1] [] d1 e1] d2 e2,.mk g3 o [.int 3] [.mk g1 o [.int 1] [] d1 e1] d3 e3] g4 4 [1,2] [.mk g2 o [.int 2] [.mk g1 o [.int 1] [] d1 e1] d2 e2,.mk g3 o [.int 3] [.mk g1 o [.int 1] [] d1 e1] d3 e3] (by rw [fromsP_c,List.map_cons,List.map_cons,List.map_nil,numI_lt (n:=1) (by omega) (by simp),numI_lt (n:=2) (by omega) (by simp)]; rfl)
 refine ⟨g1,g2,g3,g4,d1,d2,d3,d4,e1,e2,e3,e4,f2 (.mk g1 o [.int 1] [] d1 e1) (by simp),f3 (.mk g1 o [.int 1] [] d1 e1) (by simp),f3 (.mk g2 o [.int 2] [.mk g1 o [.int 1] [] d1 e1] d2 e2) (by simp),f4 (.mk g1 o [.int 1] [] d1 e1) (by simp),f4 (.mk g2 o [.int 2] [.mk g1 o [.int 1] [] d1 e1] d2 e2) (by simp),f4 (.mk g3 o [.int 3] [.mk g1 o [.int 1] [] d1 e1] d3 e3) (by simp),?_⟩
 rw [←h4]; rfl
theorem txt_dig {d:Nat} (h0:0<d) (h1:d<10):txt (d:Int)=[UInt8.ofNat (48+d)]:=by
 unfold txt
 rw [if_neg (by omega),if_neg (by omega),Int.natAbs_natCast,dd_pos h0,show d / 10=0 by omega,dd_zero]
 simp only [dc,show d % 10=d by omega]
 rfl
def ex4Z (o:Int):List Int:=if o=1 then [4,2,1,3] else if o=2 then [1,2,3,4] else [4,2,3,1]
theorem ex4_tell {o:Int} (ho:1≤o∧o≤3) {a b c d:Nat} {d1 d2 d3 d4:Int} {e1 e2 e3 e4:Bool} (hab:a≠b) (hac:a≠c) (hbc:b≠c) (had:a≠d) (hbd:b≠d) (hcd:c≠d) (n:Nat)
  (hn:dep n (.mk d o [.int 4] [.mk b o [.int 2] [.mk a o [.int 1] [] d1 e1] d2 e2,.mk c o [.int 3] [.mk a o [.int 1] [] d1 e1] d3 e3] d4 e4)) :
  (zH n o (.mk d o [.int 4] [.mk b o [.int 2] [.mk a o [.int 1] [] d1 e1] d2 e2,.mk c o [.int 3] [.mk a o [.int 1] [] d1 e1] d3 e3] d4 e4) ts0).sets.length≤100000 ∧
  allN n (.mk d o [.int 4] [.mk b o [.int 2] [.mk a o [.int 1] [] d1 e1] d2 e2,.mk c o [.int 3] [.mk a o [.int 1] [] d1 e1] d3 e3] d4 e4)=(ex4Z o).map .int:=by
 obtain _ | n:=n
 ·exact hn.elim
 have hn1:=hn (.mk b o [.int 2] [.mk a o [.int 1] [] d1 e1] d2 e2) (by simp)
 obtain _ | n:=n
 ·exact hn1.elim
 have hn2:=hn1 (.mk a o [.int 1] [] d1 e1) (by simp)
 obtain _ | n:=n
 ·exact hn2.elim
 have:o=1∨o=2∨o=3:=by omega
 have k1:=Ne.symm hab
 have k2:=Ne.symm hac
 have k3:=Ne.symm hbc
 have k4:=Ne.symm had
 have k5:=Ne.symm hbd
 have k6:=Ne.symm hcd
 rcases this with rfl | rfl | rfl
 ·simp [allN,tellN_succ,preT,midT,postT,zO,ownT,stepT,ts0,PS.id,PS.own,PS.fr,PS.order,ex4Z,keyP_iff, *]
 ·simp [allN,tellN_succ,preT,midT,postT,zO,ownT,stepT,ts0,PS.id,PS.own,PS.fr,PS.order,ex4Z,keyP_iff, *]
 ·simp [allN,tellN_succ,preT,midT,postT,zO,ownT,stepT,ts0,PS.id,PS.own,PS.fr,PS.order,ex4Z,keyP_iff, *]
end Go.Proofs.YtjjcdkfhaceicaaGreatDoor
 
namespace Go.Proofs.YtjjcdkfhaceicaaGreatDoor
open Go Go.RowKit
theorem tup4 {a b c d:Nat} (h:(0<a∧a<10)∧(0<b∧b<10)∧(0<c∧c<10)∧0<d∧d<10):tupT [(a:Int),b,c,d]=[40,UInt8.ofNat (48+a),44,32,UInt8.ofNat (48+b),44,32,UInt8.ofNat (48+c),44,32,UInt8.ofNat (48+d),41]:=by
 obtain ⟨⟨a0,a1⟩,⟨b0,b1⟩,⟨c0,c1⟩,d0,d1⟩:=h
 simp [tupT,comT,txt_dig a0 a1,txt_dig b0 b1,txt_dig c0 c1,txt_dig d0 d1]
theorem ex4_txt {o:Int} (ho:1≤o∧o≤3):tupT (ex4Z o)=([([40,52,44,32,50,44,32,49,44,32,51,41]:List UInt8),([40,49,44,32,50,44,32,51,44,32,52,41]:List UInt8),([40,52,44,32,50,44,32,51,44,32,49,41]:List UInt8)]:List (List UInt8)).getD ((o - (1:Int)).toNat) []:=by
 have:o=1∨o=2∨o=3:=by omega
 rcases this with rfl | rfl | rfl
 ·exact (tup4 (a:=4) (b:=2) (c:=1) (d:=3) (by omega)).trans rfl
 ·exact (tup4 (a:=1) (b:=2) (c:=3) (d:=4) (by omega)).trans rfl
 ·exact (tup4 (a:=4) (b:=2) (c:=3) (d:=1) (by omega)).trans rfl
theorem first_M {K:Bool→Prop} (h:K true):z8 K:=by
 refine ⟨fun o l=>1≤o∧o≤4∧∃ a b c d:Int,l=[(a,[1],[]),(b,[2],[0]),(c,[3],[0]),(d,[4],[1,2])],fun o _=>(4 - o).toNat,⟨by omega,by omega,0,0,0,0,rfl⟩,?_⟩
 rintro o _ ⟨o0,o1,a,b,c,d,rfl⟩ _
 refine ⟨fun ho=>?_,fun _=>h⟩
 refine ⟨fun i l2=>∃ a b c d:Int,l2=[(a,[1],[]),(b,[2],[0]),(c,[3],[0]),(d,[4],[1,2])]∧(i=0∨(i=1∧a=o)∨(i=2∧a=o∧b=o)∨(i=3∧a=o∧b=o∧c=o)∨(i=4∧a=o∧b=o∧c=o∧d=o)),fun i _=>(4 - i).toNat,⟨a,b,c,d,rfl,.inl rfl⟩,?_⟩
 rintro i _ ⟨a,b,c,d,rfl,hi⟩ _
 refine ⟨fun hi4=>⟨⟨by omega,by omega⟩,by simp only [In]; omega,?_,by dsimp only; omega⟩,fun hi4=>?_⟩
 ·rcases hi with rfl | ⟨rfl,rfl⟩ | ⟨rfl,rfl,rfl⟩ | ⟨rfl,rfl,rfl,rfl⟩ | ⟨rfl,_⟩
  ·exact ⟨o,b,c,d,rfl,.inr (.inl ⟨rfl,rfl⟩)⟩
  ·exact ⟨a,a,c,d,rfl,.inr (.inr (.inl ⟨rfl,rfl,rfl⟩))⟩
  ·exact ⟨b,b,b,d,rfl,.inr (.inr (.inr (.inl ⟨rfl,rfl,rfl,rfl⟩)))⟩
  ·exact ⟨c,c,c,c,rfl,.inr (.inr (.inr (.inr ⟨rfl,rfl,rfl,rfl,rfl⟩)))⟩
  ·omega
 ·obtain ⟨rfl,rfl,rfl,rfl⟩:a=o∧b=o∧c=o∧d=o:=by omega
  refine made_M (l:=ex4 d) (by simp [ex4]) ⟨o0,ho⟩ (fun r hr=>?_) (fun out hm hl=>?_)
  ·simp only [ex4,List.mem_cons,List.not_mem_nil,or_false] at hr
   rcases hr with rfl | rfl | rfl | rfl <;> simp
  ·refine ⟨fun q=>q=false,⟨fun e=>absurd e (by decide),fun _=>?_⟩,?_⟩
   ·obtain ⟨g1,g2,g3,g4,d1,d2,d3,d4,e1,e2,e3,e4,n1,n2,n3,n4,n5,n6,rfl⟩:=ex4_out hm hl
    refine ⟨⟨by omega,by simp⟩,told_M (zs:=ex4Z d) (by intro e; cases e) (fun n hn=>ex4_tell ⟨o0,ho⟩ n1 n2 n3 n4 n5 n6 n hn) ⟨?_,fun z hz=>txt_len ?_⟩ ⟨by simp only [In]; omega,⟨by omega,by omega⟩,?_⟩⟩
    ·unfold ex4Z; split
     ·decide
     ·split <;> decide
    ·have:z=1∨z=2∨z=3∨z=4:=by
      unfold ex4Z at hz
      split at hz
      ·simp at hz; omega
      ·split at hz <;> simp at hz <;> omega
     omega
    ·rw [ex4_txt ⟨o0,ho⟩,decide_eq_true rfl]; rfl
   ·rintro _ rfl
    exact ⟨fun e=>(by cases e),fun _=>⟨by simp only [In]; omega,⟨by omega,by omega,d,d,d,d,rfl⟩,by dsimp only; omega⟩⟩
end Go.Proofs.YtjjcdkfhaceicaaGreatDoor
 