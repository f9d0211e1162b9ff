/- Texts of this claim, joined by a program: Lov. -/
import Derived.Test.YtjoepdjeekadcaaGreatDoorJ5
namespace Go.Proofs.YtjoepdjeekadcaaGreatDoor

section
open Go Go.RowKit
variable {l q:List PV} {f:Bool} {o:Int}
theorem next_M {at_:Int} {pd:Bool} {K:PV->Bool->Int->Prop} (hl:q.length<=1000) (h0:0<=at_) (h1:at_<=q.length) (hy:at_<q.length->K (q.getD at_.toNat PV.nil) true (at_+1)) (hn:at_=q.length->K PV.nil false at_):qH l f o q at_ false pd K:=by
 intro _ _ _ _
 refine ⟨fun e=>hn ?_,fun e=>⟨by simp only [In]; omega,by simp only [In]; omega,?_,?_⟩⟩
 ·simp only [Bool.false_or,decide_eq_true_eq] at e; omega
 ·simp only [Bool.false_or,decide_eq_false_iff_not] at e; omega
 ·simp only [Bool.false_or,decide_eq_false_iff_not] at e
  rw [show (at_+1 - 1).toNat=at_.toNat by omega]
  exact hy (by omega)
theorem nextY_M {at_:Int} {pd:Bool} {K:PV->Bool->Int->Prop} (hl:q.length<=1000) (h0:0<=at_) (h1:at_<q.length) (h:K (q.getD at_.toNat PV.nil) true (at_+1)):qH l f o q at_ false pd K :=
 next_M hl h0 (by omega) (fun _=>h) (fun e=>by omega)
theorem nextN_M {at_:Int} {pd:Bool} {K:PV->Bool->Int->Prop} (hl:q.length<=1000) (h1:at_=q.length) (h:K PV.nil false at_):qH l f o q at_ false pd K :=
 next_M hl (by omega) (by omega) (fun e=>by omega) (fun _=>h)
theorem cmp_R {x:PV} {B F R:Prop} (hx:OkI x) (hb:B) (h:R):∃ J1:Bool->Prop,((((!true)=true->J1 true)/\((!true)=false->jb x (fun t91=>B/\jb x (fun t96=>J1 (!decide (t91=t96)))))))/\(∀ q4:Bool,J1 q4->((q4=true->F)/\(q4=false->R))) :=
 ⟨fun q=>q=false,⟨fun e=>(by cases e),fun _=>vreprI_M hx ⟨hb,vreprI_M hx (by simp)⟩⟩,by rintro _ rfl; exact ⟨fun e=>(by cases e),fun _=>h⟩⟩
theorem all_R {K:List PV->Er->List PV->Bool->Int->Prop} (hl:l.length<=1000) (ho : -1000<=o/\o<=1000) (h:K l .ok l f o):∀ (l':List PV) (x:PV) (is:Bool) (a:Int) (en pd:Bool) (v0:List PV) (v1:Bool) (v2:Int),(∃ k:Nat,k<=l.length/\l'=l.take k/\((k<l.length/\is=true/\x=l.getD k PV.nil/\a=(k:Int)+1)∨(k=l.length/\is=false/\a=k))/\false=en/\false=pd/\l=v0/\f=v1/\v2=o+1) ->
  ((is=true->(((1024:Int)<=(l'.length:Int)->False)/\(¬ ((1024:Int)<=(l'.length:Int))->((l'.length+(([x]:List PV)).length)*16<=140737488355328)/\qH v0 v1 v2 l a en pd (fun (t260:PV) (t261:Bool) (t110_2:Int) =>
   (∃ k:Nat,k<=l.length/\l'++[x]=l.take k/\((k<l.length/\t261=true/\t260=l.getD k PV.nil/\t110_2=(k:Int)+1)∨(k=l.length/\t261=false/\t110_2=k))/\false=en/\false=pd/\l=v0/\f=v1/\v2=o+1)/\l.length - (l'++[x]).length<l.length - l'.length)))) /\
  (is=false->qP v0 v1 v2 l a en pd (fun (_:Int) (_:Bool) (_:Bool) (v_7:List PV) (v_8:Bool) (v_9:Int)=>K l' Er.ok v_7 v_8 v_9))):=by
 rintro l' x is a en pd v0 v1 v2 ⟨k,hk,rfl,hx,rfl,rfl,rfl,rfl,rfl⟩
 have hkl:(l.take k).length=k:=by simp; omega
 refine ⟨fun e=>⟨fun e2=>by omega,fun _=>⟨by simp; omega,?_⟩⟩,fun e=>?_⟩
 ·subst e
  rcases hx with ⟨h1,_,rfl,rfl⟩ | ⟨_,h,_⟩
  ·have e2:l.take k++[l.getD k PV.nil]=l.take (k+1):=by
    rw [List.take_add_one,List.getElem?_eq_getElem h1,getD_get' h1]; rfl
   have e3:(l.take (k+1)).length=k+1:=by simp; omega
   rw [e2]
   refine next_M hl (by omega) (by omega) (fun hlt=>⟨⟨k+1,by omega,rfl,.inl ⟨by omega,rfl,by rw [show ((k:Int)+1).toNat=k+1 by omega],by omega⟩,rfl,rfl,rfl,rfl,rfl⟩,by omega⟩) (fun he=>⟨⟨k+1,by omega,rfl,.inr ⟨by omega,rfl,by omega⟩,rfl,rfl,rfl,rfl,rfl⟩,by omega⟩)
  ·cases h
 ·subst e
  rcases hx with ⟨_,h,_⟩ | ⟨h1,_,rfl⟩
  ·cases h
  ·refine jN (by omega) ?_
   rw [h1,List.take_length,show o+1 + -1=o by omega]
   exact h
theorem all_M {K:List PV->Er->List PV->Bool->Int->Prop} (hl:l.length<=1000) (ho : -1000<=o/\o<=1000) (h:K l .ok l f o):jC l f o K:=by
 intro _
 refine each_M (by omega) (by omega) ⟨fun e=>absurd rfl e,fun _=>?_⟩
 refine next_M hl (by omega) (by omega) (fun hlt=>?_) (fun he=>?_)
 ·refine ⟨fun l' x is a en pd v0 v1 v2=>∃ k:Nat,k<=l.length/\l'=l.take k/\((k<l.length/\is=true/\x=l.getD k PV.nil/\a=(k:Int)+1)∨(k=l.length/\is=false/\a=k))/\false=en/\false=pd/\l=v0/\f=v1/\v2=o+1,
   fun l' _ _ _ _ _ _ _ _=>l.length - l'.length,⟨0,by omega,by simp,.inl ⟨by omega,rfl,rfl,by omega⟩,rfl,rfl,rfl,rfl,rfl⟩,?_⟩
  exact all_R hl ho h
 ·refine ⟨fun l' x is a en pd v0 v1 v2=>∃ k:Nat,k<=l.length/\l'=l.take k/\((k<l.length/\is=true/\x=l.getD k PV.nil/\a=(k:Int)+1)∨(k=l.length/\is=false/\a=k))/\false=en/\false=pd/\l=v0/\f=v1/\v2=o+1,
   fun l' _ _ _ _ _ _ _ _=>l.length - l'.length,⟨0,by omega,by simp,.inr ⟨by omega,rfl,by omega⟩,rfl,rfl,rfl,rfl,rfl⟩,?_⟩
  exact all_R hl ho h
theorem keach_M {s:List UInt8} {K0:Er->Prop} {K:PV->List PV->Int->Bool->Bool->Er->Prop} (h:K0 (.e 3)):ko (.str s) K0 K:=by
 refine ⟨by simp,fun q=>q=false,⟨fun e=>absurd e (by simp [jV]),fun _=>⟨fun e=>absurd e (by simp [jV]),fun _=>by simp [jV]⟩⟩,?_⟩
 rintro _ rfl
 exact ⟨fun e=>(by cases e),fun _=>⟨fun e=>absurd e (by simp [jV]),fun _=>h⟩⟩
theorem vstr_M {s:List UInt8} {K:PV->Prop} (h:K (.str s)):kr s K:=h
theorem overs_lo {l:List Int} {n:Int} {K:Bool->Prop} (hin:∀ x∈l,(Lit.int .i64 x).wf=true) (_:In .i64 n) (h:K true):jL l n K:=by
 intro _
 refine lfirst_M ⟨fun e=>(by cases e),fun _=>⟨fun _=>h,fun e=>?_⟩⟩
 have hl:l.length<=20:=by simp at e; omega
 refine items_M' (by omega) (fun x hx=>?_) fun b=>newlist_M (by simp; omega) (number_M (by omega) ?_)
 ·have:=hin x hx
  simpa [Lit.wf,In,IntKind.min,IntKind.max,IntKind.signed,IntKind.bits] using this
 have hk:=numR n (b:=4) (by omega)
 generalize (n.tmod 4+4).tmod 4=k at *
 have hok:∀ x∈l.map itemP,OkI x:=fun x hx=>by obtain ⟨n,_,rfl⟩:=List.mem_map.1 hx; exact itemP_ok n
 have hpl:(l.map itemP).length=l.length:=List.length_map ..
 generalize l.map itemP=p at *
 have hat:∀ i:Int,0<=i->i<p.length->OkI (p.getD i.toNat PV.nil):=fun i h0 h1=>by
  rw [getD_get' (by omega)]
  exact hok _ (List.getElem_mem _)
 refine ⟨by simp only [In]; omega,⟨by omega,by omega⟩,fun _=>?_,fun _=>?_,fun _=>?_,fun _=>?_⟩
 ·refine each_M (by omega) (by omega) ⟨fun e=>absurd rfl e,fun _=>?_⟩
  refine ⟨fun i a0=>0<=i/\i<=p.length/\a0=i,fun i _=>((p.length:Int) - i).toNat,⟨by omega,by omega,rfl⟩,?_⟩
  rintro i a0 ⟨h0,h1,rfl⟩
  refine ⟨fun hi=>?_,fun hi=>?_⟩
  ·exact nextY_M (by omega) h0 (by omega) (cmp_R (hat _ h0 (by omega)) (by omega) (⟨by simp only [In]; omega,⟨by omega,by omega,rfl⟩,by first | omega | (dsimp only; omega)⟩))
  ·refine nextN_M (by omega) (by omega) ⟨fun e=>(by cases e),fun _=>jv (by omega) (ka (by omega) (is_M ⟨fun e=>absurd e (by decide),fun _=>jN (by omega) (?_)⟩))⟩
   refine all_M (by omega) (by omega) (vstr_M (keach_M ⟨fun _=>⟨fun _=>jv (by omega) ?_,fun e=>absurd (of_decide_eq_false e) (by omega)⟩,fun e=>absurd e (by simp)⟩))
   rw [show 0+1 + -1=(0:Int) by omega]
   exact append_yes (by omega) ⟨fun _=>is_M h,fun e=>absurd e (by simp)⟩
 ·refine each_M (by omega) (by omega) ⟨fun e=>absurd rfl e,fun _=>each_M (by omega) (by omega) ⟨fun e=>absurd rfl e,fun _=>?_⟩⟩
  refine ⟨fun i a0 a1=>0<=i/\i<=p.length/\a0=i/\a1=i,fun i _ _=>((p.length:Int) - i).toNat,⟨by omega,by omega,rfl,rfl⟩,?_⟩
  rintro i a0 a1 ⟨h0,h1,rfl,rfl⟩
  refine ⟨fun hi=>?_,fun hi=>?_⟩
  ·exact nextY_M (by omega) h0 (by omega) (cmp_R (hat _ h0 (by omega)) (by omega) (nextY_M (by omega) h0 (by omega) (cmp_R (hat _ h0 (by omega)) (by omega) (⟨by simp only [In]; omega,⟨by omega,by omega,rfl,rfl⟩,by first | omega | (dsimp only; omega)⟩))))
  ·refine nextN_M (by omega) (by omega) ⟨fun e=>(by cases e),fun _=>jv (by omega) (ka (by omega) (is_M ⟨fun e=>absurd e (by decide),fun _=>jN (by omega) (nextN_M (by omega) (by omega) ⟨fun e=>(by cases e),fun _=>jv (by omega) (ka (by omega) (is_M ⟨fun e=>absurd e (by decide),fun _=>jN (by omega) (?_)⟩))⟩)⟩))⟩
   refine all_M (by omega) (by omega) (vstr_M (keach_M ⟨fun _=>⟨fun _=>jv (by omega) ?_,fun e=>absurd (of_decide_eq_false e) (by omega)⟩,fun e=>absurd e (by simp)⟩))
   rw [show 0+1+1 + -1 + -1=(0:Int) by omega]
   exact append_yes (by omega) ⟨fun _=>is_M h,fun e=>absurd e (by simp)⟩
 ·refine each_M (by omega) (by omega) ⟨fun e=>absurd rfl e,fun _=>each_M (by omega) (by omega) ⟨fun e=>absurd rfl e,fun _=>each_M (by omega) (by omega) ⟨fun e=>absurd rfl e,fun _=>?_⟩⟩⟩
  refine ⟨fun i a0 a1 a2=>0<=i/\i<=p.length/\a0=i/\a1=i/\a2=i,fun i _ _ _=>((p.length:Int) - i).toNat,⟨by omega,by omega,rfl,rfl,rfl⟩,?_⟩
  rintro i a0 a1 a2 ⟨h0,h1,rfl,rfl,rfl⟩
  refine ⟨fun hi=>?_,fun hi=>?_⟩
  ·exact nextY_M (by omega) h0 (by omega) (cmp_R (hat _ h0 (by omega)) (by omega) (nextY_M (by omega) h0 (by omega) (cmp_R (hat _ h0 (by omega)) (by omega) (nextY_M (by omega) h0 (by omega) (cmp_R (hat _ h0 (by omega)) (by omega) (⟨by simp only [In]; omega,⟨by omega,by omega,rfl,rfl,rfl⟩,by first | omega | (dsimp only; omega)⟩))))))
  ·refine nextN_M (by omega) (by omega) ⟨fun e=>(by cases e),fun _=>jv (by omega) (ka (by omega) (is_M ⟨fun e=>absurd e (by decide),fun _=>jN (by omega) (nextN_M (by omega) (by omega) ⟨fun e=>(by cases e),fun _=>jv (by omega) (ka (by omega) (is_M ⟨fun e=>absurd e (by decide),fun _=>jN (by omega) (nextN_M (by omega) (by omega) ⟨fun e=>(by cases e),fun _=>jv (by omega) (ka (by omega) (is_M ⟨fun e=>absurd e (by decide),fun _=>jN (by omega) (?_)⟩))⟩)⟩))⟩)⟩))⟩
   refine all_M (by omega) (by omega) (vstr_M (keach_M ⟨fun _=>⟨fun _=>jv (by omega) ?_,fun e=>absurd (of_decide_eq_false e) (by omega)⟩,fun e=>absurd e (by simp)⟩))
   rw [show 0+1+1+1 + -1 + -1 + -1=(0:Int) by omega]
   exact append_yes (by omega) ⟨fun _=>is_M h,fun e=>absurd e (by simp)⟩
 ·refine each_M (by omega) (by omega) ⟨fun e=>absurd rfl e,fun _=>each_M (by omega) (by omega) ⟨fun e=>absurd rfl e,fun _=>each_M (by omega) (by omega) ⟨fun e=>absurd rfl e,fun _=>each_M (by omega) (by omega) ⟨fun e=>absurd rfl e,fun _=>?_⟩⟩⟩⟩
  refine ⟨fun i a0 a1 a2 a3=>0<=i/\i<=p.length/\a0=i/\a1=i/\a2=i/\a3=i,fun i _ _ _ _=>((p.length:Int) - i).toNat,⟨by omega,by omega,rfl,rfl,rfl,rfl⟩,?_⟩
  rintro i a0 a1 a2 a3 ⟨h0,h1,rfl,rfl,rfl,rfl⟩
  refine ⟨fun hi=>?_,fun hi=>?_⟩
  ·exact nextY_M (by omega) h0 (by omega) (cmp_R (hat _ h0 (by omega)) (by omega) (nextY_M (by omega) h0 (by omega) (cmp_R (hat _ h0 (by omega)) (by omega) (nextY_M (by omega) h0 (by omega) (cmp_R (hat _ h0 (by omega)) (by omega) (nextY_M (by omega) h0 (by omega) (cmp_R (hat _ h0 (by omega)) (by omega) (⟨by simp only [In]; omega,⟨by omega,by omega,rfl,rfl,rfl,rfl⟩,by first | omega | (dsimp only; omega)⟩))))))))
  ·refine nextN_M (by omega) (by omega) ⟨fun e=>(by cases e),fun _=>jv (by omega) (ka (by omega) (is_M ⟨fun e=>absurd e (by decide),fun _=>jN (by omega) (nextN_M (by omega) (by omega) ⟨fun e=>(by cases e),fun _=>jv (by omega) (ka (by omega) (is_M ⟨fun e=>absurd e (by decide),fun _=>jN (by omega) (nextN_M (by omega) (by omega) ⟨fun e=>(by cases e),fun _=>jv (by omega) (ka (by omega) (is_M ⟨fun e=>absurd e (by decide),fun _=>jN (by omega) (nextN_M (by omega) (by omega) ⟨fun e=>(by cases e),fun _=>jv (by omega) (ka (by omega) (is_M ⟨fun e=>absurd e (by decide),fun _=>jN (by omega) (?_)⟩))⟩)⟩))⟩)⟩))⟩)⟩))⟩
   refine all_M (by omega) (by omega) (vstr_M (keach_M ⟨fun _=>⟨fun _=>jv (by omega) ?_,fun e=>absurd (of_decide_eq_false e) (by omega)⟩,fun e=>absurd e (by simp)⟩))
   rw [show 0+1+1+1+1 + -1 + -1 + -1 + -1=(0:Int) by omega]
   exact append_yes (by omega) ⟨fun _=>is_M h,fun e=>absurd e (by simp)⟩
end
 end Go.Proofs.YtjoepdjeekadcaaGreatDoor
