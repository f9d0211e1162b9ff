/- Texts of this claim, joined by a program: Rs, Rw, RevV, DwB, DwC, Ord, Hoist. -/
import Derived.Test.YtjjcdkfhaceicaaGreatDoorJ3

namespace Go.Proofs.YtjjcdkfhaceicaaGreatDoor
open Go Go.RowKit
attribute [local irreducible] WL WC WX WQ WK WJ Yld Eff Ef0 Fn
theorem LiveB.gr {w w':World} {g:Nat} (h:LiveB w g) (hg:w.grownBy w' none):LiveB w' g:=by
 obtain ⟨c,e,h⟩:=h
 have hlt:g<w.heap.size:=(Array.getElem?_eq_some_iff.1 h).1
 exact ⟨c,e,(hg.block g hlt (by simp)).trans h⟩
theorem relO {w:World} {v0:OV} {F:Nat→Prop} {s0 s:RO} (h0:RelD deO w [(v0,F)] [s0]) (hr:RRch s0 s):∃ v:OV,RelD deO w [(v,F)] [s]:=by
 obtain ⟨⟨n,h⟩,hF⟩:=h0.one
 obtain ⟨m,u,hm⟩:=h.reach hr
 exact ⟨⟨u,by rw [hm.ptr]; rfl⟩,RelD.cons ⟨⟨m,hm⟩,hF⟩ RelD.nil⟩
structure QLe (a b:TQ):Prop where
 s:a.seen.length≤b.seen.length
 k:a.keys.length≤b.keys.length
 o:a.out.length≤b.out.length
theorem QLe.refl (a:TQ):QLe a a:=⟨Nat.le_refl _,Nat.le_refl _,Nat.le_refl _⟩
theorem QLe.trans {a b c:TQ} (h:QLe a b) (k:QLe b c):QLe a c:=⟨Nat.le_trans h.s k.s,Nat.le_trans h.k k.k,Nat.le_trans h.o k.o⟩
theorem itemQ_le (kf:RV→List UInt8) (t:TQ) (v:RV):QLe t (zj kf t v):=by
 unfold zj
 split
 ·exact .refl _
 ·exact ⟨Nat.le_refl _,by simp,by simp⟩
theorem qg {α:Type} {f:TQ→α→TQ} (h:∀ t x,QLe t (f t x)):∀ (l:List α) (t:TQ),QLe t (l.foldl f t)
 | [],t=>.refl _
 | x :: l,t=>(h t x).trans (qg h l _)
theorem setQ_le (kf:RV→List UInt8):∀ (n:Nat) (o:Int) (s:RO) (t:TQ),QLe t (setQ kf n o s t)
 | 0,_,_,t=>.refl t
 | n+1,o,s,t=>by
  rw [setQ]
  split
  ·exact .refl _
  ·have h1:QLe t { t with seen:=t.seen++[s] }:=⟨by simp,Nat.le_refl _,Nat.le_refl _⟩
   have hf:∀ (l:List RV) (u:TQ),QLe u (l.foldl (fun t f=>setQ kf n o f.2.2 t) u):=fun l u=>qg (fun t f=>setQ_le kf n o f.2.2 t) l u
   have hi:∀ (l:List RV) (u:TQ),QLe u (l.foldl (zj kf) u):=fun l u=>qg (itemQ_le kf) l u
   dsimp only
   split
   ·exact h1.trans (hf _ _)
   ·split
    ·exact (h1.trans (hi _ _)).trans (hf _ _)
    ·split
     ·exact (h1.trans (hf _ _)).trans (hi _ _)
     ·exact (h1.trans (hf _ _)).trans (hi _ _)
set_option maxHeartbeats 4000000 in
theorem setR_fn {w:World} {v0:OV} {F:Nat→Prop} {s0:RO} {gt:Nat} (h0:RelD deO w [(v0,F)] [s0]) (hnn:NoNil s0) (o:Int) (ho3:0≤o∧o≤3) (kf:RV→List UInt8) (hkf:o≠0→∀ s,RRch s0 s→∀ x∈s.items,KeyIs x (kf x)):∀ (n:Nat) (s:RO) (t:TQ) (As:Option Addr) (cs:Nat) (Ak:Option Addr) (ck:Nat) (Ao:Option Addr) (co:Nat) (ho:List RH) (w2:World),depO n s→RRch s0 s→s≠.nil→QI w F gt o w2 t As cs Ak ck Ao co ho →
  (setQ kf n o s t).seen.length≤100000→(setQ kf n o s t).out.length≤100000→(setQ kf n o s t).keys.length≤100000 →
  Fn Tryz.prog 77 ⟨[.pointer (some ⟨gt,0,none⟩),.pointer (some ⟨s.id,0,none⟩)]⟩ w2 (fun r w3=>r=.tuple #[]∧∃ As' cs' Ak' ck' Ao' co' ho',QI w F gt o w3 (setQ kf n o s t) As' cs' Ak' ck' Ao' co' ho'):=by
 intro n
 induction n with
 | zero =>
  intro s t As cs Ak ck Ao co ho w2 hdp hr hn
  cases s with
  | nil=>exact absurd rfl hn
  | mk=>exact absurd hdp (by simp [depO])
 | succ n ih =>
  intro s t As cs Ak ck Ao co ho w2 hdp hr hn I hb1 hb2 hb3
  obtain ⟨vs',hS⟩:=relO h0 hr
  obtain ⟨Ai,ci,Af,cf,hi,hf,hp,_,hB,hRi,hri,hFi,_,hRf,hrf,_,_⟩:=deO_open hS hn
  have hlive:LiveB w2 s.id:=LiveB.gr hB.live I.gr
  have hts:=Nat.le_trans (setQ_le kf (n+1) o s t).s hb1
  refine Fn.enter (by kernel_rfl) Tryz.func77 rfl Tryz.ntmps77 rfl ?_
  repeat refine WC.seq ?_
  refine WC.region ?_
  refine WL.y rfl (Yld.pure za rfl) ?_
  refine WL.nil (WX.then_normal ?_)
  repeat (first | refine WC.seq ?_ | refine WC.block ?_)
  refine WC.loopF (fun n' L' w'=>∃ i:Nat,n'=t.seen.length - i∧L'=[(0,.pointer (some ⟨gt,0,none⟩)),(1,.pointer (some ⟨s.id,0,none⟩)),(4,.int .i64 (i:Int))]∧i≤t.seen.length∧(∀ j,j<i→∀ y,t.seen[j]?=some y→y.id≠s.id)∧w2=w') _ _ ⟨0,rfl,rfl,Nat.zero_le _,fun j hj=>absurd hj (by omega),rfl⟩ (by repeat (first | exact Sub.nil | refine Sub.cons rfl ?_)) ?_
  rintro _ _ _ ⟨i,rfl,rfl,hil,hne,rfl⟩
  repeat refine WC.seq ?_
  refine WC.region ?_
  refine WL.y rfl (Yld.pure za rfl) ?_
  refine WL.y rfl (Yld.pure za rfl) ?_
  refine WL.y rfl (Yld.pure za rfl) ?_
  refine WL.y rfl (Yld.pure za rfl) ?_
  refine WL.y rfl (Yld.bload za I.box rfl rfl rfl) ?_
  refine WL.y rfl (Yld.pure za rfl) ?_
  refine WL.y rfl (Yld.pure za rfl) ?_
  refine WL.nil (WX.then_normal ?_)
  refine WC.cond rfl (fun b1=>?_) (fun b1=>?_)
  ·have b1:=of_decide_eq_true b1
   have hlt:i<t.seen.length:=by omega
   obtain ⟨y,hy⟩:∃ y,t.seen[i]?=some y:=⟨_,List.getElem?_eq_getElem hlt⟩
   have hym:y∈t.seen:=List.mem_of_getElem? hy
   refine WC.skip (WX.then_normal ?_)
   refine WC.seq ?_
   refine WC.block ?_
   refine WC.seq ?_
   refine WC.region ?_
   refine WL.y rfl (Yld.pure za rfl) ?_
   refine WL.y rfl (Yld.pure za rfl) ?_
   refine WL.y rfl (Yld.pure za rfl) ?_
   refine WL.y rfl (Yld.bload za I.box rfl rfl rfl) ?_
   refine WL.y rfl (Yld.pure za rfl) ?_
   refine WL.y rfl (Yld.iaddrW za I.os.rd rfl rfl (by simp) rfl (by omega) (by omega)) ?_
   have hq:((i:Int)).toNat=i:=by omega
   rw [hq]
   refine WL.y rfl (Yld.to (v:=.pointer (some ⟨y.id,0,none⟩)) (Yld.iload 0 za I.os.rd rfl rfl (by simpa using hlt)) (by simp [List.getD,hy,vp])) ?_
   refine WL.y rfl (Yld.pure za rfl) ?_
   refine WL.y rfl (Yld.peq2 Tryz.underlying36 (by kernel_rfl) rfl rfl ((I.sl y hym).gr I.gr) hlive) ?_
   refine WL.nil (WX.then_normal ?_)
   refine WC.cond rfl (fun b2=>?_) (fun b2=>?_)
   ·have b2:=of_decide_eq_true b2
    have hin:s.id∈t.seen.map RO.id:=List.mem_map.2 ⟨y,hym,b2⟩
    have he:setQ kf (n+1) o s t=t:=by rw [setQ,if_pos hin]
    repeat (first | refine WC.seq ?_ | refine WC.block ?_ | refine WC.region ?_ | refine WL.nil ?_ | refine WX.then_normal ?_ | refine WC.skip ?_ | refine WC.exit ?_ | refine WC.ret ?_ | refine WX.then_exit ?_ | refine WX.then_ret ?_ | refine WX.block_normal ?_ | refine WX.block_ret ?_ | refine WX.block_same ?_ | refine WX.block_other rfl ?_ | refine WC.label ?_ | refine WC.scope ?_ | refine WX.scope_normal ?_ | refine WX.scope_ret ?_ | refine WX.scope_exit ?_ | refine WL.y rfl (Yld.add rfl rfl (by simp only [In]; omega)) ?_ | refine WL.y rfl (Yld.sub rfl rfl (by simp only [In]; omega)) ?_ | refine WL.y rfl (Yld.mul rfl rfl (by simp only [In]; omega)) ?_ | refine WL.y rfl (Yld.convB za rfl rfl rfl rfl) ?_ | refine WL.y rfl (Yld.conv za rfl rfl rfl (by simp only [In]; omega)) ?_ | refine WL.y rfl (Yld.quo rfl rfl (by omega) (by omega) (by simp only [In]; omega)) ?_ | refine WL.y rfl (Yld.rem rfl rfl (by omega) (by omega)) ?_ | refine WL.y rfl (Yld.shl rfl rfl (by omega)) ?_ | refine WL.y rfl (Yld.shr rfl rfl (by omega)) ?_ | refine WL.y rfl (Yld.pure za rfl) ?_ | refine WL.y rfl (Yld.fld zb rfl rfl rfl) ?_ | refine WL.y rfl (Yld.max2 rfl rfl) ?_ | refine WL.y rfl (Yld.min2 rfl rfl) ?_ | refine WL.y rfl (Yld.pickV rfl rfl rfl) ?_ | refine WL.gno rfl rfl rfl rfl ?_ | refine WL.gyes rfl rfl rfl rfl (Yld.add rfl rfl (by simp only [In]; omega)) ?_ | refine WL.gyes rfl rfl rfl rfl (Yld.sub rfl rfl (by simp only [In]; omega)) ?_ | refine WL.gyes rfl rfl rfl rfl (Yld.mul rfl rfl (by simp only [In]; omega)) ?_ | refine WL.gyes rfl rfl rfl rfl (Yld.convB za rfl rfl rfl rfl) ?_ | refine WL.gyes rfl rfl rfl rfl (Yld.conv za rfl rfl rfl (by simp only [In]; omega)) ?_ | refine WL.gyes rfl rfl rfl rfl (Yld.quo rfl rfl (by omega) (by omega) (by simp only [In]; omega)) ?_ | refine WL.gyes rfl rfl rfl rfl (Yld.rem rfl rfl (by omega) (by omega)) ?_ | refine WL.gyes rfl rfl rfl rfl (Yld.shl rfl rfl (by omega)) ?_ | refine WL.gyes rfl rfl rfl rfl (Yld.shr rfl rfl (by omega)) ?_ | refine WL.gyes rfl rfl rfl rfl (Yld.pure za rfl) ?_ | refine WL.gyes rfl rfl rfl rfl (Yld.fld zb rfl rfl rfl) ?_ | refine WL.gyes rfl rfl rfl rfl (Yld.max2 rfl rfl) ?_ | refine WL.gyes rfl rfl rfl rfl (Yld.min2 rfl rfl) ?_ | refine WL.gyes rfl rfl rfl rfl (Yld.pickV rfl rfl rfl) ?_)
    rw [he]
    exact WX.ret0 rfl ⟨rfl,As,cs,Ak,ck,Ao,co,ho,I⟩
   ·have b2:=of_decide_eq_false b2
    repeat (first | refine WC.seq ?_ | refine WC.block ?_ | refine WC.region ?_ | refine WL.nil ?_ | refine WX.then_normal ?_ | refine WC.skip ?_ | refine WC.exit ?_ | refine WC.ret ?_ | refine WX.then_exit ?_ | refine WX.then_ret ?_ | refine WX.block_normal ?_ | refine WX.block_ret ?_ | refine WX.block_same ?_ | refine WX.block_other rfl ?_ | refine WC.label ?_ | refine WC.scope ?_ | refine WX.scope_normal ?_ | refine WX.scope_ret ?_ | refine WX.scope_exit ?_ | refine WL.y rfl (Yld.add rfl rfl (by simp only [In]; omega)) ?_ | refine WL.y rfl (Yld.sub rfl rfl (by simp only [In]; omega)) ?_ | refine WL.y rfl (Yld.mul rfl rfl (by simp only [In]; omega)) ?_ | refine WL.y rfl (Yld.convB za rfl rfl rfl rfl) ?_ | refine WL.y rfl (Yld.conv za rfl rfl rfl (by simp only [In]; omega)) ?_ | refine WL.y rfl (Yld.quo rfl rfl (by omega) (by omega) (by simp only [In]; omega)) ?_ | refine WL.y rfl (Yld.rem rfl rfl (by omega) (by omega)) ?_ | refine WL.y rfl (Yld.shl rfl rfl (by omega)) ?_ | refine WL.y rfl (Yld.shr rfl rfl (by omega)) ?_ | refine WL.y rfl (Yld.pure za rfl) ?_ | refine WL.y rfl (Yld.fld zb rfl rfl rfl) ?_ | refine WL.y rfl (Yld.max2 rfl rfl) ?_ | refine WL.y rfl (Yld.min2 rfl rfl) ?_ | refine WL.y rfl (Yld.pickV rfl rfl rfl) ?_ | refine WL.gno rfl rfl rfl rfl ?_ | refine WL.gyes rfl rfl rfl rfl (Yld.add rfl rfl (by simp only [In]; omega)) ?_ | refine WL.gyes rfl rfl rfl rfl (Yld.sub rfl rfl (by simp only [In]; omega)) ?_ | refine WL.gyes rfl rfl rfl rfl (Yld.mul rfl rfl (by simp only [In]; omega)) ?_ | refine WL.gyes rfl rfl rfl rfl (Yld.convB za rfl rfl rfl rfl) ?_ | refine WL.gyes rfl rfl rfl rfl (Yld.conv za rfl rfl rfl (by simp only [In]; omega)) ?_ | refine WL.gyes rfl rfl rfl rfl (Yld.quo rfl rfl (by omega) (by omega) (by simp only [In]; omega)) ?_ | refine WL.gyes rfl rfl rfl rfl (Yld.rem rfl rfl (by omega) (by omega)) ?_ | refine WL.gyes rfl rfl rfl rfl (Yld.shl rfl rfl (by omega)) ?_ | refine WL.gyes rfl rfl rfl rfl (Yld.shr rfl rfl (by omega)) ?_ | refine WL.gyes rfl rfl rfl rfl (Yld.pure za rfl) ?_ | refine WL.gyes rfl rfl rfl rfl (Yld.fld zb rfl rfl rfl) ?_ | refine WL.gyes rfl rfl rfl rfl (Yld.max2 rfl rfl) ?_ | refine WL.gyes rfl rfl rfl rfl (Yld.min2 rfl rfl) ?_ | refine WL.gyes rfl rfl rfl rfl (Yld.pickV rfl rfl rfl) ?_)
    refine WX.roundF _ ⟨i+1,rfl,rfl,by omega,fun j hj z hz=>?_,rfl⟩ (by repeat (first | exact Sub.nil | refine Sub.cons rfl ?_)) (by omega)
    by_cases e:j=i
    ·subst e; rw [hy] at hz; cases hz; exact b2
    ·exact hne j (by omega) z hz
  ·have b1:=of_decide_eq_false b1
   obtain rfl:i=t.seen.length:=by omega
   have hnot:s.id∉t.seen.map RO.id:=fun hm=>by
    obtain ⟨y,hy,e⟩:=List.mem_map.1 hm
    obtain ⟨j,hj,rfl⟩:=List.getElem_of_mem hy
    exact hne j hj _ (List.getElem?_eq_getElem hj) e
   have hcap:(t.seen++[s]).length≤100001:=by simp; omega
   refine WC.exit ?_
   repeat (first | refine WX.then_exit ?_ | refine WX.block_same ?_)
   repeat refine WX.then_normal ?_
   repeat refine WC.seq ?_
   refine WC.region ?_
   refine WL.y rfl (Yld.pure za rfl) ?_
   refine WL.y rfl (Yld.pure za rfl) ?_
   refine WL.y rfl (Yld.pure za rfl) ?_
   refine WL.y rfl (Yld.pure za rfl) ?_
   refine WL.y rfl (Yld.bload za I.box rfl rfl rfl) ?_
   refine WL.y rfl (Yld.pure za rfl) ?_
   refine WL.lit (us:=[vp s.id]) za rfl rfl rfl (zf rfl zm) rfl (by omega) (fun g5 w5 hB5 hg5 hl5=>?_)
   have gr5:=zd I.gr hg5
   have hL5:Own vp w5 w.heap.size 36 (some ⟨g5,0,none⟩) 1 [s.id]:=Own.ofBl hB5 (Nat.le_trans (ze I.gr) hl5) (by simp [maxLen]) rfl
   have h5:((t.seen.map RO.id).length+([s.id]:List Nat).length)*8≤140737488355328:=by simp only [List.length_cons,List.length_nil,List.length_map]; omega
   refine WL.append za rfl rfl (show One vp from fun _=>rfl) (I.os.grown hg5) rfl (by simp) hL5.rd rfl rfl h5 (zx h5) (ze gr5) (fun As' cs' w6 hO6 hg6 hk6=>?_)
   have gr6:=zk gr5 hg6 I.os.ge'
   have el:(t.seen.map RO.id++[s.id]).length=(t.seen++[s]).length:=by simp
   rw [el]
   have hX6:=(I.box.g0 hg5).go hg6 (djl I.d1).symm
   refine WL.y rfl (Yld.pure za rfl) ?_
   refine WL.y rfl (Yld.pure za rfl) ?_
   refine WL.store1 one136 rfl rfl rfl hX6 (by simp) (fun w7 hX7 hg7=>?_)
   have gr7:=zk gr6 hg7 (Ge.box I.g1)
   have b6:∀ p:Option Nat,Lt p w5.heap.size→Dj p (blk As)→Dj p (blk As'):=fun p hp hd=>(Dj.app hd.symm hp hk6).symm
   have dS7:Dj (blk As') (some gt):=(b6 _ (I.box.g0 hg5).lt' (djl I.d1).symm).symm
   have I1:QI w F gt o w7 { t with seen:=t.seen++[s] } As' cs' Ak ck Ao co ho:=⟨gr7,hX7,by rw [List.map_append]; exact hO6.go hg7 dS7,((I.ok.grown hg5).go hg6 I.d4.symm).go hg7 (djl I.d2),((I.oo.grown hg5).go hg6 I.d5.symm).go hg7 (djl I.d3),I.rl,fun y hy=>by
    rcases List.mem_append.1 hy with hy | hy
    ·exact I.sl y hy
    ·rw [List.mem_singleton.1 hy]; exact hB.live,I.g1,fun e=>dS7 gt e rfl,I.d2,I.d3,(b6 _ (I.ok.grown hg5).lt' I.d4.symm).symm,(b6 _ (I.oo.grown hg5).lt' I.d5.symm).symm,I.d6,I.fo⟩
   refine WL.nil (WX.then_normal ?_)
   have hBr:∀ {w':World},w.grownBy w' none→Bl w' s.id 111 (objC (.slice Ai s.items.length ci) s.deep s.order (.slice Af s.fr.length cf)):=fun g=>hB.g0 g
   have hfl:(s.fr.length:Int)≤9223372036854775807:=by
    have h1:=hRf.cap
    have h2:=hRf.max
    rw [hrf.1] at h1
    simp only [maxLen] at h2
    omega
   have hel:∀ i,i<s.fr.length→∃ f,s.fr[i]?=some f∧f∈s.fr∧f.2.2≠.nil∧(vr (hf.getD i rh0))[5]?=some (.pointer (some ⟨f.2.2.id,0,none⟩)):=fun i hi=>by
    obtain ⟨⟨ve,Fe⟩,eh,hrel⟩:=RelD.at hrf rh0 rv0 (j:=i) hi
    have hgd:s.fr.getD i rv0=s.fr[i]:=by simp [List.getD,hi]
    rw [hgd] at hrel
    have hm:s.fr[i]∈s.fr:=List.getElem_mem hi
    have hnf:=hnn s hr _ hm
    obtain ⟨A,c,o',hc,_,_,hO⟩:=deR_open (F:=Fe) (v:=ve) (x:=s.fr[i]) (RelD.cons hrel RelD.nil)
    obtain ⟨⟨m,hO'⟩,_⟩:=hO.one
    have hpt:=hO'.ptr
    have hno:(s.fr[i]).2.2.isNil=false:=by
     cases h:(s.fr[i]).2.2 with
     | nil=>exact absurd h hnf
     | mk=>rfl
    rw [hno] at hpt
    refine ⟨s.fr[i],List.getElem?_eq_getElem hi,hm,hnf,?_⟩
    rw [eh]
    show ve.1[5]?=_
    rw [hc]
    show some o'.1=_
    rw [show o'.1=_ from hpt]; rfl
   have hdf:∀ f∈s.fr,depO n f.2.2:=by
    cases s with
    | nil=>exact absurd rfl hn
    | mk=>exact hdp
   repeat refine WC.seq ?_
   refine WC.region ?_
   refine WL.y rfl (Yld.pure za rfl) ?_
   refine WL.y rfl (Yld.pure za rfl) ?_
   refine WL.y rfl (Yld.pure za rfl) ?_
   refine WL.y rfl (Yld.bload za (hBr I1.gr) rfl rfl rfl) ?_
   refine WL.y rfl (Yld.pure za rfl) ?_
   refine WL.y rfl (Yld.pure za rfl) ?_
   refine WL.nil (WX.then_normal ?_)
   repeat refine WC.seq ?_
   refine WC.region ?_
   refine WL.y rfl (Yld.pure za rfl) ?_
   refine WL.y rfl (Yld.pure za rfl) ?_
   refine WL.y rfl (Yld.pure za rfl) ?_
   refine WL.y rfl (Yld.bload za I1.box rfl rfl rfl) ?_
   refine WL.nil (WX.then_normal ?_)
   repeat (first | refine WC.seq ?_ | refine WC.block ?_)
   refine WC.region ?_
   refine WL.y rfl (Yld.pure za rfl) ?_
   refine WL.y rfl (Yld.pure za rfl) ?_
   refine WL.nil (WX.then_normal ?_)
   refine WC.cond rfl (fun c1=>?_) (fun c1=>?_)
   ·have c1:o=0:=of_decide_eq_true c1
    have he:setQ kf (n+1) o s t=s.fr.foldl (fun t f=>setQ kf n o f.2.2 t) { t with seen:=t.seen++[s] }:=by rw [setQ,if_neg hnot]; dsimp only; rw [if_pos c1]
    rw [he] at hb1 hb2 hb3 ⊢
    generalize ({ t with seen:=t.seen++[s] }:TQ)=t1 at *
    repeat refine WC.seq ?_
    refine WC.region ?_
    refine WL.y rfl (Yld.pure za rfl) ?_
    refine WL.nil (WX.then_normal ?_)
    refine WC.block ?_
    refine WC.loopF (fun n' L' w'=>∃ (i:Nat) (As:Option Addr) (cs:Nat) (Ak:Option Addr) (ck:Nat) (Ao:Option Addr) (co:Nat) (ho:List RH),n'=s.fr.length - i∧L'=[(0,.pointer (some ⟨gt,0,none⟩)),(1,.pointer (some ⟨s.id,0,none⟩)),(6,.int .i64 (i:Int))]∧i≤s.fr.length∧QI w F gt o w' ((s.fr.take i).foldl (fun t f=>setQ kf n o f.2.2 t) t1) As cs Ak ck Ao co ho) _ _ ⟨0,As',cs',Ak,ck,Ao,co,ho,rfl,rfl,Nat.zero_le _,I1⟩ (by repeat (first | exact Sub.nil | refine Sub.cons rfl ?_)) ?_
    rintro _ _ w8 ⟨i,As8,cs8,Ak8,ck8,Ao8,co8,ho8,rfl,rfl,hi8,I8⟩
    repeat refine WC.seq ?_
    refine WC.region ?_
    refine WL.y rfl (Yld.pure za rfl) ?_
    refine WL.y rfl (Yld.pure za rfl) ?_
    refine WL.y rfl (Yld.pure za rfl) ?_
    refine WL.y rfl (Yld.pure za rfl) ?_
    refine WL.y rfl (Yld.bload za (hBr I8.gr) rfl rfl rfl) ?_
    refine WL.y rfl (Yld.pure za rfl) ?_
    refine WL.y rfl (Yld.pure za rfl) ?_
    refine WL.nil (WX.then_normal ?_)
    refine WC.cond rfl (fun d1=>?_) (fun d1=>?_)
    ·have d1:=of_decide_eq_true d1
     have hil:i<s.fr.length:=by omega
     obtain ⟨f,hf1,hfm,hfn,hfv⟩:=hel i hil
     have hstep:(s.fr.take (i+1)).foldl (fun t f=>setQ kf n o f.2.2 t) t1=setQ kf n o f.2.2 ((s.fr.take i).foldl (fun t f=>setQ kf n o f.2.2 t) t1):=by rw [List.take_add_one,hf1,Option.toList_some,List.foldl_append]; rfl
     have hle:QLe (setQ kf n o f.2.2 ((s.fr.take i).foldl (fun t f=>setQ kf n o f.2.2 t) t1)) (s.fr.foldl (fun t f=>setQ kf n o f.2.2 t) t1):=by
      rw [←hstep]
      have:s.fr.foldl (fun t f=>setQ kf n o f.2.2 t) t1=(s.fr.drop (i+1)).foldl (fun t f=>setQ kf n o f.2.2 t) ((s.fr.take (i+1)).foldl (fun t f=>setQ kf n o f.2.2 t) t1):=by rw [←List.foldl_append,List.take_append_drop]
      rw [this]
      exact qg (f:=fun (t:TQ) (f:RV)=>setQ kf n o f.2.2 t) (fun t f=>setQ_le kf n o f.2.2 t) _ _
     refine WC.skip (WX.then_normal ?_)
     repeat (first | refine WC.seq ?_ | refine WC.block ?_)
     refine WC.region ?_
     refine WL.y rfl (Yld.pure za rfl) ?_
     refine WL.y rfl (Yld.pure za rfl) ?_
     refine WL.y rfl (Yld.pure za rfl) ?_
     refine WL.y rfl (Yld.pure za rfl) ?_
     refine WL.y rfl (Yld.bload za (hBr I8.gr) rfl rfl rfl) ?_
     refine WL.y rfl (Yld.pure za rfl) ?_
     refine WL.y rfl (Yld.iaddrK za (hRf.grown I8.gr) rfl rfl hrf.1.symm rfl (by omega) (by omega)) ?_
     have hq:((i:Int)).toNat=i:=by omega
     rw [hq]
     refine WL.y rfl (Yld.faddrK za (hRf.grown I8.gr) (j:=i) (by rw [hrf.1]; exact hil) rfl rfl rfl) ?_
     refine WL.y rfl (Yld.iloadF (v:=.pointer (some ⟨f.2.2.id,0,none⟩)) rh0 za (hRf.grown I8.gr) rfl rfl (by rw [hrf.1]; exact hil) hfv) ?_
     refine WL.call rfl rfl (ih f.2.2 _ As8 cs8 Ak8 ck8 Ao8 co8 ho8 w8 (hdf f hfm) (.step hr (.inr hfm)) hfn I8 (Nat.le_trans hle.s hb1) (Nat.le_trans hle.o hb2) (Nat.le_trans hle.k hb3)) ?_
     rintro _ w9 ⟨rfl,As9,cs9,Ak9,ck9,Ao9,co9,ho9,I9⟩
     rw [←hstep] at I9
     repeat (first | refine WC.seq ?_ | refine WC.block ?_ | refine WC.region ?_ | refine WL.nil ?_ | refine WX.then_normal ?_ | refine WC.skip ?_ | refine WC.exit ?_ | refine WC.ret ?_ | refine WX.then_exit ?_ | refine WX.then_ret ?_ | refine WX.block_normal ?_ | refine WX.block_ret ?_ | refine WX.block_same ?_ | refine WX.block_other rfl ?_ | refine WC.label ?_ | refine WC.scope ?_ | refine WX.scope_normal ?_ | refine WX.scope_ret ?_ | refine WX.scope_exit ?_ | refine WL.y rfl (Yld.add rfl rfl (by simp only [In]; omega)) ?_ | refine WL.y rfl (Yld.sub rfl rfl (by simp only [In]; omega)) ?_ | refine WL.y rfl (Yld.mul rfl rfl (by simp only [In]; omega)) ?_ | refine WL.y rfl (Yld.convB za rfl rfl rfl rfl) ?_ | refine WL.y rfl (Yld.conv za rfl rfl rfl (by simp only [In]; omega)) ?_ | refine WL.y rfl (Yld.quo rfl rfl (by omega) (by omega) (by simp only [In]; omega)) ?_ | refine WL.y rfl (Yld.rem rfl rfl (by omega) (by omega)) ?_ | refine WL.y rfl (Yld.shl rfl rfl (by omega)) ?_ | refine WL.y rfl (Yld.shr rfl rfl (by omega)) ?_ | refine WL.y rfl (Yld.pure za rfl) ?_ | refine WL.y rfl (Yld.fld zb rfl rfl rfl) ?_ | refine WL.y rfl (Yld.max2 rfl rfl) ?_ | refine WL.y rfl (Yld.min2 rfl rfl) ?_ | refine WL.y rfl (Yld.pickV rfl rfl rfl) ?_ | refine WL.gno rfl rfl rfl rfl ?_ | refine WL.gyes rfl rfl rfl rfl (Yld.add rfl rfl (by simp only [In]; omega)) ?_ | refine WL.gyes rfl rfl rfl rfl (Yld.sub rfl rfl (by simp only [In]; omega)) ?_ | refine WL.gyes rfl rfl rfl rfl (Yld.mul rfl rfl (by simp only [In]; omega)) ?_ | refine WL.gyes rfl rfl rfl rfl (Yld.convB za rfl rfl rfl rfl) ?_ | refine WL.gyes rfl rfl rfl rfl (Yld.conv za rfl rfl rfl (by simp only [In]; omega)) ?_ | refine WL.gyes rfl rfl rfl rfl (Yld.quo rfl rfl (by omega) (by omega) (by simp only [In]; omega)) ?_ | refine WL.gyes rfl rfl rfl rfl (Yld.rem rfl rfl (by omega) (by omega)) ?_ | refine WL.gyes rfl rfl rfl rfl (Yld.shl rfl rfl (by omega)) ?_ | refine WL.gyes rfl rfl rfl rfl (Yld.shr rfl rfl (by omega)) ?_ | refine WL.gyes rfl rfl rfl rfl (Yld.pure za rfl) ?_ | refine WL.gyes rfl rfl rfl rfl (Yld.fld zb rfl rfl rfl) ?_ | refine WL.gyes rfl rfl rfl rfl (Yld.max2 rfl rfl) ?_ | refine WL.gyes rfl rfl rfl rfl (Yld.min2 rfl rfl) ?_ | refine WL.gyes rfl rfl rfl rfl (Yld.pickV rfl rfl rfl) ?_)
     exact WX.roundF _ ⟨i+1,As9,cs9,Ak9,ck9,Ao9,co9,ho9,rfl,rfl,by omega,I9⟩ (by repeat (first | exact Sub.nil | refine Sub.cons rfl ?_)) (by omega)
    ·have d1:=of_decide_eq_false d1
     obtain rfl:i=s.fr.length:=by omega
     rw [List.take_length] at I8
     repeat (first | refine WC.seq ?_ | refine WC.block ?_ | refine WC.region ?_ | refine WL.nil ?_ | refine WX.then_normal ?_ | refine WC.skip ?_ | refine WC.exit ?_ | refine WC.ret ?_ | refine WX.then_exit ?_ | refine WX.then_ret ?_ | refine WX.block_normal ?_ | refine WX.block_ret ?_ | refine WX.block_same ?_ | refine WX.block_other rfl ?_ | refine WC.label ?_ | refine WC.scope ?_ | refine WX.scope_normal ?_ | refine WX.scope_ret ?_ | refine WX.scope_exit ?_ | refine WL.y rfl (Yld.add rfl rfl (by simp only [In]; omega)) ?_ | refine WL.y rfl (Yld.sub rfl rfl (by simp only [In]; omega)) ?_ | refine WL.y rfl (Yld.mul rfl rfl (by simp only [In]; omega)) ?_ | refine WL.y rfl (Yld.convB za rfl rfl rfl rfl) ?_ | refine WL.y rfl (Yld.conv za rfl rfl rfl (by simp only [In]; omega)) ?_ | refine WL.y rfl (Yld.quo rfl rfl (by omega) (by omega) (by simp only [In]; omega)) ?_ | refine WL.y rfl (Yld.rem rfl rfl (by omega) (by omega)) ?_ | refine WL.y rfl (Yld.shl rfl rfl (by omega)) ?_ | refine WL.y rfl (Yld.shr rfl rfl (by omega)) ?_ | refine WL.y rfl (Yld.pure za rfl) ?_ | refine WL.y rfl (Yld.fld zb rfl rfl rfl) ?_ | refine WL.y rfl (Yld.max2 rfl rfl) ?_ | refine WL.y rfl (Yld.min2 rfl rfl) ?_ | refine WL.y rfl (Yld.pickV rfl rfl rfl) ?_ | refine WL.gno rfl rfl rfl rfl ?_ | refine WL.gyes rfl rfl rfl rfl (Yld.add rfl rfl (by simp only [In]; omega)) ?_ | refine WL.gyes rfl rfl rfl rfl (Yld.sub rfl rfl (by simp only [In]; omega)) ?_ | refine WL.gyes rfl rfl rfl rfl (Yld.mul rfl rfl (by simp only [In]; omega)) ?_ | refine WL.gyes rfl rfl rfl rfl (Yld.convB za rfl rfl rfl rfl) ?_ | refine WL.gyes rfl rfl rfl rfl (Yld.conv za rfl rfl rfl (by simp only [In]; omega)) ?_ | refine WL.gyes rfl rfl rfl rfl (Yld.quo rfl rfl (by omega) (by omega) (by simp only [In]; omega)) ?_ | refine WL.gyes rfl rfl rfl rfl (Yld.rem rfl rfl (by omega) (by omega)) ?_ | refine WL.gyes rfl rfl rfl rfl (Yld.shl rfl rfl (by omega)) ?_ | refine WL.gyes rfl rfl rfl rfl (Yld.shr rfl rfl (by omega)) ?_ | refine WL.gyes rfl rfl rfl rfl (Yld.pure za rfl) ?_ | refine WL.gyes rfl rfl rfl rfl (Yld.fld zb rfl rfl rfl) ?_ | refine WL.gyes rfl rfl rfl rfl (Yld.max2 rfl rfl) ?_ | refine WL.gyes rfl rfl rfl rfl (Yld.min2 rfl rfl) ?_ | refine WL.gyes rfl rfl rfl rfl (Yld.pickV rfl rfl rfl) ?_)
     exact WX.end0 rfl ⟨rfl,As8,cs8,Ak8,ck8,Ao8,co8,ho8,I8⟩
   ·have c1:¬ o=0:=of_decide_eq_false c1
    have ho0:o≠0:=c1
    have hil0:(s.items.length:Int)≤9223372036854775807:=by
     have h1:=hRi.cap
     have h2:=hRi.max
     rw [hri.1] at h1
     simp only [maxLen] at h2
     omega
    have hei:∀ i,i<s.items.length→∃ x,∃ ve:RC,∃ Fe:Nat→Prop,s.items[i]?=some x∧x∈s.items∧RelD deR w [(ve,Fe)] [x]∧hi.getD i rh0=(ve,Fe)∧∀ q,Fe q→F q:=fun i hi'=>by
     obtain ⟨⟨ve,Fe⟩,eh,hrel⟩:=RelD.at hri rh0 rv0 (j:=i) hi'
     have hgd:s.items.getD i rv0=s.items[i]:=by simp [List.getD,hi']
     rw [hgd] at hrel
     exact ⟨s.items[i],ve,Fe,List.getElem?_eq_getElem hi',List.getElem_mem hi',RelD.cons hrel RelD.nil,eh,fun q hq=>by
      have hl:i<hi.length:=by rw [hri.1]; exact hi'
      have hm:(ve,Fe)∈hi:=by rw [←eh]; simp [List.getD,hl]
      rw [←hFi _ hm]; exact hq⟩
    repeat refine WC.seq ?_
    refine WC.region ?_
    refine WL.y rfl (Yld.pure za rfl) ?_
    refine WL.y rfl (Yld.pure za rfl) ?_
    refine WL.nil (WX.then_normal ?_)
    refine WC.cond rfl (fun c2=>?_) (fun c2=>?_)
    ·have c2:o=1:=of_decide_eq_true c2
     have he:setQ kf (n+1) o s t=s.fr.foldl (fun (t:TQ) (f:RV)=>setQ kf n o f.2.2 t) (s.items.foldl (zj kf) { t with seen:=t.seen++[s] }):=by rw [setQ,if_neg hnot]; dsimp only; rw [if_neg c1,if_pos c2]
     rw [he] at hb1 hb2 hb3 ⊢
     generalize ({ t with seen:=t.seen++[s] }:TQ)=t1 at *
     repeat refine WC.seq ?_
     refine WC.region ?_
     refine WL.y rfl (Yld.pure za rfl) ?_
     refine WL.nil (WX.then_normal ?_)
     refine WC.block ?_
     refine WC.loopF (fun n' L' w'=>∃ (i:Nat) (As:Option Addr) (cs:Nat) (Ak:Option Addr) (ck:Nat) (Ao:Option Addr) (co:Nat) (ho:List RH),n'=s.items.length - i∧L'=[(0,.pointer (some ⟨gt,0,none⟩)),(1,.pointer (some ⟨s.id,0,none⟩)),(5,.int .i64 (s.items.length:Int)),(7,.int .i64 (i:Int))]∧i≤s.items.length∧QI w F gt o w' ((s.items.take i).foldl (zj kf) t1) As cs Ak ck Ao co ho) _ _ ⟨0,As',cs',Ak,ck,Ao,co,ho,rfl,rfl,Nat.zero_le _,I1⟩ (by repeat (first | exact Sub.nil | refine Sub.cons rfl ?_)) ?_
     rintro _ _ w8 ⟨i,As8,cs8,Ak8,ck8,Ao8,co8,ho8,rfl,rfl,hi8,I8⟩
     repeat refine WC.seq ?_
     refine WC.region ?_
     refine WL.y rfl (Yld.pure za rfl) ?_
     refine WL.y rfl (Yld.pure za rfl) ?_
     refine WL.y rfl (Yld.pure za rfl) ?_
     refine WL.nil (WX.then_normal ?_)
     refine WC.cond rfl (fun d1=>?_) (fun d1=>?_)
     ·have d1:=of_decide_eq_true d1
      have hil:i<s.items.length:=by omega
      obtain ⟨x,ve,Fe,hx1,hxm,hvx,eh,hFe⟩:=hei i hil
      have hstep:(s.items.take (i+1)).foldl (zj kf) t1=zj kf ((s.items.take i).foldl (zj kf) t1) x:=by rw [List.take_add_one,hx1,Option.toList_some,List.foldl_append]; rfl
      have hle0:QLe (zj kf ((s.items.take i).foldl (zj kf) t1) x) (s.items.foldl (zj kf) t1):=by
       rw [←hstep]
       have:s.items.foldl (zj kf) t1=(s.items.drop (i+1)).foldl (zj kf) ((s.items.take (i+1)).foldl (zj kf) t1):=by rw [←List.foldl_append,List.take_append_drop]
       rw [this]
       exact qg (itemQ_le kf) _ _
      have hle:=((itemQ_le kf _ x).trans hle0).trans (qg (f:=fun (t:TQ) (f:RV)=>setQ kf n o f.2.2 t) (fun t f=>setQ_le kf n o f.2.2 t) s.fr _)
      refine WC.skip (WX.then_normal ?_)
      repeat (first | refine WC.seq ?_ | refine WC.block ?_)
      refine WC.region ?_
      refine WL.y rfl (Yld.pure za rfl) ?_
      refine WL.y rfl (Yld.pure za rfl) ?_
      refine WL.y rfl (Yld.pure za rfl) ?_
      refine WL.y rfl (Yld.pure za rfl) ?_
      refine WL.y rfl (Yld.bload za (hBr I8.gr) rfl rfl rfl) ?_
      refine WL.y rfl (Yld.pure za rfl) ?_
      refine WL.y rfl (Yld.iaddrK za (hRi.grown I8.gr) rfl rfl hri.1.symm rfl (by omega) (by omega)) ?_
      have hq:((i:Int)).toNat=i:=by omega
      rw [hq]
      refine WL.y rfl (Yld.to (v:=(.agg ⟨ve.1⟩)) (Yld.iloadK rh0 za (hRi.grown I8.gr) rfl rfl (by rw [hri.1]; exact hil)) (congrArg (fun h=>Value.agg ⟨vr h⟩) eh)) ?_
      refine WL.call rfl rfl (item_fn hvx hFe (hkf ho0 s hr x hxm) I8 ⟨Nat.le_trans hle.k hb3,Nat.le_trans hle.o hb2⟩) ?_
      rintro _ w9 ⟨rfl,Ak9,ck9,Ao9,co9,ho9,I9⟩
      rw [show itemK (kf x) ((s.items.take i).foldl (zj kf) t1) x=zj kf ((s.items.take i).foldl (zj kf) t1) x from rfl,←hstep] at I9
      repeat (first | refine WC.seq ?_ | refine WC.block ?_ | refine WC.region ?_ | refine WL.nil ?_ | refine WX.then_normal ?_ | refine WC.skip ?_ | refine WC.exit ?_ | refine WC.ret ?_ | refine WX.then_exit ?_ | refine WX.then_ret ?_ | refine WX.block_normal ?_ | refine WX.block_ret ?_ | refine WX.block_same ?_ | refine WX.block_other rfl ?_ | refine WC.label ?_ | refine WC.scope ?_ | refine WX.scope_normal ?_ | refine WX.scope_ret ?_ | refine WX.scope_exit ?_ | refine WL.y rfl (Yld.add rfl rfl (by simp only [In]; omega)) ?_ | refine WL.y rfl (Yld.sub rfl rfl (by simp only [In]; omega)) ?_ | refine WL.y rfl (Yld.mul rfl rfl (by simp only [In]; omega)) ?_ | refine WL.y rfl (Yld.convB za rfl rfl rfl rfl) ?_ | refine WL.y rfl (Yld.conv za rfl rfl rfl (by simp only [In]; omega)) ?_ | refine WL.y rfl (Yld.quo rfl rfl (by omega) (by omega) (by simp only [In]; omega)) ?_ | refine WL.y rfl (Yld.rem rfl rfl (by omega) (by omega)) ?_ | refine WL.y rfl (Yld.shl rfl rfl (by omega)) ?_ | refine WL.y rfl (Yld.shr rfl rfl (by omega)) ?_ | refine WL.y rfl (Yld.pure za rfl) ?_ | refine WL.y rfl (Yld.fld zb rfl rfl rfl) ?_ | refine WL.y rfl (Yld.max2 rfl rfl) ?_ | refine WL.y rfl (Yld.min2 rfl rfl) ?_ | refine WL.y rfl (Yld.pickV rfl rfl rfl) ?_ | refine WL.gno rfl rfl rfl rfl ?_ | refine WL.gyes rfl rfl rfl rfl (Yld.add rfl rfl (by simp only [In]; omega)) ?_ | refine WL.gyes rfl rfl rfl rfl (Yld.sub rfl rfl (by simp only [In]; omega)) ?_ | refine WL.gyes rfl rfl rfl rfl (Yld.mul rfl rfl (by simp only [In]; omega)) ?_ | refine WL.gyes rfl rfl rfl rfl (Yld.convB za rfl rfl rfl rfl) ?_ | refine WL.gyes rfl rfl rfl rfl (Yld.conv za rfl rfl rfl (by simp only [In]; omega)) ?_ | refine WL.gyes rfl rfl rfl rfl (Yld.quo rfl rfl (by omega) (by omega) (by simp only [In]; omega)) ?_ | refine WL.gyes rfl rfl rfl rfl (Yld.rem rfl rfl (by omega) (by omega)) ?_ | refine WL.gyes rfl rfl rfl rfl (Yld.shl rfl rfl (by omega)) ?_ | refine WL.gyes rfl rfl rfl rfl (Yld.shr rfl rfl (by omega)) ?_ | refine WL.gyes rfl rfl rfl rfl (Yld.pure za rfl) ?_ | refine WL.gyes rfl rfl rfl rfl (Yld.fld zb rfl rfl rfl) ?_ | refine WL.gyes rfl rfl rfl rfl (Yld.max2 rfl rfl) ?_ | refine WL.gyes rfl rfl rfl rfl (Yld.min2 rfl rfl) ?_ | refine WL.gyes rfl rfl rfl rfl (Yld.pickV rfl rfl rfl) ?_)
      exact WX.roundF _ ⟨i+1,As8,cs8,Ak9,ck9,Ao9,co9,ho9,rfl,rfl,by omega,I9⟩ (by repeat (first | exact Sub.nil | refine Sub.cons rfl ?_)) (by omega)
     ·have d1:=of_decide_eq_false d1
      obtain rfl:i=s.items.length:=by omega
      rw [List.take_length] at I8
      clear I1
      refine WC.exit ?_
      repeat (first | refine WX.then_exit ?_ | refine WX.block_same ?_)
      repeat refine WX.then_normal ?_
      repeat refine WC.seq ?_
      refine WC.region ?_
      refine WL.y rfl (Yld.pure za rfl) ?_
      refine WL.nil (WX.then_normal ?_)
      refine WC.block ?_
      refine WC.loopF (fun n' L' w'=>∃ (i:Nat) (As:Option Addr) (cs:Nat) (Ak:Option Addr) (ck:Nat) (Ao:Option Addr) (co:Nat) (ho:List RH),n'=s.fr.length - i∧L'=[(0,.pointer (some ⟨gt,0,none⟩)),(1,.pointer (some ⟨s.id,0,none⟩)),(8,.int .i64 (i:Int))]∧i≤s.fr.length∧QI w F gt o w' ((s.fr.take i).foldl (fun (t:TQ) (f:RV)=>setQ kf n o f.2.2 t) (s.items.foldl (zj kf) t1)) As cs Ak ck Ao co ho) _ _ ⟨0,As8,cs8,Ak8,ck8,Ao8,co8,ho8,rfl,rfl,Nat.zero_le _,I8⟩ (by repeat (first | exact Sub.nil | refine Sub.cons rfl ?_)) ?_
      rintro _ _ w8 ⟨i,As8,cs8,Ak8,ck8,Ao8,co8,ho8,rfl,rfl,hi8,I8⟩
      repeat refine WC.seq ?_
      refine WC.region ?_
      refine WL.y rfl (Yld.pure za rfl) ?_
      refine WL.y rfl (Yld.pure za rfl) ?_
      refine WL.y rfl (Yld.pure za rfl) ?_
      refine WL.y rfl (Yld.pure za rfl) ?_
      refine WL.y rfl (Yld.bload za (hBr I8.gr) rfl rfl rfl) ?_
      refine WL.y rfl (Yld.pure za rfl) ?_
      refine WL.y rfl (Yld.pure za rfl) ?_
      refine WL.nil (WX.then_normal ?_)
      refine WC.cond rfl (fun d1=>?_) (fun d1=>?_)
      ·have d1:=of_decide_eq_true d1
       have hil:i<s.fr.length:=by omega
       obtain ⟨f,hf1,hfm,hfn,hfv⟩:=hel i hil
       have hstep:(s.fr.take (i+1)).foldl (fun (t:TQ) (f:RV)=>setQ kf n o f.2.2 t) (s.items.foldl (zj kf) t1)=setQ kf n o f.2.2 ((s.fr.take i).foldl (fun (t:TQ) (f:RV)=>setQ kf n o f.2.2 t) (s.items.foldl (zj kf) t1)):=by rw [List.take_add_one,hf1,Option.toList_some,List.foldl_append]; rfl
       have hle0:QLe (setQ kf n o f.2.2 ((s.fr.take i).foldl (fun (t:TQ) (f:RV)=>setQ kf n o f.2.2 t) (s.items.foldl (zj kf) t1))) (s.fr.foldl (fun (t:TQ) (f:RV)=>setQ kf n o f.2.2 t) (s.items.foldl (zj kf) t1)):=by
        rw [←hstep]
        have:s.fr.foldl (fun (t:TQ) (f:RV)=>setQ kf n o f.2.2 t) (s.items.foldl (zj kf) t1)=(s.fr.drop (i+1)).foldl (fun (t:TQ) (f:RV)=>setQ kf n o f.2.2 t) ((s.fr.take (i+1)).foldl (fun (t:TQ) (f:RV)=>setQ kf n o f.2.2 t) (s.items.foldl (zj kf) t1)):=by rw [←List.foldl_append,List.take_append_drop]
        rw [this]
        exact qg (f:=fun (t:TQ) (f:RV)=>setQ kf n o f.2.2 t) (fun t f=>setQ_le kf n o f.2.2 t) _ _
       have hle:=hle0.trans (.refl _)
       refine WC.skip (WX.then_normal ?_)
       repeat (first | refine WC.seq ?_ | refine WC.block ?_)
       refine WC.region ?_
       refine WL.y rfl (Yld.pure za rfl) ?_
       refine WL.y rfl (Yld.pure za rfl) ?_
       refine WL.y rfl (Yld.pure za rfl) ?_
       refine WL.y rfl (Yld.pure za rfl) ?_
       refine WL.y rfl (Yld.bload za (hBr I8.gr) rfl rfl rfl) ?_
       refine WL.y rfl (Yld.pure za rfl) ?_
       refine WL.y rfl (Yld.iaddrK za (hRf.grown I8.gr) rfl rfl hrf.1.symm rfl (by omega) (by omega)) ?_
       have hq:((i:Int)).toNat=i:=by omega
       rw [hq]
       refine WL.y rfl (Yld.faddrK za (hRf.grown I8.gr) (j:=i) (by rw [hrf.1]; exact hil) rfl rfl rfl) ?_
       refine WL.y rfl (Yld.iloadF (v:=.pointer (some ⟨f.2.2.id,0,none⟩)) rh0 za (hRf.grown I8.gr) rfl rfl (by rw [hrf.1]; exact hil) hfv) ?_
       refine WL.call rfl rfl (ih f.2.2 _ As8 cs8 Ak8 ck8 Ao8 co8 ho8 w8 (hdf f hfm) (.step hr (.inr hfm)) hfn I8 (Nat.le_trans hle.s hb1) (Nat.le_trans hle.o hb2) (Nat.le_trans hle.k hb3)) ?_
       rintro _ w9 ⟨rfl,As9,cs9,Ak9,ck9,Ao9,co9,ho9,I9⟩
       rw [←hstep] at I9
       repeat (first | refine WC.seq ?_ | refine WC.block ?_ | refine WC.region ?_ | refine WL.nil ?_ | refine WX.then_normal ?_ | refine WC.skip ?_ | refine WC.exit ?_ | refine WC.ret ?_ | refine WX.then_exit ?_ | refine WX.then_ret ?_ | refine WX.block_normal ?_ | refine WX.block_ret ?_ | refine WX.block_same ?_ | refine WX.block_other rfl ?_ | refine WC.label ?_ | refine WC.scope ?_ | refine WX.scope_normal ?_ | refine WX.scope_ret ?_ | refine WX.scope_exit ?_ | refine WL.y rfl (Yld.add rfl rfl (by simp only [In]; omega)) ?_ | refine WL.y rfl (Yld.sub rfl rfl (by simp only [In]; omega)) ?_ | refine WL.y rfl (Yld.mul rfl rfl (by simp only [In]; omega)) ?_ | refine WL.y rfl (Yld.convB za rfl rfl rfl rfl) ?_ | refine WL.y rfl (Yld.conv za rfl rfl rfl (by simp only [In]; omega)) ?_ | refine WL.y rfl (Yld.quo rfl rfl (by omega) (by omega) (by simp only [In]; omega)) ?_ | refine WL.y rfl (Yld.rem rfl rfl (by omega) (by omega)) ?_ | refine WL.y rfl (Yld.shl rfl rfl (by omega)) ?_ | refine WL.y rfl (Yld.shr rfl rfl (by omega)) ?_ | refine WL.y rfl (Yld.pure za rfl) ?_ | refine WL.y rfl (Yld.fld zb rfl rfl rfl) ?_ | refine WL.y rfl (Yld.max2 rfl rfl) ?_ | refine WL.y rfl (Yld.min2 rfl rfl) ?_ | refine WL.y rfl (Yld.pickV rfl rfl rfl) ?_ | refine WL.gno rfl rfl rfl rfl ?_ | refine WL.gyes rfl rfl rfl rfl (Yld.add rfl rfl (by simp only [In]; omega)) ?_ | refine WL.gyes rfl rfl rfl rfl (Yld.sub rfl rfl (by simp only [In]; omega)) ?_ | refine WL.gyes rfl rfl rfl rfl (Yld.mul rfl rfl (by simp only [In]; omega)) ?_ | refine WL.gyes rfl rfl rfl rfl (Yld.convB za rfl rfl rfl rfl) ?_ | refine WL.gyes rfl rfl rfl rfl (Yld.conv za rfl rfl rfl (by simp only [In]; omega)) ?_ | refine WL.gyes rfl rfl rfl rfl (Yld.quo rfl rfl (by omega) (by omega) (by simp only [In]; omega)) ?_ | refine WL.gyes rfl rfl rfl rfl (Yld.rem rfl rfl (by omega) (by omega)) ?_ | refine WL.gyes rfl rfl rfl rfl (Yld.shl rfl rfl (by omega)) ?_ | refine WL.gyes rfl rfl rfl rfl (Yld.shr rfl rfl (by omega)) ?_ | refine WL.gyes rfl rfl rfl rfl (Yld.pure za rfl) ?_ | refine WL.gyes rfl rfl rfl rfl (Yld.fld zb rfl rfl rfl) ?_ | refine WL.gyes rfl rfl rfl rfl (Yld.max2 rfl rfl) ?_ | refine WL.gyes rfl rfl rfl rfl (Yld.min2 rfl rfl) ?_ | refine WL.gyes rfl rfl rfl rfl (Yld.pickV rfl rfl rfl) ?_)
       exact WX.roundF _ ⟨i+1,As9,cs9,Ak9,ck9,Ao9,co9,ho9,rfl,rfl,by omega,I9⟩ (by repeat (first | exact Sub.nil | refine Sub.cons rfl ?_)) (by omega)
      ·have d1:=of_decide_eq_false d1
       obtain rfl:i=s.fr.length:=by omega
       rw [List.take_length] at I8
       repeat (first | refine WC.seq ?_ | refine WC.block ?_ | refine WC.region ?_ | refine WL.nil ?_ | refine WX.then_normal ?_ | refine WC.skip ?_ | refine WC.exit ?_ | refine WC.ret ?_ | refine WX.then_exit ?_ | refine WX.then_ret ?_ | refine WX.block_normal ?_ | refine WX.block_ret ?_ | refine WX.block_same ?_ | refine WX.block_other rfl ?_ | refine WC.label ?_ | refine WC.scope ?_ | refine WX.scope_normal ?_ | refine WX.scope_ret ?_ | refine WX.scope_exit ?_ | refine WL.y rfl (Yld.add rfl rfl (by simp only [In]; omega)) ?_ | refine WL.y rfl (Yld.sub rfl rfl (by simp only [In]; omega)) ?_ | refine WL.y rfl (Yld.mul rfl rfl (by simp only [In]; omega)) ?_ | refine WL.y rfl (Yld.convB za rfl rfl rfl rfl) ?_ | refine WL.y rfl (Yld.conv za rfl rfl rfl (by simp only [In]; omega)) ?_ | refine WL.y rfl (Yld.quo rfl rfl (by omega) (by omega) (by simp only [In]; omega)) ?_ | refine WL.y rfl (Yld.rem rfl rfl (by omega) (by omega)) ?_ | refine WL.y rfl (Yld.shl rfl rfl (by omega)) ?_ | refine WL.y rfl (Yld.shr rfl rfl (by omega)) ?_ | refine WL.y rfl (Yld.pure za rfl) ?_ | refine WL.y rfl (Yld.fld zb rfl rfl rfl) ?_ | refine WL.y rfl (Yld.max2 rfl rfl) ?_ | refine WL.y rfl (Yld.min2 rfl rfl) ?_ | refine WL.y rfl (Yld.pickV rfl rfl rfl) ?_ | refine WL.gno rfl rfl rfl rfl ?_ | refine WL.gyes rfl rfl rfl rfl (Yld.add rfl rfl (by simp only [In]; omega)) ?_ | refine WL.gyes rfl rfl rfl rfl (Yld.sub rfl rfl (by simp only [In]; omega)) ?_ | refine WL.gyes rfl rfl rfl rfl (Yld.mul rfl rfl (by simp only [In]; omega)) ?_ | refine WL.gyes rfl rfl rfl rfl (Yld.convB za rfl rfl rfl rfl) ?_ | refine WL.gyes rfl rfl rfl rfl (Yld.conv za rfl rfl rfl (by simp only [In]; omega)) ?_ | refine WL.gyes rfl rfl rfl rfl (Yld.quo rfl rfl (by omega) (by omega) (by simp only [In]; omega)) ?_ | refine WL.gyes rfl rfl rfl rfl (Yld.rem rfl rfl (by omega) (by omega)) ?_ | refine WL.gyes rfl rfl rfl rfl (Yld.shl rfl rfl (by omega)) ?_ | refine WL.gyes rfl rfl rfl rfl (Yld.shr rfl rfl (by omega)) ?_ | refine WL.gyes rfl rfl rfl rfl (Yld.pure za rfl) ?_ | refine WL.gyes rfl rfl rfl rfl (Yld.fld zb rfl rfl rfl) ?_ | refine WL.gyes rfl rfl rfl rfl (Yld.max2 rfl rfl) ?_ | refine WL.gyes rfl rfl rfl rfl (Yld.min2 rfl rfl) ?_ | refine WL.gyes rfl rfl rfl rfl (Yld.pickV rfl rfl rfl) ?_)
       exact WX.end0 rfl ⟨rfl,As8,cs8,Ak8,ck8,Ao8,co8,ho8,I8⟩
    ·have c2:¬ o=1:=of_decide_eq_false c2
     repeat refine WC.seq ?_
     refine WC.region ?_
     refine WL.y rfl (Yld.pure za rfl) ?_
     refine WL.y rfl (Yld.pure za rfl) ?_
     refine WL.nil (WX.then_normal ?_)
     refine WC.cond rfl (fun c3=>?_) (fun c3=>?_)
     ·have c3:o=2:=of_decide_eq_true c3
      have he:setQ kf (n+1) o s t=s.items.foldl (zj kf) (s.fr.foldl (fun (t:TQ) (f:RV)=>setQ kf n o f.2.2 t) { t with seen:=t.seen++[s] }):=by rw [setQ,if_neg hnot]; dsimp only; rw [if_neg c1,if_neg c2,if_pos c3]
      rw [he] at hb1 hb2 hb3 ⊢
      generalize ({ t with seen:=t.seen++[s] }:TQ)=t1 at *
      repeat refine WC.seq ?_
      refine WC.region ?_
      refine WL.y rfl (Yld.pure za rfl) ?_
      refine WL.nil (WX.then_normal ?_)
      refine WC.block ?_
      refine WC.loopF (fun n' L' w'=>∃ (i:Nat) (As:Option Addr) (cs:Nat) (Ak:Option Addr) (ck:Nat) (Ao:Option Addr) (co:Nat) (ho:List RH),n'=s.fr.length - i∧L'=[(0,.pointer (some ⟨gt,0,none⟩)),(1,.pointer (some ⟨s.id,0,none⟩)),(5,.int .i64 (s.items.length:Int)),(9,.int .i64 (i:Int))]∧i≤s.fr.length∧QI w F gt o w' ((s.fr.take i).foldl (fun (t:TQ) (f:RV)=>setQ kf n o f.2.2 t) t1) As cs Ak ck Ao co ho) _ _ ⟨0,As',cs',Ak,ck,Ao,co,ho,rfl,rfl,Nat.zero_le _,I1⟩ (by repeat (first | exact Sub.nil | refine Sub.cons rfl ?_)) ?_
      rintro _ _ w8 ⟨i,As8,cs8,Ak8,ck8,Ao8,co8,ho8,rfl,rfl,hi8,I8⟩
      repeat refine WC.seq ?_
      refine WC.region ?_
      refine WL.y rfl (Yld.pure za rfl) ?_
      refine WL.y rfl (Yld.pure za rfl) ?_
      refine WL.y rfl (Yld.pure za rfl) ?_
      refine WL.y rfl (Yld.pure za rfl) ?_
      refine WL.y rfl (Yld.bload za (hBr I8.gr) rfl rfl rfl) ?_
      refine WL.y rfl (Yld.pure za rfl) ?_
      refine WL.y rfl (Yld.pure za rfl) ?_
      refine WL.nil (WX.then_normal ?_)
      refine WC.cond rfl (fun d1=>?_) (fun d1=>?_)
      ·have d1:=of_decide_eq_true d1
       have hil:i<s.fr.length:=by omega
       obtain ⟨f,hf1,hfm,hfn,hfv⟩:=hel i hil
       have hstep:(s.fr.take (i+1)).foldl (fun (t:TQ) (f:RV)=>setQ kf n o f.2.2 t) t1=setQ kf n o f.2.2 ((s.fr.take i).foldl (fun (t:TQ) (f:RV)=>setQ kf n o f.2.2 t) t1):=by rw [List.take_add_one,hf1,Option.toList_some,List.foldl_append]; rfl
       have hle0:QLe (setQ kf n o f.2.2 ((s.fr.take i).foldl (fun (t:TQ) (f:RV)=>setQ kf n o f.2.2 t) t1)) (s.fr.foldl (fun (t:TQ) (f:RV)=>setQ kf n o f.2.2 t) t1):=by
        rw [←hstep]
        have:s.fr.foldl (fun (t:TQ) (f:RV)=>setQ kf n o f.2.2 t) t1=(s.fr.drop (i+1)).foldl (fun (t:TQ) (f:RV)=>setQ kf n o f.2.2 t) ((s.fr.take (i+1)).foldl (fun (t:TQ) (f:RV)=>setQ kf n o f.2.2 t) t1):=by rw [←List.foldl_append,List.take_append_drop]
        rw [this]
        exact qg (f:=fun (t:TQ) (f:RV)=>setQ kf n o f.2.2 t) (fun t f=>setQ_le kf n o f.2.2 t) _ _
       have hle:=hle0.trans (qg (itemQ_le kf) s.items _)
       refine WC.skip (WX.then_normal ?_)
       repeat (first | refine WC.seq ?_ | refine WC.block ?_)
       refine WC.region ?_
       refine WL.y rfl (Yld.pure za rfl) ?_
       refine WL.y rfl (Yld.pure za rfl) ?_
       refine WL.y rfl (Yld.pure za rfl) ?_
       refine WL.y rfl (Yld.pure za rfl) ?_
       refine WL.y rfl (Yld.bload za (hBr I8.gr) rfl rfl rfl) ?_
       refine WL.y rfl (Yld.pure za rfl) ?_
       refine WL.y rfl (Yld.iaddrK za (hRf.grown I8.gr) rfl rfl hrf.1.symm rfl (by omega) (by omega)) ?_
       have hq:((i:Int)).toNat=i:=by omega
       rw [hq]
       refine WL.y rfl (Yld.faddrK za (hRf.grown I8.gr) (j:=i) (by rw [hrf.1]; exact hil) rfl rfl rfl) ?_
       refine WL.y rfl (Yld.iloadF (v:=.pointer (some ⟨f.2.2.id,0,none⟩)) rh0 za (hRf.grown I8.gr) rfl rfl (by rw [hrf.1]; exact hil) hfv) ?_
       refine WL.call rfl rfl (ih f.2.2 _ As8 cs8 Ak8 ck8 Ao8 co8 ho8 w8 (hdf f hfm) (.step hr (.inr hfm)) hfn I8 (Nat.le_trans hle.s hb1) (Nat.le_trans hle.o hb2) (Nat.le_trans hle.k hb3)) ?_
       rintro _ w9 ⟨rfl,As9,cs9,Ak9,ck9,Ao9,co9,ho9,I9⟩
       rw [←hstep] at I9
       repeat (first | refine WC.seq ?_ | refine WC.block ?_ | refine WC.region ?_ | refine WL.nil ?_ | refine WX.then_normal ?_ | refine WC.skip ?_ | refine WC.exit ?_ | refine WC.ret ?_ | refine WX.then_exit ?_ | refine WX.then_ret ?_ | refine WX.block_normal ?_ | refine WX.block_ret ?_ | refine WX.block_same ?_ | refine WX.block_other rfl ?_ | refine WC.label ?_ | refine WC.scope ?_ | refine WX.scope_normal ?_ | refine WX.scope_ret ?_ | refine WX.scope_exit ?_ | refine WL.y rfl (Yld.add rfl rfl (by simp only [In]; omega)) ?_ | refine WL.y rfl (Yld.sub rfl rfl (by simp only [In]; omega)) ?_ | refine WL.y rfl (Yld.mul rfl rfl (by simp only [In]; omega)) ?_ | refine WL.y rfl (Yld.convB za rfl rfl rfl rfl) ?_ | refine WL.y rfl (Yld.conv za rfl rfl rfl (by simp only [In]; omega)) ?_ | refine WL.y rfl (Yld.quo rfl rfl (by omega) (by omega) (by simp only [In]; omega)) ?_ | refine WL.y rfl (Yld.rem rfl rfl (by omega) (by omega)) ?_ | refine WL.y rfl (Yld.shl rfl rfl (by omega)) ?_ | refine WL.y rfl (Yld.shr rfl rfl (by omega)) ?_ | refine WL.y rfl (Yld.pure za rfl) ?_ | refine WL.y rfl (Yld.fld zb rfl rfl rfl) ?_ | refine WL.y rfl (Yld.max2 rfl rfl) ?_ | refine WL.y rfl (Yld.min2 rfl rfl) ?_ | refine WL.y rfl (Yld.pickV rfl rfl rfl) ?_ | refine WL.gno rfl rfl rfl rfl ?_ | refine WL.gyes rfl rfl rfl rfl (Yld.add rfl rfl (by simp only [In]; omega)) ?_ | refine WL.gyes rfl rfl rfl rfl (Yld.sub rfl rfl (by simp only [In]; omega)) ?_ | refine WL.gyes rfl rfl rfl rfl (Yld.mul rfl rfl (by simp only [In]; omega)) ?_ | refine WL.gyes rfl rfl rfl rfl (Yld.convB za rfl rfl rfl rfl) ?_ | refine WL.gyes rfl rfl rfl rfl (Yld.conv za rfl rfl rfl (by simp only [In]; omega)) ?_ | refine WL.gyes rfl rfl rfl rfl (Yld.quo rfl rfl (by omega) (by omega) (by simp only [In]; omega)) ?_ | refine WL.gyes rfl rfl rfl rfl (Yld.rem rfl rfl (by omega) (by omega)) ?_ | refine WL.gyes rfl rfl rfl rfl (Yld.shl rfl rfl (by omega)) ?_ | refine WL.gyes rfl rfl rfl rfl (Yld.shr rfl rfl (by omega)) ?_ | refine WL.gyes rfl rfl rfl rfl (Yld.pure za rfl) ?_ | refine WL.gyes rfl rfl rfl rfl (Yld.fld zb rfl rfl rfl) ?_ | refine WL.gyes rfl rfl rfl rfl (Yld.max2 rfl rfl) ?_ | refine WL.gyes rfl rfl rfl rfl (Yld.min2 rfl rfl) ?_ | refine WL.gyes rfl rfl rfl rfl (Yld.pickV rfl rfl rfl) ?_)
       exact WX.roundF _ ⟨i+1,As9,cs9,Ak9,ck9,Ao9,co9,ho9,rfl,rfl,by omega,I9⟩ (by repeat (first | exact Sub.nil | refine Sub.cons rfl ?_)) (by omega)
      ·have d1:=of_decide_eq_false d1
       obtain rfl:i=s.fr.length:=by omega
       rw [List.take_length] at I8
       clear I1
       refine WC.exit ?_
       repeat (first | refine WX.then_exit ?_ | refine WX.block_same ?_)
       repeat refine WX.then_normal ?_
       repeat refine WC.seq ?_
       refine WC.region ?_
       refine WL.y rfl (Yld.pure za rfl) ?_
       refine WL.nil (WX.then_normal ?_)
       refine WC.block ?_
       refine WC.loopF (fun n' L' w'=>∃ (i:Nat) (As:Option Addr) (cs:Nat) (Ak:Option Addr) (ck:Nat) (Ao:Option Addr) (co:Nat) (ho:List RH),n'=s.items.length - i∧L'=[(0,.pointer (some ⟨gt,0,none⟩)),(1,.pointer (some ⟨s.id,0,none⟩)),(5,.int .i64 (s.items.length:Int)),(10,.int .i64 (i:Int))]∧i≤s.items.length∧QI w F gt o w' ((s.items.take i).foldl (zj kf) (s.fr.foldl (fun (t:TQ) (f:RV)=>setQ kf n o f.2.2 t) t1)) As cs Ak ck Ao co ho) _ _ ⟨0,As8,cs8,Ak8,ck8,Ao8,co8,ho8,rfl,rfl,Nat.zero_le _,I8⟩ (by repeat (first | exact Sub.nil | refine Sub.cons rfl ?_)) ?_
       rintro _ _ w8 ⟨i,As8,cs8,Ak8,ck8,Ao8,co8,ho8,rfl,rfl,hi8,I8⟩
       repeat refine WC.seq ?_
       refine WC.region ?_
       refine WL.y rfl (Yld.pure za rfl) ?_
       refine WL.y rfl (Yld.pure za rfl) ?_
       refine WL.y rfl (Yld.pure za rfl) ?_
       refine WL.nil (WX.then_normal ?_)
       refine WC.cond rfl (fun d1=>?_) (fun d1=>?_)
       ·have d1:=of_decide_eq_true d1
        have hil:i<s.items.length:=by omega
        obtain ⟨x,ve,Fe,hx1,hxm,hvx,eh,hFe⟩:=hei i hil
        have hstep:(s.items.take (i+1)).foldl (zj kf) (s.fr.foldl (fun (t:TQ) (f:RV)=>setQ kf n o f.2.2 t) t1)=zj kf ((s.items.take i).foldl (zj kf) (s.fr.foldl (fun (t:TQ) (f:RV)=>setQ kf n o f.2.2 t) t1)) x:=by rw [List.take_add_one,hx1,Option.toList_some,List.foldl_append]; rfl
        have hle0:QLe (zj kf ((s.items.take i).foldl (zj kf) (s.fr.foldl (fun (t:TQ) (f:RV)=>setQ kf n o f.2.2 t) t1)) x) (s.items.foldl (zj kf) (s.fr.foldl (fun (t:TQ) (f:RV)=>setQ kf n o f.2.2 t) t1)):=by
         rw [←hstep]
         have:s.items.foldl (zj kf) (s.fr.foldl (fun (t:TQ) (f:RV)=>setQ kf n o f.2.2 t) t1)=(s.items.drop (i+1)).foldl (zj kf) ((s.items.take (i+1)).foldl (zj kf) (s.fr.foldl (fun (t:TQ) (f:RV)=>setQ kf n o f.2.2 t) t1)):=by rw [←List.foldl_append,List.take_append_drop]
         rw [this]
         exact qg (itemQ_le kf) _ _
        have hle:=((itemQ_le kf _ x).trans hle0).trans (.refl _)
        refine WC.skip (WX.then_normal ?_)
        repeat (first | refine WC.seq ?_ | refine WC.block ?_)
        refine WC.region ?_
        refine WL.y rfl (Yld.pure za rfl) ?_
        refine WL.y rfl (Yld.pure za rfl) ?_
        refine WL.y rfl (Yld.pure za rfl) ?_
        refine WL.y rfl (Yld.pure za rfl) ?_
        refine WL.y rfl (Yld.bload za (hBr I8.gr) rfl rfl rfl) ?_
        refine WL.y rfl (Yld.pure za rfl) ?_
        refine WL.y rfl (Yld.iaddrK za (hRi.grown I8.gr) rfl rfl hri.1.symm rfl (by omega) (by omega)) ?_
        have hq:((i:Int)).toNat=i:=by omega
        rw [hq]
        refine WL.y rfl (Yld.to (v:=(.agg ⟨ve.1⟩)) (Yld.iloadK rh0 za (hRi.grown I8.gr) rfl rfl (by rw [hri.1]; exact hil)) (congrArg (fun h=>Value.agg ⟨vr h⟩) eh)) ?_
        refine WL.call rfl rfl (item_fn hvx hFe (hkf ho0 s hr x hxm) I8 ⟨Nat.le_trans hle.k hb3,Nat.le_trans hle.o hb2⟩) ?_
        rintro _ w9 ⟨rfl,Ak9,ck9,Ao9,co9,ho9,I9⟩
        rw [show itemK (kf x) ((s.items.take i).foldl (zj kf) (s.fr.foldl (fun (t:TQ) (f:RV)=>setQ kf n o f.2.2 t) t1)) x=zj kf ((s.items.take i).foldl (zj kf) (s.fr.foldl (fun (t:TQ) (f:RV)=>setQ kf n o f.2.2 t) t1)) x from rfl,←hstep] at I9
        repeat (first | refine WC.seq ?_ | refine WC.block ?_ | refine WC.region ?_ | refine WL.nil ?_ | refine WX.then_normal ?_ | refine WC.skip ?_ | refine WC.exit ?_ | refine WC.ret ?_ | refine WX.then_exit ?_ | refine WX.then_ret ?_ | refine WX.block_normal ?_ | refine WX.block_ret ?_ | refine WX.block_same ?_ | refine WX.block_other rfl ?_ | refine WC.label ?_ | refine WC.scope ?_ | refine WX.scope_normal ?_ | refine WX.scope_ret ?_ | refine WX.scope_exit ?_ | refine WL.y rfl (Yld.add rfl rfl (by simp only [In]; omega)) ?_ | refine WL.y rfl (Yld.sub rfl rfl (by simp only [In]; omega)) ?_ | refine WL.y rfl (Yld.mul rfl rfl (by simp only [In]; omega)) ?_ | refine WL.y rfl (Yld.convB za rfl rfl rfl rfl) ?_ | refine WL.y rfl (Yld.conv za rfl rfl rfl (by simp only [In]; omega)) ?_ | refine WL.y rfl (Yld.quo rfl rfl (by omega) (by omega) (by simp only [In]; omega)) ?_ | refine WL.y rfl (Yld.rem rfl rfl (by omega) (by omega)) ?_ | refine WL.y rfl (Yld.shl rfl rfl (by omega)) ?_ | refine WL.y rfl (Yld.shr rfl rfl (by omega)) ?_ | refine WL.y rfl (Yld.pure za rfl) ?_ | refine WL.y rfl (Yld.fld zb rfl rfl rfl) ?_ | refine WL.y rfl (Yld.max2 rfl rfl) ?_ | refine WL.y rfl (Yld.min2 rfl rfl) ?_ | refine WL.y rfl (Yld.pickV rfl rfl rfl) ?_ | refine WL.gno rfl rfl rfl rfl ?_ | refine WL.gyes rfl rfl rfl rfl (Yld.add rfl rfl (by simp only [In]; omega)) ?_ | refine WL.gyes rfl rfl rfl rfl (Yld.sub rfl rfl (by simp only [In]; omega)) ?_ | refine WL.gyes rfl rfl rfl rfl (Yld.mul rfl rfl (by simp only [In]; omega)) ?_ | refine WL.gyes rfl rfl rfl rfl (Yld.convB za rfl rfl rfl rfl) ?_ | refine WL.gyes rfl rfl rfl rfl (Yld.conv za rfl rfl rfl (by simp only [In]; omega)) ?_ | refine WL.gyes rfl rfl rfl rfl (Yld.quo rfl rfl (by omega) (by omega) (by simp only [In]; omega)) ?_ | refine WL.gyes rfl rfl rfl rfl (Yld.rem rfl rfl (by omega) (by omega)) ?_ | refine WL.gyes rfl rfl rfl rfl (Yld.shl rfl rfl (by omega)) ?_ | refine WL.gyes rfl rfl rfl rfl (Yld.shr rfl rfl (by omega)) ?_ | refine WL.gyes rfl rfl rfl rfl (Yld.pure za rfl) ?_ | refine WL.gyes rfl rfl rfl rfl (Yld.fld zb rfl rfl rfl) ?_ | refine WL.gyes rfl rfl rfl rfl (Yld.max2 rfl rfl) ?_ | refine WL.gyes rfl rfl rfl rfl (Yld.min2 rfl rfl) ?_ | refine WL.gyes rfl rfl rfl rfl (Yld.pickV rfl rfl rfl) ?_)
        exact WX.roundF _ ⟨i+1,As8,cs8,Ak9,ck9,Ao9,co9,ho9,rfl,rfl,by omega,I9⟩ (by repeat (first | exact Sub.nil | refine Sub.cons rfl ?_)) (by omega)
       ·have d1:=of_decide_eq_false d1
        obtain rfl:i=s.items.length:=by omega
        rw [List.take_length] at I8
        repeat (first | refine WC.seq ?_ | refine WC.block ?_ | refine WC.region ?_ | refine WL.nil ?_ | refine WX.then_normal ?_ | refine WC.skip ?_ | refine WC.exit ?_ | refine WC.ret ?_ | refine WX.then_exit ?_ | refine WX.then_ret ?_ | refine WX.block_normal ?_ | refine WX.block_ret ?_ | refine WX.block_same ?_ | refine WX.block_other rfl ?_ | refine WC.label ?_ | refine WC.scope ?_ | refine WX.scope_normal ?_ | refine WX.scope_ret ?_ | refine WX.scope_exit ?_ | refine WL.y rfl (Yld.add rfl rfl (by simp only [In]; omega)) ?_ | refine WL.y rfl (Yld.sub rfl rfl (by simp only [In]; omega)) ?_ | refine WL.y rfl (Yld.mul rfl rfl (by simp only [In]; omega)) ?_ | refine WL.y rfl (Yld.convB za rfl rfl rfl rfl) ?_ | refine WL.y rfl (Yld.conv za rfl rfl rfl (by simp only [In]; omega)) ?_ | refine WL.y rfl (Yld.quo rfl rfl (by omega) (by omega) (by simp only [In]; omega)) ?_ | refine WL.y rfl (Yld.rem rfl rfl (by omega) (by omega)) ?_ | refine WL.y rfl (Yld.shl rfl rfl (by omega)) ?_ | refine WL.y rfl (Yld.shr rfl rfl (by omega)) ?_ | refine WL.y rfl (Yld.pure za rfl) ?_ | refine WL.y rfl (Yld.fld zb rfl rfl rfl) ?_ | refine WL.y rfl (Yld.max2 rfl rfl) ?_ | refine WL.y rfl (Yld.min2 rfl rfl) ?_ | refine WL.y rfl (Yld.pickV rfl rfl rfl) ?_ | refine WL.gno rfl rfl rfl rfl ?_ | refine WL.gyes rfl rfl rfl rfl (Yld.add rfl rfl (by simp only [In]; omega)) ?_ | refine WL.gyes rfl rfl rfl rfl (Yld.sub rfl rfl (by simp only [In]; omega)) ?_ | refine WL.gyes rfl rfl rfl rfl (Yld.mul rfl rfl (by simp only [In]; omega)) ?_ | refine WL.gyes rfl rfl rfl rfl (Yld.convB za rfl rfl rfl rfl) ?_ | refine WL.gyes rfl rfl rfl rfl (Yld.conv za rfl rfl rfl (by simp only [In]; omega)) ?_ | refine WL.gyes rfl rfl rfl rfl (Yld.quo rfl rfl (by omega) (by omega) (by simp only [In]; omega)) ?_ | refine WL.gyes rfl rfl rfl rfl (Yld.rem rfl rfl (by omega) (by omega)) ?_ | refine WL.gyes rfl rfl rfl rfl (Yld.shl rfl rfl (by omega)) ?_ | refine WL.gyes rfl rfl rfl rfl (Yld.shr rfl rfl (by omega)) ?_ | refine WL.gyes rfl rfl rfl rfl (Yld.pure za rfl) ?_ | refine WL.gyes rfl rfl rfl rfl (Yld.fld zb rfl rfl rfl) ?_ | refine WL.gyes rfl rfl rfl rfl (Yld.max2 rfl rfl) ?_ | refine WL.gyes rfl rfl rfl rfl (Yld.min2 rfl rfl) ?_ | refine WL.gyes rfl rfl rfl rfl (Yld.pickV rfl rfl rfl) ?_)
        exact WX.end0 rfl ⟨rfl,As8,cs8,Ak8,ck8,Ao8,co8,ho8,I8⟩
     ·have c3:¬ o=2:=of_decide_eq_false c3
      have he:setQ kf (n+1) o s t=s.items.reverse.foldl (zj kf) (s.fr.reverse.foldl (fun (t:TQ) (f:RV)=>setQ kf n o f.2.2 t) { t with seen:=t.seen++[s] }):=by rw [setQ,if_neg hnot]; dsimp only; rw [if_neg c1,if_neg c2,if_neg c3]
      rw [he] at hb1 hb2 hb3 ⊢
      generalize ({ t with seen:=t.seen++[s] }:TQ)=t1 at *
      repeat refine WC.seq ?_
      refine WC.region ?_
      refine WL.y rfl (Yld.pure za rfl) ?_
      refine WL.y rfl (Yld.pure za rfl) ?_
      refine WL.y rfl (Yld.pure za rfl) ?_
      refine WL.y rfl (Yld.bload za (hBr I1.gr) rfl rfl rfl) ?_
      refine WL.y rfl (Yld.pure za rfl) ?_
      refine WL.y rfl (Yld.sub rfl rfl (by simp only [In]; omega)) ?_
      refine WL.y rfl (Yld.pure za rfl) ?_
      refine WL.nil (WX.then_normal ?_)
      repeat refine WC.seq ?_
      refine WC.block ?_
      refine WC.loopF (fun n' L' w'=>∃ (i:Nat) (k:Int) (As:Option Addr) (cs:Nat) (Ak:Option Addr) (ck:Nat) (Ao:Option Addr) (co:Nat) (ho:List RH),n'=s.fr.length - i∧L'=[(0,.pointer (some ⟨gt,0,none⟩)),(1,.pointer (some ⟨s.id,0,none⟩)),(5,.int .i64 (s.items.length:Int)),(11,.int .i64 k)]∧k=(s.fr.length:Int) - 1 - (i:Int)∧i≤s.fr.length∧QI w F gt o w' ((s.fr.reverse.take i).foldl (fun (t:TQ) (f:RV)=>setQ kf n o f.2.2 t) t1) As cs Ak ck Ao co ho) _ _ ⟨0,(s.fr.length:Int) - 1,As',cs',Ak,ck,Ao,co,ho,rfl,rfl,by simp,Nat.zero_le _,I1⟩ (by repeat (first | exact Sub.nil | refine Sub.cons rfl ?_)) ?_
      rintro _ _ w8 ⟨i,k,As8,cs8,Ak8,ck8,Ao8,co8,ho8,rfl,rfl,hk8,hi8,I8⟩
      repeat refine WC.seq ?_
      refine WC.region ?_
      refine WL.y rfl (Yld.pure za rfl) ?_
      refine WL.y rfl (Yld.pure za rfl) ?_
      refine WL.nil (WX.then_normal ?_)
      refine WC.cond rfl (fun d1=>?_) (fun d1=>?_)
      ·have d1:=of_decide_eq_true d1
       have hil:i<s.fr.length:=by omega
       obtain ⟨f,hf0,hfm,hfn,hfv⟩:=hel (s.fr.length - 1 - i) (by omega)
       have hf1:s.fr.reverse[i]?=some f:=by rw [List.getElem?_reverse hil]; exact hf0
       have hstep:(s.fr.reverse.take (i+1)).foldl (fun (t:TQ) (f:RV)=>setQ kf n o f.2.2 t) t1=setQ kf n o f.2.2 ((s.fr.reverse.take i).foldl (fun (t:TQ) (f:RV)=>setQ kf n o f.2.2 t) t1):=by rw [List.take_add_one,hf1,Option.toList_some,List.foldl_append]; rfl
       have hle0:QLe (setQ kf n o f.2.2 ((s.fr.reverse.take i).foldl (fun (t:TQ) (f:RV)=>setQ kf n o f.2.2 t) t1)) (s.fr.reverse.foldl (fun (t:TQ) (f:RV)=>setQ kf n o f.2.2 t) t1):=by
        rw [←hstep]
        have:s.fr.reverse.foldl (fun (t:TQ) (f:RV)=>setQ kf n o f.2.2 t) t1=(s.fr.reverse.drop (i+1)).foldl (fun (t:TQ) (f:RV)=>setQ kf n o f.2.2 t) ((s.fr.reverse.take (i+1)).foldl (fun (t:TQ) (f:RV)=>setQ kf n o f.2.2 t) t1):=by rw [←List.foldl_append,List.take_append_drop]
        rw [this]
        exact qg (f:=fun (t:TQ) (f:RV)=>setQ kf n o f.2.2 t) (fun t f=>setQ_le kf n o f.2.2 t) _ _
       have hle:=hle0.trans (qg (itemQ_le kf) s.items.reverse _)
       refine WC.skip (WX.then_normal ?_)
       repeat (first | refine WC.seq ?_ | refine WC.block ?_)
       refine WC.region ?_
       refine WL.y rfl (Yld.pure za rfl) ?_
       refine WL.y rfl (Yld.pure za rfl) ?_
       refine WL.y rfl (Yld.pure za rfl) ?_
       refine WL.y rfl (Yld.pure za rfl) ?_
       refine WL.y rfl (Yld.bload za (hBr I8.gr) rfl rfl rfl) ?_
       refine WL.y rfl (Yld.pure za rfl) ?_
       refine WL.y rfl (Yld.iaddrK za (hRf.grown I8.gr) rfl rfl hrf.1.symm rfl (by omega) (by omega)) ?_
       have hq:k.toNat=(s.fr.length - 1 - i):=by omega
       rw [hq]
       refine WL.y rfl (Yld.faddrK za (hRf.grown I8.gr) (j:=(s.fr.length - 1 - i)) (by rw [hrf.1]; omega) rfl rfl rfl) ?_
       refine WL.y rfl (Yld.iloadF (v:=.pointer (some ⟨f.2.2.id,0,none⟩)) rh0 za (hRf.grown I8.gr) rfl rfl (by rw [hrf.1]; omega) hfv) ?_
       refine WL.call rfl rfl (ih f.2.2 _ As8 cs8 Ak8 ck8 Ao8 co8 ho8 w8 (hdf f hfm) (.step hr (.inr hfm)) hfn I8 (Nat.le_trans hle.s hb1) (Nat.le_trans hle.o hb2) (Nat.le_trans hle.k hb3)) ?_
       rintro _ w9 ⟨rfl,As9,cs9,Ak9,ck9,Ao9,co9,ho9,I9⟩
       rw [←hstep] at I9
       repeat (first | refine WC.seq ?_ | refine WC.block ?_ | refine WC.region ?_ | refine WL.nil ?_ | refine WX.then_normal ?_ | refine WC.skip ?_ | refine WC.exit ?_ | refine WC.ret ?_ | refine WX.then_exit ?_ | refine WX.then_ret ?_ | refine WX.block_normal ?_ | refine WX.block_ret ?_ | refine WX.block_same ?_ | refine WX.block_other rfl ?_ | refine WC.label ?_ | refine WC.scope ?_ | refine WX.scope_normal ?_ | refine WX.scope_ret ?_ | refine WX.scope_exit ?_ | refine WL.y rfl (Yld.add rfl rfl (by simp only [In]; omega)) ?_ | refine WL.y rfl (Yld.sub rfl rfl (by simp only [In]; omega)) ?_ | refine WL.y rfl (Yld.mul rfl rfl (by simp only [In]; omega)) ?_ | refine WL.y rfl (Yld.convB za rfl rfl rfl rfl) ?_ | refine WL.y rfl (Yld.conv za rfl rfl rfl (by simp only [In]; omega)) ?_ | refine WL.y rfl (Yld.quo rfl rfl (by omega) (by omega) (by simp only [In]; omega)) ?_ | refine WL.y rfl (Yld.rem rfl rfl (by omega) (by omega)) ?_ | refine WL.y rfl (Yld.shl rfl rfl (by omega)) ?_ | refine WL.y rfl (Yld.shr rfl rfl (by omega)) ?_ | refine WL.y rfl (Yld.pure za rfl) ?_ | refine WL.y rfl (Yld.fld zb rfl rfl rfl) ?_ | refine WL.y rfl (Yld.max2 rfl rfl) ?_ | refine WL.y rfl (Yld.min2 rfl rfl) ?_ | refine WL.y rfl (Yld.pickV rfl rfl rfl) ?_ | refine WL.gno rfl rfl rfl rfl ?_ | refine WL.gyes rfl rfl rfl rfl (Yld.add rfl rfl (by simp only [In]; omega)) ?_ | refine WL.gyes rfl rfl rfl rfl (Yld.sub rfl rfl (by simp only [In]; omega)) ?_ | refine WL.gyes rfl rfl rfl rfl (Yld.mul rfl rfl (by simp only [In]; omega)) ?_ | refine WL.gyes rfl rfl rfl rfl (Yld.convB za rfl rfl rfl rfl) ?_ | refine WL.gyes rfl rfl rfl rfl (Yld.conv za rfl rfl rfl (by simp only [In]; omega)) ?_ | refine WL.gyes rfl rfl rfl rfl (Yld.quo rfl rfl (by omega) (by omega) (by simp only [In]; omega)) ?_ | refine WL.gyes rfl rfl rfl rfl (Yld.rem rfl rfl (by omega) (by omega)) ?_ | refine WL.gyes rfl rfl rfl rfl (Yld.shl rfl rfl (by omega)) ?_ | refine WL.gyes rfl rfl rfl rfl (Yld.shr rfl rfl (by omega)) ?_ | refine WL.gyes rfl rfl rfl rfl (Yld.pure za rfl) ?_ | refine WL.gyes rfl rfl rfl rfl (Yld.fld zb rfl rfl rfl) ?_ | refine WL.gyes rfl rfl rfl rfl (Yld.max2 rfl rfl) ?_ | refine WL.gyes rfl rfl rfl rfl (Yld.min2 rfl rfl) ?_ | refine WL.gyes rfl rfl rfl rfl (Yld.pickV rfl rfl rfl) ?_)
       exact WX.roundF _ ⟨i+1,k - 1,As9,cs9,Ak9,ck9,Ao9,co9,ho9,rfl,rfl,by omega,by omega,I9⟩ (by repeat (first | exact Sub.nil | refine Sub.cons rfl ?_)) (by omega)
      ·have d1:=of_decide_eq_false d1
       obtain rfl:i=s.fr.length:=by omega
       rw [List.take_of_length_le (by simp)] at I8
       clear I1
       refine WC.exit ?_
       repeat (first | refine WX.then_exit ?_ | refine WX.block_same ?_)
       repeat refine WX.then_normal ?_
       repeat refine WC.seq ?_
       refine WC.region ?_
       refine WL.y rfl (Yld.pure za rfl) ?_
       refine WL.y rfl (Yld.sub rfl rfl (by simp only [In]; omega)) ?_
       refine WL.y rfl (Yld.pure za rfl) ?_
       refine WL.nil (WX.then_normal ?_)
       refine WC.block ?_
       refine WC.loopF (fun n' L' w'=>∃ (i:Nat) (k:Int) (As:Option Addr) (cs:Nat) (Ak:Option Addr) (ck:Nat) (Ao:Option Addr) (co:Nat) (ho:List RH),n'=s.items.length - i∧L'=[(0,.pointer (some ⟨gt,0,none⟩)),(1,.pointer (some ⟨s.id,0,none⟩)),(5,.int .i64 (s.items.length:Int)),(12,.int .i64 k)]∧k=(s.items.length:Int) - 1 - (i:Int)∧i≤s.items.length∧QI w F gt o w' ((s.items.reverse.take i).foldl (zj kf) (s.fr.reverse.foldl (fun (t:TQ) (f:RV)=>setQ kf n o f.2.2 t) t1)) As cs Ak ck Ao co ho) _ _ ⟨0,(s.items.length:Int) - 1,As8,cs8,Ak8,ck8,Ao8,co8,ho8,rfl,rfl,by simp,Nat.zero_le _,I8⟩ (by repeat (first | exact Sub.nil | refine Sub.cons rfl ?_)) ?_
       rintro _ _ w8 ⟨i,k,As8,cs8,Ak8,ck8,Ao8,co8,ho8,rfl,rfl,hk8,hi8,I8⟩
       repeat refine WC.seq ?_
       refine WC.region ?_
       refine WL.y rfl (Yld.pure za rfl) ?_
       refine WL.y rfl (Yld.pure za rfl) ?_
       refine WL.nil (WX.then_normal ?_)
       refine WC.cond rfl (fun d1=>?_) (fun d1=>?_)
       ·have d1:=of_decide_eq_true d1
        have hil:i<s.items.length:=by omega
        obtain ⟨x,ve,Fe,hx0,hxm,hvx,eh,hFe⟩:=hei (s.items.length - 1 - i) (by omega)
        have hx1:s.items.reverse[i]?=some x:=by rw [List.getElem?_reverse hil]; exact hx0
        have hstep:(s.items.reverse.take (i+1)).foldl (zj kf) (s.fr.reverse.foldl (fun (t:TQ) (f:RV)=>setQ kf n o f.2.2 t) t1)=zj kf ((s.items.reverse.take i).foldl (zj kf) (s.fr.reverse.foldl (fun (t:TQ) (f:RV)=>setQ kf n o f.2.2 t) t1)) x:=by rw [List.take_add_one,hx1,Option.toList_some,List.foldl_append]; rfl
        have hle0:QLe (zj kf ((s.items.reverse.take i).foldl (zj kf) (s.fr.reverse.foldl (fun (t:TQ) (f:RV)=>setQ kf n o f.2.2 t) t1)) x) (s.items.reverse.foldl (zj kf) (s.fr.reverse.foldl (fun (t:TQ) (f:RV)=>setQ kf n o f.2.2 t) t1)):=by
         rw [←hstep]
         have:s.items.reverse.foldl (zj kf) (s.fr.reverse.foldl (fun (t:TQ) (f:RV)=>setQ kf n o f.2.2 t) t1)=(s.items.reverse.drop (i+1)).foldl (zj kf) ((s.items.reverse.take (i+1)).foldl (zj kf) (s.fr.reverse.foldl (fun (t:TQ) (f:RV)=>setQ kf n o f.2.2 t) t1)):=by rw [←List.foldl_append,List.take_append_drop]
         rw [this]
         exact qg (itemQ_le kf) _ _
        have hle:=((itemQ_le kf _ x).trans hle0).trans (.refl _)
        refine WC.skip (WX.then_normal ?_)
        repeat (first | refine WC.seq ?_ | refine WC.block ?_)
        refine WC.region ?_
        refine WL.y rfl (Yld.pure za rfl) ?_
        refine WL.y rfl (Yld.pure za rfl) ?_
        refine WL.y rfl (Yld.pure za rfl) ?_
        refine WL.y rfl (Yld.pure za rfl) ?_
        refine WL.y rfl (Yld.bload za (hBr I8.gr) rfl rfl rfl) ?_
        refine WL.y rfl (Yld.pure za rfl) ?_
        refine WL.y rfl (Yld.iaddrK za (hRi.grown I8.gr) rfl rfl hri.1.symm rfl (by omega) (by omega)) ?_
        have hq:k.toNat=(s.items.length - 1 - i):=by omega
        rw [hq]
        refine WL.y rfl (Yld.to (v:=(.agg ⟨ve.1⟩)) (Yld.iloadK rh0 za (hRi.grown I8.gr) rfl rfl (by rw [hri.1]; omega)) (congrArg (fun h=>Value.agg ⟨vr h⟩) eh)) ?_
        refine WL.call rfl rfl (item_fn hvx hFe (hkf ho0 s hr x hxm) I8 ⟨Nat.le_trans hle.k hb3,Nat.le_trans hle.o hb2⟩) ?_
        rintro _ w9 ⟨rfl,Ak9,ck9,Ao9,co9,ho9,I9⟩
        rw [show itemK (kf x) ((s.items.reverse.take i).foldl (zj kf) (s.fr.reverse.foldl (fun (t:TQ) (f:RV)=>setQ kf n o f.2.2 t) t1)) x=zj kf ((s.items.reverse.take i).foldl (zj kf) (s.fr.reverse.foldl (fun (t:TQ) (f:RV)=>setQ kf n o f.2.2 t) t1)) x from rfl,←hstep] at I9
        repeat (first | refine WC.seq ?_ | refine WC.block ?_ | refine WC.region ?_ | refine WL.nil ?_ | refine WX.then_normal ?_ | refine WC.skip ?_ | refine WC.exit ?_ | refine WC.ret ?_ | refine WX.then_exit ?_ | refine WX.then_ret ?_ | refine WX.block_normal ?_ | refine WX.block_ret ?_ | refine WX.block_same ?_ | refine WX.block_other rfl ?_ | refine WC.label ?_ | refine WC.scope ?_ | refine WX.scope_normal ?_ | refine WX.scope_ret ?_ | refine WX.scope_exit ?_ | refine WL.y rfl (Yld.add rfl rfl (by simp only [In]; omega)) ?_ | refine WL.y rfl (Yld.sub rfl rfl (by simp only [In]; omega)) ?_ | refine WL.y rfl (Yld.mul rfl rfl (by simp only [In]; omega)) ?_ | refine WL.y rfl (Yld.convB za rfl rfl rfl rfl) ?_ | refine WL.y rfl (Yld.conv za rfl rfl rfl (by simp only [In]; omega)) ?_ | refine WL.y rfl (Yld.quo rfl rfl (by omega) (by omega) (by simp only [In]; omega)) ?_ | refine WL.y rfl (Yld.rem rfl rfl (by omega) (by omega)) ?_ | refine WL.y rfl (Yld.shl rfl rfl (by omega)) ?_ | refine WL.y rfl (Yld.shr rfl rfl (by omega)) ?_ | refine WL.y rfl (Yld.pure za rfl) ?_ | refine WL.y rfl (Yld.fld zb rfl rfl rfl) ?_ | refine WL.y rfl (Yld.max2 rfl rfl) ?_ | refine WL.y rfl (Yld.min2 rfl rfl) ?_ | refine WL.y rfl (Yld.pickV rfl rfl rfl) ?_ | refine WL.gno rfl rfl rfl rfl ?_ | refine WL.gyes rfl rfl rfl rfl (Yld.add rfl rfl (by simp only [In]; omega)) ?_ | refine WL.gyes rfl rfl rfl rfl (Yld.sub rfl rfl (by simp only [In]; omega)) ?_ | refine WL.gyes rfl rfl rfl rfl (Yld.mul rfl rfl (by simp only [In]; omega)) ?_ | refine WL.gyes rfl rfl rfl rfl (Yld.convB za rfl rfl rfl rfl) ?_ | refine WL.gyes rfl rfl rfl rfl (Yld.conv za rfl rfl rfl (by simp only [In]; omega)) ?_ | refine WL.gyes rfl rfl rfl rfl (Yld.quo rfl rfl (by omega) (by omega) (by simp only [In]; omega)) ?_ | refine WL.gyes rfl rfl rfl rfl (Yld.rem rfl rfl (by omega) (by omega)) ?_ | refine WL.gyes rfl rfl rfl rfl (Yld.shl rfl rfl (by omega)) ?_ | refine WL.gyes rfl rfl rfl rfl (Yld.shr rfl rfl (by omega)) ?_ | refine WL.gyes rfl rfl rfl rfl (Yld.pure za rfl) ?_ | refine WL.gyes rfl rfl rfl rfl (Yld.fld zb rfl rfl rfl) ?_ | refine WL.gyes rfl rfl rfl rfl (Yld.max2 rfl rfl) ?_ | refine WL.gyes rfl rfl rfl rfl (Yld.min2 rfl rfl) ?_ | refine WL.gyes rfl rfl rfl rfl (Yld.pickV rfl rfl rfl) ?_)
        exact WX.roundF _ ⟨i+1,k - 1,As8,cs8,Ak9,ck9,Ao9,co9,ho9,rfl,rfl,by omega,by omega,I9⟩ (by repeat (first | exact Sub.nil | refine Sub.cons rfl ?_)) (by omega)
       ·have d1:=of_decide_eq_false d1
        obtain rfl:i=s.items.length:=by omega
        rw [List.take_of_length_le (by simp)] at I8
        repeat (first | refine WC.seq ?_ | refine WC.block ?_ | refine WC.region ?_ | refine WL.nil ?_ | refine WX.then_normal ?_ | refine WC.skip ?_ | refine WC.exit ?_ | refine WC.ret ?_ | refine WX.then_exit ?_ | refine WX.then_ret ?_ | refine WX.block_normal ?_ | refine WX.block_ret ?_ | refine WX.block_same ?_ | refine WX.block_other rfl ?_ | refine WC.label ?_ | refine WC.scope ?_ | refine WX.scope_normal ?_ | refine WX.scope_ret ?_ | refine WX.scope_exit ?_ | refine WL.y rfl (Yld.add rfl rfl (by simp only [In]; omega)) ?_ | refine WL.y rfl (Yld.sub rfl rfl (by simp only [In]; omega)) ?_ | refine WL.y rfl (Yld.mul rfl rfl (by simp only [In]; omega)) ?_ | refine WL.y rfl (Yld.convB za rfl rfl rfl rfl) ?_ | refine WL.y rfl (Yld.conv za rfl rfl rfl (by simp only [In]; omega)) ?_ | refine WL.y rfl (Yld.quo rfl rfl (by omega) (by omega) (by simp only [In]; omega)) ?_ | refine WL.y rfl (Yld.rem rfl rfl (by omega) (by omega)) ?_ | refine WL.y rfl (Yld.shl rfl rfl (by omega)) ?_ | refine WL.y rfl (Yld.shr rfl rfl (by omega)) ?_ | refine WL.y rfl (Yld.pure za rfl) ?_ | refine WL.y rfl (Yld.fld zb rfl rfl rfl) ?_ | refine WL.y rfl (Yld.max2 rfl rfl) ?_ | refine WL.y rfl (Yld.min2 rfl rfl) ?_ | refine WL.y rfl (Yld.pickV rfl rfl rfl) ?_ | refine WL.gno rfl rfl rfl rfl ?_ | refine WL.gyes rfl rfl rfl rfl (Yld.add rfl rfl (by simp only [In]; omega)) ?_ | refine WL.gyes rfl rfl rfl rfl (Yld.sub rfl rfl (by simp only [In]; omega)) ?_ | refine WL.gyes rfl rfl rfl rfl (Yld.mul rfl rfl (by simp only [In]; omega)) ?_ | refine WL.gyes rfl rfl rfl rfl (Yld.convB za rfl rfl rfl rfl) ?_ | refine WL.gyes rfl rfl rfl rfl (Yld.conv za rfl rfl rfl (by simp only [In]; omega)) ?_ | refine WL.gyes rfl rfl rfl rfl (Yld.quo rfl rfl (by omega) (by omega) (by simp only [In]; omega)) ?_ | refine WL.gyes rfl rfl rfl rfl (Yld.rem rfl rfl (by omega) (by omega)) ?_ | refine WL.gyes rfl rfl rfl rfl (Yld.shl rfl rfl (by omega)) ?_ | refine WL.gyes rfl rfl rfl rfl (Yld.shr rfl rfl (by omega)) ?_ | refine WL.gyes rfl rfl rfl rfl (Yld.pure za rfl) ?_ | refine WL.gyes rfl rfl rfl rfl (Yld.fld zb rfl rfl rfl) ?_ | refine WL.gyes rfl rfl rfl rfl (Yld.max2 rfl rfl) ?_ | refine WL.gyes rfl rfl rfl rfl (Yld.min2 rfl rfl) ?_ | refine WL.gyes rfl rfl rfl rfl (Yld.pickV rfl rfl rfl) ?_)
        exact WX.end0 rfl ⟨rfl,As8,cs8,Ak8,ck8,Ao8,co8,ho8,I8⟩
end Go.Proofs.YtjjcdkfhaceicaaGreatDoor
 
namespace Go.Proofs.YtjjcdkfhaceicaaGreatDoor
open Go Go.RowKit
theorem seen_in {kf:RV→List UInt8} {C:RO→Prop} (hC:∀ y,C y→∀ f∈y.fr,C f.2.2) (o:Int):∀ (n:Nat) (s:RO) (t:TQ),C s→(∀ y∈t.seen,C y)→(t.seen.map RO.id).Nodup →
  (∀ y∈(setQ kf n o s t).seen,C y)∧((setQ kf n o s t).seen.map RO.id).Nodup:=by
 have hit:∀ (l:List RV) (t:TQ),(l.foldl (zj kf) t).seen=t.seen:=fun l=>by
  induction l with
  | nil=>intro t; rfl
  | cons x l ih =>
   intro t
   rw [List.foldl_cons,ih]
   unfold zj
   split <;> rfl
 intro n
 induction n with
 | zero=>intro s t _ h1 h2; exact ⟨h1,h2⟩
 | succ n ih =>
  intro s t hs h1 h2
  have hf:∀ (l:List RV),(∀ f∈l,C f.2.2)→∀ (u:TQ),(∀ y∈u.seen,C y)→(u.seen.map RO.id).Nodup→(∀ y∈(l.foldl (fun t f=>setQ kf n o f.2.2 t) u).seen,C y)∧((l.foldl (fun t f=>setQ kf n o f.2.2 t) u).seen.map RO.id).Nodup:=fun l=>by
   induction l with
   | nil=>intro _ u a b; exact ⟨a,b⟩
   | cons f l ihl =>
    intro hl u a b
    obtain ⟨a',b'⟩:=ih f.2.2 u (hl f List.mem_cons_self) a b
    exact ihl (fun g hg=>hl g (List.mem_cons_of_mem _ hg)) _ a' b'
  rw [setQ]
  split
  ·exact ⟨h1,h2⟩
  ·rename_i hn
   have a1:∀ y∈t.seen++[s],C y:=fun y hy=>by
    rcases List.mem_append.1 hy with hy | hy
    ·exact h1 y hy
    ·rw [List.mem_singleton.1 hy]; exact hs
   have b1:((t.seen++[s]).map RO.id).Nodup:=by
    rw [List.map_append,List.nodup_append]
    exact ⟨h2,by simp,fun a ha b hb e=>hn (by rw [List.map_cons,List.map_nil,List.mem_singleton] at hb; rw [←hb,←e]; exact ha)⟩
   dsimp only
   split
   ·exact hf _ (hC s hs) _ a1 b1
   ·split
    ·exact hf _ (hC s hs) _ (by rw [hit]; exact a1) (by rw [hit]; exact b1)
    ·split
     ·rw [hit]; exact hf _ (hC s hs) _ a1 b1
     ·rw [hit]; exact hf _ (fun f hf=>hC s hs f (List.mem_reverse.1 hf)) _ a1 b1
theorem deR_fresh {w:World} {hs:List RH} {xs:List RV} {x:RV} {y:RO} {i:Nat} (h:RelD deR w hs xs) (hx:x∈xs) (hr:RRch x.2.2 y) (hn:y≠.nil) (hi:w.heap.size≤i):y.id≠i:=by
 obtain ⟨j,hj,rfl⟩:=List.getElem_of_mem hx
 have hl:j<hs.length:=by rw [h.1]; exact hj
 have h1:=h.2 j _ _ (List.getElem?_eq_getElem hl) (List.getElem?_eq_getElem hj)
 obtain ⟨A,c,o,_,_,_,hO⟩:=deR_open (v:=hs[j].1) (F:=hs[j].2) (x:=xs[j]) (RelD.cons h1 RelD.nil)
 obtain ⟨⟨n,hO'⟩,hF⟩:=hO.one
 obtain ⟨m,u,hm⟩:=hO'.reach hr
 have:=hF _ (hm.idF hn)
 omega
theorem ROn_depO {w:World} {F:Nat→Prop}:∀ {n:Nat} {u:Value} {y:RO},ROn n w F u y→depO n y:=fun {n}=>by
 induction n with
 | zero=>intro u y h; cases y with
  | nil=>exact trivial
  | mk=>exact h.elim
 | succ n ih =>
  intro u y h
  cases y with
  | nil=>exact trivial
  | mk id its o fr d =>
   obtain ⟨_,_,_,_,_,_,_,_,hf⟩:=h
   intro f hf'
   obtain ⟨cs,_,_,o',_,_,_,ho⟩:=hf.mem hf'
   exact ih ho
theorem ptr_ne {w:World} {F:Nat→Prop} {v:OV} {y:RO} (h:RelD deO w [(v,F)] [y]) (hn:y≠.nil):v.1=.pointer (some ⟨y.id,0,none⟩):=by
 obtain ⟨⟨m,hm⟩,_⟩:=h.one
 have:=hm.ptr
 have hno:y.isNil=false:=by
  cases y with
  | nil=>exact absurd rfl hn
  | mk=>rfl
 rw [hno] at this
 exact this
theorem setQ_kl (kf:RV→List UInt8):∀ (n:Nat) (o:Int) (s:RO) (t:TQ),t.keys.length=t.out.length→(setQ kf n o s t).keys.length=(setQ kf n o s t).out.length
 | 0,_,_,_,h=>h
 | n+1,o,s,t,h=>by
  have hi:∀ (l:List RV) (u:TQ),u.keys.length=u.out.length→(l.foldl (zj kf) u).keys.length=(l.foldl (zj kf) u).out.length:=fun l=>by
   induction l with
   | nil=>intro u h; exact h
   | cons x l ih =>
    intro u h
    refine ih _ ?_
    unfold zj
    split
    ·exact h
    ·simp [h]
  have hf:∀ (l:List RV) (u:TQ),u.keys.length=u.out.length→(l.foldl (fun t f=>setQ kf n o f.2.2 t) u).keys.length=(l.foldl (fun t f=>setQ kf n o f.2.2 t) u).out.length:=fun l=>by
   induction l with
   | nil=>intro u h; exact h
   | cons x l ih=>intro u h; exact ih _ (setQ_kl kf n o _ _ h)
  rw [setQ]
  split
  ·exact h
  ·dsimp only
   split
   ·exact hf _ _ h
   ·split
    ·exact hf _ _ (hi _ _ h)
    ·split
     ·exact hi _ _ (hf _ _ h)
     ·exact hi _ _ (hf _ _ h)
theorem QI.dn {w w2:World} {F:Nat→Prop} {gt:Nat} {o:Int} {t:TQ} {As:Option Addr} {cs:Nat} {Ak:Option Addr} {ck:Nat} {Ao:Option Addr} {co:Nat} {ho:List RH} (I:QI w F gt o w2 t As cs Ak ck Ao co ho) {v:RC} {x:RV} {p:Option Nat} (hd:DnD deR [(v,F)] [x] p):DnD deR ho t.out p :=
 fun i h y hh _ g e hg=>hd.one g e (I.fo h (List.mem_of_getElem? hh) g hg)
theorem setQ_none:∀ (n:Nat) (s:RO) (t:TQ),t.out=[]→t.keys=[]→(setQ (fun _=>[]) n 0 s t).out=[]∧(setQ (fun _=>[]) n 0 s t).keys=[]:=fun n=>by
 induction n with
 | zero=>intro s t a b; exact ⟨a,b⟩
 | succ n ih =>
  intro s t a b
  rw [setQ]
  split
  ·exact ⟨a,b⟩
  ·dsimp only
   rw [if_pos rfl]
   have hf:∀ (l:List RV) (u:TQ),u.out=[]→u.keys=[]→(l.foldl (fun (t:TQ) (f:RV)=>setQ (fun _=>[]) n 0 f.2.2 t) u).out=[]∧(l.foldl (fun (t:TQ) (f:RV)=>setQ (fun _=>[]) n 0 f.2.2 t) u).keys=[]:=fun l=>by
    induction l with
    | nil=>intro u a b; exact ⟨a,b⟩
    | cons f l ihl=>intro u a b; obtain ⟨a',b'⟩:=ih f.2.2 u a b; exact ihl _ a' b'
   exact hf _ _ a b
def cR:Code→Code
 | .seq _ b=>b
 | c=>c
noncomputable def ndTail:Code:=cR (cR (cR (cR (cR (cR (cR (cR (Tryz.f14.body.getD .skip))))))))
noncomputable def ndRest:Code:=cR (cR (cR (cR ndTail)))
attribute [local irreducible] WL WC WX WQ WK WJ Yld Eff Ef0 Fn
theorem W_smithyref14_Sets {w:World} {v_v:RC} {F_v:Nat→Prop} {v:RV} {K:Int→Prop} (hv:RelD deR w [(v_v,F_v)] [v]) (H:M_smithyref14_Sets v K):Fn Tryz.prog 25 ⟨[(.agg ⟨v_v.1⟩)]⟩ w (fun v' w'=>w.grownBy w' none∧∃ (r:Int),v'=.int .i64 r∧K r):=by
 obtain ⟨hn,hnn,H⟩:=H
 obtain ⟨A,c,vo,hc,hR,hO,_,_⟩:=qe hv
 obtain ⟨⟨m,hOm⟩,hOF⟩:=hO.one
 have hd:∃ n,depO n v.2.2:=⟨m,ROn_depO hOm⟩
 obtain ⟨n,hd⟩:=hd
 obtain ⟨hb,hK⟩:=H n hd
 have hpt:vo.1=.pointer (some ⟨v.2.2.id,0,none⟩):=ptr_ne hO hn
 refine Fn.enter (by kernel_rfl) Tryz.func25 rfl Tryz.ntmps25 rfl ?_
 repeat refine WC.seq ?_
 refine WC.region ?_
 rw [hc]
 refine WL.box (us:=[.int .i64 v.1,.bool false,.bool v.2.1.1,.slice A v.2.1.2.length c,vs [],vo.1]) rfl rfl rfl (fun g1 w1 hB1 hg1 hl1=>?_)
 refine WL.y rfl (Yld.pure za rfl) ?_
 refine WL.nil (WX.then_normal ?_)
 repeat refine WC.seq ?_
 refine WC.region ?_
 refine WL.y rfl (Yld.struct (us:=[.int .i64 (0:Int),.slice none 0 0,.slice none 0 0,.slice none 0 0]) zero138 places138 rfl rfl) ?_
 refine WL.box (us:=[.int .i64 (0:Int),.slice none 0 0,.slice none 0 0,.slice none 0 0]) rfl rfl rfl (fun g2 w2 hB2 hg2 hl2=>?_)
 have gr2:=zd hg1 hg2
 refine WL.y rfl (Yld.pure za rfl) ?_
 refine WL.nil (WX.then_normal ?_)
 have I:QI w F_v g2 0 w2 tq0 none 0 none 0 none 0 []:=⟨gr2,hB2,Own.nil _ _ _ _,Own.nil _ _ _ _,OwnK.nil vr_ok _ _ _,RelD.nil,fun x hx=>(by cases hx),Nat.le_trans (ze hg1) hl2,fun h=>(by cases h),fun h=>(by cases h),fun h=>(by cases h),Dj.nl,Dj.nl,Dj.nl,fun h hh=>(by cases hh)⟩
 obtain ⟨ho0,hk0⟩:=setQ_none n v.2.2 tq0 rfl rfl
 repeat refine WC.seq ?_
 refine WC.region ?_
 refine WL.y rfl (Yld.pure za rfl) ?_
 refine WL.y rfl (Yld.pure za rfl) ?_
 refine WL.y rfl (Yld.to (v:=.pointer (some ⟨v.2.2.id,0,none⟩)) (Yld.bload za (hB1.g0 hg2) rfl rfl rfl) hpt) ?_
 refine WL.call rfl rfl (setR_fn hO hnn 0 (by omega) (fun _=>[]) (fun h=>absurd rfl h) n v.2.2 tq0 none 0 none 0 none 0 [] w2 hd .refl hn I hb (by rw [ho0]; simp) (by rw [hk0]; simp)) ?_
 rintro _ w3 ⟨rfl,As,cs,Ak,ck,Ao,co,ho,I3⟩
 refine WL.nil (WX.then_normal ?_)
 repeat refine WC.seq ?_
 refine WC.region ?_
 refine WL.y rfl (Yld.pure za rfl) ?_
 refine WL.y rfl (Yld.pure za rfl) ?_
 refine WL.y rfl (Yld.pure za rfl) ?_
 refine WL.y rfl (Yld.bload za I3.box rfl rfl rfl) ?_
 refine WL.y rfl (Yld.pure za rfl) ?_
 refine WL.y rfl (Yld.pure za rfl) ?_
 refine WL.nil (WX.then_normal ?_)
 refine WC.ret ?_
 exact WX.ret1 rfl rfl ⟨I3.gr,_,rfl,hK⟩
set_option maxHeartbeats 4000000 in
theorem W_smithyref14_All {w:World} {v_v:RC} {F_v:Nat→Prop} {v:RV} {K:List RV→Int→Prop} (hv:RelD deR w [(v_v,F_v)] [v]) (H:M_smithyref14_All v K):Fn Tryz.prog 17 ⟨[(.agg ⟨v_v.1⟩)]⟩ w (fun v' w'=>w.grownBy w' none∧∃ (r0:List RV),∃ (A:Option Addr),∃ (c:Nat),∃ (hs:List RH),∃ (r1:Int),v'=.tuple #[.slice A r0.length c,.int .i64 r1]∧OwnK 6 vr w' w.heap.size 38 A c hs∧RelD deR w' hs r0∧(∀ p:Option Nat,Lt p w.heap.size→DnD deR [(v_v,F_v)] [v] p→DnD deR hs r0 p)∧DnD deR hs r0 (blk A)∧K r0 r1):=by
 obtain ⟨hn,hnn,H0,kf,hkf,H⟩:=H
 obtain ⟨A,c,vo,hc,hR,hO,_,_⟩:=qe hv
 obtain ⟨⟨m,hOm⟩,hOF⟩:=hO.one
 have hd:∃ n,depO n v.2.2:=⟨m,ROn_depO hOm⟩
 obtain ⟨n,hd⟩:=hd
 obtain ⟨hb,hb2,hK⟩:=H n hd
 have hpt:vo.1=.pointer (some ⟨v.2.2.id,0,none⟩):=ptr_ne hO hn
 obtain ⟨Ai,ci,Af,cf,hi,hf,_,hBo,_⟩:=deO_openD hO hn
 refine Fn.enter (by kernel_rfl) Tryz.func17 rfl Tryz.ntmps17 rfl ?_
 repeat refine WC.seq ?_
 refine WC.region ?_
 rw [hc]
 refine WL.box (us:=[.int .i64 v.1,.bool false,.bool v.2.1.1,.slice A v.2.1.2.length c,vs [],vo.1]) rfl rfl rfl (fun g1 w1 hB1 hg1 hl1=>?_)
 refine WL.y rfl (Yld.pure za rfl) ?_
 refine WL.y rfl (Yld.pure za rfl) ?_
 refine WL.nil (WX.then_normal ?_)
 repeat refine WC.seq ?_
 refine WC.region ?_
 refine WL.y rfl (Yld.pure za rfl) ?_
 refine WL.y rfl (Yld.to (v:=.pointer (some ⟨v.2.2.id,0,none⟩)) (Yld.bload za hB1 rfl rfl rfl) hpt) ?_
 refine WL.y rfl (Yld.pure za rfl) ?_
 refine WL.y rfl (Yld.pure za rfl) ?_
 refine WL.y rfl (Yld.bload za (hBo.g0 hg1) rfl rfl rfl) ?_
 refine WL.y rfl (Yld.struct (us:=[.int .i64 v.2.2.order,.slice none 0 0,.slice none 0 0,.slice none 0 0]) zero138 places138 rfl rfl) ?_
 refine WL.box (us:=[.int .i64 v.2.2.order,.slice none 0 0,.slice none 0 0,.slice none 0 0]) rfl rfl rfl (fun g2 w2 hB2 hg2 hl2=>?_)
 have gr2:=zd hg1 hg2
 refine WL.y rfl (Yld.pure za rfl) ?_
 refine WL.nil (WX.then_normal ?_)
 have I:QI w F_v g2 v.2.2.order w2 tq0 none 0 none 0 none 0 []:=⟨gr2,hB2,Own.nil _ _ _ _,Own.nil _ _ _ _,OwnK.nil vr_ok _ _ _,RelD.nil,fun x hx=>(by cases hx),Nat.le_trans (ze hg1) hl2,fun h=>(by cases h),fun h=>(by cases h),fun h=>(by cases h),Dj.nl,Dj.nl,Dj.nl,fun h hh=>(by cases hh)⟩
 have hkl:=setQ_kl kf n v.2.2.order v.2.2 tq0 rfl
 repeat refine WC.seq ?_
 refine WC.region ?_
 refine WL.y rfl (Yld.pure za rfl) ?_
 refine WL.y rfl (Yld.pure za rfl) ?_
 refine WL.y rfl (Yld.to (v:=.pointer (some ⟨v.2.2.id,0,none⟩)) (Yld.bload za (hB1.g0 hg2) rfl rfl rfl) hpt) ?_
 refine WL.call rfl rfl (setR_fn hO hnn v.2.2.order H0 kf (fun _=>hkf) n v.2.2 tq0 none 0 none 0 none 0 [] w2 hd .refl hn I hb (by omega) (by omega)) ?_
 rintro _ w3 ⟨rfl,As,cs,Ak,ck,Ao,co,ho,I3⟩
 refine WL.nil (WX.then_normal ?_)
 have hrl:=I3.rl.grown I3.gr
 have hAll:allQ kf n v.2.2=if v.2.2.order=3 then (setQ kf n v.2.2.order v.2.2 tq0).out.reverse else (setQ kf n v.2.2.order v.2.2 tq0).out:=rfl
 generalize hT:setQ kf n v.2.2.order v.2.2 tq0=T at I3 hb hb2 hAll hkl hrl
 repeat refine WC.seq ?_
 refine WC.region ?_
 refine WL.y rfl (Yld.pure za rfl) ?_
 refine WL.y rfl (Yld.pure za rfl) ?_
 refine WL.y rfl (Yld.pure za rfl) ?_
 refine WL.y rfl (Yld.bload za I3.box rfl rfl rfl) ?_
 refine WL.y rfl (Yld.pure za rfl) ?_
 refine WL.y rfl (Yld.pure za rfl) ?_
 refine WL.nil (WX.then_normal ?_)
 refine WC.cond rfl (fun c1=>?_) (fun c1=>?_)
 ·have c1:=of_decide_eq_true c1
  exact absurd c1 (by omega)
 ·refine WC.skip ?_
  repeat refine WX.then_normal ?_
  repeat refine WC.seq ?_
  refine WC.region ?_
  refine WL.y rfl (Yld.pure za rfl) ?_
  refine WL.y rfl (Yld.pure za rfl) ?_
  refine WL.y rfl (Yld.pure za rfl) ?_
  refine WL.y rfl (Yld.bload za I3.box rfl rfl rfl) ?_
  refine WL.y rfl (Yld.pure za rfl) ?_
  refine WL.nil (WX.then_normal ?_)
  refine WC.cond rfl (fun c2=>?_) (fun c2=>?_)
  ·have c2:¬ v.2.2.order=3:=by simpa using c2
   rw [if_neg c2] at hAll
   rw [hAll] at hK
   repeat refine WC.seq ?_
   refine WC.region ?_
   refine WL.y rfl (Yld.pure za rfl) ?_
   refine WL.y rfl (Yld.pure za rfl) ?_
   refine WL.y rfl (Yld.pure za rfl) ?_
   refine WL.y rfl (Yld.bload za I3.box rfl rfl rfl) ?_
   refine WL.y rfl (Yld.pure za rfl) ?_
   refine WL.y rfl (Yld.pure za rfl) ?_
   refine WL.nil (WX.then_normal ?_)
   refine WC.ret ?_
   repeat (first | refine WX.then_ret ?_)
   exact WX.ret2 rfl rfl rfl ⟨I3.gr,T.out,Ao,co,ho,0,rfl,I3.oo,hrl,fun p _ hd=>I3.dn hd,I3.rl.new I3.oo.ge',hK⟩
  ·have c2:v.2.2.order=3:=by simpa using c2
   rw [if_pos c2] at hAll
   rw [hAll] at hK
   refine WC.skip ?_
   repeat refine WX.then_normal ?_
   repeat refine WC.seq ?_
   refine WC.region ?_
   refine WL.y rfl (Yld.pure za rfl) ?_
   refine WL.nil (WX.then_normal ?_)
   repeat refine WC.seq ?_
   refine WC.region ?_
   refine WL.y rfl (Yld.pure za rfl) ?_
   refine WL.y rfl (Yld.pure za rfl) ?_
   refine WL.y rfl (Yld.pure za rfl) ?_
   refine WL.y rfl (Yld.bload za I3.box rfl rfl rfl) ?_
   refine WL.y rfl (Yld.pure za rfl) ?_
   refine WL.y rfl (Yld.sub rfl rfl (by simp only [In]; omega)) ?_
   refine WL.y rfl (Yld.pure za rfl) ?_
   refine WL.nil (WX.then_normal ?_)
   refine WC.block ?_
   refine WC.loopF (fun n' L' w'=>∃ (i:Nat) (Ar:Option Addr) (cr:Nat) (hr:List RH),n'=i∧L'=[(4,.pointer (some ⟨g2,0,none⟩)),(5,.slice Ar hr.length cr),(6,.int .i64 ((i:Int) - 1))]∧i≤T.out.length∧w.grownBy w' none∧Bl w' g2 138 [.int .i64 v.2.2.order,.slice As T.seen.length cs,.slice Ak T.keys.length ck,.slice Ao T.out.length co]∧OwnK 6 vr w' w.heap.size 38 Ao co ho∧OwnK 6 vr w' w.heap.size 38 Ar cr hr∧hr=ho.reverse.take (T.out.length - i)∧Dj (blk Ar) (blk Ao)∧Dj (blk Ar) (some g2)) _ _ ⟨T.out.length,none,0,[],rfl,rfl,Nat.le_refl _,I3.gr,I3.box,I3.oo,OwnK.nil vr_ok _ _ _,by rw [Nat.sub_self]; rfl,Dj.nl,Dj.nl⟩ (by repeat (first | exact Sub.nil | refine Sub.cons rfl ?_)) ?_
   rintro _ _ w8 ⟨i,Ar,cr,hr,en,rfl,hil,gr8,hX8,hO8,hR8,ehr,dA,dG⟩
   have hol:ho.length=T.out.length:=I3.rl.1
   repeat refine WC.seq ?_
   refine WC.region ?_
   refine WL.y rfl (Yld.pure za rfl) ?_
   refine WL.y rfl (Yld.pure za rfl) ?_
   refine WL.nil (WX.then_normal ?_)
   refine WC.cond rfl (fun d1=>?_) (fun d1=>?_)
   ·have d1:=of_decide_eq_true d1
    have hi1:i - 1<T.out.length:=by omega
    refine WC.skip (WX.then_normal ?_)
    repeat (first | refine WC.seq ?_ | refine WC.block ?_)
    refine WC.region ?_
    refine WL.y rfl (Yld.pure za rfl) ?_
    refine WL.y rfl (Yld.pure za rfl) ?_
    refine WL.y rfl (Yld.pure za rfl) ?_
    refine WL.y rfl (Yld.pure za rfl) ?_
    refine WL.y rfl (Yld.bload za hX8 rfl rfl rfl) ?_
    refine WL.y rfl (Yld.pure za rfl) ?_
    refine WL.y rfl (Yld.iaddrK za hO8.rd rfl rfl hol.symm rfl (by omega) (by omega)) ?_
    have hq:((i:Int) - 1).toNat=i - 1:=by omega
    rw [hq]
    refine WL.y rfl (Yld.iloadK rh0 za hO8.rd rfl rfl (by rw [hol]; exact hi1)) ?_
    refine WL.litK (f:=vr) [ho.getD (i - 1) rh0] vr_ok rfl ow26 rfl rfl rfl (fun g9 w9 hB9 hg9 hl9=>?_)
    have gr9:=zd gr8 hg9
    have hL9:OwnK 6 vr w9 w.heap.size 38 (some ⟨g9,0,none⟩) 1 [ho.getD (i - 1) rh0]:=OwnK.ofBl vr_ok hB9 (Nat.le_trans (ze gr8) hl9) (by simp [maxLen]) rfl
    have hrl8:hr.length≤1024:=by rw [ehr,List.length_take]; omega
    have h9:(hr.length+([ho.getD (i - 1) rh0]:List RH).length)*72≤140737488355328:=by simp only [List.length_cons,List.length_nil]; omega
    refine WL.appendK rfl ow26 (hR8.grown hg9) rfl rfl hL9.rd rfl rfl h9 (zx h9) (ze gr9) (fun Ar' cr' w10 hR10 hg10 hk10=>?_)
    have gr10:=zk gr9 hg10 hR8.ge'
    have hX10:=(hX8.g0 hg9).go hg10 dG.symm
    have hO10:=(hO8.grown hg9).go hg10 dA.symm
    have b10:∀ p:Option Nat,Lt p w9.heap.size→Dj p (blk Ar)→Dj p (blk Ar'):=fun p hp hd=>(Dj.app hd.symm hp hk10).symm
    refine WL.y rfl (Yld.pure za rfl) ?_
    refine WL.nil ?_
    repeat (first | refine WX.then_normal ?_ | refine WX.block_normal ?_)
    refine WC.region ?_
    refine WL.y rfl (Yld.pure za rfl) ?_
    refine WL.y rfl (Yld.to (v:=.int .i64 (((i - 1:Nat):Int) - 1)) (Yld.sub rfl rfl (by simp only [In]; omega)) (by rw [show ((i:Int) - 1 - 1)=(((i - 1:Nat):Int) - 1) by omega])) ?_
    refine WL.y rfl (Yld.pure za rfl) ?_
    refine WL.nil ?_
    refine WX.roundF _ ⟨i - 1,Ar',cr',hr++[ho.getD (i - 1) rh0],rfl,rfl,by omega,gr10,hX10,hO10,hR10,?_,(b10 _ (hO8.grown hg9).lt' dA.symm).symm,(b10 _ (hX8.g0 hg9).lt' dG.symm).symm⟩ (by repeat (first | exact Sub.nil | refine Sub.cons rfl ?_)) (by omega)
    ·rw [ehr,show T.out.length - (i - 1)=T.out.length - i+1 by omega,List.take_add_one,List.getElem?_reverse (by omega),show ho.length - 1 - (T.out.length - i)=i - 1 by omega]
     simp [List.getD,show i - 1<ho.length by omega]
   ·have d1:=of_decide_eq_false d1
    obtain rfl:i=0:=by omega
    have e9:ho.reverse.take (T.out.length - 0)=ho.reverse:=List.take_of_length_le (by rw [List.length_reverse,hol]; omega)
    rw [e9] at ehr
    subst ehr
    refine WC.exit ?_
    repeat (first | refine WX.then_exit ?_ | refine WX.block_same ?_)
    repeat refine WX.then_normal ?_
    repeat refine WC.seq ?_
    refine WC.region ?_
    refine WL.y rfl (Yld.pure za rfl) ?_
    refine WL.y rfl (Yld.pure za rfl) ?_
    refine WL.y rfl (Yld.pure za rfl) ?_
    refine WL.nil (WX.then_normal ?_)
    refine WC.ret ?_
    have hrv:RelD deR w ho.reverse T.out.reverse:=⟨by simp [hol],fun i h x hh hx=>by
     have hi:i<ho.length:=by have:=(List.getElem?_eq_some_iff.1 hh).1; simpa using this
     rw [List.getElem?_reverse hi] at hh
     rw [List.getElem?_reverse (by rw [←hol]; exact hi)] at hx
     rw [hol] at hh
     exact I3.rl.2 _ h x hh hx⟩
    exact WX.ret2 rfl rfl rfl ⟨gr8,T.out.reverse,Ar,cr,ho.reverse,0,by rw [List.length_reverse,List.length_reverse,hol],hR8,hrv.grown gr8,fun p _ hd i h y hh _ g e hg=>hd.one g e (I3.fo h (List.mem_reverse.1 (List.mem_of_getElem? hh)) g hg),hrv.new hR8.ge',hK⟩
set_option maxHeartbeats 4000000 in
theorem nd_mid {Q:Post} {w:World} {g ci cf:Nat} {order:Int} {its fr:List RV} {Ai Af:Option Addr} {hi hf:List RH} {v0 v1 v2 v6 v13:Value} {K:Int→Prop}
  (hB:Bl w g 111 (objC (.slice Ai its.length ci) 0 order (.slice Af fr.length cf))) (hI:RdK 6 vr w Ai ci hi) (rI:RelD deR w hi its) (hF:RdK 6 vr w Af cf hf) (rF:RelD deR w hf fr) (lI:Lt (blk Ai) w.heap.size) (lF:Lt (blk Af) w.heap.size) (H:M_nd_mid its order fr K)
  (kk:∀ (w2:World) (n:Int),w.grownBy w2 none→K n→WC Tryz.prog 168 Q ndRest [(0,v0),(1,v1),(2,v2),(6,v6),(8,.pointer (some ⟨g,0,none⟩)),(13,v13),(17,.int .i64 n)] w2) :
  WC Tryz.prog 168 Q ndTail [(0,v0),(1,v1),(2,v2),(6,v6),(8,.pointer (some ⟨g,0,none⟩)),(13,v13)] w:=by
 obtain ⟨hnn,H⟩:=H
 replace hnn:=hnn g
 obtain ⟨hO,_⟩:=deO_packD (deep:=0) hB hI rI hF rF lI lF
 generalize hs0:RO.mk g its order fr 0=s0 at *
 have hn0:s0≠.nil:=by rw [←hs0]; intro e; cases e
 have hid:s0.id=g:=by rw [←hs0]; rfl
 obtain ⟨⟨m,hOm⟩,hOF⟩:=hO.one
 obtain ⟨n,hd⟩:∃ n,depO n s0:=⟨m,ROn_depO hOm⟩
 have H2:=H g n
 rw [hs0] at H2
 obtain ⟨hb,hsum,hK⟩:=H2 hd
 refine WC.seq ?_
 refine WC.region ?_
 refine WL.y rfl (Yld.struct (us:=[.int .i64 (0:Int),.slice none 0 0,.slice none 0 0,.slice none 0 0]) zero138 places138 rfl rfl) ?_
 refine WL.box (us:=[.int .i64 (0:Int),.slice none 0 0,.slice none 0 0,.slice none 0 0]) rfl rfl rfl (fun g2 w2 hB2 hg2 hl2=>?_)
 refine WL.y rfl (Yld.pure za rfl) ?_
 refine WL.nil (WX.then_normal ?_)
 have I:QI w (FO g Ai Af hi hf) g2 0 w2 tq0 none 0 none 0 none 0 []:=⟨hg2,hB2,Own.nil _ _ _ _,Own.nil _ _ _ _,OwnK.nil vr_ok _ _ _,RelD.nil,fun x hx=>(by cases hx),hl2,fun h=>(by cases h),fun h=>(by cases h),fun h=>(by cases h),Dj.nl,Dj.nl,Dj.nl,fun h hh=>(by cases hh)⟩
 obtain ⟨ho0,hk0⟩:=setQ_none n s0 tq0 rfl rfl
 have hseen:=(seen_in (kf:=fun _=>[]) (C:=fun y=>RRch s0 y∧y≠.nil) (fun y hy f hf=>⟨.step hy.1 (.inr hf),hnn y hy.1 f hf⟩) 0 n s0 tq0 ⟨.refl,hn0⟩ (fun _ h=>by cases h) List.nodup_nil).1
 refine WC.seq ?_
 refine WC.region ?_
 refine WL.y rfl (Yld.pure za rfl) ?_
 refine WL.y rfl (Yld.pure za rfl) ?_
 rw [←hid]
 refine WL.call rfl rfl (setR_fn hO hnn 0 (by omega) (fun _=>[]) (fun h=>absurd rfl h) n s0 tq0 none 0 none 0 none 0 [] w2 hd .refl hn0 I hb (by rw [ho0]; simp) (by rw [hk0]; simp)) ?_
 rintro _ w3 ⟨rfl,As,cs,Ak,ck,Ao,co,ho,I3⟩
 refine WL.nil (WX.then_normal ?_)
 generalize setQ (fun _=>[]) n 0 s0 tq0=T at *
 refine WC.seq ?_
 refine WC.region ?_
 refine WL.y rfl (Yld.pure za rfl) ?_
 refine WL.nil (WX.then_normal ?_)
 refine WC.seq ?_
 refine WC.seq ?_
 refine WC.region ?_
 refine WL.y rfl (Yld.pure za rfl) ?_
 refine WL.nil (WX.then_normal ?_)
 refine WC.block ?_
 refine WC.loopF (fun n' L' w'=>∃ i:Nat,n'=T.seen.length - i∧L'=[(0,v0),(1,v1),(2,v2),(6,v6),(8,.pointer (some ⟨s0.id,0,none⟩)),(13,v13),(16,.pointer (some ⟨g2,0,none⟩)),(17,.int .i64 (((T.seen.take i).map fun s=>s.items.length).sum:Nat)),(18,.int .i64 (i:Int))]∧i≤T.seen.length∧w3=w') _ _ ⟨0,rfl,rfl,Nat.zero_le _,rfl⟩ (by repeat (first | exact Sub.nil | refine Sub.cons rfl ?_)) ?_
 rintro _ _ _ ⟨i,rfl,rfl,hil,rfl⟩
 repeat refine WC.seq ?_
 refine WC.region ?_
 refine WL.y rfl (Yld.pure za rfl) ?_
 refine WL.y rfl (Yld.pure za rfl) ?_
 refine WL.y rfl (Yld.pure za rfl) ?_
 refine WL.y rfl (Yld.pure za rfl) ?_
 refine WL.y rfl (Yld.bload za I3.box rfl rfl rfl) ?_
 refine WL.y rfl (Yld.pure za rfl) ?_
 refine WL.y rfl (Yld.pure za rfl) ?_
 refine WL.nil (WX.then_normal ?_)
 refine WC.cond rfl (fun b1=>?_) (fun b1=>?_)
 ·have b1:=of_decide_eq_true b1
  have hlt:i<T.seen.length:=by omega
  obtain ⟨y,hy⟩:∃ y,T.seen[i]?=some y:=⟨_,List.getElem?_eq_getElem hlt⟩
  have hym:y∈T.seen:=List.mem_of_getElem? hy
  obtain ⟨hyr,hyn⟩:=hseen y hym
  obtain ⟨vy,hyO⟩:=relO hO hyr
  obtain ⟨Ay,cy,Ay2,cy2,hy1,hy2,_,hBy,hRy,hry,_⟩:=deO_openD hyO hyn
  have hstep:((T.seen.take (i+1)).map fun s=>s.items.length).sum=((T.seen.take i).map fun s=>s.items.length).sum+y.items.length:=by
   rw [List.take_add_one,hy]; simp
  have hle:((T.seen.take (i+1)).map fun s=>s.items.length).sum≤(T.seen.map fun s=>s.items.length).sum:=by
   have:=congrArg (fun l:List RO=>(l.map fun s=>s.items.length).sum) (List.take_append_drop (i+1) T.seen)
   simp only [List.map_append,List.sum_append] at this
   omega
  refine WC.skip (WX.then_normal ?_)
  repeat (first | refine WC.seq ?_ | refine WC.block ?_)
  refine WC.region ?_
  refine WL.y rfl (Yld.pure za rfl) ?_
  refine WL.y rfl (Yld.pure za rfl) ?_
  refine WL.y rfl (Yld.pure za rfl) ?_
  refine WL.y rfl (Yld.pure za rfl) ?_
  refine WL.y rfl (Yld.bload za I3.box rfl rfl rfl) ?_
  refine WL.y rfl (Yld.pure za rfl) ?_
  refine WL.y rfl (Yld.iaddrW za I3.os.rd rfl rfl (by simp) rfl (by omega) (by omega)) ?_
  have hq:((i:Int)).toNat=i:=by omega
  rw [hq]
  refine WL.y rfl (Yld.to (v:=.pointer (some ⟨y.id,0,none⟩)) (Yld.iload 0 za I3.os.rd rfl rfl (by simpa using hlt)) (by simp [List.getD,hy,vp])) ?_
  refine WL.y rfl (Yld.pure za rfl) ?_
  refine WL.y rfl (Yld.pure za rfl) ?_
  refine WL.y rfl (Yld.bload za (hBy.g0 I3.gr) rfl rfl rfl) ?_
  refine WL.y rfl (Yld.pure za rfl) ?_
  refine WL.y rfl (Yld.to (v:=.int .i64 (((T.seen.take (i+1)).map fun s=>s.items.length).sum:Nat)) (Yld.add rfl rfl (by simp only [In]; omega)) (by rw [hstep]; rfl)) ?_
  refine WL.y rfl (Yld.pure za rfl) ?_
  refine WL.nil ?_
  repeat (first | refine WX.then_normal ?_ | refine WX.block_normal ?_)
  refine WC.region ?_
  refine WL.y rfl (Yld.pure za rfl) ?_
  refine WL.y rfl (Yld.add rfl rfl (by simp only [In]; omega)) ?_
  refine WL.y rfl (Yld.pure za rfl) ?_
  refine WL.nil ?_
  exact WX.roundF _ ⟨i+1,rfl,rfl,by omega,rfl⟩ (by repeat (first | exact Sub.nil | refine Sub.cons rfl ?_)) (by omega)
 ·have b1:=of_decide_eq_false b1
  obtain rfl:i=T.seen.length:=by omega
  rw [List.take_length]
  refine WC.exit ?_
  repeat (first | refine WX.then_exit ?_ | refine WX.block_same ?_)
  repeat refine WX.then_normal ?_
  exact WC.weaken (by repeat (first | exact Sub.nil | refine Sub.cons rfl ?_)) (hid ▸ kk w3 _ I3.gr hK)
end Go.Proofs.YtjjcdkfhaceicaaGreatDoor
 namespace Go.Proofs.YtjjcdkfhaceicaaGreatDoor
open Go Go.RowKit
attribute [local irreducible] WL WC WX WQ WK WJ Yld Eff Ef0 Fn
theorem getD_set_eqV (l:List VH) (j:Nat) (d:VH) (h:j<l.length):(l.set j d).getD j vh0=d:=by simp [List.getD,h]
theorem getD_set_neV (l:List VH) (j i:Nat) (d:VH) (h:j≠i):(l.set j d).getD i vh0=l.getD i vh0:=by simp [List.getD,List.getElem?_set_ne h]
theorem rev_endV (xs ys:List VH) (i:Nat) (hl:ys.length=xs.length) (hi:xs.length≤2*i+1) (h:∀ t,t<xs.length→ys.getD t vh0=if t<i∨xs.length - i≤t then xs.getD (xs.length - 1 - t) vh0 else xs.getD t vh0):ys=xs.reverse:=by
 apply List.ext_getElem
 ·simp [hl]
 ·intro t h1 h2
  have h3:t<xs.length:=by omega
  have e:=h t h3
  rw [List.getElem_reverse]
  have e1:ys.getD t vh0=ys[t]:=by simp [List.getD,h1]
  have e2:xs.getD (xs.length - 1 - t) vh0=xs[xs.length - 1 - t]:=by simp [List.getD,(by omega:xs.length - 1 - t<xs.length)]
  rw [←e1,←e2,e]
  split
  ·rfl
  ·congr 1; omega
set_option maxHeartbeats 1000000 in
theorem reverse_fnV (A:Option Addr) (c B:Nat) (xs:List VH) (w:World) (hO:Own vv w B 32 A c xs):Fn Tryz.prog 81 ⟨[.slice A xs.length c]⟩ w fun v w'=>v=.tuple #[]∧Own vv w' B 32 A c xs.reverse∧w.grownBy w' (blk A):=by
 have hlen:=hO.len
 simp only [maxLen] at hlen
 refine Fn.enter (by kernel_rfl) Tryz.func81 rfl Tryz.ntmps81 rfl ?_
 repeat (first | refine WC.seq ?_ | refine WC.block ?_ | refine WC.region ?_ | refine WL.nil ?_ | refine WX.then_normal ?_ | refine WC.skip ?_ | refine WC.exit ?_ | refine WC.ret ?_ | refine WX.then_exit ?_ | refine WX.then_ret ?_ | refine WX.block_normal ?_ | refine WX.block_ret ?_ | refine WX.block_same ?_ | refine WX.block_other rfl ?_ | refine WC.label ?_ | refine WC.scope ?_ | refine WX.scope_normal ?_ | refine WX.scope_ret ?_ | refine WX.scope_exit ?_ | refine WL.y rfl (Yld.add rfl rfl (by simp only [In]; omega)) ?_ | refine WL.y rfl (Yld.sub rfl rfl (by simp only [In]; omega)) ?_ | refine WL.y rfl (Yld.mul rfl rfl (by simp only [In]; omega)) ?_ | refine WL.y rfl (Yld.convB za rfl rfl rfl rfl) ?_ | refine WL.y rfl (Yld.conv za rfl rfl rfl (by simp only [In]; omega)) ?_ | refine WL.y rfl (Yld.quo rfl rfl (by omega) (by omega) (by simp only [In]; omega)) ?_ | refine WL.y rfl (Yld.rem rfl rfl (by omega) (by omega)) ?_ | refine WL.y rfl (Yld.shl rfl rfl (by omega)) ?_ | refine WL.y rfl (Yld.shr rfl rfl (by omega)) ?_ | refine WL.y rfl (Yld.pure za rfl) ?_ | refine WL.y rfl (Yld.fld zb rfl rfl rfl) ?_ | refine WL.y rfl (Yld.max2 rfl rfl) ?_ | refine WL.y rfl (Yld.min2 rfl rfl) ?_ | refine WL.y rfl (Yld.pickV rfl rfl rfl) ?_ | refine WL.gno rfl rfl rfl rfl ?_ | refine WL.gyes rfl rfl rfl rfl (Yld.add rfl rfl (by simp only [In]; omega)) ?_ | refine WL.gyes rfl rfl rfl rfl (Yld.sub rfl rfl (by simp only [In]; omega)) ?_ | refine WL.gyes rfl rfl rfl rfl (Yld.mul rfl rfl (by simp only [In]; omega)) ?_ | refine WL.gyes rfl rfl rfl rfl (Yld.convB za rfl rfl rfl rfl) ?_ | refine WL.gyes rfl rfl rfl rfl (Yld.conv za rfl rfl rfl (by simp only [In]; omega)) ?_ | refine WL.gyes rfl rfl rfl rfl (Yld.quo rfl rfl (by omega) (by omega) (by simp only [In]; omega)) ?_ | refine WL.gyes rfl rfl rfl rfl (Yld.rem rfl rfl (by omega) (by omega)) ?_ | refine WL.gyes rfl rfl rfl rfl (Yld.shl rfl rfl (by omega)) ?_ | refine WL.gyes rfl rfl rfl rfl (Yld.shr rfl rfl (by omega)) ?_ | refine WL.gyes rfl rfl rfl rfl (Yld.pure za rfl) ?_ | refine WL.gyes rfl rfl rfl rfl (Yld.fld zb rfl rfl rfl) ?_ | refine WL.gyes rfl rfl rfl rfl (Yld.max2 rfl rfl) ?_ | refine WL.gyes rfl rfl rfl rfl (Yld.min2 rfl rfl) ?_ | refine WL.gyes rfl rfl rfl rfl (Yld.pickV rfl rfl rfl) ?_)
 refine WC.loop2 (S1:=Nat) (S2:=List VH) (fun i _=>xs.length - i) (fun i _=>[(2,vi i),(3,.int .i64 ((xs.length:Int) - 1 - (i:Int))),(0,.slice A xs.length c)])
  (fun i ys w2=>ys.length=xs.length∧2*i≤xs.length+1∧(∀ t,t<xs.length→ys.getD t vh0=if t<i∨xs.length - i≤t then xs.getD (xs.length - 1 - t) vh0 else xs.getD t vh0)∧Own vv w2 B 32 A c ys∧w.grownBy w2 (blk A))
  0 xs ⟨rfl,by omega,fun t ht=>by rw [if_neg (by omega)],hO,zN _ _⟩ (by rw [show (xs.length:Int) - 1 - ((0:Nat):Int)=(xs.length:Int) - 1 by omega]; repeat (first | exact Sub.nil | refine Sub.cons rfl ?_)) (fun i ys w2 ⟨hyl,hi,hy,hO2,hg2⟩=>?_)
 repeat (first | refine WC.seq ?_ | refine WC.block ?_ | refine WC.region ?_ | refine WL.nil ?_ | refine WX.then_normal ?_ | refine WC.skip ?_ | refine WC.exit ?_ | refine WC.ret ?_ | refine WX.then_exit ?_ | refine WX.then_ret ?_ | refine WX.block_normal ?_ | refine WX.block_ret ?_ | refine WX.block_same ?_ | refine WX.block_other rfl ?_ | refine WC.label ?_ | refine WC.scope ?_ | refine WX.scope_normal ?_ | refine WX.scope_ret ?_ | refine WX.scope_exit ?_ | refine WL.y rfl (Yld.add rfl rfl (by simp only [In]; omega)) ?_ | refine WL.y rfl (Yld.sub rfl rfl (by simp only [In]; omega)) ?_ | refine WL.y rfl (Yld.mul rfl rfl (by simp only [In]; omega)) ?_ | refine WL.y rfl (Yld.convB za rfl rfl rfl rfl) ?_ | refine WL.y rfl (Yld.conv za rfl rfl rfl (by simp only [In]; omega)) ?_ | refine WL.y rfl (Yld.quo rfl rfl (by omega) (by omega) (by simp only [In]; omega)) ?_ | refine WL.y rfl (Yld.rem rfl rfl (by omega) (by omega)) ?_ | refine WL.y rfl (Yld.shl rfl rfl (by omega)) ?_ | refine WL.y rfl (Yld.shr rfl rfl (by omega)) ?_ | refine WL.y rfl (Yld.pure za rfl) ?_ | refine WL.y rfl (Yld.fld zb rfl rfl rfl) ?_ | refine WL.y rfl (Yld.max2 rfl rfl) ?_ | refine WL.y rfl (Yld.min2 rfl rfl) ?_ | refine WL.y rfl (Yld.pickV rfl rfl rfl) ?_ | refine WL.gno rfl rfl rfl rfl ?_ | refine WL.gyes rfl rfl rfl rfl (Yld.add rfl rfl (by simp only [In]; omega)) ?_ | refine WL.gyes rfl rfl rfl rfl (Yld.sub rfl rfl (by simp only [In]; omega)) ?_ | refine WL.gyes rfl rfl rfl rfl (Yld.mul rfl rfl (by simp only [In]; omega)) ?_ | refine WL.gyes rfl rfl rfl rfl (Yld.convB za rfl rfl rfl rfl) ?_ | refine WL.gyes rfl rfl rfl rfl (Yld.conv za rfl rfl rfl (by simp only [In]; omega)) ?_ | refine WL.gyes rfl rfl rfl rfl (Yld.quo rfl rfl (by omega) (by omega) (by simp only [In]; omega)) ?_ | refine WL.gyes rfl rfl rfl rfl (Yld.rem rfl rfl (by omega) (by omega)) ?_ | refine WL.gyes rfl rfl rfl rfl (Yld.shl rfl rfl (by omega)) ?_ | refine WL.gyes rfl rfl rfl rfl (Yld.shr rfl rfl (by omega)) ?_ | refine WL.gyes rfl rfl rfl rfl (Yld.pure za rfl) ?_ | refine WL.gyes rfl rfl rfl rfl (Yld.fld zb rfl rfl rfl) ?_ | refine WL.gyes rfl rfl rfl rfl (Yld.max2 rfl rfl) ?_ | refine WL.gyes rfl rfl rfl rfl (Yld.min2 rfl rfl) ?_ | refine WL.gyes rfl rfl rfl rfl (Yld.pickV rfl rfl rfl) ?_)
 refine WC.cond rfl (fun h=>?_) (fun h=>?_)
 ·simp only [decide_eq_true_eq] at h
  have hR2:=hO2.rd
  have hjt:((xs.length:Int) - 1 - (i:Int)).toNat=xs.length - 1 - i:=by omega
  repeat (first | refine WC.seq ?_ | refine WC.block ?_ | refine WC.region ?_ | refine WL.nil ?_ | refine WX.then_normal ?_ | refine WC.skip ?_ | refine WC.exit ?_ | refine WC.ret ?_ | refine WX.then_exit ?_ | refine WX.then_ret ?_ | refine WX.block_normal ?_ | refine WX.block_ret ?_ | refine WX.block_same ?_ | refine WX.block_other rfl ?_ | refine WC.label ?_ | refine WC.scope ?_ | refine WX.scope_normal ?_ | refine WX.scope_ret ?_ | refine WX.scope_exit ?_ | refine WL.y rfl (Yld.add rfl rfl (by simp only [In]; omega)) ?_ | refine WL.y rfl (Yld.sub rfl rfl (by simp only [In]; omega)) ?_ | refine WL.y rfl (Yld.mul rfl rfl (by simp only [In]; omega)) ?_ | refine WL.y rfl (Yld.convB za rfl rfl rfl rfl) ?_ | refine WL.y rfl (Yld.conv za rfl rfl rfl (by simp only [In]; omega)) ?_ | refine WL.y rfl (Yld.quo rfl rfl (by omega) (by omega) (by simp only [In]; omega)) ?_ | refine WL.y rfl (Yld.rem rfl rfl (by omega) (by omega)) ?_ | refine WL.y rfl (Yld.shl rfl rfl (by omega)) ?_ | refine WL.y rfl (Yld.shr rfl rfl (by omega)) ?_ | refine WL.y rfl (Yld.pure za rfl) ?_ | refine WL.y rfl (Yld.fld zb rfl rfl rfl) ?_ | refine WL.y rfl (Yld.max2 rfl rfl) ?_ | refine WL.y rfl (Yld.min2 rfl rfl) ?_ | refine WL.y rfl (Yld.pickV rfl rfl rfl) ?_ | refine WL.gno rfl rfl rfl rfl ?_ | refine WL.gyes rfl rfl rfl rfl (Yld.add rfl rfl (by simp only [In]; omega)) ?_ | refine WL.gyes rfl rfl rfl rfl (Yld.sub rfl rfl (by simp only [In]; omega)) ?_ | refine WL.gyes rfl rfl rfl rfl (Yld.mul rfl rfl (by simp only [In]; omega)) ?_ | refine WL.gyes rfl rfl rfl rfl (Yld.convB za rfl rfl rfl rfl) ?_ | refine WL.gyes rfl rfl rfl rfl (Yld.conv za rfl rfl rfl (by simp only [In]; omega)) ?_ | refine WL.gyes rfl rfl rfl rfl (Yld.quo rfl rfl (by omega) (by omega) (by simp only [In]; omega)) ?_ | refine WL.gyes rfl rfl rfl rfl (Yld.rem rfl rfl (by omega) (by omega)) ?_ | refine WL.gyes rfl rfl rfl rfl (Yld.shl rfl rfl (by omega)) ?_ | refine WL.gyes rfl rfl rfl rfl (Yld.shr rfl rfl (by omega)) ?_ | refine WL.gyes rfl rfl rfl rfl (Yld.pure za rfl) ?_ | refine WL.gyes rfl rfl rfl rfl (Yld.fld zb rfl rfl rfl) ?_ | refine WL.gyes rfl rfl rfl rfl (Yld.max2 rfl rfl) ?_ | refine WL.gyes rfl rfl rfl rfl (Yld.min2 rfl rfl) ?_ | refine WL.gyes rfl rfl rfl rfl (Yld.pickV rfl rfl rfl) ?_)
  refine WC.chainJ (fun k => !(Nat.beq k 13 || Nat.beq k 15)) (LD [7,11] (fun w'=>Rd vv w' A c ys)) mixed (by kernel_rfl) (fun k w' e _=>rd_eqv e hR2) ?_
  have hyl3:xs.length=(ys.set i (ys.getD (xs.length - 1 - i) vh0)).length:=by simp [hyl]
  repeat (first | refine WJ.y rfl rfl (fun _ _=>Yld.iaddrNW za hR2 rfl rfl hyl.symm rfl (by omega)) ?_ | refine WJ.y rfl rfl (fun _ _=>Yld.iaddrW za hR2 rfl rfl hyl.symm rfl (by omega) (by omega)) ?_ | refine WJ.y rfl rfl (fun w' h=>Yld.iload vh0 za (h rfl) rfl rfl (by omega)) ?_ | refine WJ.y rfl rfl (fun _ _=>Yld.add rfl rfl (by simp only [In]; omega)) ?_ | refine WJ.y rfl rfl (fun _ _=>Yld.sub rfl rfl (by simp only [In]; omega)) ?_ | refine WJ.y rfl rfl (fun _ _=>Yld.mul rfl rfl (by simp only [In]; omega)) ?_ | refine WJ.y rfl rfl (fun _ _=>Yld.convB za rfl rfl rfl rfl) ?_ | refine WJ.y rfl rfl (fun _ _=>Yld.conv za rfl rfl rfl (by simp only [In]; omega)) ?_ | refine WJ.y rfl rfl (fun _ _=>Yld.quo rfl rfl (by omega) (by omega) (by simp only [In]; omega)) ?_ | refine WJ.y rfl rfl (fun _ _=>Yld.rem rfl rfl (by omega) (by omega)) ?_ | refine WJ.y rfl rfl (fun _ _=>Yld.shl rfl rfl (by omega)) ?_ | refine WJ.y rfl rfl (fun _ _=>Yld.shr rfl rfl (by omega)) ?_ | refine WJ.y rfl rfl (fun _ _=>Yld.pure za rfl) ?_ | refine WJ.y rfl rfl (fun _ _=>Yld.fld zb rfl rfl rfl) ?_ | refine WJ.y rfl rfl (fun _ _=>Yld.max2 rfl rfl) ?_ | refine WJ.y rfl rfl (fun _ _=>Yld.min2 rfl rfl) ?_ | refine WJ.y rfl rfl (fun _ _=>Yld.pickV rfl rfl rfl) ?_ | refine WJ.no rfl rfl rfl rfl ?_ | refine WJ.gun rfl rfl rfl rfl ?_ | refine WJ.yw rfl (zc rfl rfl rfl) rfl (fun _ _=>Yld.add rfl rfl (by simp only [In]; omega)) ?_ | refine WJ.yw rfl (zc rfl rfl rfl) rfl (fun _ _=>Yld.sub rfl rfl (by simp only [In]; omega)) ?_ | refine WJ.yw rfl (zc rfl rfl rfl) rfl (fun _ _=>Yld.mul rfl rfl (by simp only [In]; omega)) ?_ | refine WJ.yw rfl (zc rfl rfl rfl) rfl (fun _ _=>Yld.convB za rfl rfl rfl rfl) ?_ | refine WJ.yw rfl (zc rfl rfl rfl) rfl (fun _ _=>Yld.conv za rfl rfl rfl (by simp only [In]; omega)) ?_ | refine WJ.yw rfl (zc rfl rfl rfl) rfl (fun _ _=>Yld.quo rfl rfl (by omega) (by omega) (by simp only [In]; omega)) ?_ | refine WJ.yw rfl (zc rfl rfl rfl) rfl (fun _ _=>Yld.rem rfl rfl (by omega) (by omega)) ?_ | refine WJ.yw rfl (zc rfl rfl rfl) rfl (fun _ _=>Yld.shl rfl rfl (by omega)) ?_ | refine WJ.yw rfl (zc rfl rfl rfl) rfl (fun _ _=>Yld.shr rfl rfl (by omega)) ?_ | refine WJ.yw rfl (zc rfl rfl rfl) rfl (fun _ _=>Yld.pure za rfl) ?_)
  rw [hjt]
  refine WJ.eff rfl (Ef0.ostore (v:=ys.getD (xs.length - 1 - i) vh0) one32 One.vv hO2 rfl rfl (by omega)) (fun w' _=>DD.past (by kernel_rfl)) ?_
  rintro w3 ⟨hO3,hg3⟩
  repeat (first | refine WJ.y rfl rfl (fun _ _=>Yld.iaddrNW za hR2 rfl rfl hyl.symm rfl (by omega)) ?_ | refine WJ.y rfl rfl (fun _ _=>Yld.iaddrW za hR2 rfl rfl hyl.symm rfl (by omega) (by omega)) ?_ | refine WJ.y rfl rfl (fun _ _=>Yld.add rfl rfl (by simp only [In]; omega)) ?_ | refine WJ.y rfl rfl (fun _ _=>Yld.sub rfl rfl (by simp only [In]; omega)) ?_ | refine WJ.y rfl rfl (fun _ _=>Yld.mul rfl rfl (by simp only [In]; omega)) ?_ | refine WJ.y rfl rfl (fun _ _=>Yld.convB za rfl rfl rfl rfl) ?_ | refine WJ.y rfl rfl (fun _ _=>Yld.conv za rfl rfl rfl (by simp only [In]; omega)) ?_ | refine WJ.y rfl rfl (fun _ _=>Yld.quo rfl rfl (by omega) (by omega) (by simp only [In]; omega)) ?_ | refine WJ.y rfl rfl (fun _ _=>Yld.rem rfl rfl (by omega) (by omega)) ?_ | refine WJ.y rfl rfl (fun _ _=>Yld.shl rfl rfl (by omega)) ?_ | refine WJ.y rfl rfl (fun _ _=>Yld.shr rfl rfl (by omega)) ?_ | refine WJ.y rfl rfl (fun _ _=>Yld.pure za rfl) ?_ | refine WJ.y rfl rfl (fun _ _=>Yld.fld zb rfl rfl rfl) ?_ | refine WJ.y rfl rfl (fun _ _=>Yld.max2 rfl rfl) ?_ | refine WJ.y rfl rfl (fun _ _=>Yld.min2 rfl rfl) ?_ | refine WJ.y rfl rfl (fun _ _=>Yld.pickV rfl rfl rfl) ?_ | refine WJ.no rfl rfl rfl rfl ?_ | refine WJ.gun rfl rfl rfl rfl ?_ | refine WJ.yw rfl (zc rfl rfl rfl) rfl (fun _ _=>Yld.add rfl rfl (by simp only [In]; omega)) ?_ | refine WJ.yw rfl (zc rfl rfl rfl) rfl (fun _ _=>Yld.sub rfl rfl (by simp only [In]; omega)) ?_ | refine WJ.yw rfl (zc rfl rfl rfl) rfl (fun _ _=>Yld.mul rfl rfl (by simp only [In]; omega)) ?_ | refine WJ.yw rfl (zc rfl rfl rfl) rfl (fun _ _=>Yld.convB za rfl rfl rfl rfl) ?_ | refine WJ.yw rfl (zc rfl rfl rfl) rfl (fun _ _=>Yld.conv za rfl rfl rfl (by simp only [In]; omega)) ?_ | refine WJ.yw rfl (zc rfl rfl rfl) rfl (fun _ _=>Yld.quo rfl rfl (by omega) (by omega) (by simp only [In]; omega)) ?_ | refine WJ.yw rfl (zc rfl rfl rfl) rfl (fun _ _=>Yld.rem rfl rfl (by omega) (by omega)) ?_ | refine WJ.yw rfl (zc rfl rfl rfl) rfl (fun _ _=>Yld.shl rfl rfl (by omega)) ?_ | refine WJ.yw rfl (zc rfl rfl rfl) rfl (fun _ _=>Yld.shr rfl rfl (by omega)) ?_ | refine WJ.yw rfl (zc rfl rfl rfl) rfl (fun _ _=>Yld.pure za rfl) ?_)
  rw [hjt]
  refine WJ.eff rfl (Ef0.ostore (v:=ys.getD i vh0) one32 One.vv hO3 rfl rfl (by simp; omega)) (fun w' _=>DD.past (by kernel_rfl)) ?_
  rintro w4 ⟨hO4,hg4⟩
  refine WJ.nil ?_
  repeat (first | refine WC.seq ?_ | refine WC.block ?_ | refine WC.region ?_ | refine WL.nil ?_ | refine WX.then_normal ?_ | refine WC.skip ?_ | refine WC.exit ?_ | refine WC.ret ?_ | refine WX.then_exit ?_ | refine WX.then_ret ?_ | refine WX.block_normal ?_ | refine WX.block_ret ?_ | refine WX.block_same ?_ | refine WX.block_other rfl ?_ | refine WC.label ?_ | refine WC.scope ?_ | refine WX.scope_normal ?_ | refine WX.scope_ret ?_ | refine WX.scope_exit ?_ | refine WL.y rfl (Yld.add rfl rfl (by simp only [In]; omega)) ?_ | refine WL.y rfl (Yld.sub rfl rfl (by simp only [In]; omega)) ?_ | refine WL.y rfl (Yld.mul rfl rfl (by simp only [In]; omega)) ?_ | refine WL.y rfl (Yld.convB za rfl rfl rfl rfl) ?_ | refine WL.y rfl (Yld.conv za rfl rfl rfl (by simp only [In]; omega)) ?_ | refine WL.y rfl (Yld.quo rfl rfl (by omega) (by omega) (by simp only [In]; omega)) ?_ | refine WL.y rfl (Yld.rem rfl rfl (by omega) (by omega)) ?_ | refine WL.y rfl (Yld.shl rfl rfl (by omega)) ?_ | refine WL.y rfl (Yld.shr rfl rfl (by omega)) ?_ | refine WL.y rfl (Yld.pure za rfl) ?_ | refine WL.y rfl (Yld.fld zb rfl rfl rfl) ?_ | refine WL.y rfl (Yld.max2 rfl rfl) ?_ | refine WL.y rfl (Yld.min2 rfl rfl) ?_ | refine WL.y rfl (Yld.pickV rfl rfl rfl) ?_ | refine WL.gno rfl rfl rfl rfl ?_ | refine WL.gyes rfl rfl rfl rfl (Yld.add rfl rfl (by simp only [In]; omega)) ?_ | refine WL.gyes rfl rfl rfl rfl (Yld.sub rfl rfl (by simp only [In]; omega)) ?_ | refine WL.gyes rfl rfl rfl rfl (Yld.mul rfl rfl (by simp only [In]; omega)) ?_ | refine WL.gyes rfl rfl rfl rfl (Yld.convB za rfl rfl rfl rfl) ?_ | refine WL.gyes rfl rfl rfl rfl (Yld.conv za rfl rfl rfl (by simp only [In]; omega)) ?_ | refine WL.gyes rfl rfl rfl rfl (Yld.quo rfl rfl (by omega) (by omega) (by simp only [In]; omega)) ?_ | refine WL.gyes rfl rfl rfl rfl (Yld.rem rfl rfl (by omega) (by omega)) ?_ | refine WL.gyes rfl rfl rfl rfl (Yld.shl rfl rfl (by omega)) ?_ | refine WL.gyes rfl rfl rfl rfl (Yld.shr rfl rfl (by omega)) ?_ | refine WL.gyes rfl rfl rfl rfl (Yld.pure za rfl) ?_ | refine WL.gyes rfl rfl rfl rfl (Yld.fld zb rfl rfl rfl) ?_ | refine WL.gyes rfl rfl rfl rfl (Yld.max2 rfl rfl) ?_ | refine WL.gyes rfl rfl rfl rfl (Yld.min2 rfl rfl) ?_ | refine WL.gyes rfl rfl rfl rfl (Yld.pickV rfl rfl rfl) ?_)
  have e1:(i:Int)+1=((i+1:Nat):Int):=by omega
  have e2:(xs.length:Int) - 1 - (i:Int) - 1=(xs.length:Int) - 1 - ((i+1:Nat):Int):=by omega
  rw [e1,e2]
  refine WX.round2 (i+1) ((ys.set i (ys.getD (xs.length - 1 - i) vh0)).set (xs.length - 1 - i) (ys.getD i vh0)) ⟨by simp [hyl],by omega,fun t ht=>?_,hO4,zd (zd hg2 hg3) hg4⟩ (by omega) (by repeat (first | exact Sub.nil | refine Sub.cons rfl ?_))
  have hy1:=hy i (by omega)
  have hy2:=hy (xs.length - 1 - i) (by omega)
  rw [if_neg (by omega)] at hy1 hy2
  rcases Classical.em (xs.length - 1 - i=t) with et | et
  ·subst et
   rw [getD_set_eqV _ _ _ (by simp; omega),if_pos (by omega),hy1]
   congr 1; omega
  ·rw [getD_set_neV _ _ _ _ et]
   rcases Classical.em (i=t) with et2 | et2
   ·subst et2
    rw [getD_set_eqV _ _ _ (by omega),if_pos (by omega),hy2]
   ·rw [getD_set_neV _ _ _ _ et2,hy t ht]
    by_cases hc:t<i∨xs.length - i≤t
    ·rw [if_pos hc,if_pos (by omega)]
    ·rw [if_neg hc,if_neg (by omega)]
 ·simp only [decide_eq_false_iff_not] at h
  repeat (first | refine WC.seq ?_ | refine WC.block ?_ | refine WC.region ?_ | refine WL.nil ?_ | refine WX.then_normal ?_ | refine WC.skip ?_ | refine WC.exit ?_ | refine WC.ret ?_ | refine WX.then_exit ?_ | refine WX.then_ret ?_ | refine WX.block_normal ?_ | refine WX.block_ret ?_ | refine WX.block_same ?_ | refine WX.block_other rfl ?_ | refine WC.label ?_ | refine WC.scope ?_ | refine WX.scope_normal ?_ | refine WX.scope_ret ?_ | refine WX.scope_exit ?_ | refine WL.y rfl (Yld.add rfl rfl (by simp only [In]; omega)) ?_ | refine WL.y rfl (Yld.sub rfl rfl (by simp only [In]; omega)) ?_ | refine WL.y rfl (Yld.mul rfl rfl (by simp only [In]; omega)) ?_ | refine WL.y rfl (Yld.convB za rfl rfl rfl rfl) ?_ | refine WL.y rfl (Yld.conv za rfl rfl rfl (by simp only [In]; omega)) ?_ | refine WL.y rfl (Yld.quo rfl rfl (by omega) (by omega) (by simp only [In]; omega)) ?_ | refine WL.y rfl (Yld.rem rfl rfl (by omega) (by omega)) ?_ | refine WL.y rfl (Yld.shl rfl rfl (by omega)) ?_ | refine WL.y rfl (Yld.shr rfl rfl (by omega)) ?_ | refine WL.y rfl (Yld.pure za rfl) ?_ | refine WL.y rfl (Yld.fld zb rfl rfl rfl) ?_ | refine WL.y rfl (Yld.max2 rfl rfl) ?_ | refine WL.y rfl (Yld.min2 rfl rfl) ?_ | refine WL.y rfl (Yld.pickV rfl rfl rfl) ?_ | refine WL.gno rfl rfl rfl rfl ?_ | refine WL.gyes rfl rfl rfl rfl (Yld.add rfl rfl (by simp only [In]; omega)) ?_ | refine WL.gyes rfl rfl rfl rfl (Yld.sub rfl rfl (by simp only [In]; omega)) ?_ | refine WL.gyes rfl rfl rfl rfl (Yld.mul rfl rfl (by simp only [In]; omega)) ?_ | refine WL.gyes rfl rfl rfl rfl (Yld.convB za rfl rfl rfl rfl) ?_ | refine WL.gyes rfl rfl rfl rfl (Yld.conv za rfl rfl rfl (by simp only [In]; omega)) ?_ | refine WL.gyes rfl rfl rfl rfl (Yld.quo rfl rfl (by omega) (by omega) (by simp only [In]; omega)) ?_ | refine WL.gyes rfl rfl rfl rfl (Yld.rem rfl rfl (by omega) (by omega)) ?_ | refine WL.gyes rfl rfl rfl rfl (Yld.shl rfl rfl (by omega)) ?_ | refine WL.gyes rfl rfl rfl rfl (Yld.shr rfl rfl (by omega)) ?_ | refine WL.gyes rfl rfl rfl rfl (Yld.pure za rfl) ?_ | refine WL.gyes rfl rfl rfl rfl (Yld.fld zb rfl rfl rfl) ?_ | refine WL.gyes rfl rfl rfl rfl (Yld.max2 rfl rfl) ?_ | refine WL.gyes rfl rfl rfl rfl (Yld.min2 rfl rfl) ?_ | refine WL.gyes rfl rfl rfl rfl (Yld.pickV rfl rfl rfl) ?_)
  have e:=rev_endV xs ys i hyl (by omega) hy
  subst e
  exact WX.end0 rfl ⟨rfl,hO2,hg2⟩
end Go.Proofs.YtjjcdkfhaceicaaGreatDoor
 
namespace Go.Proofs.YtjjcdkfhaceicaaGreatDoor
open Go Go.RowKit
attribute [local irreducible] WL WC WX WQ WK WJ Yld Eff Ef0 Fn
theorem clone_MV {l:List PV} {K:List PV→Prop} (hl:l.length≤1000000) (h:K l):zu l K:=by
 unfold zu
 intro _
 exact ⟨fun e=>e ▸ h,by simp; omega,by simpa using h⟩
theorem clone_MS {l:List PS} {K:List PS→Prop} (hl:l.length≤1000000) (h:K l):zn l K:=by
 unfold zn
 intro _
 exact ⟨fun e=>e ▸ h,by simp; omega,by simpa using h⟩
theorem W_smithylaw13_small {w:World} {n:Int} {K:PV→Prop} (H:qa n K):Fn Tryz.prog 10 ⟨[.int .i64 n]⟩ w (fun v w'=>w.grownBy w' none∧∃ (v_r:OV),∃ (F_r:Nat→Prop),∃ (r:PV),v=v_r.1∧RelD deV w' [(v_r,F_r)] [r]∧(∀ p:Option Nat,Lt p w.heap.size→DnD deV [(v_r,F_r)] [r] p)∧K r):=by
 obtain ⟨⟨h1,h2⟩,hK⟩:=H
 refine Fn.enter (by kernel_rfl) Tryz.func10 rfl Tryz.ntmps10 rfl ?_
 repeat (first | refine WC.seq ?_ | refine WC.block ?_ | refine WC.region ?_ | refine WL.nil ?_ | refine WX.then_normal ?_ | refine WC.skip ?_ | refine WC.exit ?_ | refine WC.ret ?_ | refine WX.then_exit ?_ | refine WX.then_ret ?_ | refine WX.block_normal ?_ | refine WX.block_ret ?_ | refine WX.block_same ?_ | refine WX.block_other rfl ?_ | refine WC.label ?_ | refine WC.scope ?_ | refine WX.scope_normal ?_ | refine WX.scope_ret ?_ | refine WX.scope_exit ?_ | refine WL.y rfl (Yld.add rfl rfl (by simp only [In]; omega)) ?_ | refine WL.y rfl (Yld.sub rfl rfl (by simp only [In]; omega)) ?_ | refine WL.y rfl (Yld.mul rfl rfl (by simp only [In]; omega)) ?_ | refine WL.y rfl (Yld.convB za rfl rfl rfl rfl) ?_ | refine WL.y rfl (Yld.conv za rfl rfl rfl (by simp only [In]; omega)) ?_ | refine WL.y rfl (Yld.quo rfl rfl (by omega) (by omega) (by simp only [In]; omega)) ?_ | refine WL.y rfl (Yld.rem rfl rfl (by omega) (by omega)) ?_ | refine WL.y rfl (Yld.shl rfl rfl (by omega)) ?_ | refine WL.y rfl (Yld.shr rfl rfl (by omega)) ?_ | refine WL.y rfl (Yld.pure za rfl) ?_ | refine WL.y rfl (Yld.fld zb rfl rfl rfl) ?_ | refine WL.y rfl (Yld.max2 rfl rfl) ?_ | refine WL.y rfl (Yld.min2 rfl rfl) ?_ | refine WL.y rfl (Yld.pickV rfl rfl rfl) ?_ | refine WL.gno rfl rfl rfl rfl ?_ | refine WL.gyes rfl rfl rfl rfl (Yld.add rfl rfl (by simp only [In]; omega)) ?_ | refine WL.gyes rfl rfl rfl rfl (Yld.sub rfl rfl (by simp only [In]; omega)) ?_ | refine WL.gyes rfl rfl rfl rfl (Yld.mul rfl rfl (by simp only [In]; omega)) ?_ | refine WL.gyes rfl rfl rfl rfl (Yld.convB za rfl rfl rfl rfl) ?_ | refine WL.gyes rfl rfl rfl rfl (Yld.conv za rfl rfl rfl (by simp only [In]; omega)) ?_ | refine WL.gyes rfl rfl rfl rfl (Yld.quo rfl rfl (by omega) (by omega) (by simp only [In]; omega)) ?_ | refine WL.gyes rfl rfl rfl rfl (Yld.rem rfl rfl (by omega) (by omega)) ?_ | refine WL.gyes rfl rfl rfl rfl (Yld.shl rfl rfl (by omega)) ?_ | refine WL.gyes rfl rfl rfl rfl (Yld.shr rfl rfl (by omega)) ?_ | refine WL.gyes rfl rfl rfl rfl (Yld.pure za rfl) ?_ | refine WL.gyes rfl rfl rfl rfl (Yld.fld zb rfl rfl rfl) ?_ | refine WL.gyes rfl rfl rfl rfl (Yld.max2 rfl rfl) ?_ | refine WL.gyes rfl rfl rfl rfl (Yld.min2 rfl rfl) ?_ | refine WL.gyes rfl rfl rfl rfl (Yld.pickV rfl rfl rfl) ?_)
 refine WL.call rfl rfl (of_fn' n w h1 h2) ?_
 rintro u w1 ⟨hN,hg,hL⟩
 obtain ⟨a,b,rfl,ha,hb⟩:=hN.agg
 have hint:Fn Tryz.prog 69 ⟨[.agg ⟨[a,b]⟩]⟩ w1 fun v w'=>v=.iface 208 (.agg ⟨[a,b]⟩)∧w1.grownBy w' none:=by
  refine Fn.enter (by kernel_rfl) Tryz.func69 rfl Tryz.ntmps69 rfl ?_
  repeat (first | refine WC.seq ?_ | refine WC.block ?_ | refine WC.region ?_ | refine WL.nil ?_ | refine WX.then_normal ?_ | refine WC.skip ?_ | refine WC.exit ?_ | refine WC.ret ?_ | refine WX.then_exit ?_ | refine WX.then_ret ?_ | refine WX.block_normal ?_ | refine WX.block_ret ?_ | refine WX.block_same ?_ | refine WX.block_other rfl ?_ | refine WC.label ?_ | refine WC.scope ?_ | refine WX.scope_normal ?_ | refine WX.scope_ret ?_ | refine WX.scope_exit ?_ | refine WL.y rfl (Yld.add rfl rfl (by simp only [In]; omega)) ?_ | refine WL.y rfl (Yld.sub rfl rfl (by simp only [In]; omega)) ?_ | refine WL.y rfl (Yld.mul rfl rfl (by simp only [In]; omega)) ?_ | refine WL.y rfl (Yld.convB za rfl rfl rfl rfl) ?_ | refine WL.y rfl (Yld.conv za rfl rfl rfl (by simp only [In]; omega)) ?_ | refine WL.y rfl (Yld.quo rfl rfl (by omega) (by omega) (by simp only [In]; omega)) ?_ | refine WL.y rfl (Yld.rem rfl rfl (by omega) (by omega)) ?_ | refine WL.y rfl (Yld.shl rfl rfl (by omega)) ?_ | refine WL.y rfl (Yld.shr rfl rfl (by omega)) ?_ | refine WL.y rfl (Yld.pure za rfl) ?_ | refine WL.y rfl (Yld.fld zb rfl rfl rfl) ?_ | refine WL.y rfl (Yld.max2 rfl rfl) ?_ | refine WL.y rfl (Yld.min2 rfl rfl) ?_ | refine WL.y rfl (Yld.pickV rfl rfl rfl) ?_ | refine WL.gno rfl rfl rfl rfl ?_ | refine WL.gyes rfl rfl rfl rfl (Yld.add rfl rfl (by simp only [In]; omega)) ?_ | refine WL.gyes rfl rfl rfl rfl (Yld.sub rfl rfl (by simp only [In]; omega)) ?_ | refine WL.gyes rfl rfl rfl rfl (Yld.mul rfl rfl (by simp only [In]; omega)) ?_ | refine WL.gyes rfl rfl rfl rfl (Yld.convB za rfl rfl rfl rfl) ?_ | refine WL.gyes rfl rfl rfl rfl (Yld.conv za rfl rfl rfl (by simp only [In]; omega)) ?_ | refine WL.gyes rfl rfl rfl rfl (Yld.quo rfl rfl (by omega) (by omega) (by simp only [In]; omega)) ?_ | refine WL.gyes rfl rfl rfl rfl (Yld.rem rfl rfl (by omega) (by omega)) ?_ | refine WL.gyes rfl rfl rfl rfl (Yld.shl rfl rfl (by omega)) ?_ | refine WL.gyes rfl rfl rfl rfl (Yld.shr rfl rfl (by omega)) ?_ | refine WL.gyes rfl rfl rfl rfl (Yld.pure za rfl) ?_ | refine WL.gyes rfl rfl rfl rfl (Yld.fld zb rfl rfl rfl) ?_ | refine WL.gyes rfl rfl rfl rfl (Yld.max2 rfl rfl) ?_ | refine WL.gyes rfl rfl rfl rfl (Yld.min2 rfl rfl) ?_ | refine WL.gyes rfl rfl rfl rfl (Yld.pickV rfl rfl rfl) ?_)
  refine WL.box (us:=[a,b]) rfl rfl rfl (fun g w2 hB hg hl=>?_)
  repeat (first | refine WC.seq ?_ | refine WC.block ?_ | refine WC.region ?_ | refine WL.nil ?_ | refine WX.then_normal ?_ | refine WC.skip ?_ | refine WC.exit ?_ | refine WC.ret ?_ | refine WX.then_exit ?_ | refine WX.then_ret ?_ | refine WX.block_normal ?_ | refine WX.block_ret ?_ | refine WX.block_same ?_ | refine WX.block_other rfl ?_ | refine WC.label ?_ | refine WC.scope ?_ | refine WX.scope_normal ?_ | refine WX.scope_ret ?_ | refine WX.scope_exit ?_ | refine WL.y rfl (Yld.add rfl rfl (by simp only [In]; omega)) ?_ | refine WL.y rfl (Yld.sub rfl rfl (by simp only [In]; omega)) ?_ | refine WL.y rfl (Yld.mul rfl rfl (by simp only [In]; omega)) ?_ | refine WL.y rfl (Yld.convB za rfl rfl rfl rfl) ?_ | refine WL.y rfl (Yld.conv za rfl rfl rfl (by simp only [In]; omega)) ?_ | refine WL.y rfl (Yld.quo rfl rfl (by omega) (by omega) (by simp only [In]; omega)) ?_ | refine WL.y rfl (Yld.rem rfl rfl (by omega) (by omega)) ?_ | refine WL.y rfl (Yld.shl rfl rfl (by omega)) ?_ | refine WL.y rfl (Yld.shr rfl rfl (by omega)) ?_ | refine WL.y rfl (Yld.pure za rfl) ?_ | refine WL.y rfl (Yld.fld zb rfl rfl rfl) ?_ | refine WL.y rfl (Yld.max2 rfl rfl) ?_ | refine WL.y rfl (Yld.min2 rfl rfl) ?_ | refine WL.y rfl (Yld.pickV rfl rfl rfl) ?_ | refine WL.gno rfl rfl rfl rfl ?_ | refine WL.gyes rfl rfl rfl rfl (Yld.add rfl rfl (by simp only [In]; omega)) ?_ | refine WL.gyes rfl rfl rfl rfl (Yld.sub rfl rfl (by simp only [In]; omega)) ?_ | refine WL.gyes rfl rfl rfl rfl (Yld.mul rfl rfl (by simp only [In]; omega)) ?_ | refine WL.gyes rfl rfl rfl rfl (Yld.convB za rfl rfl rfl rfl) ?_ | refine WL.gyes rfl rfl rfl rfl (Yld.conv za rfl rfl rfl (by simp only [In]; omega)) ?_ | refine WL.gyes rfl rfl rfl rfl (Yld.quo rfl rfl (by omega) (by omega) (by simp only [In]; omega)) ?_ | refine WL.gyes rfl rfl rfl rfl (Yld.rem rfl rfl (by omega) (by omega)) ?_ | refine WL.gyes rfl rfl rfl rfl (Yld.shl rfl rfl (by omega)) ?_ | refine WL.gyes rfl rfl rfl rfl (Yld.shr rfl rfl (by omega)) ?_ | refine WL.gyes rfl rfl rfl rfl (Yld.pure za rfl) ?_ | refine WL.gyes rfl rfl rfl rfl (Yld.fld zb rfl rfl rfl) ?_ | refine WL.gyes rfl rfl rfl rfl (Yld.max2 rfl rfl) ?_ | refine WL.gyes rfl rfl rfl rfl (Yld.min2 rfl rfl) ?_ | refine WL.gyes rfl rfl rfl rfl (Yld.pickV rfl rfl rfl) ?_)
  refine WL.y rfl (Yld.bagg (vs:=[a,b]) za hB rfl rfl rfl rfl) ?_
  refine WL.y rfl (Yld.struct (us:=[a,b]) (vs:=[(1,.agg ⟨[a,b]⟩)]) zero208 places208 rfl rfl) ?_
  refine WL.y rfl (Yld.mki Tryz.underlying208 rfl rfl) ?_
  repeat (first | refine WC.seq ?_ | refine WC.block ?_ | refine WC.region ?_ | refine WL.nil ?_ | refine WX.then_normal ?_ | refine WC.skip ?_ | refine WC.exit ?_ | refine WC.ret ?_ | refine WX.then_exit ?_ | refine WX.then_ret ?_ | refine WX.block_normal ?_ | refine WX.block_ret ?_ | refine WX.block_same ?_ | refine WX.block_other rfl ?_ | refine WC.label ?_ | refine WC.scope ?_ | refine WX.scope_normal ?_ | refine WX.scope_ret ?_ | refine WX.scope_exit ?_ | refine WL.y rfl (Yld.add rfl rfl (by simp only [In]; omega)) ?_ | refine WL.y rfl (Yld.sub rfl rfl (by simp only [In]; omega)) ?_ | refine WL.y rfl (Yld.mul rfl rfl (by simp only [In]; omega)) ?_ | refine WL.y rfl (Yld.convB za rfl rfl rfl rfl) ?_ | refine WL.y rfl (Yld.conv za rfl rfl rfl (by simp only [In]; omega)) ?_ | refine WL.y rfl (Yld.quo rfl rfl (by omega) (by omega) (by simp only [In]; omega)) ?_ | refine WL.y rfl (Yld.rem rfl rfl (by omega) (by omega)) ?_ | refine WL.y rfl (Yld.shl rfl rfl (by omega)) ?_ | refine WL.y rfl (Yld.shr rfl rfl (by omega)) ?_ | refine WL.y rfl (Yld.pure za rfl) ?_ | refine WL.y rfl (Yld.fld zb rfl rfl rfl) ?_ | refine WL.y rfl (Yld.max2 rfl rfl) ?_ | refine WL.y rfl (Yld.min2 rfl rfl) ?_ | refine WL.y rfl (Yld.pickV rfl rfl rfl) ?_ | refine WL.gno rfl rfl rfl rfl ?_ | refine WL.gyes rfl rfl rfl rfl (Yld.add rfl rfl (by simp only [In]; omega)) ?_ | refine WL.gyes rfl rfl rfl rfl (Yld.sub rfl rfl (by simp only [In]; omega)) ?_ | refine WL.gyes rfl rfl rfl rfl (Yld.mul rfl rfl (by simp only [In]; omega)) ?_ | refine WL.gyes rfl rfl rfl rfl (Yld.convB za rfl rfl rfl rfl) ?_ | refine WL.gyes rfl rfl rfl rfl (Yld.conv za rfl rfl rfl (by simp only [In]; omega)) ?_ | refine WL.gyes rfl rfl rfl rfl (Yld.quo rfl rfl (by omega) (by omega) (by simp only [In]; omega)) ?_ | refine WL.gyes rfl rfl rfl rfl (Yld.rem rfl rfl (by omega) (by omega)) ?_ | refine WL.gyes rfl rfl rfl rfl (Yld.shl rfl rfl (by omega)) ?_ | refine WL.gyes rfl rfl rfl rfl (Yld.shr rfl rfl (by omega)) ?_ | refine WL.gyes rfl rfl rfl rfl (Yld.pure za rfl) ?_ | refine WL.gyes rfl rfl rfl rfl (Yld.fld zb rfl rfl rfl) ?_ | refine WL.gyes rfl rfl rfl rfl (Yld.max2 rfl rfl) ?_ | refine WL.gyes rfl rfl rfl rfl (Yld.min2 rfl rfl) ?_ | refine WL.gyes rfl rfl rfl rfl (Yld.pickV rfl rfl rfl) ?_)
  exact WX.ret1 rfl rfl ⟨rfl,hg⟩
 refine WL.call rfl rfl hint ?_
 rintro v w2 ⟨rfl,hg2⟩
 repeat (first | refine WC.seq ?_ | refine WC.block ?_ | refine WC.region ?_ | refine WL.nil ?_ | refine WX.then_normal ?_ | refine WC.skip ?_ | refine WC.exit ?_ | refine WC.ret ?_ | refine WX.then_exit ?_ | refine WX.then_ret ?_ | refine WX.block_normal ?_ | refine WX.block_ret ?_ | refine WX.block_same ?_ | refine WX.block_other rfl ?_ | refine WC.label ?_ | refine WC.scope ?_ | refine WX.scope_normal ?_ | refine WX.scope_ret ?_ | refine WX.scope_exit ?_ | refine WL.y rfl (Yld.add rfl rfl (by simp only [In]; omega)) ?_ | refine WL.y rfl (Yld.sub rfl rfl (by simp only [In]; omega)) ?_ | refine WL.y rfl (Yld.mul rfl rfl (by simp only [In]; omega)) ?_ | refine WL.y rfl (Yld.convB za rfl rfl rfl rfl) ?_ | refine WL.y rfl (Yld.conv za rfl rfl rfl (by simp only [In]; omega)) ?_ | refine WL.y rfl (Yld.quo rfl rfl (by omega) (by omega) (by simp only [In]; omega)) ?_ | refine WL.y rfl (Yld.rem rfl rfl (by omega) (by omega)) ?_ | refine WL.y rfl (Yld.shl rfl rfl (by omega)) ?_ | refine WL.y rfl (Yld.shr rfl rfl (by omega)) ?_ | refine WL.y rfl (Yld.pure za rfl) ?_ | refine WL.y rfl (Yld.fld zb rfl rfl rfl) ?_ | refine WL.y rfl (Yld.max2 rfl rfl) ?_ | refine WL.y rfl (Yld.min2 rfl rfl) ?_ | refine WL.y rfl (Yld.pickV rfl rfl rfl) ?_ | refine WL.gno rfl rfl rfl rfl ?_ | refine WL.gyes rfl rfl rfl rfl (Yld.add rfl rfl (by simp only [In]; omega)) ?_ | refine WL.gyes rfl rfl rfl rfl (Yld.sub rfl rfl (by simp only [In]; omega)) ?_ | refine WL.gyes rfl rfl rfl rfl (Yld.mul rfl rfl (by simp only [In]; omega)) ?_ | refine WL.gyes rfl rfl rfl rfl (Yld.convB za rfl rfl rfl rfl) ?_ | refine WL.gyes rfl rfl rfl rfl (Yld.conv za rfl rfl rfl (by simp only [In]; omega)) ?_ | refine WL.gyes rfl rfl rfl rfl (Yld.quo rfl rfl (by omega) (by omega) (by simp only [In]; omega)) ?_ | refine WL.gyes rfl rfl rfl rfl (Yld.rem rfl rfl (by omega) (by omega)) ?_ | refine WL.gyes rfl rfl rfl rfl (Yld.shl rfl rfl (by omega)) ?_ | refine WL.gyes rfl rfl rfl rfl (Yld.shr rfl rfl (by omega)) ?_ | refine WL.gyes rfl rfl rfl rfl (Yld.pure za rfl) ?_ | refine WL.gyes rfl rfl rfl rfl (Yld.fld zb rfl rfl rfl) ?_ | refine WL.gyes rfl rfl rfl rfl (Yld.max2 rfl rfl) ?_ | refine WL.gyes rfl rfl rfl rfl (Yld.min2 rfl rfl) ?_ | refine WL.gyes rfl rfl rfl rfl (Yld.pickV rfl rfl rfl) ?_)
 have hN2:=hN.grown hg2
 refine WX.ret1 rfl rfl ⟨zd hg hg2,⟨.iface 208 (.agg ⟨[a,b]⟩),rfl⟩,fun q=>w.heap.size≤q∧q<w2.heap.size,.int n,rfl,RelD.cons ⟨⟨a,b,rfl,hN2,?_⟩,fun q hq=>hq.2⟩ RelD.nil,fun p hp=>DnD.cons (fun q e hq=>?_) DnD.nil,hK⟩
 ·intro neg A m c e q hq
  have:=hL neg A m c e q hq
  have:=hg2.size
  omega
 ·have:=hp q e
  omega
theorem W_val_Tuple {w:World} {l:List PV} {A_l:Option Addr} {c_l:Nat} {hs_l:List VH} {n_l:Nat} {K:PV→Prop} (hl:Rd vv w A_l c_l hs_l) (hn_l:n_l=l.length) (hr_l:RelD deV w hs_l l) (H:M_val_Tuple l K):Fn Tryz.prog 19 ⟨[.slice A_l n_l c_l]⟩ w
  (fun v w'=>w.grownBy w' none∧∃ (v_r:OV),∃ (F_r:Nat→Prop),∃ (r:PV),v=v_r.1∧RelD deV w' [(v_r,F_r)] [r]∧(∀ p:Option Nat,Lt p w.heap.size→DnD deV hs_l l p→DnD deV [(v_r,F_r)] [r] p)∧K r):=by
 obtain ⟨hlen,zs,rfl,hK⟩:=H
 refine Fn.enter (by kernel_rfl) Tryz.func19 rfl Tryz.ntmps19 rfl ?_
 repeat (first | refine WC.seq ?_ | refine WC.block ?_ | refine WC.region ?_ | refine WL.nil ?_ | refine WX.then_normal ?_ | refine WC.skip ?_ | refine WC.exit ?_ | refine WC.ret ?_ | refine WX.then_exit ?_ | refine WX.then_ret ?_ | refine WX.block_normal ?_ | refine WX.block_ret ?_ | refine WX.block_same ?_ | refine WX.block_other rfl ?_ | refine WC.label ?_ | refine WC.scope ?_ | refine WX.scope_normal ?_ | refine WX.scope_ret ?_ | refine WX.scope_exit ?_ | refine WL.y rfl (Yld.add rfl rfl (by simp only [In]; omega)) ?_ | refine WL.y rfl (Yld.sub rfl rfl (by simp only [In]; omega)) ?_ | refine WL.y rfl (Yld.mul rfl rfl (by simp only [In]; omega)) ?_ | refine WL.y rfl (Yld.convB za rfl rfl rfl rfl) ?_ | refine WL.y rfl (Yld.conv za rfl rfl rfl (by simp only [In]; omega)) ?_ | refine WL.y rfl (Yld.quo rfl rfl (by omega) (by omega) (by simp only [In]; omega)) ?_ | refine WL.y rfl (Yld.rem rfl rfl (by omega) (by omega)) ?_ | refine WL.y rfl (Yld.shl rfl rfl (by omega)) ?_ | refine WL.y rfl (Yld.shr rfl rfl (by omega)) ?_ | refine WL.y rfl (Yld.pure za rfl) ?_ | refine WL.y rfl (Yld.fld zb rfl rfl rfl) ?_ | refine WL.y rfl (Yld.max2 rfl rfl) ?_ | refine WL.y rfl (Yld.min2 rfl rfl) ?_ | refine WL.y rfl (Yld.pickV rfl rfl rfl) ?_ | refine WL.gno rfl rfl rfl rfl ?_ | refine WL.gyes rfl rfl rfl rfl (Yld.add rfl rfl (by simp only [In]; omega)) ?_ | refine WL.gyes rfl rfl rfl rfl (Yld.sub rfl rfl (by simp only [In]; omega)) ?_ | refine WL.gyes rfl rfl rfl rfl (Yld.mul rfl rfl (by simp only [In]; omega)) ?_ | refine WL.gyes rfl rfl rfl rfl (Yld.convB za rfl rfl rfl rfl) ?_ | refine WL.gyes rfl rfl rfl rfl (Yld.conv za rfl rfl rfl (by simp only [In]; omega)) ?_ | refine WL.gyes rfl rfl rfl rfl (Yld.quo rfl rfl (by omega) (by omega) (by simp only [In]; omega)) ?_ | refine WL.gyes rfl rfl rfl rfl (Yld.rem rfl rfl (by omega) (by omega)) ?_ | refine WL.gyes rfl rfl rfl rfl (Yld.shl rfl rfl (by omega)) ?_ | refine WL.gyes rfl rfl rfl rfl (Yld.shr rfl rfl (by omega)) ?_ | refine WL.gyes rfl rfl rfl rfl (Yld.pure za rfl) ?_ | refine WL.gyes rfl rfl rfl rfl (Yld.fld zb rfl rfl rfl) ?_ | refine WL.gyes rfl rfl rfl rfl (Yld.max2 rfl rfl) ?_ | refine WL.gyes rfl rfl rfl rfl (Yld.min2 rfl rfl) ?_ | refine WL.gyes rfl rfl rfl rfl (Yld.pickV rfl rfl rfl) ?_)
 refine WL.call rfl rfl (qF (K:=fun r=>r=zs.map .int) hl hn_l hr_l (clone_MV hlen rfl)) ?_
 rintro _ w1 ⟨hg1,r,A,c,hs,rfl,hO,hr,ho,hc,hrn⟩
 subst hrn
 refine WL.y rfl (Yld.struct (us:=[.slice A (zs.map PV.int).length c]) (vs:=[(1,.slice A (zs.map PV.int).length c)]) zero158 places158 rfl rfl) ?_
 refine WL.box (us:=[.slice A (zs.map PV.int).length c]) rfl rfl rfl (fun g w2 hB hg2 hl2=>?_)
 repeat (first | refine WC.seq ?_ | refine WC.block ?_ | refine WC.region ?_ | refine WL.nil ?_ | refine WX.then_normal ?_ | refine WC.skip ?_ | refine WC.exit ?_ | refine WC.ret ?_ | refine WX.then_exit ?_ | refine WX.then_ret ?_ | refine WX.block_normal ?_ | refine WX.block_ret ?_ | refine WX.block_same ?_ | refine WX.block_other rfl ?_ | refine WC.label ?_ | refine WC.scope ?_ | refine WX.scope_normal ?_ | refine WX.scope_ret ?_ | refine WX.scope_exit ?_ | refine WL.y rfl (Yld.add rfl rfl (by simp only [In]; omega)) ?_ | refine WL.y rfl (Yld.sub rfl rfl (by simp only [In]; omega)) ?_ | refine WL.y rfl (Yld.mul rfl rfl (by simp only [In]; omega)) ?_ | refine WL.y rfl (Yld.convB za rfl rfl rfl rfl) ?_ | refine WL.y rfl (Yld.conv za rfl rfl rfl (by simp only [In]; omega)) ?_ | refine WL.y rfl (Yld.quo rfl rfl (by omega) (by omega) (by simp only [In]; omega)) ?_ | refine WL.y rfl (Yld.rem rfl rfl (by omega) (by omega)) ?_ | refine WL.y rfl (Yld.shl rfl rfl (by omega)) ?_ | refine WL.y rfl (Yld.shr rfl rfl (by omega)) ?_ | refine WL.y rfl (Yld.pure za rfl) ?_ | refine WL.y rfl (Yld.fld zb rfl rfl rfl) ?_ | refine WL.y rfl (Yld.max2 rfl rfl) ?_ | refine WL.y rfl (Yld.min2 rfl rfl) ?_ | refine WL.y rfl (Yld.pickV rfl rfl rfl) ?_ | refine WL.gno rfl rfl rfl rfl ?_ | refine WL.gyes rfl rfl rfl rfl (Yld.add rfl rfl (by simp only [In]; omega)) ?_ | refine WL.gyes rfl rfl rfl rfl (Yld.sub rfl rfl (by simp only [In]; omega)) ?_ | refine WL.gyes rfl rfl rfl rfl (Yld.mul rfl rfl (by simp only [In]; omega)) ?_ | refine WL.gyes rfl rfl rfl rfl (Yld.convB za rfl rfl rfl rfl) ?_ | refine WL.gyes rfl rfl rfl rfl (Yld.conv za rfl rfl rfl (by simp only [In]; omega)) ?_ | refine WL.gyes rfl rfl rfl rfl (Yld.quo rfl rfl (by omega) (by omega) (by simp only [In]; omega)) ?_ | refine WL.gyes rfl rfl rfl rfl (Yld.rem rfl rfl (by omega) (by omega)) ?_ | refine WL.gyes rfl rfl rfl rfl (Yld.shl rfl rfl (by omega)) ?_ | refine WL.gyes rfl rfl rfl rfl (Yld.shr rfl rfl (by omega)) ?_ | refine WL.gyes rfl rfl rfl rfl (Yld.pure za rfl) ?_ | refine WL.gyes rfl rfl rfl rfl (Yld.fld zb rfl rfl rfl) ?_ | refine WL.gyes rfl rfl rfl rfl (Yld.max2 rfl rfl) ?_ | refine WL.gyes rfl rfl rfl rfl (Yld.min2 rfl rfl) ?_ | refine WL.gyes rfl rfl rfl rfl (Yld.pickV rfl rfl rfl) ?_)
 refine WL.y rfl (Yld.mki Tryz.underlying155 rfl rfl) ?_
 repeat (first | refine WC.seq ?_ | refine WC.block ?_ | refine WC.region ?_ | refine WL.nil ?_ | refine WX.then_normal ?_ | refine WC.skip ?_ | refine WC.exit ?_ | refine WC.ret ?_ | refine WX.then_exit ?_ | refine WX.then_ret ?_ | refine WX.block_normal ?_ | refine WX.block_ret ?_ | refine WX.block_same ?_ | refine WX.block_other rfl ?_ | refine WC.label ?_ | refine WC.scope ?_ | refine WX.scope_normal ?_ | refine WX.scope_ret ?_ | refine WX.scope_exit ?_ | refine WL.y rfl (Yld.add rfl rfl (by simp only [In]; omega)) ?_ | refine WL.y rfl (Yld.sub rfl rfl (by simp only [In]; omega)) ?_ | refine WL.y rfl (Yld.mul rfl rfl (by simp only [In]; omega)) ?_ | refine WL.y rfl (Yld.convB za rfl rfl rfl rfl) ?_ | refine WL.y rfl (Yld.conv za rfl rfl rfl (by simp only [In]; omega)) ?_ | refine WL.y rfl (Yld.quo rfl rfl (by omega) (by omega) (by simp only [In]; omega)) ?_ | refine WL.y rfl (Yld.rem rfl rfl (by omega) (by omega)) ?_ | refine WL.y rfl (Yld.shl rfl rfl (by omega)) ?_ | refine WL.y rfl (Yld.shr rfl rfl (by omega)) ?_ | refine WL.y rfl (Yld.pure za rfl) ?_ | refine WL.y rfl (Yld.fld zb rfl rfl rfl) ?_ | refine WL.y rfl (Yld.max2 rfl rfl) ?_ | refine WL.y rfl (Yld.min2 rfl rfl) ?_ | refine WL.y rfl (Yld.pickV rfl rfl rfl) ?_ | refine WL.gno rfl rfl rfl rfl ?_ | refine WL.gyes rfl rfl rfl rfl (Yld.add rfl rfl (by simp only [In]; omega)) ?_ | refine WL.gyes rfl rfl rfl rfl (Yld.sub rfl rfl (by simp only [In]; omega)) ?_ | refine WL.gyes rfl rfl rfl rfl (Yld.mul rfl rfl (by simp only [In]; omega)) ?_ | refine WL.gyes rfl rfl rfl rfl (Yld.convB za rfl rfl rfl rfl) ?_ | refine WL.gyes rfl rfl rfl rfl (Yld.conv za rfl rfl rfl (by simp only [In]; omega)) ?_ | refine WL.gyes rfl rfl rfl rfl (Yld.quo rfl rfl (by omega) (by omega) (by simp only [In]; omega)) ?_ | refine WL.gyes rfl rfl rfl rfl (Yld.rem rfl rfl (by omega) (by omega)) ?_ | refine WL.gyes rfl rfl rfl rfl (Yld.shl rfl rfl (by omega)) ?_ | refine WL.gyes rfl rfl rfl rfl (Yld.shr rfl rfl (by omega)) ?_ | refine WL.gyes rfl rfl rfl rfl (Yld.pure za rfl) ?_ | refine WL.gyes rfl rfl rfl rfl (Yld.fld zb rfl rfl rfl) ?_ | refine WL.gyes rfl rfl rfl rfl (Yld.max2 rfl rfl) ?_ | refine WL.gyes rfl rfl rfl rfl (Yld.min2 rfl rfl) ?_ | refine WL.gyes rfl rfl rfl rfl (Yld.pickV rfl rfl rfl) ?_)
 have h0:=hg1.size
 have hO2:=hO.grown hg2
 have hr2:=hr.grown hg2
 have at1:∀ h∈hs,∃ i x,hs[i]?=some h∧(zs.map PV.int)[i]?=some x:=fun h hh=>by
  obtain ⟨i,hi,rfl⟩:=List.getElem_of_mem hh
  exact ⟨i,_,List.getElem?_eq_getElem hi,List.getElem?_eq_getElem (by rw [←hr.1]; exact hi)⟩
 refine WX.ret1 rfl rfl ⟨zd hg1 hg2,⟨.iface 155 (.pointer (some ⟨g,0,none⟩)),rfl⟩,fun q=>q=g∨blk A=some q∨∃ h,h∈hs∧h.2 q,.tup zs,rfl,RelD.cons ⟨⟨g,A,c,hs,rfl,by rw [List.length_map] at hB; exact hB,hO2.rd,by rw [hr.1,List.length_map],fun q hq=>.inr (.inl hq),.inl rfl,fun i h z hh hz=>?_⟩,fun q hq=>?_⟩ RelD.nil,fun p hp hd=>DnD.cons (fun q e hq=>?_) DnD.nil,hK⟩
 ·have:=hr2.2 i h (.int z) hh (by rw [List.getElem?_map,hz]; rfl)
  exact AI.mono this.1 fun q hq=>.inr (.inr ⟨h,List.mem_of_getElem? hh,hq⟩)
 ·rcases hq with rfl | hq | ⟨h,hh,hq⟩
  ·exact hB.lt
  ·exact (hO2.lt hq).2
  ·obtain ⟨i,x,a,b⟩:=at1 h hh; exact (hr2.2 i h x a b).2 q hq
 ·have hpq:=hp q e
  rcases hq with rfl | hq | ⟨h,hh,hq⟩
  ·omega
  ·have:=(hO.lt hq).1; omega
  ·obtain ⟨i,x,a,b⟩:=at1 h hh
   exact ho p hp hd i h x a b q e hq
end Go.Proofs.YtjjcdkfhaceicaaGreatDoor
 
namespace Go.Proofs.YtjjcdkfhaceicaaGreatDoor
open Go Go.RowKit
def stepT (t:TS) (v:PV):TS:=if keyP v∈t.keys then t else { t with keys:=t.keys++[keyP v],out:=t.out++[v] }
theorem zO (v:PV) (l:List PV) (t:TS):ownT (v :: l) t=ownT l (stepT t v):=by
 rw [ownT]; rfl
theorem ownT_push:∀ (l:List PV) (v:PV) (t:TS),ownT (l++[v]) t=stepT (ownT l t) v
 | [],v,t=>by rw [List.nil_append,zO]; rfl
 | u :: l,v,t=>by rw [List.cons_append,zO,zO,ownT_push l v]
structure TLe (a b:TS):Prop where
 s:a.sets.length≤b.sets.length
 k:a.keys.length≤b.keys.length
 o:a.out.length≤b.out.length
theorem TLe.refl (a:TS):TLe a a:=⟨Nat.le_refl _,Nat.le_refl _,Nat.le_refl _⟩
theorem TLe.trans {a b c:TS} (h:TLe a b) (k:TLe b c):TLe a c:=⟨Nat.le_trans h.s k.s,Nat.le_trans h.k k.k,Nat.le_trans h.o k.o⟩
theorem stepT_le (t:TS) (v:PV):TLe t (stepT t v):=by
 unfold stepT
 split
 ·exact .refl _
 ·exact ⟨Nat.le_refl _,by simp,by simp⟩
theorem ownT_le:∀ (l:List PV) (t:TS),TLe t (ownT l t)
 | [],t=>.refl t
 | v :: l,t=>by rw [zO]; exact (stepT_le t v).trans (ownT_le l _)
theorem foldT_le {α:Type} {f:TS→α→TS} (h:∀ t x,TLe t (f t x)):∀ (l:List α) (t:TS),TLe t (l.foldl f t)
 | [],t=>.refl _
 | x :: l,t=>(h t x).trans (foldT_le h l _)
def preT (o:Int) (s:PS) (t:TS):TS:=if o=1 then ownT s.own { t with sets:=t.sets++[s.id] } else { t with sets:=t.sets++[s.id] }
def midT (n:Nat) (o:Int) (s:PS) (t:TS):TS:=(if o=3 then s.fr.reverse else s.fr).foldl (fun t f=>zH n o f t) t
def postT (o:Int) (s:PS) (t:TS):TS:=if o=1 then t else ownT (if o=3 then s.own.reverse else s.own) t
theorem tellN_succ (n:Nat) (o:Int) (s:PS) (t:TS):zH (n+1) o s t=if s.id∈t.sets then t else postT o s (midT n o s (preT o s t)):=rfl
theorem preT_le (o:Int) (s:PS) (t:TS):TLe t (preT o s t):=by
 have h1:TLe t { t with sets:=t.sets++[s.id] }:=⟨by simp,Nat.le_refl _,Nat.le_refl _⟩
 unfold preT
 split
 ·exact h1.trans (ownT_le _ _)
 ·exact h1
theorem postT_le (o:Int) (s:PS) (t:TS):TLe t (postT o s t):=by
 unfold postT
 split
 ·exact .refl _
 ·exact ownT_le _ _
theorem tellN_le:∀ (n:Nat) (o:Int) (s:PS) (t:TS),TLe t (zH n o s t)
 | 0,_,_,t=>.refl t
 | n+1,o,s,t=>by
  rw [tellN_succ]
  split
  ·exact .refl _
  ·exact ((preT_le o s t).trans (foldT_le (f:=fun t f=>zH n o f t) (fun t f=>tellN_le n o f t) _ _)).trans (postT_le o s _)
theorem mget_true {κ:Type} [DecidableEq κ] (l:List κ) (q:κ):(mget (l.map fun x=>(x,true)) q).getD false=decide (q∈l):=by
 induction l with
 | nil=>simp [mget]
 | cons x l ih =>
  simp only [List.map_cons,mget]
  split
  ·rename_i h; simp [h]
  ·rename_i h
   rw [ih]
   congr 1
   simp [Ne.symm h]
theorem mput_true {κ:Type} [DecidableEq κ] {l:List κ} {q:κ} (h:q∉l):mput (l.map fun x=>(x,true)) q true=(l++[q]).map fun x=>(x,true):=by
 rw [mput_new,List.map_append]
 ·rfl
 ·rw [mget_none]
  intro p hp e
  obtain ⟨y,hy,rfl⟩:=List.mem_map.1 hp
  exact h (e ▸ hy)
theorem keyP_len {w:World} {v:OV} {F:Nat→Prop} {z:Int} (h:AI w F v.1 z):(keyP (.int z)).length≤maxLen:=by
 obtain ⟨a,b,_,hN,_⟩:=h
 obtain ⟨neg,A,c,l,_,_,hD,_,hl,_,hz⟩:=hN
 have h1:=val_lt' hD
 have h2:(1000000000:Nat) ^ l.length≤1000000000 ^ 3:=Nat.pow_le_pow_right (by omega) hl
 have h3:z.natAbs<10 ^ 27:=by
  have:z.natAbs=val l:=by
   rw [hz]
   cases neg <;> simp
  rw [this]
  omega
 have h4:=dd_len 27 z.natAbs h3
 have h5:(txt z).length≤30:=by
  unfold txt
  split
  ·simp
  ·split <;> simp <;> omega
 simp [keyP,maxLen]
 omega
attribute [local irreducible] WL WC WX WQ WK WJ Yld Eff Ef0 Fn
theorem SR.out2 {w:World} {v:OV} {F:Nat→Prop} {s:PS} (h:RelD deS w [(v,F)] [s]) (hs:s≠.nil):∃ Ao co Ak ck Af cf,∃ ho hf:List VH,
  Bl w s.id 126 [.int .i64 s.order,.slice Ao s.own.length co,.slice Ak (s.own.map keyP).length ck,.slice Af s.fr.length cf,.int .i64 s.deep,.bool s.empty] ∧
  Rd vv w Ao co ho∧RelD deV w ho s.own∧(∀ h∈ho,h.2=F)∧(∀ (i:Nat) (x:PV),s.own[i]?=some x→∃ z h,x=.int z∧ho[i]?=some h∧AI w F h.1.1 z)∧Rd vs w Ak ck (s.own.map keyP)∧Rd vv w Af cf hf∧hf.length=s.fr.length ∧
  (∀ (i:Nat) (x:PS),s.fr[i]?=some x→x≠.nil∧vv (hf.getD i vh0)=.pointer (some ⟨x.id,0,none⟩)):=by
 cases s with
 | nil=>exact absurd rfl hs
 | mk id order own fr deep empty =>
  obtain ⟨⟨n,h⟩,hF⟩:=h.one
  cases n with
  | zero=>exact h.elim
  | succ n =>
   obtain ⟨h1,h2,Ao,co,Ak,ck,Af,cf,ho,hf,hB,o1,o2,o3,o4,k1,k2,f1,f2,f3,f4⟩:=h
   refine ⟨Ao,co,Ak,ck,Af,cf,ho.map fun h=>((h.1,F):VH),hf,by simpa [PS.own,PS.fr,PS.id,PS.order,PS.deep,PS.empty] using hB,o1.frm F,RelD.frm (d:=deV) o2 (fun i h x hh hx=>?_),fun h hh=>?_,fun i x hx=>?_,k1,f1,f2,fun i x hx=>?_⟩
   ·obtain ⟨z,rfl,hz⟩:=o4 i h x hh hx
    exact ⟨hz,hF⟩
   ·obtain ⟨y,_,rfl⟩:=List.mem_map.1 hh
    rfl
   ·have hi:i<ho.length:=by rw [o2]; exact (List.getElem?_eq_some_iff.1 hx).1
    obtain ⟨z,e,hz⟩:=o4 i _ x (List.getElem?_eq_getElem hi) hx
    exact ⟨z,(ho[i].1,F),e,by rw [List.getElem?_map,List.getElem?_eq_getElem hi]; rfl,hz⟩
   ·have hi:i<hf.length:=by rw [f2]; exact (List.getElem?_eq_some_iff.1 hx).1
    have:=f4 i _ x (List.getElem?_eq_getElem hi) hx
    refine ⟨this.1,?_⟩
    have e:=this.2.ptr
    cases x with
    | nil=>exact absurd rfl this.1
    | mk=>simp only [List.getD,List.getElem?_eq_getElem hi,vv]; exact e
structure TI (w:World) (F:Nat→Prop) (s0:PS) (gt gs gk:Nat) (w2:World) (t:TS) (A:Option Addr) (c:Nat) (hs:List VH):Prop where
 gr:w.grownBy w2 none
 box:Bl w2 gt 147 [.map (some gs),.map (some gk),.slice A t.out.length c]
 own:Own vv w2 w.heap.size 32 A c hs
 rel:RelD deV w hs t.out
 hd:∀ h∈hs,h.2=F
 ms:MapB vp (okR s0) vB w2 gs (t.sets.map fun x=>(x,true))
 mkk:MapB vs okS vB w2 gk (t.keys.map fun x=>(x,true))
 g1:w.heap.size≤gt
 g2:w.heap.size≤gs
 g3:w.heap.size≤gk
 d1:gt≠gs
 d2:gt≠gk
 d3:gs≠gk
 d4:blk A≠some gt
 d5:blk A≠some gs
 d6:blk A≠some gk
 len:t.keys.length=t.out.length
theorem dj_of {a b:Nat} (h:a≠b):Dj (some a) (some b):=fun _ e e2=>h (by injection e with e; injection e2 with e2; omega)
theorem dj_l {A:Option Addr} {b:Nat} (h:blk A≠some b):Dj (blk A) (some b):=fun g e e2=>h (by rw [e,e2])
set_option maxHeartbeats 4000000 in
theorem own_fn {w w2:World} {v0:OV} {F:Nat→Prop} {s0 s:PS} {gt gs gk:Nat} {t:TS} {A:Option Addr} {c:Nat} {hs:List VH} (h0:RelD deS w [(v0,F)] [s0]) (hr:zV s0 s) (hn:s≠.nil) (back:Bool) (I:TI w F s0 gt gs gk w2 t A c hs)
  (hb:(ownT (if back then s.own.reverse else s.own) t).out.length≤1024) :
  Fn Tryz.prog 135 ⟨[.pointer (some ⟨gt,0,none⟩),.pointer (some ⟨s.id,0,none⟩),.bool back]⟩ w2 (fun v w3=>v=.tuple #[]∧∃ A' c' hs',TI w F s0 gt gs gk w3 (ownT (if back then s.own.reverse else s.own) t) A' c' hs'):=by
 obtain ⟨Ao,co,Ak,ck,Af,cf,ho,hf,hBx,hRo,hro,hoF,hoA,hRk,_⟩:=SR.out2 (relS h0 hr hn) hn
 generalize hl:(if back then s.own.reverse else s.own)=l at hb ⊢
 have hll:l.length=s.own.length:=by rw [←hl]; cases back <;> simp
 have hget:∀ i,i<s.own.length→l[i]?=s.own[(if back then s.own.length - 1 - i else i)]?:=fun i hi=>by
  rw [←hl]
  cases back
  ·rfl
  ·simp only [if_true]
   rw [List.getElem?_reverse (by omega)]
 have hol:(s.own.length:Int)≤9223372036854775807:=by
  have h1:=hRo.cap
  have h2:=hRo.max
  rw [hro.1] at h1
  simp only [maxLen] at h2
  omega
 refine Fn.enter (by kernel_rfl) Tryz.func135 rfl Tryz.ntmps135 rfl ?_
 refine WC.seq ?_
 refine WC.region ?_
 refine WL.y rfl (Yld.pure za rfl) ?_
 refine WL.y rfl (Yld.pure za rfl) ?_
 refine WL.y rfl (Yld.fa0 (o:=1) (by kernel_rfl) rfl) ?_
 refine WL.y rfl (Yld.bload za (hBx.g0 I.gr) rfl rfl rfl) ?_
 repeat (first | refine WC.seq ?_ | refine WC.block ?_ | refine WC.region ?_ | refine WL.nil ?_ | refine WX.then_normal ?_ | refine WC.skip ?_ | refine WC.exit ?_ | refine WC.ret ?_ | refine WX.then_exit ?_ | refine WX.then_ret ?_ | refine WX.block_normal ?_ | refine WX.block_ret ?_ | refine WX.block_same ?_ | refine WX.block_other rfl ?_ | refine WC.label ?_ | refine WC.scope ?_ | refine WX.scope_normal ?_ | refine WX.scope_ret ?_ | refine WX.scope_exit ?_ | refine WL.y rfl (Yld.add rfl rfl (by simp only [In]; omega)) ?_ | refine WL.y rfl (Yld.sub rfl rfl (by simp only [In]; omega)) ?_ | refine WL.y rfl (Yld.mul rfl rfl (by simp only [In]; omega)) ?_ | refine WL.y rfl (Yld.convB za rfl rfl rfl rfl) ?_ | refine WL.y rfl (Yld.conv za rfl rfl rfl (by simp only [In]; omega)) ?_ | refine WL.y rfl (Yld.quo rfl rfl (by omega) (by omega) (by simp only [In]; omega)) ?_ | refine WL.y rfl (Yld.rem rfl rfl (by omega) (by omega)) ?_ | refine WL.y rfl (Yld.shl rfl rfl (by omega)) ?_ | refine WL.y rfl (Yld.shr rfl rfl (by omega)) ?_ | refine WL.y rfl (Yld.pure za rfl) ?_ | refine WL.y rfl (Yld.fld zb rfl rfl rfl) ?_ | refine WL.y rfl (Yld.max2 rfl rfl) ?_ | refine WL.y rfl (Yld.min2 rfl rfl) ?_ | refine WL.y rfl (Yld.pickV rfl rfl rfl) ?_ | refine WL.gno rfl rfl rfl rfl ?_ | refine WL.gyes rfl rfl rfl rfl (Yld.add rfl rfl (by simp only [In]; omega)) ?_ | refine WL.gyes rfl rfl rfl rfl (Yld.sub rfl rfl (by simp only [In]; omega)) ?_ | refine WL.gyes rfl rfl rfl rfl (Yld.mul rfl rfl (by simp only [In]; omega)) ?_ | refine WL.gyes rfl rfl rfl rfl (Yld.convB za rfl rfl rfl rfl) ?_ | refine WL.gyes rfl rfl rfl rfl (Yld.conv za rfl rfl rfl (by simp only [In]; omega)) ?_ | refine WL.gyes rfl rfl rfl rfl (Yld.quo rfl rfl (by omega) (by omega) (by simp only [In]; omega)) ?_ | refine WL.gyes rfl rfl rfl rfl (Yld.rem rfl rfl (by omega) (by omega)) ?_ | refine WL.gyes rfl rfl rfl rfl (Yld.shl rfl rfl (by omega)) ?_ | refine WL.gyes rfl rfl rfl rfl (Yld.shr rfl rfl (by omega)) ?_ | refine WL.gyes rfl rfl rfl rfl (Yld.pure za rfl) ?_ | refine WL.gyes rfl rfl rfl rfl (Yld.fld zb rfl rfl rfl) ?_ | refine WL.gyes rfl rfl rfl rfl (Yld.max2 rfl rfl) ?_ | refine WL.gyes rfl rfl rfl rfl (Yld.min2 rfl rfl) ?_ | refine WL.gyes rfl rfl rfl rfl (Yld.pickV rfl rfl rfl) ?_)
 refine WC.loopF (fun n' L' w'=>∃ (i:Nat) (A:Option Addr) (c:Nat) (hs:List VH),n'=s.own.length - i∧L'=[(0,.pointer (some ⟨gt,0,none⟩)),(1,.pointer (some ⟨s.id,0,none⟩)),(2,.bool back),(11,.int .i64 (s.own.length:Int)),(12,.int .i64 (i:Int))]∧TI w F s0 gt gs gk w' (ownT (l.take i) t) A c hs∧i≤s.own.length) _ _ ⟨0,A,c,hs,rfl,rfl,I,by omega⟩ (by repeat (first | exact Sub.nil | refine Sub.cons rfl ?_)) ?_
 rintro _ _ w4 ⟨i,A,c,hs,rfl,rfl,I,hi⟩
 repeat (first | refine WC.seq ?_ | refine WC.block ?_ | refine WC.region ?_ | refine WL.nil ?_ | refine WX.then_normal ?_ | refine WC.skip ?_ | refine WC.exit ?_ | refine WC.ret ?_ | refine WX.then_exit ?_ | refine WX.then_ret ?_ | refine WX.block_normal ?_ | refine WX.block_ret ?_ | refine WX.block_same ?_ | refine WX.block_other rfl ?_ | refine WC.label ?_ | refine WC.scope ?_ | refine WX.scope_normal ?_ | refine WX.scope_ret ?_ | refine WX.scope_exit ?_ | refine WL.y rfl (Yld.add rfl rfl (by simp only [In]; omega)) ?_ | refine WL.y rfl (Yld.sub rfl rfl (by simp only [In]; omega)) ?_ | refine WL.y rfl (Yld.mul rfl rfl (by simp only [In]; omega)) ?_ | refine WL.y rfl (Yld.convB za rfl rfl rfl rfl) ?_ | refine WL.y rfl (Yld.conv za rfl rfl rfl (by simp only [In]; omega)) ?_ | refine WL.y rfl (Yld.quo rfl rfl (by omega) (by omega) (by simp only [In]; omega)) ?_ | refine WL.y rfl (Yld.rem rfl rfl (by omega) (by omega)) ?_ | refine WL.y rfl (Yld.shl rfl rfl (by omega)) ?_ | refine WL.y rfl (Yld.shr rfl rfl (by omega)) ?_ | refine WL.y rfl (Yld.pure za rfl) ?_ | refine WL.y rfl (Yld.fld zb rfl rfl rfl) ?_ | refine WL.y rfl (Yld.max2 rfl rfl) ?_ | refine WL.y rfl (Yld.min2 rfl rfl) ?_ | refine WL.y rfl (Yld.pickV rfl rfl rfl) ?_ | refine WL.gno rfl rfl rfl rfl ?_ | refine WL.gyes rfl rfl rfl rfl (Yld.add rfl rfl (by simp only [In]; omega)) ?_ | refine WL.gyes rfl rfl rfl rfl (Yld.sub rfl rfl (by simp only [In]; omega)) ?_ | refine WL.gyes rfl rfl rfl rfl (Yld.mul rfl rfl (by simp only [In]; omega)) ?_ | refine WL.gyes rfl rfl rfl rfl (Yld.convB za rfl rfl rfl rfl) ?_ | refine WL.gyes rfl rfl rfl rfl (Yld.conv za rfl rfl rfl (by simp only [In]; omega)) ?_ | refine WL.gyes rfl rfl rfl rfl (Yld.quo rfl rfl (by omega) (by omega) (by simp only [In]; omega)) ?_ | refine WL.gyes rfl rfl rfl rfl (Yld.rem rfl rfl (by omega) (by omega)) ?_ | refine WL.gyes rfl rfl rfl rfl (Yld.shl rfl rfl (by omega)) ?_ | refine WL.gyes rfl rfl rfl rfl (Yld.shr rfl rfl (by omega)) ?_ | refine WL.gyes rfl rfl rfl rfl (Yld.pure za rfl) ?_ | refine WL.gyes rfl rfl rfl rfl (Yld.fld zb rfl rfl rfl) ?_ | refine WL.gyes rfl rfl rfl rfl (Yld.max2 rfl rfl) ?_ | refine WL.gyes rfl rfl rfl rfl (Yld.min2 rfl rfl) ?_ | refine WL.gyes rfl rfl rfl rfl (Yld.pickV rfl rfl rfl) ?_)
 refine WC.cond rfl (fun b1=>?_) (fun b1=>?_)
 ·have b1:=of_decide_eq_true b1
  have hil:i<s.own.length:=by omega
  obtain ⟨kk,hkk⟩:∃ kk:Nat,kk=(if back then s.own.length - 1 - i else i):=⟨_,rfl⟩
  have hkl:kk<s.own.length:=by rw [hkk]; split <;> omega
  obtain ⟨x,hx⟩:∃ x,s.own[kk]?=some x:=⟨_,List.getElem?_eq_getElem hkl⟩
  have hlx:l[i]?=some x:=by rw [hget i hil,←hkk]; exact hx
  have htk:l.take (i+1)=l.take i++[x]:=by rw [List.take_add_one,hlx]; rfl
  have hstep:ownT (l.take (i+1)) t=stepT (ownT (l.take i) t) x:=by rw [htk,ownT_push]
  have hle:TLe (stepT (ownT (l.take i) t) x) (ownT l t):=by
   rw [←hstep]
   have:ownT l t=ownT (l.drop (i+1)) (ownT (l.take (i+1)) t):=by
    have key:∀ (a b:List PV) (t:TS),ownT (a++b) t=ownT b (ownT a t):=fun a=>by
     induction a with
     | nil=>intro b t; rfl
     | cons u a ih=>intro b t; rw [List.cons_append,zO,zO,ih]
    rw [←key,List.take_append_drop]
   rw [this]
   exact ownT_le _ _
  have hobound:=Nat.le_trans hle.o hb
  obtain ⟨z,hh,rfl,hhk,hAI⟩:=hoA kk x hx
  have hklen:(keyP (.int z)).length≤maxLen:=keyP_len (v:=hh.1) hAI
  have gr4:=I.gr
  have hRk4:=hRk.grown gr4
  have hkl2:kk<(s.own.map keyP).length:=by simpa using hkl
  have hkg:(s.own.map keyP).getD kk []=keyP (.int z):=by simp [List.getD,hx]
  refine WC.skip (WX.then_normal ?_)
  refine WC.seq ?_
  refine WC.block ?_
  refine WC.seq ?_
  repeat (first | refine WC.seq ?_ | refine WC.block ?_ | refine WC.region ?_ | refine WL.nil ?_ | refine WX.then_normal ?_ | refine WC.skip ?_ | refine WC.exit ?_ | refine WC.ret ?_ | refine WX.then_exit ?_ | refine WX.then_ret ?_ | refine WX.block_normal ?_ | refine WX.block_ret ?_ | refine WX.block_same ?_ | refine WX.block_other rfl ?_ | refine WC.label ?_ | refine WC.scope ?_ | refine WX.scope_normal ?_ | refine WX.scope_ret ?_ | refine WX.scope_exit ?_ | refine WL.y rfl (Yld.add rfl rfl (by simp only [In]; omega)) ?_ | refine WL.y rfl (Yld.sub rfl rfl (by simp only [In]; omega)) ?_ | refine WL.y rfl (Yld.mul rfl rfl (by simp only [In]; omega)) ?_ | refine WL.y rfl (Yld.convB za rfl rfl rfl rfl) ?_ | refine WL.y rfl (Yld.conv za rfl rfl rfl (by simp only [In]; omega)) ?_ | refine WL.y rfl (Yld.quo rfl rfl (by omega) (by omega) (by simp only [In]; omega)) ?_ | refine WL.y rfl (Yld.rem rfl rfl (by omega) (by omega)) ?_ | refine WL.y rfl (Yld.shl rfl rfl (by omega)) ?_ | refine WL.y rfl (Yld.shr rfl rfl (by omega)) ?_ | refine WL.y rfl (Yld.pure za rfl) ?_ | refine WL.y rfl (Yld.fld zb rfl rfl rfl) ?_ | refine WL.y rfl (Yld.max2 rfl rfl) ?_ | refine WL.y rfl (Yld.min2 rfl rfl) ?_ | refine WL.y rfl (Yld.pickV rfl rfl rfl) ?_ | refine WL.gno rfl rfl rfl rfl ?_ | refine WL.gyes rfl rfl rfl rfl (Yld.add rfl rfl (by simp only [In]; omega)) ?_ | refine WL.gyes rfl rfl rfl rfl (Yld.sub rfl rfl (by simp only [In]; omega)) ?_ | refine WL.gyes rfl rfl rfl rfl (Yld.mul rfl rfl (by simp only [In]; omega)) ?_ | refine WL.gyes rfl rfl rfl rfl (Yld.convB za rfl rfl rfl rfl) ?_ | refine WL.gyes rfl rfl rfl rfl (Yld.conv za rfl rfl rfl (by simp only [In]; omega)) ?_ | refine WL.gyes rfl rfl rfl rfl (Yld.quo rfl rfl (by omega) (by omega) (by simp only [In]; omega)) ?_ | refine WL.gyes rfl rfl rfl rfl (Yld.rem rfl rfl (by omega) (by omega)) ?_ | refine WL.gyes rfl rfl rfl rfl (Yld.shl rfl rfl (by omega)) ?_ | refine WL.gyes rfl rfl rfl rfl (Yld.shr rfl rfl (by omega)) ?_ | refine WL.gyes rfl rfl rfl rfl (Yld.pure za rfl) ?_ | refine WL.gyes rfl rfl rfl rfl (Yld.fld zb rfl rfl rfl) ?_ | refine WL.gyes rfl rfl rfl rfl (Yld.max2 rfl rfl) ?_ | refine WL.gyes rfl rfl rfl rfl (Yld.min2 rfl rfl) ?_ | refine WL.gyes rfl rfl rfl rfl (Yld.pickV rfl rfl rfl) ?_)
  refine WC.midF (fun L' w'=>L'=[(0,.pointer (some ⟨gt,0,none⟩)),(1,.pointer (some ⟨s.id,0,none⟩)),(2,.bool back),(6,.int .i64 (kk:Int)),(11,.int .i64 (s.own.length:Int)),(12,.int .i64 (i:Int))]∧w4=w') ?_ (fun hQ=>?_)
  ·rintro _ _ ⟨rfl,rfl⟩
   refine WX.then_normal ?_
   refine WC.seq ?_
   have hq:((kk:Int)).toNat=kk:=by omega
   refine WC.quiet mixed (by kernel_rfl) ?_
   refine WQ.y rfl (Yld.pure za rfl) ?_
   refine WQ.y rfl (Yld.pure za rfl) ?_
   refine WQ.y rfl (Yld.pure za rfl) ?_
   refine WQ.y rfl (Yld.bload za I.box rfl rfl rfl) ?_
   refine WQ.y rfl (Yld.pure za rfl) ?_
   refine WQ.y rfl (Yld.pure za rfl) ?_
   refine WQ.y rfl (Yld.fa0 (o:=2) (by kernel_rfl) rfl) ?_
   refine WQ.y rfl (Yld.bload za (hBx.g0 gr4) rfl rfl rfl) ?_
   refine WQ.y rfl (Yld.pure za rfl) ?_
   refine WQ.y rfl (Yld.iaddrW za hRk4 rfl rfl rfl rfl (by omega) (by simp; omega)) ?_
   rw [hq]
   refine WQ.y rfl (Yld.to (v:=vs (keyP (.int z))) (Yld.iload [] za hRk4 rfl rfl hkl2) (by rw [hkg])) ?_
   refine WQ.y rfl (Yld.look (z:=false) (keyF_s Tryz.underlying9) Tryz.underlying127 (fun _=>by kernel_rfl) I.mkk rfl rfl hklen) ?_
   rw [mget_true]
   refine WQ.y rfl (Yld.pure za rfl) ?_
   refine WQ.nil (WX.then_normal ?_)
   refine WC.cond rfl (fun b2=>?_) (fun b2=>?_)
   ·have hnot:keyP (.int z)∉(ownT (l.take i) t).keys:=by simpa using b2
    have hst:stepT (ownT (l.take i) t) (.int z)={ ownT (l.take i) t with keys:=(ownT (l.take i) t).keys++[keyP (.int z)],out:=(ownT (l.take i) t).out++[.int z] }:=by unfold stepT; rw [if_neg hnot]
    rw [hst] at hobound
    rw [hst] at hstep
    generalize ownT (l.take i) t=u at *
    simp only [List.length_append,List.length_cons,List.length_nil] at hobound
    have hkl3:=I.len
    refine WC.seq ?_
    refine WC.chainF (fun k => !(Nat.beq k 11)) (LD [3,7,10] (fun w'=>Bl w' gt 147 [.map (some gs),.map (some gk),.slice A u.out.length c]∧Bl w' s.id 126 [.int .i64 s.order,.slice Ao s.own.length co,.slice Ak (s.own.map keyP).length ck,.slice Af s.fr.length cf,.int .i64 s.deep,.bool s.empty]∧Rd vs w' Ak ck (s.own.map keyP))) mixed (by kernel_rfl) (fun k w' h _=>⟨zU h I.box,zU h (hBx.g0 gr4),rd_eqv h hRk4⟩) ?_
    refine WJ.y rfl rfl (fun w' hw'=>Yld.pure za rfl) ?_
    refine WJ.y rfl rfl (fun w' hw'=>Yld.pure za rfl) ?_
    refine WJ.y rfl rfl (fun w' hw'=>Yld.pure za rfl) ?_
    refine WJ.y rfl rfl (fun w' hw'=>Yld.bload za (hw' rfl).1 rfl rfl rfl) ?_
    refine WJ.y rfl rfl (fun w' hw'=>Yld.pure za rfl) ?_
    refine WJ.y rfl rfl (fun w' hw'=>Yld.pure za rfl) ?_
    refine WJ.y rfl rfl (fun w' hw'=>Yld.fa0 (o:=2) (by kernel_rfl) rfl) ?_
    refine WJ.y rfl rfl (fun w' hw'=>Yld.bload za (hw' rfl).2.1 rfl rfl rfl) ?_
    refine WJ.y rfl rfl (fun w' hw'=>Yld.pure za rfl) ?_
    refine WJ.y rfl rfl (fun w' hw'=>Yld.iaddrW za hRk4 rfl rfl rfl rfl (by omega) (by simp; omega)) ?_
    rw [hq]
    refine WJ.y rfl rfl (fun w' hw'=>Yld.to (v:=vs (keyP (.int z))) (Yld.iload [] za (hw' rfl).2.2 rfl rfl hkl2) (by rw [hkg])) ?_
    refine WJ.eff rfl (Ef0.mapPut (v:=true) (keyF_s Tryz.underlying9) Tryz.underlying127 I.mkk (by simp [maxLen]; omega) rfl rfl hklen rfl) (fun w' h=>DD.past (by kernel_rfl)) ?_
    rintro w5 ⟨hM5,hg5⟩
    rw [mput_true hnot] at hM5
    have gr5:w.grownBy w5 none:=zk gr4 hg5 (Ge.box I.g3)
    have hB5:=I.box.go hg5 (dj_of I.d2)
    have hO5:=I.own.go hg5 (dj_l I.d6)
    have hS5:=I.ms.go hg5 (dj_of I.d3)
    have hRo5:=hRo.grown gr5
    have hkl4:kk<ho.length:=by rw [hro.1]; exact hkl
    have hhg:vv (ho.getD kk vh0)=vv hh:=by simp [List.getD,hhk]
    refine WJ.nil (WX.then_normal ?_)
    refine WC.chainF (fun k => !(Nat.beq k 12 || Nat.beq k 13 || Nat.beq k 16)) (LD [4,8,11] (fun w'=>Bl w' gt 147 [.map (some gs),.map (some gk),.slice A u.out.length c]∧Bl w' s.id 126 [.int .i64 s.order,.slice Ao s.own.length co,.slice Ak (s.own.map keyP).length ck,.slice Af s.fr.length cf,.int .i64 s.deep,.bool s.empty]∧Rd vv w' Ao co ho)) mixed (by kernel_rfl) (fun k w' h _=>⟨zU h hB5,zU h (hBx.g0 gr5),rd_eqv h hRo5⟩) ?_
    refine WJ.y rfl rfl (fun w' hw'=>Yld.pure za rfl) ?_
    refine WJ.y rfl rfl (fun w' hw'=>Yld.pure za rfl) ?_
    refine WJ.y rfl rfl (fun w' hw'=>Yld.pure za rfl) ?_
    refine WJ.y rfl rfl (fun w' hw'=>Yld.pure za rfl) ?_
    refine WJ.y rfl rfl (fun w' hw'=>Yld.bload za (hw' rfl).1 rfl rfl rfl) ?_
    refine WJ.y rfl rfl (fun w' hw'=>Yld.pure za rfl) ?_
    refine WJ.y rfl rfl (fun w' hw'=>Yld.pure za rfl) ?_
    refine WJ.y rfl rfl (fun w' hw'=>Yld.fa0 (o:=1) (by kernel_rfl) rfl) ?_
    refine WJ.y rfl rfl (fun w' hw'=>Yld.bload za (hw' rfl).2.1 rfl rfl rfl) ?_
    refine WJ.y rfl rfl (fun w' hw'=>Yld.pure za rfl) ?_
    refine WJ.y rfl rfl (fun w' hw'=>Yld.iaddrW za hRo5 rfl rfl hro.1.symm rfl (by omega) (by omega)) ?_
    rw [hq]
    refine WJ.y rfl rfl (fun w' hw'=>Yld.to (v:=vv hh) (Yld.iload vh0 za (hw' rfl).2.2 rfl rfl hkl4) hhg) ?_
    refine WJ.putw rfl zo rfl (Eff.lit (us:=[vv hh]) za rfl rfl (zf hh.1.2 zm) rfl (by omega)) (fun v w' ⟨_,_,h⟩=>DD.keep ⟨hB5.g0 h,(hBx.g0 gr5).g0 h,hRo5.grown h⟩) ?_
    rintro _ w6 ⟨rfl,hB6,hg6⟩
    have gr6:=zd gr5 hg6
    have hL6:Own vv w6 w.heap.size 32 (some ⟨w5.heap.size,0,none⟩) 1 [hh]:=Own.ofBl hB6 gr5.size (by simp [maxLen]) rfl
    have hO6:=hO5.grown hg6
    have hrl:=I.rel.1
    refine WJ.putw rfl zo rfl (Eff.append za rfl One.vv hO6 rfl hrl.symm hL6.rd rfl rfl (by rw [hrl]; simp; omega) (by rw [hrl]; simp [maxLen]; omega) gr6.size) (fun v w' h=>DD.past (by kernel_rfl)) ?_
    rintro _ w7 ⟨A7,c7,rfl,hO7,hg7,hk7⟩
    have gr7:w.grownBy w7 none:=zk gr6 hg7 hO6.ge'
    have el:(hs++[hh]).length=(u.out++[PV.int z]).length:=by simp [hrl]
    rw [el]
    have hB7:=(hB5.g0 hg6).go hg7 (dj_l I.d4).symm
    have hM7:=(hM5.g0 hg6).go hg7 (dj_l I.d6).symm
    have hS7:=(hS5.g0 hg6).go hg7 (dj_l I.d5).symm
    have b4:∀ q,q<w6.heap.size→blk A≠some q→blk A7≠some q:=fun q hq hne e=>by
     rcases hk7 q e with h | h
     ·exact hne h
     ·omega
    refine WJ.y rfl rfl (fun w' hw'=>Yld.pure za rfl) ?_
    refine WJ.y rfl rfl (fun w' hw'=>Yld.pure za rfl) ?_
    refine WJ.eff rfl (Ef0.store1 one27 rfl rfl rfl hB7 (by simp)) (fun w' h=>DD.past (by kernel_rfl)) ?_
    rintro w8 ⟨hB8,hg8⟩
    have gr8:w.grownBy w8 none:=zk gr7 hg8 (Ge.box I.g1)
    have q1:=(hB5.g0 hg6).lt
    have q2:=(hM5.g0 hg6).lt
    have q3:=(hS5.g0 hg6).lt
    refine WJ.nil ?_
    repeat (first | refine WC.seq ?_ | refine WC.block ?_ | refine WC.region ?_ | refine WL.nil ?_ | refine WX.then_normal ?_ | refine WC.skip ?_ | refine WC.exit ?_ | refine WC.ret ?_ | refine WX.then_exit ?_ | refine WX.then_ret ?_ | refine WX.block_normal ?_ | refine WX.block_ret ?_ | refine WX.block_same ?_ | refine WX.block_other rfl ?_ | refine WC.label ?_ | refine WC.scope ?_ | refine WX.scope_normal ?_ | refine WX.scope_ret ?_ | refine WX.scope_exit ?_ | refine WL.y rfl (Yld.add rfl rfl (by simp only [In]; omega)) ?_ | refine WL.y rfl (Yld.sub rfl rfl (by simp only [In]; omega)) ?_ | refine WL.y rfl (Yld.mul rfl rfl (by simp only [In]; omega)) ?_ | refine WL.y rfl (Yld.convB za rfl rfl rfl rfl) ?_ | refine WL.y rfl (Yld.conv za rfl rfl rfl (by simp only [In]; omega)) ?_ | refine WL.y rfl (Yld.quo rfl rfl (by omega) (by omega) (by simp only [In]; omega)) ?_ | refine WL.y rfl (Yld.rem rfl rfl (by omega) (by omega)) ?_ | refine WL.y rfl (Yld.shl rfl rfl (by omega)) ?_ | refine WL.y rfl (Yld.shr rfl rfl (by omega)) ?_ | refine WL.y rfl (Yld.pure za rfl) ?_ | refine WL.y rfl (Yld.fld zb rfl rfl rfl) ?_ | refine WL.y rfl (Yld.max2 rfl rfl) ?_ | refine WL.y rfl (Yld.min2 rfl rfl) ?_ | refine WL.y rfl (Yld.pickV rfl rfl rfl) ?_ | refine WL.gno rfl rfl rfl rfl ?_ | refine WL.gyes rfl rfl rfl rfl (Yld.add rfl rfl (by simp only [In]; omega)) ?_ | refine WL.gyes rfl rfl rfl rfl (Yld.sub rfl rfl (by simp only [In]; omega)) ?_ | refine WL.gyes rfl rfl rfl rfl (Yld.mul rfl rfl (by simp only [In]; omega)) ?_ | refine WL.gyes rfl rfl rfl rfl (Yld.convB za rfl rfl rfl rfl) ?_ | refine WL.gyes rfl rfl rfl rfl (Yld.conv za rfl rfl rfl (by simp only [In]; omega)) ?_ | refine WL.gyes rfl rfl rfl rfl (Yld.quo rfl rfl (by omega) (by omega) (by simp only [In]; omega)) ?_ | refine WL.gyes rfl rfl rfl rfl (Yld.rem rfl rfl (by omega) (by omega)) ?_ | refine WL.gyes rfl rfl rfl rfl (Yld.shl rfl rfl (by omega)) ?_ | refine WL.gyes rfl rfl rfl rfl (Yld.shr rfl rfl (by omega)) ?_ | refine WL.gyes rfl rfl rfl rfl (Yld.pure za rfl) ?_ | refine WL.gyes rfl rfl rfl rfl (Yld.fld zb rfl rfl rfl) ?_ | refine WL.gyes rfl rfl rfl rfl (Yld.max2 rfl rfl) ?_ | refine WL.gyes rfl rfl rfl rfl (Yld.min2 rfl rfl) ?_ | refine WL.gyes rfl rfl rfl rfl (Yld.pickV rfl rfl rfl) ?_)
    refine WX.roundF _ ⟨i+1,A7,c7,hs++[hh],rfl,rfl,?_,by omega⟩ (by repeat (first | exact Sub.nil | refine Sub.cons rfl ?_)) (by omega)
    rw [hstep]
    exact ⟨gr8,hB8,hO7.go hg8 (dj_l (b4 gt q1 I.d4)),I.rel.append (RelD.cons ⟨AI.mono hAI (fun g hg=>by rw [hoF hh (List.mem_of_getElem? hhk)]; exact hg),fun g hg=>by rw [hoF hh (List.mem_of_getElem? hhk)] at hg; exact h0.one.2 g hg⟩ RelD.nil),fun h hm=>by
     rcases List.mem_append.1 hm with hm | hm
     ·exact I.hd h hm
     ·simp at hm; subst hm; exact hoF h (List.mem_of_getElem? hhk),hS7.go hg8 (dj_of I.d1.symm),hM7.go hg8 (dj_of I.d2.symm),I.g1,I.g2,I.g3,I.d1,I.d2,I.d3,b4 gt q1 I.d4,b4 gs q3 I.d5,b4 gk q2 I.d6,by simp [I.len]⟩
   ·have hin:keyP (.int z)∈(ownT (l.take i) t).keys:=by simpa using b2
    have hst:stepT (ownT (l.take i) t) (.int z)=ownT (l.take i) t:=by unfold stepT; rw [if_pos hin]
    repeat (first | refine WC.seq ?_ | refine WC.block ?_ | refine WC.region ?_ | refine WL.nil ?_ | refine WX.then_normal ?_ | refine WC.skip ?_ | refine WC.exit ?_ | refine WC.ret ?_ | refine WX.then_exit ?_ | refine WX.then_ret ?_ | refine WX.block_normal ?_ | refine WX.block_ret ?_ | refine WX.block_same ?_ | refine WX.block_other rfl ?_ | refine WC.label ?_ | refine WC.scope ?_ | refine WX.scope_normal ?_ | refine WX.scope_ret ?_ | refine WX.scope_exit ?_ | refine WL.y rfl (Yld.add rfl rfl (by simp only [In]; omega)) ?_ | refine WL.y rfl (Yld.sub rfl rfl (by simp only [In]; omega)) ?_ | refine WL.y rfl (Yld.mul rfl rfl (by simp only [In]; omega)) ?_ | refine WL.y rfl (Yld.convB za rfl rfl rfl rfl) ?_ | refine WL.y rfl (Yld.conv za rfl rfl rfl (by simp only [In]; omega)) ?_ | refine WL.y rfl (Yld.quo rfl rfl (by omega) (by omega) (by simp only [In]; omega)) ?_ | refine WL.y rfl (Yld.rem rfl rfl (by omega) (by omega)) ?_ | refine WL.y rfl (Yld.shl rfl rfl (by omega)) ?_ | refine WL.y rfl (Yld.shr rfl rfl (by omega)) ?_ | refine WL.y rfl (Yld.pure za rfl) ?_ | refine WL.y rfl (Yld.fld zb rfl rfl rfl) ?_ | refine WL.y rfl (Yld.max2 rfl rfl) ?_ | refine WL.y rfl (Yld.min2 rfl rfl) ?_ | refine WL.y rfl (Yld.pickV rfl rfl rfl) ?_ | refine WL.gno rfl rfl rfl rfl ?_ | refine WL.gyes rfl rfl rfl rfl (Yld.add rfl rfl (by simp only [In]; omega)) ?_ | refine WL.gyes rfl rfl rfl rfl (Yld.sub rfl rfl (by simp only [In]; omega)) ?_ | refine WL.gyes rfl rfl rfl rfl (Yld.mul rfl rfl (by simp only [In]; omega)) ?_ | refine WL.gyes rfl rfl rfl rfl (Yld.convB za rfl rfl rfl rfl) ?_ | refine WL.gyes rfl rfl rfl rfl (Yld.conv za rfl rfl rfl (by simp only [In]; omega)) ?_ | refine WL.gyes rfl rfl rfl rfl (Yld.quo rfl rfl (by omega) (by omega) (by simp only [In]; omega)) ?_ | refine WL.gyes rfl rfl rfl rfl (Yld.rem rfl rfl (by omega) (by omega)) ?_ | refine WL.gyes rfl rfl rfl rfl (Yld.shl rfl rfl (by omega)) ?_ | refine WL.gyes rfl rfl rfl rfl (Yld.shr rfl rfl (by omega)) ?_ | refine WL.gyes rfl rfl rfl rfl (Yld.pure za rfl) ?_ | refine WL.gyes rfl rfl rfl rfl (Yld.fld zb rfl rfl rfl) ?_ | refine WL.gyes rfl rfl rfl rfl (Yld.max2 rfl rfl) ?_ | refine WL.gyes rfl rfl rfl rfl (Yld.min2 rfl rfl) ?_ | refine WL.gyes rfl rfl rfl rfl (Yld.pickV rfl rfl rfl) ?_)
    refine WX.roundF _ ⟨i+1,A,c,hs,rfl,rfl,?_,by omega⟩ (by repeat (first | exact Sub.nil | refine Sub.cons rfl ?_)) (by omega)
    rw [hstep,hst]
    exact I
  ·cases back
   ·refine WC.cond rfl (fun h=>by cases h) (fun _=>?_)
    simp only [Bool.false_eq_true,if_false] at hkk
    subst hkk
    refine WC.skip ?_
    exact WX.weaken (by repeat (first | exact Sub.nil | refine Sub.cons rfl ?_)) (hQ _ _ ⟨rfl,rfl⟩)
   ·refine WC.cond rfl (fun _=>?_) (fun h=>by cases h)
    simp only [if_true] at hkk
    have ek:((s.own.length:Int) - 1 - (i:Int))=(kk:Int):=by omega
    refine WC.region ?_
    refine WL.y rfl (Yld.pure za rfl) ?_
    refine WL.y rfl (Yld.pure za rfl) ?_
    refine WL.y rfl (Yld.fa0 (o:=1) (by kernel_rfl) rfl) ?_
    refine WL.y rfl (Yld.bload za (hBx.g0 gr4) rfl rfl rfl) ?_
    refine WL.y rfl (Yld.pure za rfl) ?_
    refine WL.y rfl (Yld.sub rfl rfl (by simp only [In]; omega)) ?_
    refine WL.y rfl (Yld.pure za rfl) ?_
    refine WL.y rfl (Yld.sub rfl rfl (by simp only [In]; omega)) ?_
    rw [ek]
    refine WL.y rfl (Yld.pure za rfl) ?_
    refine WL.nil ?_
    exact WX.weaken (by repeat (first | exact Sub.nil | refine Sub.cons rfl ?_)) (hQ _ _ ⟨rfl,rfl⟩)
 ·have b1:=of_decide_eq_false b1
  obtain rfl:i=s.own.length:=by omega
  rw [←hll,List.take_length] at I
  repeat (first | refine WC.seq ?_ | refine WC.block ?_ | refine WC.region ?_ | refine WL.nil ?_ | refine WX.then_normal ?_ | refine WC.skip ?_ | refine WC.exit ?_ | refine WC.ret ?_ | refine WX.then_exit ?_ | refine WX.then_ret ?_ | refine WX.block_normal ?_ | refine WX.block_ret ?_ | refine WX.block_same ?_ | refine WX.block_other rfl ?_ | refine WC.label ?_ | refine WC.scope ?_ | refine WX.scope_normal ?_ | refine WX.scope_ret ?_ | refine WX.scope_exit ?_ | refine WL.y rfl (Yld.add rfl rfl (by simp only [In]; omega)) ?_ | refine WL.y rfl (Yld.sub rfl rfl (by simp only [In]; omega)) ?_ | refine WL.y rfl (Yld.mul rfl rfl (by simp only [In]; omega)) ?_ | refine WL.y rfl (Yld.convB za rfl rfl rfl rfl) ?_ | refine WL.y rfl (Yld.conv za rfl rfl rfl (by simp only [In]; omega)) ?_ | refine WL.y rfl (Yld.quo rfl rfl (by omega) (by omega) (by simp only [In]; omega)) ?_ | refine WL.y rfl (Yld.rem rfl rfl (by omega) (by omega)) ?_ | refine WL.y rfl (Yld.shl rfl rfl (by omega)) ?_ | refine WL.y rfl (Yld.shr rfl rfl (by omega)) ?_ | refine WL.y rfl (Yld.pure za rfl) ?_ | refine WL.y rfl (Yld.fld zb rfl rfl rfl) ?_ | refine WL.y rfl (Yld.max2 rfl rfl) ?_ | refine WL.y rfl (Yld.min2 rfl rfl) ?_ | refine WL.y rfl (Yld.pickV rfl rfl rfl) ?_ | refine WL.gno rfl rfl rfl rfl ?_ | refine WL.gyes rfl rfl rfl rfl (Yld.add rfl rfl (by simp only [In]; omega)) ?_ | refine WL.gyes rfl rfl rfl rfl (Yld.sub rfl rfl (by simp only [In]; omega)) ?_ | refine WL.gyes rfl rfl rfl rfl (Yld.mul rfl rfl (by simp only [In]; omega)) ?_ | refine WL.gyes rfl rfl rfl rfl (Yld.convB za rfl rfl rfl rfl) ?_ | refine WL.gyes rfl rfl rfl rfl (Yld.conv za rfl rfl rfl (by simp only [In]; omega)) ?_ | refine WL.gyes rfl rfl rfl rfl (Yld.quo rfl rfl (by omega) (by omega) (by simp only [In]; omega)) ?_ | refine WL.gyes rfl rfl rfl rfl (Yld.rem rfl rfl (by omega) (by omega)) ?_ | refine WL.gyes rfl rfl rfl rfl (Yld.shl rfl rfl (by omega)) ?_ | refine WL.gyes rfl rfl rfl rfl (Yld.shr rfl rfl (by omega)) ?_ | refine WL.gyes rfl rfl rfl rfl (Yld.pure za rfl) ?_ | refine WL.gyes rfl rfl rfl rfl (Yld.fld zb rfl rfl rfl) ?_ | refine WL.gyes rfl rfl rfl rfl (Yld.max2 rfl rfl) ?_ | refine WL.gyes rfl rfl rfl rfl (Yld.min2 rfl rfl) ?_ | refine WL.gyes rfl rfl rfl rfl (Yld.pickV rfl rfl rfl) ?_)
  exact WX.end0 rfl ⟨rfl,A,c,hs,I⟩
set_option maxHeartbeats 4000000 in
theorem set_fn {w:World} {v0:OV} {F:Nat→Prop} {s0:PS} {gt gs gk:Nat} (h0:RelD deS w [(v0,F)] [s0]) (order:Int):∀ (n:Nat) (s:PS) (t:TS) (A:Option Addr) (c:Nat) (hs:List VH) (w2:World),dep n s→zV s0 s→s≠.nil→TI w F s0 gt gs gk w2 t A c hs →
  (zH n order s t).sets.length≤100000→(zH n order s t).out.length≤1024 →
  Fn Tryz.prog 80 ⟨[.pointer (some ⟨gt,0,none⟩),.pointer (some ⟨s.id,0,none⟩),.int .i64 order]⟩ w2 (fun v w3=>v=.tuple #[]∧∃ A' c' hs',TI w F s0 gt gs gk w3 (zH n order s t) A' c' hs'):=by
 intro n
 induction n with
 | zero =>
  intro s t A c hs w2 hdp hr hn
  cases s with
  | nil=>exact absurd rfl hn
  | mk=>exact absurd hdp (by simp [dep])
 | succ n ih =>
  intro s t A c hs w2 hdp hr hn I hb1 hb2
  obtain ⟨Ao,co,Ak,ck,Af,cf,ho,hf,hBx,hRo,hro,hoF,hoA,hRk,hRf,hfl,hfA⟩:=SR.out2 (relS h0 hr hn) hn
  have hdf:∀ f∈s.fr,dep n f:=by
   cases s with
   | nil=>exact absurd rfl hn
   | mk=>exact hdp
  have hol:(s.fr.length:Int)≤9223372036854775807:=by
   have h1:=hRf.cap
   have h2:=hRf.max
   rw [hfl] at h1
   simp only [maxLen] at h2
   omega
  refine Fn.enter (by kernel_rfl) Tryz.func80 rfl Tryz.ntmps80 rfl ?_
  repeat refine WC.seq ?_
  refine WC.region ?_
  refine WL.y rfl (Yld.pure za rfl) ?_
  refine WL.y rfl (Yld.pure za rfl) ?_
  refine WL.y rfl (Yld.pure za rfl) ?_
  refine WL.y rfl (Yld.bload za I.box rfl rfl rfl) ?_
  refine WL.y rfl (Yld.pure za rfl) ?_
  have hok:okR s0 s.id:=⟨s,hr,hn,rfl⟩
  refine WL.y rfl (Yld.lookW (z:=false) (q:=s.id) (keyS Tryz.underlying41 (by kernel_rfl) (h0.grown I.gr)) Tryz.underlying145 (fun _=>by kernel_rfl) I.ms rfl rfl hok) ?_
  rw [mget_true]
  refine WL.nil (WX.then_normal ?_)
  refine WC.cond rfl (fun b1=>?_) (fun b1=>?_)
  ·have b1:=of_decide_eq_true b1
   rw [tellN_succ,if_pos b1]
   repeat (first | refine WC.seq ?_ | refine WC.block ?_ | refine WC.region ?_ | refine WL.nil ?_ | refine WX.then_normal ?_ | refine WC.skip ?_ | refine WC.exit ?_ | refine WC.ret ?_ | refine WX.then_exit ?_ | refine WX.then_ret ?_ | refine WX.block_normal ?_ | refine WX.block_ret ?_ | refine WX.block_same ?_ | refine WX.block_other rfl ?_ | refine WC.label ?_ | refine WC.scope ?_ | refine WX.scope_normal ?_ | refine WX.scope_ret ?_ | refine WX.scope_exit ?_ | refine WL.y rfl (Yld.add rfl rfl (by simp only [In]; omega)) ?_ | refine WL.y rfl (Yld.sub rfl rfl (by simp only [In]; omega)) ?_ | refine WL.y rfl (Yld.mul rfl rfl (by simp only [In]; omega)) ?_ | refine WL.y rfl (Yld.convB za rfl rfl rfl rfl) ?_ | refine WL.y rfl (Yld.conv za rfl rfl rfl (by simp only [In]; omega)) ?_ | refine WL.y rfl (Yld.quo rfl rfl (by omega) (by omega) (by simp only [In]; omega)) ?_ | refine WL.y rfl (Yld.rem rfl rfl (by omega) (by omega)) ?_ | refine WL.y rfl (Yld.shl rfl rfl (by omega)) ?_ | refine WL.y rfl (Yld.shr rfl rfl (by omega)) ?_ | refine WL.y rfl (Yld.pure za rfl) ?_ | refine WL.y rfl (Yld.fld zb rfl rfl rfl) ?_ | refine WL.y rfl (Yld.max2 rfl rfl) ?_ | refine WL.y rfl (Yld.min2 rfl rfl) ?_ | refine WL.y rfl (Yld.pickV rfl rfl rfl) ?_ | refine WL.gno rfl rfl rfl rfl ?_ | refine WL.gyes rfl rfl rfl rfl (Yld.add rfl rfl (by simp only [In]; omega)) ?_ | refine WL.gyes rfl rfl rfl rfl (Yld.sub rfl rfl (by simp only [In]; omega)) ?_ | refine WL.gyes rfl rfl rfl rfl (Yld.mul rfl rfl (by simp only [In]; omega)) ?_ | refine WL.gyes rfl rfl rfl rfl (Yld.convB za rfl rfl rfl rfl) ?_ | refine WL.gyes rfl rfl rfl rfl (Yld.conv za rfl rfl rfl (by simp only [In]; omega)) ?_ | refine WL.gyes rfl rfl rfl rfl (Yld.quo rfl rfl (by omega) (by omega) (by simp only [In]; omega)) ?_ | refine WL.gyes rfl rfl rfl rfl (Yld.rem rfl rfl (by omega) (by omega)) ?_ | refine WL.gyes rfl rfl rfl rfl (Yld.shl rfl rfl (by omega)) ?_ | refine WL.gyes rfl rfl rfl rfl (Yld.shr rfl rfl (by omega)) ?_ | refine WL.gyes rfl rfl rfl rfl (Yld.pure za rfl) ?_ | refine WL.gyes rfl rfl rfl rfl (Yld.fld zb rfl rfl rfl) ?_ | refine WL.gyes rfl rfl rfl rfl (Yld.max2 rfl rfl) ?_ | refine WL.gyes rfl rfl rfl rfl (Yld.min2 rfl rfl) ?_ | refine WL.gyes rfl rfl rfl rfl (Yld.pickV rfl rfl rfl) ?_)
   exact WX.ret0 rfl ⟨rfl,A,c,hs,I⟩
  have b1:=of_decide_eq_false b1
  rw [tellN_succ,if_neg b1] at hb1 hb2 ⊢
  have hle1:=(postT_le order s (midT n order s (preT order s t)))
  have hle0:=(foldT_le (f:=fun t f=>zH n order f t) (fun t f=>tellN_le n order f t) (if order=3 then s.fr.reverse else s.fr) (preT order s t))
  have hlep:=preT_le order s t
  have hpre_s:(preT order s t).sets.length=t.sets.length+1:=by
   have key:∀ (l:List PV) (u:TS),(ownT l u).sets=u.sets:=fun l=>by
    induction l with
    | nil=>intro u; rfl
    | cons x l ihl=>intro u; rw [zO,ihl]; unfold stepT; split <;> rfl
   unfold preT
   split
   ·rw [key]; simp
   ·simp
  have hb3:t.sets.length+1≤100000:=by
   have h1:=hle1.s
   have h2:(preT order s t).sets.length≤(midT n order s (preT order s t)).sets.length:=hle0.s
   omega
  refine WC.skip (WX.then_normal ?_)
  repeat refine WC.seq ?_
  refine WC.region ?_
  refine WL.y rfl (Yld.pure za rfl) ?_
  refine WL.y rfl (Yld.pure za rfl) ?_
  refine WL.y rfl (Yld.pure za rfl) ?_
  refine WL.y rfl (Yld.bload za I.box rfl rfl rfl) ?_
  refine WL.y rfl (Yld.pure za rfl) ?_
  refine WL.ef0 (Ef0.putW (v:=true) (q:=s.id) (keyS Tryz.underlying41 (by kernel_rfl) (h0.grown I.gr)) Tryz.underlying145 I.ms (by simp [maxLen]; omega) rfl rfl hok rfl) ?_
  rintro w3 ⟨hM3,hg3⟩
  rw [mput_true b1] at hM3
  have I1:TI w F s0 gt gs gk w3 { t with sets:=t.sets++[s.id] } A c hs:=⟨zk I.gr hg3 (Ge.box I.g2),I.box.go hg3 (dj_of I.d1),I.own.go hg3 (dj_l I.d5),I.rel,I.hd,hM3,I.mkk.go hg3 (dj_of I.d3.symm),I.g1,I.g2,I.g3,I.d1,I.d2,I.d3,I.d4,I.d5,I.d6,I.len⟩
  refine WL.nil (WX.then_normal ?_)
  repeat refine WC.seq ?_
  refine WC.region ?_
  refine WL.y rfl (Yld.pure za rfl) ?_
  refine WL.y rfl (Yld.pure za rfl) ?_
  refine WL.nil (WX.then_normal ?_)
  refine WC.midF (fun L' w'=>L'=[(0,.pointer (some ⟨gt,0,none⟩)),(1,.pointer (some ⟨s.id,0,none⟩)),(2,.int .i64 order)]∧∃ A c hs,TI w F s0 gt gs gk w' (preT order s t) A c hs) ?_ (fun hQ=>?_)
  rotate_left
  ·refine WC.cond rfl (fun b2=>?_) (fun b2=>?_)
   ·have b2:=of_decide_eq_true b2
    have ep:preT order s t=ownT s.own { t with sets:=t.sets++[s.id] }:=by unfold preT; rw [if_pos b2]
    refine WC.region ?_
    refine WL.y rfl (Yld.pure za rfl) ?_
    refine WL.y rfl (Yld.pure za rfl) ?_
    refine WL.call rfl rfl (own_fn h0 hr hn false I1 (by
     have h1:=hle1.o
     have h2:(preT order s t).out.length≤(midT n order s (preT order s t)).out.length:=hle0.o
     rw [ep] at h2 h1 hb2
     simp only [Bool.false_eq_true,if_false]
     omega)) ?_
    rintro _ w4 ⟨rfl,A4,c4,hs4,I4⟩
    refine WL.nil ?_
    exact WX.weaken (by repeat (first | exact Sub.nil | refine Sub.cons rfl ?_)) (hQ _ _ ⟨rfl,A4,c4,hs4,by rw [ep]; exact I4⟩)
   ·have b2:=of_decide_eq_false b2
    have ep:preT order s t={ t with sets:=t.sets++[s.id] }:=by unfold preT; rw [if_neg b2]
    refine WC.skip ?_
    exact WX.weaken (by repeat (first | exact Sub.nil | refine Sub.cons rfl ?_)) (hQ _ _ ⟨rfl,A,c,hs,by rw [ep]; exact I1⟩)
  rintro _ w4 ⟨rfl,A4,c4,hs4,I4⟩
  clear hM3 hg3 I1 I
  refine WX.then_normal ?_
  repeat refine WC.seq ?_
  refine WC.region ?_
  refine WL.y rfl (Yld.pure za rfl) ?_
  refine WL.y rfl (Yld.pure za rfl) ?_
  refine WL.y rfl (Yld.fa0 (o:=3) (by kernel_rfl) rfl) ?_
  refine WL.y rfl (Yld.bload za (hBx.g0 I4.gr) rfl rfl rfl) ?_
  refine WL.y rfl (Yld.pure za rfl) ?_
  refine WL.y rfl (Yld.pure za rfl) ?_
  refine WL.nil (WX.then_normal ?_)
  repeat refine WC.seq ?_
  refine WC.block ?_
  generalize hl:(if order=3 then s.fr.reverse else s.fr)=l at hle0
  have hmid:midT n order s (preT order s t)=l.foldl (fun t f=>zH n order f t) (preT order s t):=by unfold midT; rw [hl]
  have hll:l.length=s.fr.length:=by rw [←hl]; split <;> simp
  have hget:∀ i,i<s.fr.length→l[i]?=s.fr[(if order=3 then s.fr.length - 1 - i else i)]?:=fun i hi=>by
   rw [←hl]
   split
   ·rw [List.getElem?_reverse (by omega)]
   ·rfl
  refine WC.loopF (fun n' L' w'=>∃ (i:Nat) (A:Option Addr) (c:Nat) (hs:List VH),n'=s.fr.length - i∧L'=[(0,.pointer (some ⟨gt,0,none⟩)),(1,.pointer (some ⟨s.id,0,none⟩)),(2,.int .i64 order),(27,.int .i64 (s.fr.length:Int)),(28,.int .i64 (i:Int))]∧TI w F s0 gt gs gk w' ((l.take i).foldl (fun t f=>zH n order f t) (preT order s t)) A c hs∧i≤s.fr.length) _ _ ⟨0,A4,c4,hs4,rfl,rfl,I4,by omega⟩ (by repeat (first | exact Sub.nil | refine Sub.cons rfl ?_)) ?_
  rintro _ _ w5 ⟨i,A5,c5,hs5,rfl,rfl,I5,hi⟩
  repeat (first | refine WC.seq ?_ | refine WC.block ?_ | refine WC.region ?_ | refine WL.nil ?_ | refine WX.then_normal ?_ | refine WC.skip ?_ | refine WC.exit ?_ | refine WC.ret ?_ | refine WX.then_exit ?_ | refine WX.then_ret ?_ | refine WX.block_normal ?_ | refine WX.block_ret ?_ | refine WX.block_same ?_ | refine WX.block_other rfl ?_ | refine WC.label ?_ | refine WC.scope ?_ | refine WX.scope_normal ?_ | refine WX.scope_ret ?_ | refine WX.scope_exit ?_ | refine WL.y rfl (Yld.add rfl rfl (by simp only [In]; omega)) ?_ | refine WL.y rfl (Yld.sub rfl rfl (by simp only [In]; omega)) ?_ | refine WL.y rfl (Yld.mul rfl rfl (by simp only [In]; omega)) ?_ | refine WL.y rfl (Yld.convB za rfl rfl rfl rfl) ?_ | refine WL.y rfl (Yld.conv za rfl rfl rfl (by simp only [In]; omega)) ?_ | refine WL.y rfl (Yld.quo rfl rfl (by omega) (by omega) (by simp only [In]; omega)) ?_ | refine WL.y rfl (Yld.rem rfl rfl (by omega) (by omega)) ?_ | refine WL.y rfl (Yld.shl rfl rfl (by omega)) ?_ | refine WL.y rfl (Yld.shr rfl rfl (by omega)) ?_ | refine WL.y rfl (Yld.pure za rfl) ?_ | refine WL.y rfl (Yld.fld zb rfl rfl rfl) ?_ | refine WL.y rfl (Yld.max2 rfl rfl) ?_ | refine WL.y rfl (Yld.min2 rfl rfl) ?_ | refine WL.y rfl (Yld.pickV rfl rfl rfl) ?_ | refine WL.gno rfl rfl rfl rfl ?_ | refine WL.gyes rfl rfl rfl rfl (Yld.add rfl rfl (by simp only [In]; omega)) ?_ | refine WL.gyes rfl rfl rfl rfl (Yld.sub rfl rfl (by simp only [In]; omega)) ?_ | refine WL.gyes rfl rfl rfl rfl (Yld.mul rfl rfl (by simp only [In]; omega)) ?_ | refine WL.gyes rfl rfl rfl rfl (Yld.convB za rfl rfl rfl rfl) ?_ | refine WL.gyes rfl rfl rfl rfl (Yld.conv za rfl rfl rfl (by simp only [In]; omega)) ?_ | refine WL.gyes rfl rfl rfl rfl (Yld.quo rfl rfl (by omega) (by omega) (by simp only [In]; omega)) ?_ | refine WL.gyes rfl rfl rfl rfl (Yld.rem rfl rfl (by omega) (by omega)) ?_ | refine WL.gyes rfl rfl rfl rfl (Yld.shl rfl rfl (by omega)) ?_ | refine WL.gyes rfl rfl rfl rfl (Yld.shr rfl rfl (by omega)) ?_ | refine WL.gyes rfl rfl rfl rfl (Yld.pure za rfl) ?_ | refine WL.gyes rfl rfl rfl rfl (Yld.fld zb rfl rfl rfl) ?_ | refine WL.gyes rfl rfl rfl rfl (Yld.max2 rfl rfl) ?_ | refine WL.gyes rfl rfl rfl rfl (Yld.min2 rfl rfl) ?_ | refine WL.gyes rfl rfl rfl rfl (Yld.pickV rfl rfl rfl) ?_)
  refine WC.cond rfl (fun b3=>?_) (fun b3=>?_)
  ·have b3:=of_decide_eq_true b3
   have hil:i<s.fr.length:=by omega
   obtain ⟨kk,hkk⟩:∃ kk:Nat,kk=(if order=3 then s.fr.length - 1 - i else i):=⟨_,rfl⟩
   have hkl:kk<s.fr.length:=by rw [hkk]; split <;> omega
   obtain ⟨f,hf2⟩:∃ f,s.fr[kk]?=some f:=⟨_,List.getElem?_eq_getElem hkl⟩
   have hlx:l[i]?=some f:=by rw [hget i hil,←hkk]; exact hf2
   have htk:l.take (i+1)=l.take i++[f]:=by rw [List.take_add_one,hlx]; rfl
   have hfm:f∈s.fr:=List.mem_of_getElem? hf2
   obtain ⟨hfn,hfv⟩:=hfA kk f hf2
   have hstep:(l.take (i+1)).foldl (fun t f=>zH n order f t) (preT order s t)=zH n order f ((l.take i).foldl (fun t f=>zH n order f t) (preT order s t)):=by rw [htk,List.foldl_append]; rfl
   have hle2:TLe (zH n order f ((l.take i).foldl (fun t f=>zH n order f t) (preT order s t))) (midT n order s (preT order s t)):=by
    rw [←hstep,hmid]
    have:l.foldl (fun t f=>zH n order f t) (preT order s t)=(l.drop (i+1)).foldl (fun t f=>zH n order f t) ((l.take (i+1)).foldl (fun t f=>zH n order f t) (preT order s t)):=by rw [←List.foldl_append,List.take_append_drop]
    rw [this]
    exact foldT_le (f:=fun t f=>zH n order f t) (fun t f=>tellN_le n order f t) _ _
   have hle3:=hle2.trans hle1
   have gr5:=I5.gr
   have hq:((kk:Int)).toNat=kk:=by omega
   have hkf:kk<hf.length:=by rw [hfl]; exact hkl
   repeat (first | refine WC.seq ?_ | refine WC.block ?_ | refine WC.region ?_ | refine WL.nil ?_ | refine WX.then_normal ?_ | refine WC.skip ?_ | refine WC.exit ?_ | refine WC.ret ?_ | refine WX.then_exit ?_ | refine WX.then_ret ?_ | refine WX.block_normal ?_ | refine WX.block_ret ?_ | refine WX.block_same ?_ | refine WX.block_other rfl ?_ | refine WC.label ?_ | refine WC.scope ?_ | refine WX.scope_normal ?_ | refine WX.scope_ret ?_ | refine WX.scope_exit ?_ | refine WL.y rfl (Yld.add rfl rfl (by simp only [In]; omega)) ?_ | refine WL.y rfl (Yld.sub rfl rfl (by simp only [In]; omega)) ?_ | refine WL.y rfl (Yld.mul rfl rfl (by simp only [In]; omega)) ?_ | refine WL.y rfl (Yld.convB za rfl rfl rfl rfl) ?_ | refine WL.y rfl (Yld.conv za rfl rfl rfl (by simp only [In]; omega)) ?_ | refine WL.y rfl (Yld.quo rfl rfl (by omega) (by omega) (by simp only [In]; omega)) ?_ | refine WL.y rfl (Yld.rem rfl rfl (by omega) (by omega)) ?_ | refine WL.y rfl (Yld.shl rfl rfl (by omega)) ?_ | refine WL.y rfl (Yld.shr rfl rfl (by omega)) ?_ | refine WL.y rfl (Yld.pure za rfl) ?_ | refine WL.y rfl (Yld.fld zb rfl rfl rfl) ?_ | refine WL.y rfl (Yld.max2 rfl rfl) ?_ | refine WL.y rfl (Yld.min2 rfl rfl) ?_ | refine WL.y rfl (Yld.pickV rfl rfl rfl) ?_ | refine WL.gno rfl rfl rfl rfl ?_ | refine WL.gyes rfl rfl rfl rfl (Yld.add rfl rfl (by simp only [In]; omega)) ?_ | refine WL.gyes rfl rfl rfl rfl (Yld.sub rfl rfl (by simp only [In]; omega)) ?_ | refine WL.gyes rfl rfl rfl rfl (Yld.mul rfl rfl (by simp only [In]; omega)) ?_ | refine WL.gyes rfl rfl rfl rfl (Yld.convB za rfl rfl rfl rfl) ?_ | refine WL.gyes rfl rfl rfl rfl (Yld.conv za rfl rfl rfl (by simp only [In]; omega)) ?_ | refine WL.gyes rfl rfl rfl rfl (Yld.quo rfl rfl (by omega) (by omega) (by simp only [In]; omega)) ?_ | refine WL.gyes rfl rfl rfl rfl (Yld.rem rfl rfl (by omega) (by omega)) ?_ | refine WL.gyes rfl rfl rfl rfl (Yld.shl rfl rfl (by omega)) ?_ | refine WL.gyes rfl rfl rfl rfl (Yld.shr rfl rfl (by omega)) ?_ | refine WL.gyes rfl rfl rfl rfl (Yld.pure za rfl) ?_ | refine WL.gyes rfl rfl rfl rfl (Yld.fld zb rfl rfl rfl) ?_ | refine WL.gyes rfl rfl rfl rfl (Yld.max2 rfl rfl) ?_ | refine WL.gyes rfl rfl rfl rfl (Yld.min2 rfl rfl) ?_ | refine WL.gyes rfl rfl rfl rfl (Yld.pickV rfl rfl rfl) ?_)
   refine WC.midF (fun L' w'=>L'=[(0,.pointer (some ⟨gt,0,none⟩)),(1,.pointer (some ⟨s.id,0,none⟩)),(2,.int .i64 order),(6,.int .i64 (kk:Int)),(27,.int .i64 (s.fr.length:Int)),(28,.int .i64 (i:Int))]∧w5=w') ?_ (fun hQ=>?_)
   ·rintro _ _ ⟨rfl,rfl⟩
    refine WX.then_normal ?_
    refine WC.region ?_
    refine WL.y rfl (Yld.pure za rfl) ?_
    refine WL.y rfl (Yld.pure za rfl) ?_
    refine WL.y rfl (Yld.pure za rfl) ?_
    refine WL.y rfl (Yld.fa0 (o:=3) (by kernel_rfl) rfl) ?_
    refine WL.y rfl (Yld.bload za (hBx.g0 gr5) rfl rfl rfl) ?_
    refine WL.y rfl (Yld.pure za rfl) ?_
    refine WL.y rfl (Yld.iaddrW za (hRf.grown gr5) rfl rfl hfl.symm rfl (by omega) (by omega)) ?_
    rw [hq]
    refine WL.y rfl (Yld.to (v:=.pointer (some ⟨f.id,0,none⟩)) (Yld.iload vh0 za (hRf.grown gr5) rfl rfl hkf) hfv) ?_
    refine WL.y rfl (Yld.pure za rfl) ?_
    refine WL.call rfl rfl (ih f _ A5 c5 hs5 w5 (hdf f hfm) (.step hr hfm) hfn I5 (Nat.le_trans hle3.s hb1) (Nat.le_trans hle3.o hb2)) ?_
    rintro _ w6 ⟨rfl,A6,c6,hs6,I6⟩
    rw [←hstep] at I6
    repeat (first | refine WC.seq ?_ | refine WC.block ?_ | refine WC.region ?_ | refine WL.nil ?_ | refine WX.then_normal ?_ | refine WC.skip ?_ | refine WC.exit ?_ | refine WC.ret ?_ | refine WX.then_exit ?_ | refine WX.then_ret ?_ | refine WX.block_normal ?_ | refine WX.block_ret ?_ | refine WX.block_same ?_ | refine WX.block_other rfl ?_ | refine WC.label ?_ | refine WC.scope ?_ | refine WX.scope_normal ?_ | refine WX.scope_ret ?_ | refine WX.scope_exit ?_ | refine WL.y rfl (Yld.add rfl rfl (by simp only [In]; omega)) ?_ | refine WL.y rfl (Yld.sub rfl rfl (by simp only [In]; omega)) ?_ | refine WL.y rfl (Yld.mul rfl rfl (by simp only [In]; omega)) ?_ | refine WL.y rfl (Yld.convB za rfl rfl rfl rfl) ?_ | refine WL.y rfl (Yld.conv za rfl rfl rfl (by simp only [In]; omega)) ?_ | refine WL.y rfl (Yld.quo rfl rfl (by omega) (by omega) (by simp only [In]; omega)) ?_ | refine WL.y rfl (Yld.rem rfl rfl (by omega) (by omega)) ?_ | refine WL.y rfl (Yld.shl rfl rfl (by omega)) ?_ | refine WL.y rfl (Yld.shr rfl rfl (by omega)) ?_ | refine WL.y rfl (Yld.pure za rfl) ?_ | refine WL.y rfl (Yld.fld zb rfl rfl rfl) ?_ | refine WL.y rfl (Yld.max2 rfl rfl) ?_ | refine WL.y rfl (Yld.min2 rfl rfl) ?_ | refine WL.y rfl (Yld.pickV rfl rfl rfl) ?_ | refine WL.gno rfl rfl rfl rfl ?_ | refine WL.gyes rfl rfl rfl rfl (Yld.add rfl rfl (by simp only [In]; omega)) ?_ | refine WL.gyes rfl rfl rfl rfl (Yld.sub rfl rfl (by simp only [In]; omega)) ?_ | refine WL.gyes rfl rfl rfl rfl (Yld.mul rfl rfl (by simp only [In]; omega)) ?_ | refine WL.gyes rfl rfl rfl rfl (Yld.convB za rfl rfl rfl rfl) ?_ | refine WL.gyes rfl rfl rfl rfl (Yld.conv za rfl rfl rfl (by simp only [In]; omega)) ?_ | refine WL.gyes rfl rfl rfl rfl (Yld.quo rfl rfl (by omega) (by omega) (by simp only [In]; omega)) ?_ | refine WL.gyes rfl rfl rfl rfl (Yld.rem rfl rfl (by omega) (by omega)) ?_ | refine WL.gyes rfl rfl rfl rfl (Yld.shl rfl rfl (by omega)) ?_ | refine WL.gyes rfl rfl rfl rfl (Yld.shr rfl rfl (by omega)) ?_ | refine WL.gyes rfl rfl rfl rfl (Yld.pure za rfl) ?_ | refine WL.gyes rfl rfl rfl rfl (Yld.fld zb rfl rfl rfl) ?_ | refine WL.gyes rfl rfl rfl rfl (Yld.max2 rfl rfl) ?_ | refine WL.gyes rfl rfl rfl rfl (Yld.min2 rfl rfl) ?_ | refine WL.gyes rfl rfl rfl rfl (Yld.pickV rfl rfl rfl) ?_)
    exact WX.roundF _ ⟨i+1,A6,c6,hs6,rfl,rfl,I6,by omega⟩ (by repeat (first | exact Sub.nil | refine Sub.cons rfl ?_)) (by omega)
   ·refine WC.cond rfl (fun b4=>?_) (fun b4=>?_)
    ·have b4:=of_decide_eq_true b4
     rw [if_pos b4] at hkk
     have ek:((s.fr.length:Int) - 1 - (i:Int))=(kk:Int):=by omega
     refine WC.region ?_
     refine WL.y rfl (Yld.pure za rfl) ?_
     refine WL.y rfl (Yld.pure za rfl) ?_
     refine WL.y rfl (Yld.fa0 (o:=3) (by kernel_rfl) rfl) ?_
     refine WL.y rfl (Yld.bload za (hBx.g0 gr5) rfl rfl rfl) ?_
     refine WL.y rfl (Yld.pure za rfl) ?_
     refine WL.y rfl (Yld.sub rfl rfl (by simp only [In]; omega)) ?_
     refine WL.y rfl (Yld.pure za rfl) ?_
     refine WL.y rfl (Yld.sub rfl rfl (by simp only [In]; omega)) ?_
     rw [ek]
     refine WL.y rfl (Yld.pure za rfl) ?_
     refine WL.nil ?_
     exact WX.weaken (by repeat (first | exact Sub.nil | refine Sub.cons rfl ?_)) (hQ _ _ ⟨rfl,rfl⟩)
    ·have b4:=of_decide_eq_false b4
     rw [if_neg b4] at hkk
     subst hkk
     refine WC.skip ?_
     exact WX.weaken (by repeat (first | exact Sub.nil | refine Sub.cons rfl ?_)) (hQ _ _ ⟨rfl,rfl⟩)
  ·have b3:=of_decide_eq_false b3
   obtain rfl:i=s.fr.length:=by omega
   rw [←hll,List.take_length,←hmid] at I5
   refine WC.exit ?_
   refine WX.then_exit ?_
   refine WX.then_exit ?_
   refine WX.block_same (WX.then_normal ?_)
   repeat refine WC.seq ?_
   refine WC.region ?_
   refine WL.y rfl (Yld.pure za rfl) ?_
   refine WL.y rfl (Yld.pure za rfl) ?_
   refine WL.nil (WX.then_normal ?_)
   refine WC.cond rfl (fun b4=>?_) (fun b4=>?_)
   ·have b4:order≠1:=by simpa using b4
    have ep:postT order s (midT n order s (preT order s t))=ownT (if decide (order=3) then s.own.reverse else s.own) (midT n order s (preT order s t)):=by unfold postT; rw [if_neg b4]; simp
    rw [ep] at hb2 ⊢
    refine WC.region ?_
    refine WL.y rfl (Yld.pure za rfl) ?_
    refine WL.y rfl (Yld.pure za rfl) ?_
    refine WL.y rfl (Yld.pure za rfl) ?_
    refine WL.y rfl (Yld.pure za rfl) ?_
    refine WL.call rfl rfl (own_fn h0 hr hn (decide (order=3)) I5 hb2) ?_
    rintro _ w6 ⟨rfl,A6,c6,hs6,I6⟩
    repeat (first | refine WC.seq ?_ | refine WC.block ?_ | refine WC.region ?_ | refine WL.nil ?_ | refine WX.then_normal ?_ | refine WC.skip ?_ | refine WC.exit ?_ | refine WC.ret ?_ | refine WX.then_exit ?_ | refine WX.then_ret ?_ | refine WX.block_normal ?_ | refine WX.block_ret ?_ | refine WX.block_same ?_ | refine WX.block_other rfl ?_ | refine WC.label ?_ | refine WC.scope ?_ | refine WX.scope_normal ?_ | refine WX.scope_ret ?_ | refine WX.scope_exit ?_ | refine WL.y rfl (Yld.add rfl rfl (by simp only [In]; omega)) ?_ | refine WL.y rfl (Yld.sub rfl rfl (by simp only [In]; omega)) ?_ | refine WL.y rfl (Yld.mul rfl rfl (by simp only [In]; omega)) ?_ | refine WL.y rfl (Yld.convB za rfl rfl rfl rfl) ?_ | refine WL.y rfl (Yld.conv za rfl rfl rfl (by simp only [In]; omega)) ?_ | refine WL.y rfl (Yld.quo rfl rfl (by omega) (by omega) (by simp only [In]; omega)) ?_ | refine WL.y rfl (Yld.rem rfl rfl (by omega) (by omega)) ?_ | refine WL.y rfl (Yld.shl rfl rfl (by omega)) ?_ | refine WL.y rfl (Yld.shr rfl rfl (by omega)) ?_ | refine WL.y rfl (Yld.pure za rfl) ?_ | refine WL.y rfl (Yld.fld zb rfl rfl rfl) ?_ | refine WL.y rfl (Yld.max2 rfl rfl) ?_ | refine WL.y rfl (Yld.min2 rfl rfl) ?_ | refine WL.y rfl (Yld.pickV rfl rfl rfl) ?_ | refine WL.gno rfl rfl rfl rfl ?_ | refine WL.gyes rfl rfl rfl rfl (Yld.add rfl rfl (by simp only [In]; omega)) ?_ | refine WL.gyes rfl rfl rfl rfl (Yld.sub rfl rfl (by simp only [In]; omega)) ?_ | refine WL.gyes rfl rfl rfl rfl (Yld.mul rfl rfl (by simp only [In]; omega)) ?_ | refine WL.gyes rfl rfl rfl rfl (Yld.convB za rfl rfl rfl rfl) ?_ | refine WL.gyes rfl rfl rfl rfl (Yld.conv za rfl rfl rfl (by simp only [In]; omega)) ?_ | refine WL.gyes rfl rfl rfl rfl (Yld.quo rfl rfl (by omega) (by omega) (by simp only [In]; omega)) ?_ | refine WL.gyes rfl rfl rfl rfl (Yld.rem rfl rfl (by omega) (by omega)) ?_ | refine WL.gyes rfl rfl rfl rfl (Yld.shl rfl rfl (by omega)) ?_ | refine WL.gyes rfl rfl rfl rfl (Yld.shr rfl rfl (by omega)) ?_ | refine WL.gyes rfl rfl rfl rfl (Yld.pure za rfl) ?_ | refine WL.gyes rfl rfl rfl rfl (Yld.fld zb rfl rfl rfl) ?_ | refine WL.gyes rfl rfl rfl rfl (Yld.max2 rfl rfl) ?_ | refine WL.gyes rfl rfl rfl rfl (Yld.min2 rfl rfl) ?_ | refine WL.gyes rfl rfl rfl rfl (Yld.pickV rfl rfl rfl) ?_)
    exact WX.end0 rfl ⟨rfl,A6,c6,hs6,I6⟩
   ·have b4:order=1:=by simpa using b4
    have ep:postT order s (midT n order s (preT order s t))=midT n order s (preT order s t):=by unfold postT; rw [if_pos b4]
    rw [ep]
    repeat (first | refine WC.seq ?_ | refine WC.block ?_ | refine WC.region ?_ | refine WL.nil ?_ | refine WX.then_normal ?_ | refine WC.skip ?_ | refine WC.exit ?_ | refine WC.ret ?_ | refine WX.then_exit ?_ | refine WX.then_ret ?_ | refine WX.block_normal ?_ | refine WX.block_ret ?_ | refine WX.block_same ?_ | refine WX.block_other rfl ?_ | refine WC.label ?_ | refine WC.scope ?_ | refine WX.scope_normal ?_ | refine WX.scope_ret ?_ | refine WX.scope_exit ?_ | refine WL.y rfl (Yld.add rfl rfl (by simp only [In]; omega)) ?_ | refine WL.y rfl (Yld.sub rfl rfl (by simp only [In]; omega)) ?_ | refine WL.y rfl (Yld.mul rfl rfl (by simp only [In]; omega)) ?_ | refine WL.y rfl (Yld.convB za rfl rfl rfl rfl) ?_ | refine WL.y rfl (Yld.conv za rfl rfl rfl (by simp only [In]; omega)) ?_ | refine WL.y rfl (Yld.quo rfl rfl (by omega) (by omega) (by simp only [In]; omega)) ?_ | refine WL.y rfl (Yld.rem rfl rfl (by omega) (by omega)) ?_ | refine WL.y rfl (Yld.shl rfl rfl (by omega)) ?_ | refine WL.y rfl (Yld.shr rfl rfl (by omega)) ?_ | refine WL.y rfl (Yld.pure za rfl) ?_ | refine WL.y rfl (Yld.fld zb rfl rfl rfl) ?_ | refine WL.y rfl (Yld.max2 rfl rfl) ?_ | refine WL.y rfl (Yld.min2 rfl rfl) ?_ | refine WL.y rfl (Yld.pickV rfl rfl rfl) ?_ | refine WL.gno rfl rfl rfl rfl ?_ | refine WL.gyes rfl rfl rfl rfl (Yld.add rfl rfl (by simp only [In]; omega)) ?_ | refine WL.gyes rfl rfl rfl rfl (Yld.sub rfl rfl (by simp only [In]; omega)) ?_ | refine WL.gyes rfl rfl rfl rfl (Yld.mul rfl rfl (by simp only [In]; omega)) ?_ | refine WL.gyes rfl rfl rfl rfl (Yld.convB za rfl rfl rfl rfl) ?_ | refine WL.gyes rfl rfl rfl rfl (Yld.conv za rfl rfl rfl (by simp only [In]; omega)) ?_ | refine WL.gyes rfl rfl rfl rfl (Yld.quo rfl rfl (by omega) (by omega) (by simp only [In]; omega)) ?_ | refine WL.gyes rfl rfl rfl rfl (Yld.rem rfl rfl (by omega) (by omega)) ?_ | refine WL.gyes rfl rfl rfl rfl (Yld.shl rfl rfl (by omega)) ?_ | refine WL.gyes rfl rfl rfl rfl (Yld.shr rfl rfl (by omega)) ?_ | refine WL.gyes rfl rfl rfl rfl (Yld.pure za rfl) ?_ | refine WL.gyes rfl rfl rfl rfl (Yld.fld zb rfl rfl rfl) ?_ | refine WL.gyes rfl rfl rfl rfl (Yld.max2 rfl rfl) ?_ | refine WL.gyes rfl rfl rfl rfl (Yld.min2 rfl rfl) ?_ | refine WL.gyes rfl rfl rfl rfl (Yld.pickV rfl rfl rfl) ?_)
    exact WX.end0 rfl ⟨rfl,A5,c5,hs5,I5⟩
theorem SRn.dep {w:World} {F:Nat→Prop}:∀ {n:Nat} {v:Value} {s:PS},SRn n w F v s→s≠.nil→dep n s
 | n,v,.nil,_,hn=>absurd rfl hn
 | 0,v,.mk ..,h,_=>h.elim
 | n+1,v,.mk ..,h,_=>by
  obtain ⟨h1,h2,Ao,co,Ak,ck,Af,cf,ho,hf,hB,o1,o2,o3,o4,k1,k2,f1,f2,f3,f4⟩:=h
  intro f hf
  obtain ⟨j,hj,rfl⟩:=List.getElem_of_mem hf
  have:=f4 j _ _ (List.getElem?_eq_getElem (by rw [f2]; exact hj)) (List.getElem?_eq_getElem hj)
  exact SRn.dep this.2 this.1
set_option maxHeartbeats 4000000 in
theorem W_pdeps_Set_All {S:List Nat} {w:World} {v_s:OV} {F_s:Nat→Prop} {s:PS} {K:List PV→Er→Prop} (hG:GOK S w) (hS7:7∈S) (hs:RelD deS w [(v_s,F_s)] [s]) (H:M_pdeps_Set_All s K):Fn Tryz.prog 16 ⟨[v_s.1]⟩ w
  (fun v w'=>w.grownBy w' none∧∃ (r0:List PV),∃ (A_r0:Option Addr),∃ (c_r0:Nat),∃ (hs_r0:List VH),∃ (v_r1:Value),∃ (r1:Er),v=.tuple #[.slice A_r0 r0.length c_r0,v_r1]∧Own vv w' w.heap.size 32 A_r0 c_r0 hs_r0∧RelD deV w' hs_r0 r0∧(∀ p:Option Nat,Lt p w.heap.size→DnD deS [(v_s,F_s)] [s] p→DnD deV hs_r0 r0 p)∧DnD deV hs_r0 r0 (blk A_r0)∧ErrR S w' v_r1 r1∧K r0 r1):=by
 obtain ⟨hne,hK⟩:=H
 have hv:v_s.1=.pointer (some ⟨s.id,0,none⟩):=by
  obtain ⟨⟨n,h⟩,_⟩:=hs.one
  rw [h.ptr]
  cases s with
  | nil=>exact absurd rfl hne
  | mk=>rfl
 have hF:=hs.one.2
 obtain ⟨n,hdp⟩:∃ n,dep n s:=by
  obtain ⟨⟨n,h⟩,_⟩:=hs.one
  exact ⟨n,h.dep hne⟩
 obtain ⟨hb1,hb2,hK⟩:=hK n hdp
 obtain ⟨Ao,co,Ak,ck,Af,cf,ho,hf,hBx,_⟩:=SR.out2 (relS hs .refl hne) hne
 rw [hv]
 refine Fn.enter (by kernel_rfl) Tryz.func16 rfl Tryz.ntmps16 rfl ?_
 repeat (first | refine WC.seq ?_ | refine WC.block ?_ | refine WC.region ?_ | refine WL.nil ?_ | refine WX.then_normal ?_ | refine WC.skip ?_ | refine WC.exit ?_ | refine WC.ret ?_ | refine WX.then_exit ?_ | refine WX.then_ret ?_ | refine WX.block_normal ?_ | refine WX.block_ret ?_ | refine WX.block_same ?_ | refine WX.block_other rfl ?_ | refine WC.label ?_ | refine WC.scope ?_ | refine WX.scope_normal ?_ | refine WX.scope_ret ?_ | refine WX.scope_exit ?_ | refine WL.y rfl (Yld.add rfl rfl (by simp only [In]; omega)) ?_ | refine WL.y rfl (Yld.sub rfl rfl (by simp only [In]; omega)) ?_ | refine WL.y rfl (Yld.mul rfl rfl (by simp only [In]; omega)) ?_ | refine WL.y rfl (Yld.convB za rfl rfl rfl rfl) ?_ | refine WL.y rfl (Yld.conv za rfl rfl rfl (by simp only [In]; omega)) ?_ | refine WL.y rfl (Yld.quo rfl rfl (by omega) (by omega) (by simp only [In]; omega)) ?_ | refine WL.y rfl (Yld.rem rfl rfl (by omega) (by omega)) ?_ | refine WL.y rfl (Yld.shl rfl rfl (by omega)) ?_ | refine WL.y rfl (Yld.shr rfl rfl (by omega)) ?_ | refine WL.y rfl (Yld.pure za rfl) ?_ | refine WL.y rfl (Yld.fld zb rfl rfl rfl) ?_ | refine WL.y rfl (Yld.max2 rfl rfl) ?_ | refine WL.y rfl (Yld.min2 rfl rfl) ?_ | refine WL.y rfl (Yld.pickV rfl rfl rfl) ?_ | refine WL.gno rfl rfl rfl rfl ?_ | refine WL.gyes rfl rfl rfl rfl (Yld.add rfl rfl (by simp only [In]; omega)) ?_ | refine WL.gyes rfl rfl rfl rfl (Yld.sub rfl rfl (by simp only [In]; omega)) ?_ | refine WL.gyes rfl rfl rfl rfl (Yld.mul rfl rfl (by simp only [In]; omega)) ?_ | refine WL.gyes rfl rfl rfl rfl (Yld.convB za rfl rfl rfl rfl) ?_ | refine WL.gyes rfl rfl rfl rfl (Yld.conv za rfl rfl rfl (by simp only [In]; omega)) ?_ | refine WL.gyes rfl rfl rfl rfl (Yld.quo rfl rfl (by omega) (by omega) (by simp only [In]; omega)) ?_ | refine WL.gyes rfl rfl rfl rfl (Yld.rem rfl rfl (by omega) (by omega)) ?_ | refine WL.gyes rfl rfl rfl rfl (Yld.shl rfl rfl (by omega)) ?_ | refine WL.gyes rfl rfl rfl rfl (Yld.shr rfl rfl (by omega)) ?_ | refine WL.gyes rfl rfl rfl rfl (Yld.pure za rfl) ?_ | refine WL.gyes rfl rfl rfl rfl (Yld.fld zb rfl rfl rfl) ?_ | refine WL.gyes rfl rfl rfl rfl (Yld.max2 rfl rfl) ?_ | refine WL.gyes rfl rfl rfl rfl (Yld.min2 rfl rfl) ?_ | refine WL.gyes rfl rfl rfl rfl (Yld.pickV rfl rfl rfl) ?_)
 refine WL.putw zo rfl (Eff.makeMap vp (okR s) vB) ?_
 rintro _ w1 ⟨rfl,hM1,hg1⟩
 refine WL.putw zo rfl (Eff.makeMap vs okS vB) ?_
 rintro _ w2 ⟨rfl,hM2,hg2⟩
 obtain ⟨gk,hgk⟩:∃ g,g=w1.heap.size:=⟨_,rfl⟩
 rw [←hgk] at hM2
 rw [←hgk]
 refine WL.y rfl (Yld.struct (us:=[.map (some w.heap.size),.map (some gk),.slice none 0 0]) (vs:=[(0,.map (some w.heap.size)),(1,.map (some gk))]) zero147 places147 rfl rfl) ?_
 refine WL.box (us:=[.map (some w.heap.size),.map (some gk),.slice none 0 0]) rfl rfl rfl (fun gt w3 hB hg3 hl3=>?_)
 have hM1':=(hM1.g0 hg2).g0 hg3
 have hM2':=hM2.g0 hg3
 have q1:=hM1.lt
 have q2:=hM2.lt
 have q3:=hg1.size
 have q4:=hg2.size
 have gr3:=zd (zd hg1 hg2) hg3
 have I0:TI w F_s s gt w.heap.size gk w3 ts0 none 0 []:=⟨gr3,hB,Own.nil _ _ _ _,RelD.nil,fun h hh=>by simp at hh,hM1',hM2',by omega,Nat.le_refl _,by omega,by omega,by omega,by omega,by simp [blk],by simp [blk],by simp [blk],rfl⟩
 refine WL.y rfl (Yld.pure za rfl) ?_
 refine WL.nil ?_
 repeat (first | refine WL.y rfl (Yld.bload za (hBx.g0 gr3) rfl rfl rfl) ?_ | refine WL.y rfl (Yld.fa0 (o:=0) (by kernel_rfl) rfl) ?_ | refine WC.seq ?_ | refine WC.block ?_ | refine WC.region ?_ | refine WL.nil ?_ | refine WX.then_normal ?_ | refine WC.skip ?_ | refine WC.exit ?_ | refine WC.ret ?_ | refine WX.then_exit ?_ | refine WX.then_ret ?_ | refine WX.block_normal ?_ | refine WX.block_ret ?_ | refine WX.block_same ?_ | refine WX.block_other rfl ?_ | refine WC.label ?_ | refine WC.scope ?_ | refine WX.scope_normal ?_ | refine WX.scope_ret ?_ | refine WX.scope_exit ?_ | refine WL.y rfl (Yld.add rfl rfl (by simp only [In]; omega)) ?_ | refine WL.y rfl (Yld.sub rfl rfl (by simp only [In]; omega)) ?_ | refine WL.y rfl (Yld.mul rfl rfl (by simp only [In]; omega)) ?_ | refine WL.y rfl (Yld.convB za rfl rfl rfl rfl) ?_ | refine WL.y rfl (Yld.conv za rfl rfl rfl (by simp only [In]; omega)) ?_ | refine WL.y rfl (Yld.quo rfl rfl (by omega) (by omega) (by simp only [In]; omega)) ?_ | refine WL.y rfl (Yld.rem rfl rfl (by omega) (by omega)) ?_ | refine WL.y rfl (Yld.shl rfl rfl (by omega)) ?_ | refine WL.y rfl (Yld.shr rfl rfl (by omega)) ?_ | refine WL.y rfl (Yld.pure za rfl) ?_ | refine WL.y rfl (Yld.fld zb rfl rfl rfl) ?_ | refine WL.y rfl (Yld.max2 rfl rfl) ?_ | refine WL.y rfl (Yld.min2 rfl rfl) ?_ | refine WL.y rfl (Yld.pickV rfl rfl rfl) ?_ | refine WL.gno rfl rfl rfl rfl ?_ | refine WL.gyes rfl rfl rfl rfl (Yld.add rfl rfl (by simp only [In]; omega)) ?_ | refine WL.gyes rfl rfl rfl rfl (Yld.sub rfl rfl (by simp only [In]; omega)) ?_ | refine WL.gyes rfl rfl rfl rfl (Yld.mul rfl rfl (by simp only [In]; omega)) ?_ | refine WL.gyes rfl rfl rfl rfl (Yld.convB za rfl rfl rfl rfl) ?_ | refine WL.gyes rfl rfl rfl rfl (Yld.conv za rfl rfl rfl (by simp only [In]; omega)) ?_ | refine WL.gyes rfl rfl rfl rfl (Yld.quo rfl rfl (by omega) (by omega) (by simp only [In]; omega)) ?_ | refine WL.gyes rfl rfl rfl rfl (Yld.rem rfl rfl (by omega) (by omega)) ?_ | refine WL.gyes rfl rfl rfl rfl (Yld.shl rfl rfl (by omega)) ?_ | refine WL.gyes rfl rfl rfl rfl (Yld.shr rfl rfl (by omega)) ?_ | refine WL.gyes rfl rfl rfl rfl (Yld.pure za rfl) ?_ | refine WL.gyes rfl rfl rfl rfl (Yld.fld zb rfl rfl rfl) ?_ | refine WL.gyes rfl rfl rfl rfl (Yld.max2 rfl rfl) ?_ | refine WL.gyes rfl rfl rfl rfl (Yld.min2 rfl rfl) ?_ | refine WL.gyes rfl rfl rfl rfl (Yld.pickV rfl rfl rfl) ?_)
 refine WL.call rfl rfl (set_fn hs s.order n s ts0 none 0 [] w3 hdp .refl hne I0 hb1 hb2) ?_
 rintro _ w4 ⟨rfl,A,c,hd,I⟩
 have hbx:=I.box
 repeat (first | refine WL.y rfl (Yld.bload za hbx rfl rfl rfl) ?_ | refine WC.seq ?_ | refine WC.block ?_ | refine WC.region ?_ | refine WL.nil ?_ | refine WX.then_normal ?_ | refine WC.skip ?_ | refine WC.exit ?_ | refine WC.ret ?_ | refine WX.then_exit ?_ | refine WX.then_ret ?_ | refine WX.block_normal ?_ | refine WX.block_ret ?_ | refine WX.block_same ?_ | refine WX.block_other rfl ?_ | refine WC.label ?_ | refine WC.scope ?_ | refine WX.scope_normal ?_ | refine WX.scope_ret ?_ | refine WX.scope_exit ?_ | refine WL.y rfl (Yld.add rfl rfl (by simp only [In]; omega)) ?_ | refine WL.y rfl (Yld.sub rfl rfl (by simp only [In]; omega)) ?_ | refine WL.y rfl (Yld.mul rfl rfl (by simp only [In]; omega)) ?_ | refine WL.y rfl (Yld.convB za rfl rfl rfl rfl) ?_ | refine WL.y rfl (Yld.conv za rfl rfl rfl (by simp only [In]; omega)) ?_ | refine WL.y rfl (Yld.quo rfl rfl (by omega) (by omega) (by simp only [In]; omega)) ?_ | refine WL.y rfl (Yld.rem rfl rfl (by omega) (by omega)) ?_ | refine WL.y rfl (Yld.shl rfl rfl (by omega)) ?_ | refine WL.y rfl (Yld.shr rfl rfl (by omega)) ?_ | refine WL.y rfl (Yld.pure za rfl) ?_ | refine WL.y rfl (Yld.fld zb rfl rfl rfl) ?_ | refine WL.y rfl (Yld.max2 rfl rfl) ?_ | refine WL.y rfl (Yld.min2 rfl rfl) ?_ | refine WL.y rfl (Yld.pickV rfl rfl rfl) ?_ | refine WL.gno rfl rfl rfl rfl ?_ | refine WL.gyes rfl rfl rfl rfl (Yld.add rfl rfl (by simp only [In]; omega)) ?_ | refine WL.gyes rfl rfl rfl rfl (Yld.sub rfl rfl (by simp only [In]; omega)) ?_ | refine WL.gyes rfl rfl rfl rfl (Yld.mul rfl rfl (by simp only [In]; omega)) ?_ | refine WL.gyes rfl rfl rfl rfl (Yld.convB za rfl rfl rfl rfl) ?_ | refine WL.gyes rfl rfl rfl rfl (Yld.conv za rfl rfl rfl (by simp only [In]; omega)) ?_ | refine WL.gyes rfl rfl rfl rfl (Yld.quo rfl rfl (by omega) (by omega) (by simp only [In]; omega)) ?_ | refine WL.gyes rfl rfl rfl rfl (Yld.rem rfl rfl (by omega) (by omega)) ?_ | refine WL.gyes rfl rfl rfl rfl (Yld.shl rfl rfl (by omega)) ?_ | refine WL.gyes rfl rfl rfl rfl (Yld.shr rfl rfl (by omega)) ?_ | refine WL.gyes rfl rfl rfl rfl (Yld.pure za rfl) ?_ | refine WL.gyes rfl rfl rfl rfl (Yld.fld zb rfl rfl rfl) ?_ | refine WL.gyes rfl rfl rfl rfl (Yld.max2 rfl rfl) ?_ | refine WL.gyes rfl rfl rfl rfl (Yld.min2 rfl rfl) ?_ | refine WL.gyes rfl rfl rfl rfl (Yld.pickV rfl rfl rfl) ?_)
 refine WC.cond rfl (fun b1=>?_) (fun b1=>?_)
 ·exact absurd (of_decide_eq_true b1) (by omega)
 have dnp:∀ p,DnD deS [(v_s,F_s)] [s] p→∀ (hs':List VH) (xs:List PV),(∀ h∈hs',h.2=F_s)→DnD deV hs' xs p:=fun p hp hs' xs hh i h x hi hx g e hg=>by
  rw [hh h (List.mem_of_getElem? hi)] at hg
  exact hp.one g e hg
 have dnA:∀ A,(∀ g,blk A=some g→w.heap.size≤g)→∀ (hs':List VH) (xs:List PV),(∀ h∈hs',h.2=F_s)→DnD deV hs' xs (blk A):=fun A hA hs' xs hh i h x hi hx g e hg=>by
  rw [hh h (List.mem_of_getElem? hi)] at hg
  have:=hF g hg
  have:=hA g e
  omega
 have gr4:=I.gr
 repeat (first | refine WL.y rfl (Yld.bload za (hBx.g0 gr4) rfl rfl rfl) ?_ | refine WL.y rfl (Yld.fa0 (o:=0) (by kernel_rfl) rfl) ?_ | refine WC.seq ?_ | refine WC.block ?_ | refine WC.region ?_ | refine WL.nil ?_ | refine WX.then_normal ?_ | refine WC.skip ?_ | refine WC.exit ?_ | refine WC.ret ?_ | refine WX.then_exit ?_ | refine WX.then_ret ?_ | refine WX.block_normal ?_ | refine WX.block_ret ?_ | refine WX.block_same ?_ | refine WX.block_other rfl ?_ | refine WC.label ?_ | refine WC.scope ?_ | refine WX.scope_normal ?_ | refine WX.scope_ret ?_ | refine WX.scope_exit ?_ | refine WL.y rfl (Yld.add rfl rfl (by simp only [In]; omega)) ?_ | refine WL.y rfl (Yld.sub rfl rfl (by simp only [In]; omega)) ?_ | refine WL.y rfl (Yld.mul rfl rfl (by simp only [In]; omega)) ?_ | refine WL.y rfl (Yld.convB za rfl rfl rfl rfl) ?_ | refine WL.y rfl (Yld.conv za rfl rfl rfl (by simp only [In]; omega)) ?_ | refine WL.y rfl (Yld.quo rfl rfl (by omega) (by omega) (by simp only [In]; omega)) ?_ | refine WL.y rfl (Yld.rem rfl rfl (by omega) (by omega)) ?_ | refine WL.y rfl (Yld.shl rfl rfl (by omega)) ?_ | refine WL.y rfl (Yld.shr rfl rfl (by omega)) ?_ | refine WL.y rfl (Yld.pure za rfl) ?_ | refine WL.y rfl (Yld.fld zb rfl rfl rfl) ?_ | refine WL.y rfl (Yld.max2 rfl rfl) ?_ | refine WL.y rfl (Yld.min2 rfl rfl) ?_ | refine WL.y rfl (Yld.pickV rfl rfl rfl) ?_ | refine WL.gno rfl rfl rfl rfl ?_ | refine WL.gyes rfl rfl rfl rfl (Yld.add rfl rfl (by simp only [In]; omega)) ?_ | refine WL.gyes rfl rfl rfl rfl (Yld.sub rfl rfl (by simp only [In]; omega)) ?_ | refine WL.gyes rfl rfl rfl rfl (Yld.mul rfl rfl (by simp only [In]; omega)) ?_ | refine WL.gyes rfl rfl rfl rfl (Yld.convB za rfl rfl rfl rfl) ?_ | refine WL.gyes rfl rfl rfl rfl (Yld.conv za rfl rfl rfl (by simp only [In]; omega)) ?_ | refine WL.gyes rfl rfl rfl rfl (Yld.quo rfl rfl (by omega) (by omega) (by simp only [In]; omega)) ?_ | refine WL.gyes rfl rfl rfl rfl (Yld.rem rfl rfl (by omega) (by omega)) ?_ | refine WL.gyes rfl rfl rfl rfl (Yld.shl rfl rfl (by omega)) ?_ | refine WL.gyes rfl rfl rfl rfl (Yld.shr rfl rfl (by omega)) ?_ | refine WL.gyes rfl rfl rfl rfl (Yld.pure za rfl) ?_ | refine WL.gyes rfl rfl rfl rfl (Yld.fld zb rfl rfl rfl) ?_ | refine WL.gyes rfl rfl rfl rfl (Yld.max2 rfl rfl) ?_ | refine WL.gyes rfl rfl rfl rfl (Yld.min2 rfl rfl) ?_ | refine WL.gyes rfl rfl rfl rfl (Yld.pickV rfl rfl rfl) ?_)
 refine WC.cond rfl (fun b2=>?_) (fun b2=>?_)
 ·have b2:=of_decide_eq_true b2
  have ea:allN n s=(zH n s.order s ts0).out.reverse:=by unfold allN; rw [if_pos b2]
  rw [ea] at hK
  have hlen:=I.rel.1
  repeat (first | refine WL.y rfl (Yld.bload za hbx rfl rfl rfl) ?_ | refine WC.seq ?_ | refine WC.block ?_ | refine WC.region ?_ | refine WL.nil ?_ | refine WX.then_normal ?_ | refine WC.skip ?_ | refine WC.exit ?_ | refine WC.ret ?_ | refine WX.then_exit ?_ | refine WX.then_ret ?_ | refine WX.block_normal ?_ | refine WX.block_ret ?_ | refine WX.block_same ?_ | refine WX.block_other rfl ?_ | refine WC.label ?_ | refine WC.scope ?_ | refine WX.scope_normal ?_ | refine WX.scope_ret ?_ | refine WX.scope_exit ?_ | refine WL.y rfl (Yld.add rfl rfl (by simp only [In]; omega)) ?_ | refine WL.y rfl (Yld.sub rfl rfl (by simp only [In]; omega)) ?_ | refine WL.y rfl (Yld.mul rfl rfl (by simp only [In]; omega)) ?_ | refine WL.y rfl (Yld.convB za rfl rfl rfl rfl) ?_ | refine WL.y rfl (Yld.conv za rfl rfl rfl (by simp only [In]; omega)) ?_ | refine WL.y rfl (Yld.quo rfl rfl (by omega) (by omega) (by simp only [In]; omega)) ?_ | refine WL.y rfl (Yld.rem rfl rfl (by omega) (by omega)) ?_ | refine WL.y rfl (Yld.shl rfl rfl (by omega)) ?_ | refine WL.y rfl (Yld.shr rfl rfl (by omega)) ?_ | refine WL.y rfl (Yld.pure za rfl) ?_ | refine WL.y rfl (Yld.fld zb rfl rfl rfl) ?_ | refine WL.y rfl (Yld.max2 rfl rfl) ?_ | refine WL.y rfl (Yld.min2 rfl rfl) ?_ | refine WL.y rfl (Yld.pickV rfl rfl rfl) ?_ | refine WL.gno rfl rfl rfl rfl ?_ | refine WL.gyes rfl rfl rfl rfl (Yld.add rfl rfl (by simp only [In]; omega)) ?_ | refine WL.gyes rfl rfl rfl rfl (Yld.sub rfl rfl (by simp only [In]; omega)) ?_ | refine WL.gyes rfl rfl rfl rfl (Yld.mul rfl rfl (by simp only [In]; omega)) ?_ | refine WL.gyes rfl rfl rfl rfl (Yld.convB za rfl rfl rfl rfl) ?_ | refine WL.gyes rfl rfl rfl rfl (Yld.conv za rfl rfl rfl (by simp only [In]; omega)) ?_ | refine WL.gyes rfl rfl rfl rfl (Yld.quo rfl rfl (by omega) (by omega) (by simp only [In]; omega)) ?_ | refine WL.gyes rfl rfl rfl rfl (Yld.rem rfl rfl (by omega) (by omega)) ?_ | refine WL.gyes rfl rfl rfl rfl (Yld.shl rfl rfl (by omega)) ?_ | refine WL.gyes rfl rfl rfl rfl (Yld.shr rfl rfl (by omega)) ?_ | refine WL.gyes rfl rfl rfl rfl (Yld.pure za rfl) ?_ | refine WL.gyes rfl rfl rfl rfl (Yld.fld zb rfl rfl rfl) ?_ | refine WL.gyes rfl rfl rfl rfl (Yld.max2 rfl rfl) ?_ | refine WL.gyes rfl rfl rfl rfl (Yld.min2 rfl rfl) ?_ | refine WL.gyes rfl rfl rfl rfl (Yld.pickV rfl rfl rfl) ?_)
  have hrev:=reverse_fnV A c w.heap.size hd w4 I.own
  rw [hlen] at hrev
  refine WL.call rfl rfl hrev ?_
  rintro _ w5 ⟨rfl,hO5,hg5⟩
  have gr5:w.grownBy w5 none:=zk gr4 hg5 I.own.ge'
  have hb5:=hbx.go hg5 (dj_l I.d4).symm
  repeat (first | refine WL.y rfl (Yld.bload za hb5 rfl rfl rfl) ?_ | refine WC.seq ?_ | refine WC.block ?_ | refine WC.region ?_ | refine WL.nil ?_ | refine WX.then_normal ?_ | refine WC.skip ?_ | refine WC.exit ?_ | refine WC.ret ?_ | refine WX.then_exit ?_ | refine WX.then_ret ?_ | refine WX.block_normal ?_ | refine WX.block_ret ?_ | refine WX.block_same ?_ | refine WX.block_other rfl ?_ | refine WC.label ?_ | refine WC.scope ?_ | refine WX.scope_normal ?_ | refine WX.scope_ret ?_ | refine WX.scope_exit ?_ | refine WL.y rfl (Yld.add rfl rfl (by simp only [In]; omega)) ?_ | refine WL.y rfl (Yld.sub rfl rfl (by simp only [In]; omega)) ?_ | refine WL.y rfl (Yld.mul rfl rfl (by simp only [In]; omega)) ?_ | refine WL.y rfl (Yld.convB za rfl rfl rfl rfl) ?_ | refine WL.y rfl (Yld.conv za rfl rfl rfl (by simp only [In]; omega)) ?_ | refine WL.y rfl (Yld.quo rfl rfl (by omega) (by omega) (by simp only [In]; omega)) ?_ | refine WL.y rfl (Yld.rem rfl rfl (by omega) (by omega)) ?_ | refine WL.y rfl (Yld.shl rfl rfl (by omega)) ?_ | refine WL.y rfl (Yld.shr rfl rfl (by omega)) ?_ | refine WL.y rfl (Yld.pure za rfl) ?_ | refine WL.y rfl (Yld.fld zb rfl rfl rfl) ?_ | refine WL.y rfl (Yld.max2 rfl rfl) ?_ | refine WL.y rfl (Yld.min2 rfl rfl) ?_ | refine WL.y rfl (Yld.pickV rfl rfl rfl) ?_ | refine WL.gno rfl rfl rfl rfl ?_ | refine WL.gyes rfl rfl rfl rfl (Yld.add rfl rfl (by simp only [In]; omega)) ?_ | refine WL.gyes rfl rfl rfl rfl (Yld.sub rfl rfl (by simp only [In]; omega)) ?_ | refine WL.gyes rfl rfl rfl rfl (Yld.mul rfl rfl (by simp only [In]; omega)) ?_ | refine WL.gyes rfl rfl rfl rfl (Yld.convB za rfl rfl rfl rfl) ?_ | refine WL.gyes rfl rfl rfl rfl (Yld.conv za rfl rfl rfl (by simp only [In]; omega)) ?_ | refine WL.gyes rfl rfl rfl rfl (Yld.quo rfl rfl (by omega) (by omega) (by simp only [In]; omega)) ?_ | refine WL.gyes rfl rfl rfl rfl (Yld.rem rfl rfl (by omega) (by omega)) ?_ | refine WL.gyes rfl rfl rfl rfl (Yld.shl rfl rfl (by omega)) ?_ | refine WL.gyes rfl rfl rfl rfl (Yld.shr rfl rfl (by omega)) ?_ | refine WL.gyes rfl rfl rfl rfl (Yld.pure za rfl) ?_ | refine WL.gyes rfl rfl rfl rfl (Yld.fld zb rfl rfl rfl) ?_ | refine WL.gyes rfl rfl rfl rfl (Yld.max2 rfl rfl) ?_ | refine WL.gyes rfl rfl rfl rfl (Yld.min2 rfl rfl) ?_ | refine WL.gyes rfl rfl rfl rfl (Yld.pickV rfl rfl rfl) ?_)
  have hrel:RelD deV w hd.reverse (zH n s.order s ts0).out.reverse:=⟨by simp [hlen],fun i h x hh hx=>by
   have hi:=(List.getElem?_eq_some_iff.1 hh).1
   rw [List.length_reverse] at hi
   rw [List.getElem?_reverse (by omega)] at hh
   rw [List.getElem?_reverse (by omega),←hlen] at hx
   exact I.rel.2 _ h x hh hx⟩
  refine WX.ret2 rfl rfl rfl ⟨gr5,(zH n s.order s ts0).out.reverse,A,c,hd.reverse,.nilIface,.ok,by rw [List.length_reverse],hO5,hrel.grown gr5,fun p hp hq=>dnp p hq _ _ fun h hh=>I.hd h (by simpa using hh),dnA A I.own.ge' _ _ fun h hh=>I.hd h (by simpa using hh),rfl,hK⟩
 ·have b2:=of_decide_eq_false b2
  have ea:allN n s=(zH n s.order s ts0).out:=by unfold allN; rw [if_neg b2]
  rw [ea] at hK
  repeat (first | refine WL.y rfl (Yld.bload za hbx rfl rfl rfl) ?_ | refine WC.seq ?_ | refine WC.block ?_ | refine WC.region ?_ | refine WL.nil ?_ | refine WX.then_normal ?_ | refine WC.skip ?_ | refine WC.exit ?_ | refine WC.ret ?_ | refine WX.then_exit ?_ | refine WX.then_ret ?_ | refine WX.block_normal ?_ | refine WX.block_ret ?_ | refine WX.block_same ?_ | refine WX.block_other rfl ?_ | refine WC.label ?_ | refine WC.scope ?_ | refine WX.scope_normal ?_ | refine WX.scope_ret ?_ | refine WX.scope_exit ?_ | refine WL.y rfl (Yld.add rfl rfl (by simp only [In]; omega)) ?_ | refine WL.y rfl (Yld.sub rfl rfl (by simp only [In]; omega)) ?_ | refine WL.y rfl (Yld.mul rfl rfl (by simp only [In]; omega)) ?_ | refine WL.y rfl (Yld.convB za rfl rfl rfl rfl) ?_ | refine WL.y rfl (Yld.conv za rfl rfl rfl (by simp only [In]; omega)) ?_ | refine WL.y rfl (Yld.quo rfl rfl (by omega) (by omega) (by simp only [In]; omega)) ?_ | refine WL.y rfl (Yld.rem rfl rfl (by omega) (by omega)) ?_ | refine WL.y rfl (Yld.shl rfl rfl (by omega)) ?_ | refine WL.y rfl (Yld.shr rfl rfl (by omega)) ?_ | refine WL.y rfl (Yld.pure za rfl) ?_ | refine WL.y rfl (Yld.fld zb rfl rfl rfl) ?_ | refine WL.y rfl (Yld.max2 rfl rfl) ?_ | refine WL.y rfl (Yld.min2 rfl rfl) ?_ | refine WL.y rfl (Yld.pickV rfl rfl rfl) ?_ | refine WL.gno rfl rfl rfl rfl ?_ | refine WL.gyes rfl rfl rfl rfl (Yld.add rfl rfl (by simp only [In]; omega)) ?_ | refine WL.gyes rfl rfl rfl rfl (Yld.sub rfl rfl (by simp only [In]; omega)) ?_ | refine WL.gyes rfl rfl rfl rfl (Yld.mul rfl rfl (by simp only [In]; omega)) ?_ | refine WL.gyes rfl rfl rfl rfl (Yld.convB za rfl rfl rfl rfl) ?_ | refine WL.gyes rfl rfl rfl rfl (Yld.conv za rfl rfl rfl (by simp only [In]; omega)) ?_ | refine WL.gyes rfl rfl rfl rfl (Yld.quo rfl rfl (by omega) (by omega) (by simp only [In]; omega)) ?_ | refine WL.gyes rfl rfl rfl rfl (Yld.rem rfl rfl (by omega) (by omega)) ?_ | refine WL.gyes rfl rfl rfl rfl (Yld.shl rfl rfl (by omega)) ?_ | refine WL.gyes rfl rfl rfl rfl (Yld.shr rfl rfl (by omega)) ?_ | refine WL.gyes rfl rfl rfl rfl (Yld.pure za rfl) ?_ | refine WL.gyes rfl rfl rfl rfl (Yld.fld zb rfl rfl rfl) ?_ | refine WL.gyes rfl rfl rfl rfl (Yld.max2 rfl rfl) ?_ | refine WL.gyes rfl rfl rfl rfl (Yld.min2 rfl rfl) ?_ | refine WL.gyes rfl rfl rfl rfl (Yld.pickV rfl rfl rfl) ?_)
  exact WX.ret2 rfl rfl rfl ⟨gr4,(zH n s.order s ts0).out,A,c,hd,.nilIface,.ok,rfl,I.own,I.rel.grown gr4,fun p hp hq=>dnp p hq _ _ I.hd,dnA A I.own.ge' _ _ I.hd,rfl,hK⟩
end Go.Proofs.YtjjcdkfhaceicaaGreatDoor
 
namespace Go.Proofs.YtjjcdkfhaceicaaGreatDoor
open Go Go.RowKit
section
variable {P:Program} {N:Nat} {ops:Array Oper} {fl:Nat→Bool} {D:World→Prop} {n g:Nat} {K:Act→World→Prop} {Q:Post} {L:zh} {w:World} {f:Nat} {listed:Array Bool} {d:Nat} {op:Op} {ty:TypeId} {pos:String} {af:Array Edge} {gd:Option (Nat × Bool)}
structure HeadOk (ops:Array Oper) (n:Nat):Prop where
 sel:Region.noSelect ops=true
 sink:Region.sinkB .any ops n=true
 chain:Region.chainB .any ops n=true
 lt:n<ops.size
def WA (P:Program) (N:Nat) (ops:Array Oper) (fl:Nat→Bool) (D:World→Prop) (n g:Nat) (K:Act→World→Prop) (f:Nat) (listed:Array Bool) (L:zh) (w:World):Prop :=
 HeadOk ops n→HeadInv .any ops n listed→∀ a w1,Eqv w w1→D w1→Has N L a→anyT P .any ops fl D n (fun l' a' w'=>Region.seqB .any ops g n l'=true∧K a' w') f listed a w1
def WI (P:Program) (N:Nat) (ops:Array Oper) (fl:Nat→Bool) (D:World→Prop) (n g:Nat) (K:Act→World→Prop) (f:Nat) (listed:Array Bool) (L:zh) (w:World) (i:Nat):Prop :=
 HeadOk ops n→HeadInv .any ops n (listed.setIfInBounds i true)→∀ a w1,Eqv w w1→D w1→Has N L a→∃ o,ops[i]?=some o∧fl i=false∧sRun P ops D o a w1 fun a' w'=>anyT P .any ops fl D n (fun l' a' w'=>Region.seqB .any ops g n l'=true∧K a' w') f (listed.setIfInBounds i true) a' w'
theorem WC.ordersK {i:Nat} {l:List Oper} (n:Nat) (fl:Nat→Bool) (D:World→Prop) (K:Act→World→Prop) (hm:P.follows .mixedOrders=true) (hB:(Region.noSelect l.toArray && (Region.sinkB .any l.toArray n && (Region.chainB .any l.toArray n && Nat.blt n l.length)))=true) (hE:∀ w',Eqv w w'→D w')
  (h:WA P N l.toArray fl D n (l.length - n) K n (Array.replicate l.length false) L w)
  (ht:∀ a w',K a w'→wpList P l.toArray Q (l.drop n) a w'):WC P N Q (.region i l.toArray true) L w:=fun a wx e ha=>by
 simp only [Bool.and_eq_true] at hB
 obtain ⟨hsel,hs,hc,hlt⟩:=hB
 have hn':n<l.length:=by simpa [Nat.blt_eq] using hlt
 refine wp_region_any hm ?_
 have inv0:HeadInv .any l.toArray n (Array.replicate l.length false) :=
  ⟨by simp,fun j oj _ hl=>(by rw [getD_replicate_false] at hl; cases hl),fun t _ ht=>getD_in (by simpa using ht) (getD_replicate_false _ _)⟩
 have H:=h ⟨hsel,hs,hc,by simpa using hn'⟩ inv0 a { wx with drawn:=wx.drawn+1 } (e.drawn _) (hE _ (e.drawn _)) ha
 have h2:=any_of_anyT (Q':=Q) (g:=l.length - n) (fun listed a' w' _ hL=>by
  obtain ⟨hq,hK⟩:=hL
  have:=wpAny_of_seq (md:=.any) (Q':=Q) (l.drop n) n listed a' w' (fun j=>by simp [List.getElem?_drop]) (by rw [List.length_drop]; exact hq) (ht a' w' hK)
  rwa [List.length_drop] at this) _ _ _ _ (hE { wx with drawn:=wx.drawn+1 } (e.drawn _)) H
 rw [show n+(l.length - n)=l.length by omega] at h2
 simpa using h2
def EndsF (N:Nat) (F:zh→World→Prop) (a:Act) (w:World):Prop:=∃ L w0,F L w0∧Eqv w0 w∧Has N L a
theorem WC.ordersF {i:Nat} {l:List Oper} (n:Nat) (fl:Nat→Bool) (D:World→Prop) (F:zh→World→Prop) (hm:P.follows .mixedOrders=true) (hB:(Region.noSelect l.toArray && (Region.sinkB .any l.toArray n && (Region.chainB .any l.toArray n && Nat.blt n l.length)))=true) (hE:∀ w',Eqv w w'→D w')
  (ht:∀ L' w',F L' w'→WL P N l.toArray Q (l.drop n) L' w')
  (h:WA P N l.toArray fl D n (l.length - n) (EndsF N F) n (Array.replicate l.length false) L w):WC P N Q (.region i l.toArray true) L w :=
 WC.ordersK n fl D _ hm hB hE h fun a w' ⟨L',w0,hI,he,hh⟩=>ht L' w0 hI a w' he hh
theorem WA.doneF {F:zh→World→Prop} (L':zh) (hq:Region.seqB .any ops g n listed=true) (hI:F L' w) (hs:Sub L L'):WA P N ops fl D n g (EndsF N F) 0 listed L w:=fun _ _ _ _ e _ ha=>⟨hq,L',w,hI,e,ha.sub hs⟩
theorem WA.y {v:Value} (k:Nat) (ho:ops[k]?=some ⟨some d,op,ty,pos,af,none⟩) (hf:(fl k && ((Region.ready .any ops listed).contains k && (Region.free .any ops listed k && Nat.blt k n)))=true) (hd:Nat.blt d N=true) (hy:∀ w',D w'→Yld P N w' ⟨some d,op,ty,pos,af,none⟩ L v)
  (h:WA P N ops fl D n g K f (listed.setIfInBounds k true) ((d,v) :: L) w):WA P N ops fl D n g K (f+1) listed L w:=fun ok inv a w1 e hw ha=>by
 simp only [Bool.and_eq_true] at hf
 obtain ⟨hfl,hr,hfr,hkn⟩:=hf
 have hr':k∈Region.ready .any ops listed:=by simpa using hr
 have hkn':k<n:=by simpa [Nat.blt_eq] using hkn
 exact float_firstT ho hfl (Region.noSelect_spec ok.sel) ok.sink ok.chain ok.lt hkn' (fun _ _ _ hL=>seqB_ready hL.1) f listed a w1 hw inv (Region.free_spec ho hfr) hr'
  (.inl ⟨by simp [Region.wanted],fun w' hw'=>hy w' hw' a w' (Eqv.refl _) ha⟩) (h ok (inv.set hr' hkn') _ _ e hw (ha.put hd v))
def AllL {α:Type} (p:α→Prop):List α→Prop
 | []=>True
 | [x]=>p x
 | x :: y :: l=>p x∧AllL p (y :: l)
theorem AllL.mem {α:Type} {p:α→Prop}:∀ {l:List α},AllL p l→∀ x∈l,p x
 | [],_,x,h=>by simp at h
 | [y],h,x,hx=>by simp at hx; subst hx; exact h
 | y :: z :: l,h,x,hx=>by
  rcases List.mem_cons.1 hx with rfl | hx
  ·exact h.1
  ·exact AllL.mem h.2 x hx
theorem WA.split (is:List Nat) (hr:Region.ready .any ops listed=is) (hc:(!is.isEmpty && is.all fun i=>Nat.blt i n)=true) (h:AllL (WI P N ops fl D n g K f listed L w) is):WA P N ops fl D n g K (f+1) listed L w:=fun ok inv a w1 e hw ha=>by
 simp only [Bool.and_eq_true] at hc
 refine ⟨fun h0=>?_,fun i hi=>?_⟩
 ·rw [hr] at h0; subst h0; simp at hc
 ·have hi':=hi
  rw [hr] at hi'
  have hin:i<n:=by have:=List.all_eq_true.1 hc.2 i hi'; simpa [Nat.blt_eq] using this
  obtain ⟨o,ho,hfl,hs⟩:=h.mem i hi' ok (inv.set hi hin) a w1 e hw ha
  exact ⟨hin,o,ho,.inr ⟨hfl,hs⟩⟩
theorem WI.put {i:Nat} {R:Value→World→Prop} (ho:ops[i]?=some ⟨some d,op,ty,pos,af,none⟩) (hf:fl i=false) (hd:Nat.blt d N=true) (hr:Eff P N w ⟨some d,op,ty,pos,af,none⟩ L R) (hD:∀ v w',R v w'→D w')
  (hk:∀ v w',R v w'→WA P N ops fl D n g K f (listed.setIfInBounds i true) ((d,v) :: L) w'):WI P N ops fl D n g K f listed L w i:=fun ok inv a w1 e hw ha=>by
 refine ⟨_,ho,hf,?_⟩
 unfold sRun
 rw [if_pos (by simp [Region.wanted])]
 obtain ⟨v,w',h,hR⟩:=hr a w1 e ha
 rw [h]
 exact ⟨hD v w' hR,hk v w' hR ok inv _ w' (Eqv.refl _) (hD v w' hR) (ha.put hd v)⟩
theorem WI.eff {i:Nat} {R:World→Prop} (ho:ops[i]?=some ⟨none,op,ty,pos,af,none⟩) (hf:fl i=false) (hr:Ef0 P N w ⟨none,op,ty,pos,af,none⟩ L R) (hD:∀ w',R w'→D w')
  (hk:∀ w',R w'→WA P N ops fl D n g K f (listed.setIfInBounds i true) L w'):WI P N ops fl D n g K f listed L w i:=fun ok inv a w1 e hw ha=>by
 refine ⟨_,ho,hf,?_⟩
 unfold sRun
 rw [if_pos (by simp [Region.wanted])]
 obtain ⟨w',h,hR⟩:=hr a w1 e ha
 rw [h]
 exact ⟨hD w' hR,hk w' hR ok inv _ w' (Eqv.refl _) (hD w' hR) ha⟩
theorem WI.call {i:Nat} {R:Value→World→Prop} {fn:FuncId} {as_:List Operand} {ts:Array TypeId} {vs:List Value} (ho:ops[i]?=some ⟨some d,.call ⟨.value (.func fn),⟨as_⟩,ts⟩,ty,pos,af,gd⟩) (hf:fl i=false) (hg:Wants N ops L gd) (hd:Nat.blt d N=true) (hv:opvs L as_=some vs) (hc:Fn P fn ⟨vs⟩ w R) (hD:∀ v w',R v w'→∀ w2,Eqv w' w2→D w2)
  (hk:∀ v w',R v w'→WA P N ops fl D n g K f (listed.setIfInBounds i true) ((d,v) :: L) w'):WI P N ops fl D n g K f listed L w i:=fun ok inv a w1 e hw ha=>by
 refine ⟨_,ho,hf,?_⟩
 unfold sRun
 rw [if_pos (Wants.wanted (o:=⟨some d,.call ⟨.value (.func fn),⟨as_⟩,ts⟩,ty,pos,af,gd⟩) hg ha),run_enter ha hv hc.1]
 refine (hc.2 w1 e).mono ?_
 rintro en w' ⟨v,w0,rfl,h0,hR⟩
 exact ⟨v,rfl,hD v w0 hR w' h0,hk v w0 hR ok inv _ w' h0 (hD v w0 hR w' h0) (ha.put hd v)⟩
end
end Go.Proofs.YtjjcdkfhaceicaaGreatDoor
 
namespace Go.Proofs.YtjjcdkfhaceicaaGreatDoor
open Go Go.RowKit
def Qn (Q:Post):Post:=fun e a w=>match e with
 | .normal=>Q .normal a w
 | _=>False
def addG (i:Nat):Nat→List Oper→List Oper
 | _,[]=>[]
 | k,o :: l=>(bif Nat.beq k i then o else ⟨o.dst,o.op,o.type,o.pos,⟨⟨i,.data⟩ :: o.after.toList⟩,o.guard⟩) :: addG i (k+1) l
theorem addG_len (i:Nat):∀ (l:List Oper) (k:Nat),(addG i k l).length=l.length
 | [],_=>rfl
 | o :: l,k=>by simp [addG,addG_len i l (k+1)]
theorem addG_get (i:Nat):∀ (l:List Oper) (k j:Nat),(addG i k l)[j]?=(l[j]?).map fun o=>bif Nat.beq (k+j) i then o else ⟨o.dst,o.op,o.type,o.pos,⟨⟨i,.data⟩ :: o.after.toList⟩,o.guard⟩
 | [],k,j=>by simp [addG]
 | o :: l,k,0=>by simp [addG]
 | o :: l,k,j+1=>by
  simp only [addG,List.getElem?_cons_succ]
  rw [addG_get i l (k+1) j,show k+1+j=k+(j+1) by omega]
section
variable {P:Program} {Q:Post} {i:Nat} {l:List Oper}
theorem addG_op {j:Nat} {o:Oper} (h:l[j]?=some o):∃ af,(addG i 0 l)[j]?=some ⟨o.dst,o.op,o.type,o.pos,af,o.guard⟩:=by
 rw [addG_get,h,Nat.zero_add]
 cases Nat.beq j i with
 | true=>exact ⟨o.after,rfl⟩
 | false=>exact ⟨_,rfl⟩
theorem addG_ready {listed:Array Bool} (hl:listed.getD i false=true) (j:Nat):j∈Region.ready .any l.toArray listed↔j∈Region.ready .any (addG i 0 l).toArray listed:=by
 rw [mem_ready,mem_ready]
 refine and_congr_right fun _=>⟨fun ⟨o,ho,h⟩=>?_,fun ⟨o,ho,h⟩=>?_⟩
 ·have ho:l[j]?=some o:=by simpa using ho
  have hg:=addG_get i l 0 j
  rw [ho,Nat.zero_add] at hg
  refine ⟨_,by simpa using hg,fun e he hb=>?_⟩
  cases hq:Nat.beq j i with
  | true=>rw [hq] at he; exact h e he hb
  | false =>
   rw [hq] at he
   simp only [cond_false,List.mem_toArray,List.mem_cons] at he
   rcases he with rfl | he
   ·exact hl
   ·exact h e (by simpa using he) hb
 ·have hg:=addG_get i l 0 j
  have ho:(addG i 0 l)[j]?=some o:=by simpa using ho
  rw [ho] at hg
  obtain ⟨o',ho',e⟩:=Option.map_eq_some_iff.1 hg.symm
  refine ⟨o',by simpa using ho',fun e' he hb=>h e' ?_ hb⟩
  rw [←e]
  cases Nat.beq (0+j) i with
  | true=>exact he
  | false=>simp only [cond_false,List.mem_toArray,List.mem_cons]; exact .inr (by simpa using he)
theorem qn_out:¬ LetsOut (Qn Q):=fun ⟨_,_,h⟩=>h
theorem upon_conv {o o':Oper} {a a':Act} {K K':Act→World→Prop} (hd:o'.dst=o.dst) (hk:∀ u w,K' (a'.put o.dst u) w→K (a.put o.dst u) w) (hdf:∀ d w,K' ({ a' with defers:=d :: a'.defers }.put o.dst undef) w→K ({ a with defers:=d :: a.defers }.put o.dst undef) w) :
  ∀ {r:Result Next},o'.upon P a' K' (Qn Q) r→o.upon P a K Q r:=by
 intro r h
 unfold Oper.upon at h ⊢
 rw [hd] at h
 cases r with
 | halt x w=>cases x <;> first | exact h.elim | exact h
 | ok x w=>cases x with
  | value u=>exact hk _ _ h
  | skip=>exact hk _ _ h
  | defer d=>exact hdf _ _ h
  | enter f args=>exact Calls.mono h fun e w'' hh=>(by cases e <;> first | exact hk _ _ hh | exact hh.elim | exact absurd hh qn_out)
  | row r args=>exact Rows.mono h fun v w' hh=>hk _ _ hh
  | _=>exact h
theorem exec_after {ev:Operand→Value} {o:Oper} {af:Array Edge}:execOp ev ⟨o.dst,o.op,o.type,o.pos,af,o.guard⟩=execOp ev o:=by
 unfold execOp
 rfl
theorem hoist_A (hg:∀ (j:Nat) (o:Oper),l[j]?=some o→o.guard=none):∀ (f:Nat) (listed:Array Bool) (a:Act) (w:World),listed.getD i false=true→wpAny P .any (addG i 0 l).toArray (Qn Q) f listed a w→wpAny P .any l.toArray Q f listed a w
 | 0,listed,a,w,hl,h=>⟨by
   have:=h.1
   rw [List.eq_nil_iff_forall_not_mem] at this ⊢
   exact fun j hj=>this j ((addG_ready hl j).1 hj),h.2⟩
 | f+1,listed,a,w,hl,h=>by
  refine ⟨fun h0=>h.1 ?_,fun j hj=>?_⟩
  ·rw [List.eq_nil_iff_forall_not_mem] at h0 ⊢
   exact fun j hj=>h0 j ((addG_ready hl j).2 hj)
  ·have h2:=h.2 j ((addG_ready hl j).1 hj)
   obtain ⟨_,o,ho,_⟩:=mem_ready.1 hj
   have ho':l[j]?=some o:=by simpa using ho
   obtain ⟨af,hj'⟩:=addG_op (i:=i) ho'
   have hgo:=hg j o ho'
   have hl':(listed.setIfInBounds j true).getD i false=true:=by
    by_cases e:j=i
    ·subst e
     have:j<listed.size:=by
      rcases Nat.lt_or_ge j listed.size with q | q
      ·exact q
      ·simp [Array.getD,Nat.not_lt.2 q] at hl
     simp [Array.getD,this]
    ·have hs:i<listed.size:=by
      rcases Nat.lt_or_ge i listed.size with q | q
      ·exact q
      ·simp [Array.getD,Nat.not_lt.2 q] at hl
     have h1:listed[i]'hs=true:=by simpa [Array.getD,hs] using hl
     simp [Array.getD,hs,Array.getElem_setIfInBounds,e,h1]
   unfold wpOp at h2 ⊢
   simp only [ho,List.getElem?_toArray,hj'] at h2 ⊢
   rw [if_pos (by simp [Region.wanted,hgo])] at h2 ⊢
   rcases h2 with h2 | h2
   ·refine .inl ?_
    unfold Oper.wp at h2 ⊢
    rw [exec_after] at h2
    exact upon_conv (o':=⟨o.dst,o.op,o.type,o.pos,af,o.guard⟩) rfl (fun u w=>hoist_A hg f _ _ _ hl') (fun d w=>hoist_A hg f _ _ _ hl') h2
   ·exact absurd h2.2 qn_out
theorem hoist_B {oi:Oper} {v:Value} (hi:l[i]?=some oi) (hsi:∀ cs b,oi.op≠.select cs b) (hsel:∀ (j:Nat) (o:Oper) cs b,l[j]?=some o→o.op≠.select cs b) (hg:∀ (j:Nat) (o:Oper),l[j]?=some o→o.guard=none) :
  ∀ (f:Nat) (listed:Array Bool) (a:Act) (w:World),(∀ w,(execOp a.eval oi).run P w=.ok (.value v) w)→i∈Region.ready .any l.toArray listed →
   (∀ j oj,l[j]?=some oj→j≠i→listed.getD j true=false→(∀ e∈oj.after,Region.binds .any e=true→e.on≠i)→oi.apart l.toArray oj=true) →
   wpAny P .any (addG i 0 l).toArray (Qn Q) f (listed.setIfInBounds i true) (a.put oi.dst v) w→wpAny P .any l.toArray Q (f+1) listed a w:=by
 have hli:∀ listed:Array Bool,i∈Region.ready .any l.toArray listed→(listed.setIfInBounds i true).getD i false=true:=fun listed hr=>by
  have h1:=(mem_ready.1 hr).1
  have:i<listed.size:=by
   rcases Nat.lt_or_ge i listed.size with q | q
   ·exact q
   ·simp [Array.getD,Nat.not_lt.2 q] at h1
  simp [Array.getD,this]
 intro f
 induction f with
 | zero =>
  intro listed a w hy hr hfree H
  refine ⟨fun h=>(by rw [h] at hr; cases hr),fun j hj=>?_⟩
  by_cases hji:j=i
  ·subst hji
   unfold wpOp
   simp only [List.getElem?_toArray,hi]
   rw [if_pos (by simp [Region.wanted,hg _ _ hi])]
   refine .inl ?_
   unfold Oper.wp
   rw [hy w]
   exact hoist_A hg 0 _ _ _ (hli _ hr) H
  ·have:=(addG_ready (l:=l) (hli _ hr) j).1 (ready_mono hj hji)
   rw [H.1] at this
   cases this
 | succ f ih =>
  intro listed a w hy hr hfree H
  refine ⟨fun h=>(by rw [h] at hr; cases hr),fun j hj=>?_⟩
  by_cases hji:j=i
  ·subst hji
   unfold wpOp
   simp only [List.getElem?_toArray,hi]
   rw [if_pos (by simp [Region.wanted,hg _ _ hi])]
   refine .inl ?_
   unfold Oper.wp
   rw [hy w]
   exact hoist_A hg (f+1) _ _ _ (hli _ hr) H
  ·have h2:=H.2 j ((addG_ready (l:=l) (hli _ hr) j).1 (ready_mono hj hji))
   obtain ⟨hjun,oj,hoj,hall⟩:=mem_ready.1 hj
   have hoj':l[j]?=some oj:=by simpa using hoj
   obtain ⟨af,hj'⟩:=addG_op (i:=i) hoj'
   have hnot:∀ e∈oj.after,Region.binds .any e=true→e.on≠i:=fun e he hb heq=>by
    have:=hall e he hb
    rw [heq,getD_both (mem_ready.1 hr).1] at this
    cases this
   have hap:=hfree j oj hoj' hji hjun hnot
   obtain ⟨p1,p2,p3⟩:=Oper.apart_spec hap
   have hfree':∀ k ok,l[k]?=some ok→k≠i→(listed.setIfInBounds j true).getD k true=false→(∀ e∈ok.after,Region.binds .any e=true→e.on≠i)→oi.apart l.toArray ok=true:=fun k ok hk hki hun hno=>by
    refine hfree k ok hk hki ?_ hno
    by_cases hjk:j=k
    ·subst hjk; exact hjun
    ·rw [getD_set_ne true hjk] at hun; exact hun
   have hr':=ready_mono hr (Ne.symm hji)
   have hyp:∀ b:Act,b.tmps=a.tmps→∀ u w,(execOp (b.put oj.dst u).eval oi).run P w=.ok (.value v) w:=fun b hb u w=>by
    rw [execOp_put oi hsi b oj.dst u p3]
    have:b.eval=a.eval:=by funext y; cases y <;> simp [Act.eval,hb]
    rw [this]
    exact hy w
   unfold wpOp at h2 ⊢
   simp only [hoj,List.getElem?_toArray,hj'] at h2 ⊢
   rw [if_pos (by simp [Region.wanted,hg _ _ hoj'])] at h2 ⊢
   rcases h2 with h2 | h2
   ·refine .inl ?_
    unfold Oper.wp at h2 ⊢
    rw [exec_after,execOp_put oj (fun cs b=>hsel j oj cs b hoj') a oi.dst v p1] at h2
    refine upon_conv (o':=⟨oj.dst,oj.op,oj.type,oj.pos,af,oj.guard⟩) rfl (fun u w' hh=>?_) (fun d w' hh=>?_) h2
    ·refine ih _ _ w' (hyp a rfl u) hr' hfree' ?_
     rw [Array.setIfInBounds_comm _ _ hji,←Act.put_comm a v u p2]
     exact hh
    ·refine ih _ _ w' (hyp { a with defers:=d :: a.defers } rfl undef) hr' hfree' ?_
     rw [Array.setIfInBounds_comm _ _ hji,←Act.put_comm { a with defers:=d :: a.defers } v undef p2]
     have:({ a with defers:=d :: a.defers }:Act).put oi.dst v={ a.put oi.dst v with defers:=d :: (a.put oi.dst v).defers }:=by cases oi.dst <;> rfl
     rw [this]
     exact hh
   ·exact absurd h2.2 qn_out
end
section
variable {P:Program} {N:Nat} {Q:Post} {L:zh} {w:World}
def WR (P:Program) (N:Nat) (Q:Post) (l:List Oper) (L:zh) (w:World):Prop:=∀ a w1,Eqv w w1→Has N L a→wpAny P .any l.toArray Q l.length (Array.replicate l.length false) a w1
def noGuard (l:List Oper):Bool:=l.all fun o=>match o.guard with | none=>true | _=>false
theorem WX.qn (h:WX N Q .normal L w):WX N (Qn Q) .normal L w:=h
theorem WC.hoist {id:Nat} {l:List Oper} (i:Nat) {d:Option Tmp} {x:Operand} {ty:TypeId} {pos:String} {af:Array Edge} {v:Value} (hm:P.follows .mixedOrders=true) (hi:l[i]?=some ⟨d,.move x,ty,pos,af,none⟩) (hx:opv L x=some v)
  (hc:(Region.noSelect l.toArray && (noGuard l && ((Region.ready .any l.toArray (Array.replicate l.length false)).contains i && Region.free .any l.toArray (Array.replicate l.length false) i)))=true)
  (h:WR P N (Qn Q) (addG i 0 l) L w):WC P N Q (.region id l.toArray true) L w:=fun a w1 e ha=>by
 simp only [Bool.and_eq_true] at hc
 obtain ⟨hs,hg,hr,hf⟩:=hc
 have hsel:∀ (j:Nat) (o:Oper) cs b,l[j]?=some o→o.op≠.select cs b:=fun j o cs b hj=>Region.noSelect_spec hs j o cs b (by simpa using hj)
 have hgd:∀ (j:Nat) (o:Oper),l[j]?=some o→o.guard=none:=fun j o hj=>by
  have:=List.all_eq_true.1 hg o (List.mem_of_getElem? hj)
  split at this
  ·assumption
  ·cases this
 have hr':i∈Region.ready .any l.toArray (Array.replicate l.length false):=by simpa using hr
 refine wp_region_any hm ?_
 have hw:Eqv w { w1 with drawn:=w1.drawn+1 }:=e.drawn _
 have H:=h a _ hw ha
 have hy:∀ w,(execOp a.eval ⟨d,.move x,ty,pos,af,none⟩).run P w=.ok (.value v) w:=fun w'=>Yld.move (P:=P) (w:=w') (L:=L) (N:=N) hx a w' (Eqv.refl _) ha
 rw [addG_len] at H
 cases hn:l.length with
 | zero=>rw [List.getElem?_eq_none (by omega)] at hi; cases hi
 | succ n =>
  rw [hn] at H
  have hri:i∈Region.ready .any (addG i 0 l).toArray (Array.replicate (n+1) false):=by
   rw [hn] at hr'
   rw [mem_ready] at hr' ⊢
   obtain ⟨q1,o,q2,q3⟩:=hr'
   refine ⟨q1,o,?_,q3⟩
   have:l[i]?=some o:=by simpa using q2
   have hgt:=addG_get i l 0 i
   rw [this,Nat.zero_add,Nat.beq_refl] at hgt
   simpa using hgt
  have H2:=H.2 i hri
  have e1:(addG i 0 l)[i]?=some ⟨d,.move x,ty,pos,af,none⟩:=by
   rw [addG_get,hi,Nat.zero_add,Nat.beq_refl]
   rfl
  unfold wpOp at H2
  simp only [List.getElem?_toArray,e1] at H2
  rw [if_pos (by simp [Region.wanted])] at H2
  rcases H2 with H2 | H2
  ·unfold Oper.wp at H2
   rw [hy] at H2
   have:=hoist_B (P:=P) (Q:=Q) hi (by intro cs b e; cases e) hsel hgd n (Array.replicate (n+1) false) a _ hy (by rw [hn] at hr'; exact hr') (fun j oj hj hne hun hno=>Region.free_spec (by simpa using hi) (by rw [hn] at hf; exact hf) j oj (by simpa using hj) hne hun hno) H2
   simpa [hn] using this
  ·exact absurd H2.2 qn_out
theorem WR.ordersF {l:List Oper} (n:Nat) (fl:Nat→Bool) (D:World→Prop) (F:zh→World→Prop) (hB:(Region.noSelect l.toArray && (Region.sinkB .any l.toArray n && (Region.chainB .any l.toArray n && Nat.blt n l.length)))=true) (hE:∀ w',Eqv w w'→D w')
  (ht:∀ L' w',F L' w'→WL P N l.toArray Q (l.drop n) L' w')
  (h:WA P N l.toArray fl D n (l.length - n) (EndsF N F) n (Array.replicate l.length false) L w):WR P N Q l L w:=fun a w1 e ha=>by
 simp only [Bool.and_eq_true] at hB
 obtain ⟨hsel,hs,hc,hlt⟩:=hB
 have hn':n<l.length:=by simpa [Nat.blt_eq] using hlt
 have inv0:HeadInv .any l.toArray n (Array.replicate l.length false) :=
  ⟨by simp,fun j oj _ hl=>(by rw [getD_replicate_false] at hl; cases hl),fun t _ ht=>getD_in (by simpa using ht) (getD_replicate_false _ _)⟩
 have H:=h ⟨hsel,hs,hc,by simpa using hn'⟩ inv0 a w1 e (hE _ e) ha
 have h2:=any_of_anyT (Q':=Q) (g:=l.length - n) (fun listed a' w' _ hL=>by
  obtain ⟨hq,L',w0,hI,he,hh⟩:=hL
  have:=wpAny_of_seq (md:=.any) (Q':=Q) (l.drop n) n listed a' w' (fun j=>by simp [List.getElem?_drop]) (by rw [List.length_drop]; exact hq) (ht L' w0 hI a' w' he hh)
  rwa [List.length_drop] at this) _ _ _ _ (hE _ e) H
 rw [show n+(l.length - n)=l.length by omega] at h2
 exact h2
end
end Go.Proofs.YtjjcdkfhaceicaaGreatDoor
 