/- Texts of this claim, joined by a program: Eng, Ops, Mem, Heap, Write, Build, More, More2, More3, More4, Fld, Chain, Chain2, More5, Chain3, Ret, Chain4, More6, Fast, Tab, Vg, K, Eq, Err, K2, Abb. -/
import Derived.StillTail
import Derived.BigQuiet
import Derived.WalkKit
import Derived.WalkLawsBesides
import Derived.Deep.AppendSrc
import Derived.Laws.MakeOwn
import Derived.Laws.OwnMore
import Derived.Lib.Strings
import Derived.Deep.MidRow
import Derived.Test.YtafpeckmdjplnaaGreatDoorProg
import Derived.KernelRfl
import Derived.LaidEql
import Derived.Lib.LaidTab
import Derived.Lib.ItoaNum
import Derived.Lib.SliceRun
namespace Go.Proofs.YtafpeckmdjplnaaGreatDoor

section
open Go Go.RowKit
section
variable {P:Program} {ops:Array Oper} {md:Region.Mode} {C:World->Prop}
def headQ (P:Program) (md:Region.Mode) (ops:Array Oper) (C:World->Prop) (n:Nat) (L:Array Bool->Act->Prop):Nat->Array Bool->Act->Prop
 | 0,listed,a=>L listed a
 | f+1,listed,a=>Region.ready md ops listed≠[]/\∀ i∈Region.ready md ops listed,i<n/\qOp P ops C i (headQ P md ops C n L f (listed.setIfInBounds i true)) a
theorem any_of_headQ {n g:Nat} {L:Array Bool->Act->Prop} {Q:Exit->Act->World->Prop} (hL:∀ listed a w,C w->L listed a->wpAny P md ops Q g listed a w) :
  ∀ (f:Nat) (listed:Array Bool) (a:Act) (w:World),C w->headQ P md ops C n L f listed a->wpAny P md ops Q (f+g) listed a w:=by
 intro f
 induction f with
 | zero=>intro listed a w hw h; rw [Nat.zero_add]; exact hL _ _ _ hw h
 | succ f ih =>
  intro listed a w hw h
  rw [Nat.add_right_comm]
  exact ⟨fun h0=>absurd h0 h.1,fun i hi=>wpOp_of_qOp hw (fun a' w' hw' h'=>ih _ a' w' hw' h') (h.2 i hi).2⟩
theorem headQ_first {n i:Nat} {oi:Oper} {v:Value} {L:Array Bool->Act->Prop} (hi:ops[i]? = some oi) (hsel:∀ (j:Nat) (o:Oper) cs b,ops[j]? = some o->o.op≠.select cs b)
  (hs:Region.sinkB md ops n=true) (hc:Region.chainB md ops n=true) (hn:n<ops.size) (hin:i<n) (hdone:∀ listed a,L listed a->∀ j∈Region.ready md ops listed,n<=j)
  (f:Nat):∀ (listed:Array Bool) (a:Act),HeadInv md ops n listed ->
   (∀ j oj,ops[j]? = some oj->j≠i->listed.getD j true=false->(∀ e∈oj.after,Region.binds md e=true->e.on≠i)->oi.apart ops oj=true) ->
   i∈Region.ready md ops listed->YieldsIn P ops C oi v a->headQ P md ops C n L f (listed.setIfInBounds i true) (a.put oi.dst v)->headQ P md ops C n L (f+1) listed a:=by
 induction f with
 | zero =>
  intro listed a inv _ hr hy H
  refine ⟨fun h=>(by rw [h] at hr; cases hr),fun j hj=>?_⟩
  have hjn:j<n:=(Nat.lt_or_ge j n).elim id fun h=>absurd hj (tail_waits hs hc hn inv _ i rfl hin (mem_ready.1 hr).1 j h)
  refine ⟨hjn,?_⟩
  by_cases hji:j=i
  ·subst hji; exact hy.qOp hi H
  ·exact absurd (hdone _ _ H j (ready_mono hj hji)) (by omega)
 | succ f ih =>
  intro listed a inv hfree hr hy H
  refine ⟨fun h=>(by rw [h] at hr; cases hr),fun j hj=>?_⟩
  have hjn:j<n:=(Nat.lt_or_ge j n).elim id fun h=>absurd hj (tail_waits hs hc hn inv _ i rfl hin (mem_ready.1 hr).1 j h)
  refine ⟨hjn,?_⟩
  by_cases hji:j=i
  ·subst hji; exact hy.qOp hi H
  ·have h1:=(H.2 j (ready_mono hj hji)).2
   obtain ⟨hjun,oj,hoj,hall⟩:=mem_ready.1 hj
   have hnot:∀ e∈oj.after,Region.binds md e=true->e.on≠i:=fun e he hb heq=>by
    have:=hall e he hb
    rw [heq,getD_both (mem_ready.1 hr).1] at this
    cases this
   have h2:=qOp_put hoj (hfree j oj hoj hji hjun hnot) (fun cs b=>hsel i oi cs b hi) (fun cs b=>hsel j oj cs b hoj) hy h1
   refine qOp_mono (fun a' h3=>ih (listed.setIfInBounds j true) a' (inv.set hj hjn) (fun k ok hk hki hun hno=>hfree k ok hk hki ?_ hno) (ready_mono hr (Ne.symm hji)) h3.1 ?_) h2
   ·by_cases hjk:j=k
    ·subst hjk; exact hjun
    ·rw [getD_set_ne true hjk] at hun; exact hun
   ·rw [Array.setIfInBounds_comm _ _ hji]; exact h3.2
theorem headQ_lex {n g:Nat} {Lq:Act->Prop} (hsel:Region.noSelect ops=true) (hs:Region.sinkB md ops n=true) (hc:Region.chainB md ops n=true) (hn:n<ops.size) :
  ∀ (l:List Oper) (k:Nat) (listed:Array Bool) (a:Act),(∀ j,j<l.length->l[j]? = ops[k+j]?)->k+l.length=n->HeadInv md ops n listed ->
  Region.lexHead md ops g l.length k listed=true->wpQuiet P ops C Lq l a ->
  headQ P md ops C n (fun listed' a'=>Region.seqB md ops g n listed'=true/\Lq a') l.length listed a:=by
 intro l
 induction l with
 | nil =>
  intro k listed a _ hk _ hB h
  obtain rfl:k=n:=by simpa using hk
  exact ⟨by simpa [Region.lexHead] using hB,h⟩
 | cons o l ih =>
  intro k listed a hl hk inv hB h
  have h0:ops[k]? = some o:=by simpa using (hl 0 (by simp)).symm
  simp only [List.length_cons,Region.lexHead,Bool.and_eq_true] at hB hk
  obtain ⟨⟨hr,hf⟩,hB'⟩:=hB
  have hkn:k<n:=by omega
  have hr':k∈Region.ready md ops listed:=by simpa using hr
  have hst:qOp P ops C k (wpQuiet P ops C Lq l) a:=by unfold qOp; simp only [h0]; exact h
  obtain ⟨v,hy,hK⟩:=yieldsIn_of_qOp h0 hst
  exact headQ_first h0 (Region.noSelect_spec hsel) hs hc hn hkn (fun listed' a' hL=>seqB_ready hL.1) l.length listed a inv (Region.free_spec h0 hf) hr' hy
   (ih (k+1) _ _ (fun j hj=>by have:=hl (j+1) (by simp; omega); simpa [Nat.add_assoc,Nat.add_comm 1 j] using this) (by omega) (inv.set hr' hkn) hB' hK)
theorem wp_region_quiet_tail {id:Nat} {Q:Exit->Act->World->Prop} {a:Act} {w:World} {l:List Oper} (n:Nat) (hm:P.follows .mixedOrders=true) (hB:Region.lexTailB .any l.toArray n=true)
  (hC:C { w with drawn:=w.drawn+1 }) (h:wpQuiet P l.toArray C (fun a'=>∀ w',C w'->wpList P l.toArray Q (l.drop n) a' w') (l.take n) a):(Code.region id l.toArray true).wp P Q a w:=by
 simp only [Region.lexTailB,Bool.and_eq_true,decide_eq_true_eq] at hB
 obtain ⟨⟨⟨⟨hsel,hn⟩,hs⟩,hc⟩,hlex⟩:=hB
 have hn':n<l.length:=by simpa using hn
 have htl:(l.take n).length=n:=by simp; omega
 have hdl:(l.drop n).length=l.toArray.size - n:=by simp
 have inv0:HeadInv .any l.toArray n (Array.replicate l.toArray.size false) :=
  ⟨by simp,fun j oj _ hl=>(by rw [getD_replicate_false] at hl; cases hl),fun t _ ht=>getD_in (by simpa using ht) (getD_replicate_false _ _)⟩
 have H:=headQ_lex (md:=.any) (g:=l.toArray.size - n) hsel hs hc hn (l.take n) 0 _ a (fun j hj=>by
  have hj':j<n:=by rw [htl] at hj; exact hj
  simp [hj']) (by simpa using htl) inv0 (by rw [htl]; exact hlex) h
 refine wp_region_any hm ?_
 have:=any_of_headQ (Q:=Q) (g:=l.toArray.size - n) (fun listed a' w' hw' hL=>by
  have:=wpAny_of_seq (md:=.any) (Q':=Q) (l.drop n) n listed a' w' (fun j=>by simp [List.getElem?_drop]) (by rw [hdl]; exact hL.1) (hL.2 w' hw')
  rwa [hdl] at this) _ _ _ { w with drawn:=w.drawn+1 } hC H
 rw [htl,show n+(l.toArray.size - n)=l.toArray.size by omega] at this
 exact this
end
structure Eqv (w w1:World):Prop where
 heap:w1.heap=w.heap
 os:w1.os=w.os
 tape:w1.tape=w.tape
 output:w1.output=w.output
theorem Eqv.refl (w:World):Eqv w w:=⟨rfl,rfl,rfl,rfl⟩
theorem Eqv.trans {a b c:World} (h:Eqv a b) (k:Eqv b c):Eqv a c:=⟨k.heap.trans h.heap,k.os.trans h.os,k.tape.trans h.tape,k.output.trans h.output⟩
theorem Eqv.symm {a b:World} (h:Eqv a b):Eqv b a:=⟨h.heap.symm,h.os.symm,h.tape.symm,h.output.symm⟩
theorem Eqv.drawn {w w1:World} (h:Eqv w w1) (n:Nat):Eqv w { w1 with drawn:=n }:=⟨h.heap,h.os,h.tape,h.output⟩
theorem Eqv.cell {w w1:World} (h:Eqv w w1) (a:Addr):w1.cell? a=w.cell? a:=by unfold World.cell?; rw [h.heap]
theorem Eqv.frozen {w w1:World} (h:Eqv w w1) (a:Addr):w1.frozen? a=w.frozen? a:=by unfold World.frozen?; rw [h.heap]
abbrev jj:=List (Nat × Value)
def lk:jj->Nat->Option Value
 | [],_=>none
 | (t,v) :: L,s=>bif Nat.beq t s then some v else lk L s
def opv (L:jj):Operand->Option Value
 | .tmp t=>lk L t
 | .const v=>some v
 | .global g=>some (.pointer (some ⟨g,0,none⟩))
 | .func f=>some (.func (.func f) #[] #[])
def opvs (L:jj):List Operand->Option (List Value)
 | []=>some []
 | x :: xs=>match opv L x,opvs L xs with
  | some v,some vs=>some (v :: vs)
  | _,_=>none
structure Has (N:Nat) (L:jj) (a:Act):Prop where
 size:a.tmps.size=N
 defers:a.defers=[]
 get:∀ t v,lk L t=some v->a.tmps.getD t undef=v
theorem Has.ev {N:Nat} {L:jj} {a:Act} {x:Operand} {v:Value} (h:Has N L a) (hx:opv L x=some v):a.eval x=v:=by
 cases x with
 | tmp t=>exact h.get t v hx
 | const u=>exact Option.some.inj hx
 | global g=>exact Option.some.inj hx
 | func f=>exact Option.some.inj hx
theorem Has.evs {N:Nat} {L:jj} {a:Act} (h:Has N L a):∀ {xs:List Operand} {vs:List Value},opvs L xs=some vs->xs.map a.eval=vs
 | [],vs,hx=>by simp only [opvs,Option.some.injEq] at hx; rw [<-hx]; rfl
 | x :: xs,vs,hx=>by
  unfold opvs at hx
  cases h1:opv L x with
  | none=>rw [h1] at hx; simp at hx
  | some v =>
   cases h2:opvs L xs with
   | none=>rw [h1,h2] at hx; simp at hx
   | some us =>
    rw [h1,h2] at hx
    simp only [Option.some.injEq] at hx
    rw [<-hx,List.map_cons,h.ev h1,h.evs h2]
theorem Has.put {N:Nat} {L:jj} {a:Act} (h:Has N L a) {d:Nat} (hd:Nat.blt d N=true) (v:Value):Has N ((d,v) :: L) (a.put (some d) v):=by
 have hd':d<N:=by simpa [Nat.blt_eq] using hd
 refine ⟨by simp [Act.put,h.size],h.defers,fun t u ht=>?_⟩
 simp only [lk] at ht
 cases hb:Nat.beq d t with
 | true =>
  have:d=t:=Nat.eq_of_beq_eq_true hb
  subst this
  simp only [hb,cond_true,Option.some.injEq] at ht
  subst ht
  simp [Act.put,h.size,hd']
 | false =>
  have hne:d≠t:=Nat.ne_of_beq_eq_false hb
  simp only [hb,cond_false] at ht
  rw [<-h.get t u ht]
  simp [Act.put,hne]
theorem Has.put_none {N:Nat} {L:jj} {a:Act} (h:Has N L a) (v:Value):Has N L (a.put none v):=h
def Sub (L L':jj):Prop:=∀ t v,lk L' t=some v->lk L t=some v
theorem qb {L:jj}:Sub L []:=fun _ _ h=>by simp [lk] at h
theorem Sub.cons {L L':jj} {t:Nat} {v:Value} (h:lk L t=some v) (hs:Sub L L'):Sub L ((t,v) :: L'):=fun s u hu=>by
 simp only [lk] at hu
 cases hb:Nat.beq t s with
 | true =>
  have:t=s:=Nat.eq_of_beq_eq_true hb
  subst this
  simp only [hb,cond_true,Option.some.injEq] at hu
  rw [<-hu]; exact h
 | false=>simp only [hb,cond_false] at hu; exact hs s u hu
theorem Has.sub {N:Nat} {L L':jj} {a:Act} (h:Has N L a) (hs:Sub L L'):Has N L' a:=⟨h.size,h.defers,fun t v ht=>h.get t v (hs t v ht)⟩
abbrev Post:=Exit->Act->World->Prop
def WL (P:Program) (N:Nat) (ops:Array Oper) (Q:Post) (l:List Oper) (L:jj) (w:World):Prop:=∀ a w1,Eqv w w1->Has N L a->wpList P ops Q l a w1
def WC (P:Program) (N:Nat) (Q:Post) (c:Code) (L:jj) (w:World):Prop:=∀ a w1,Eqv w w1->Has N L a->c.wp P Q a w1
def WX (N:Nat) (Q:Post) (e:Exit) (L:jj) (w:World):Prop:=∀ a w1,Eqv w w1->Has N L a->Q e a w1
def WQ (P:Program) (N:Nat) (ops:Array Oper) (K:Act->Prop) (l:List Oper) (L:jj) (w:World):Prop:=∀ a,Has N L a->wpQuiet P ops (Eqv w) K l a
def goesIn (P:Program) (f:FuncId):Bool:=match P.funcs[f]? with
 | some fn => !(fn.name == "runtime.NumGoroutine") && fn.body.isSome
 | none=>false
def Fn (P:Program) (f:FuncId) (args:Array Value) (w:World) (R:Value->World->Prop):Prop :=
 goesIn P f=true/\∀ w1,Eqv w w1->Calls P f args w1 fun e w'=>∃ v w0,e=.returned v/\Eqv w0 w'/\R v w0
theorem Fn.mono {P:Program} {f:FuncId} {args:Array Value} {w:World} {R R':Value->World->Prop} (h:Fn P f args w R) (hr:∀ v w',R v w'->R' v w'):Fn P f args w R' :=
 ⟨h.1,fun w1 h1=>(h.2 w1 h1).mono fun _ _ ⟨v,w0,he,h0,hR⟩=>⟨v,w0,he,h0,hr _ _ hR⟩⟩
section rules
variable {P:Program} {N:Nat} {ops:Array Oper} {Q:Post} {L:jj} {w:World}
theorem zd {x y:Code} (h:WC P N (Exit.then (y.wp P Q) Q) x L w):WC P N Q (.seq x y) L w:=fun a w1 e ha=>wp_seq (h a w1 e ha)
theorem WC.block {i:Nat} {c:Code} (h:WC P N (Exit.inBlock i Q) c L w):WC P N Q (.block i c) L w:=fun a w1 e ha=>wp_block (h a w1 e ha)
theorem zo (h:WX N Q .normal L w):WC P N Q .skip L w:=fun a w1 e ha=>wp_skip (h a w1 e ha)
theorem zT {l:Nat} (h:WX N Q .normal L w):WC P N Q (.label l) L w:=fun a w1 e ha=>wp_label (h a w1 e ha)
theorem zD {i:Nat} (h:WX N Q (.exit i) L w):WC P N Q (.exit i) L w:=fun a w1 e ha=>wp_exit (h a w1 e ha)
theorem zq (h:WX N Q .ret L w):WC P N Q .ret L w:=fun a w1 e ha=>wp_ret (h a w1 e ha)
theorem zb {i:Nat} {l:List Oper} (h:WL P N l.toArray Q l L w):WC P N Q (.region i l.toArray false) L w:=fun a w1 e ha=>wp_region_lit (h a w1 e ha)
theorem zp {c:Operand} {x y:Code} {b:Bool} (hc:opv L c=some (.bool b)) (ht:b=true->WC P N Q x L w) (hf:b=false->WC P N Q y L w):WC P N Q (.cond c x y) L w:=fun a w1 e ha=>by
 refine wp_cond (t:=b) (ha.ev hc) ?_
 cases b with
 | true=>exact ht rfl a w1 e ha
 | false=>exact hf rfl a w1 e ha
theorem zU {c:Code} (h:WC P N (Exit.noGoto Q) c L w):WC P N Q (.scope c) L w:=fun a w1 e ha=>wp_scope_straight (h a w1 e ha)
theorem WC.weaken {L':jj} {c:Code} (hs:Sub L L') (h:WC P N Q c L' w):WC P N Q c L w:=fun a w1 e ha=>h a w1 e (ha.sub hs)
theorem qK {i:Nat} {l:List Oper} (hm:P.follows .mixedOrders=true) (hB:Region.lexB .any l.toArray=true) (h:WQ P N l.toArray (fun a=>∀ w',Eqv w w'->Q .normal a w') l L w):WC P N Q (.region i l.toArray true) L w:=fun a _ e ha =>
 wp_region_quiet (C:=Eqv w) hm hB (e.drawn _) (by simpa using h a ha)
theorem WC.tail {i:Nat} {l:List Oper} (n:Nat) (hm:P.follows .mixedOrders=true) (hB:Region.lexTailB .any l.toArray n=true) (h:WQ P N l.toArray (fun a=>∀ w',Eqv w w'->wpList P l.toArray Q (l.drop n) a w') (l.take n) L w):WC P N Q (.region i l.toArray true) L w:=fun a _ e ha =>
 wp_region_quiet_tail n hm hB (e.drawn _) (h a ha)
theorem qG {S:Type} {c:Code} (mu:S->Nat) (Ls:S->jj) (I:S->World->Prop) (s0:S) (h0:I s0 w) (hL:Sub L (Ls s0))
  (round:∀ s w,I s w->WC P N (Exit.then (fun a' w'=>∃ s' w0,I s' w0/\Eqv w0 w'/\Has N (Ls s') a'/\mu s'<mu s) Q) c (Ls s) w):WC P N Q (.loop c) L w:=fun a w1 e ha=>by
 have key:∀ n s a w0 w1,mu s=n->I s w0->Eqv w0 w1->Has N (Ls s) a->∀ (b:Frame) (k:List Item) (cs:List Frame),
   ∃ e a' w',Q e a' w'/\Arrives P (lone (b.at a (.code c :: .inLoop c :: k)) cs w1) b k cs e a' w':=by
  intro n
  induction n using Nat.strongRecOn with
  | _ n ih =>
   intro s a w0 w1 hn hI he ha b k cs
   obtain ⟨e,a1,w2,hq,harr⟩:=round s w0 hI a w1 he ha b (.inLoop c :: k) cs
   cases e with
   | normal =>
    obtain ⟨s',w3,hI',he',ha',hlt⟩:=hq
    obtain ⟨e2,a2,w4,hq2,harr2⟩:=ih (mu s') (hn ▸ hlt) s' a1 w3 w2 rfl hI' he' ha' b k cs
    exact ⟨e2,a2,w4,hq2,.of_steps (Steps.trans harr (.one step_inLoop)) harr2⟩
   | exit id=>exact ⟨_,a1,w2,hq,.pass (x:=.inLoop c) rfl (fun _ _=>.inl (by simp)) harr⟩
   | goto l=>exact ⟨_,a1,w2,hq,.pass (x:=.inLoop c) rfl (fun _ _=>.inl (by simp)) harr⟩
   | ret=>exact ⟨_,a1,w2,hq,.pass (x:=.inLoop c) rfl (fun _ _=>.inl (by simp)) harr⟩
   | panic ch=>exact ⟨_,a1,w2,hq,.pass (x:=.inLoop c) rfl (fun _ _=>.inl (by simp)) harr⟩
   | outgrown=>exact ⟨_,a1,w2,hq,.pass (x:=.inLoop c) rfl (fun _ _=>.inl (by simp)) harr⟩
 intro b k cs
 obtain ⟨e',a',w',hq,harr⟩:=key _ s0 a w w1 rfl h0 e (ha.sub hL) b k cs
 exact ⟨e',a',w',hq,.of_steps (.one step_loop) harr⟩
theorem za {y:Code} (h:WC P N Q y L w):WX N (Exit.then (y.wp P Q) Q) .normal L w:=h
theorem zj {K:Act->World->Prop} {i:Nat} (h:WX N Q (.exit i) L w):WX N (Exit.then K Q) (.exit i) L w:=h
theorem zh {K:Act->World->Prop} (h:WX N Q .ret L w):WX N (Exit.then K Q) .ret L w:=h
theorem zi {i:Nat} (h:WX N Q .normal L w):WX N (Exit.inBlock i Q) .normal L w:=h
theorem zn {i:Nat} (h:WX N Q .ret L w):WX N (Exit.inBlock i Q) .ret L w:=h
theorem zm {i:Nat} (h:WX N Q .normal L w):WX N (Exit.inBlock i Q) (.exit i) L w:=fun a w1 e ha=>by
 show if i=i then _ else _
 rw [if_pos rfl]; exact h a w1 e ha
theorem zy {i j:Nat} (hij:Nat.beq j i=false) (h:WX N Q (.exit j) L w):WX N (Exit.inBlock i Q) (.exit j) L w:=fun a w1 e ha=>by
 show if j=i then _ else _
 rw [if_neg (Nat.ne_of_beq_eq_false hij)]; exact h a w1 e ha
theorem zv (h:WX N Q .normal L w):WX N (Exit.noGoto Q) .normal L w:=h
theorem zJ (h:WX N Q .ret L w):WX N (Exit.noGoto Q) .ret L w:=h
theorem zF {i:Nat} (h:WX N Q (.exit i) L w):WX N (Exit.noGoto Q) (.exit i) L w:=h
theorem qw {S:Type} {mu:S->Nat} {Ls:S->jj} {I:S->World->Prop} {s:S} (s':S) (hI:I s' w) (hm:mu s'<mu s) (hL:Sub L (Ls s')) :
  WX N (Exit.then (fun a' w'=>∃ s' w0,I s' w0/\Eqv w0 w'/\Has N (Ls s') a'/\mu s'<mu s) Q) .normal L w:=fun _ _ e ha=>⟨s',w,hI,e,ha.sub hL,hm⟩
theorem zf (h:WX N Q .normal L w):WL P N ops Q [] L w:=fun a w1 e ha=>wpList_nil (h a w1 e ha)
theorem qU (h:WX N Q .normal L w):WQ P N ops (fun a=>∀ w',Eqv w w'->Q .normal a w') [] L w:=fun a ha=>wpQuiet_nil fun w' e=>h a w' e ha
theorem WQ.tail {l:List Oper} (h:WL P N ops Q l L w):WQ P N ops (fun a=>∀ w',Eqv w w'->wpList P ops Q l a w') [] L w:=fun a ha=>wpQuiet_nil fun w' e=>h a w' e ha
def Yld (P:Program) (N:Nat) (w:World) (o:Oper) (L:jj) (v:Value):Prop:=∀ a w1,Eqv w w1->Has N L a->(execOp a.eval o).run P w1=.ok (.value v) w1
theorem zg {d:Nat} {op:Op} {ty:TypeId} {pos:String} {af:Array Edge} {rest:List Oper} {v:Value} (hd:Nat.blt d N=true) (hy:Yld P N w ⟨some d,op,ty,pos,af,none⟩ L v)
  (h:WL P N ops Q rest ((d,v) :: L) w):WL P N ops Q (⟨some d,op,ty,pos,af,none⟩ :: rest) L w:=fun a w1 e ha =>
 wpList_plain rfl fun K hK=>by
  unfold Oper.wp
  rw [hy a w1 e ha]
  exact hK _ _ (h _ _ e (ha.put hd v))
theorem z7 {K:Act->Prop} {d:Nat} {op:Op} {ty:TypeId} {pos:String} {af:Array Edge} {rest:List Oper} {v:Value} (hd:Nat.blt d N=true) (hy:Yld P N w ⟨some d,op,ty,pos,af,none⟩ L v)
  (h:WQ P N ops K rest ((d,v) :: L) w):WQ P N ops K (⟨some d,op,ty,pos,af,none⟩ :: rest) L w:=fun a ha =>
 wpQuiet_step fun K' hK=>by
  rw [if_pos (by simp [Region.wanted])]
  exact ⟨v,fun w1 e=>by unfold Oper.quietAt; rw [hy a w1 e ha]; exact ⟨rfl,rfl⟩,hK _ (h _ (ha.put hd v))⟩
theorem yielded_of {a:Act} {j d':Nat} {b:Bool} (ha:Has N L a) (hj:(ops[j]?).bind (·.dst)=some d') (hN:Nat.blt d' N=true) (hb:lk L d'=some (.bool b)):yielded ops a.tmps j=some b:=by
 have h1:d'<a.tmps.size:=by rw [ha.size]; simpa [Nat.blt_eq] using hN
 have h2:=ha.get d' _ hb
 unfold yielded
 rw [hj]
 simp only [Option.bind_some,Array.getElem?_eq_getElem h1]
 have:a.tmps[d']=.bool b:=by rw [<-h2]; simp [Array.getD,h1]
 rw [this]
theorem WL.guard {d j d':Nat} {op:Op} {ty:TypeId} {pos:String} {af:Array Edge} {rest:List Oper} {b t:Bool} (hj:(ops[j]?).bind (·.dst)=some d') (hN:Nat.blt d' N=true) (hb:lk L d'=some (.bool b)) (hd:Nat.blt d N=true)
  (hyes:b=t->∃ v,Yld P N w ⟨some d,op,ty,pos,af,none⟩ L v/\WL P N ops Q rest ((d,v) :: L) w) (hno:b = !t->WL P N ops Q rest ((d,undef) :: L) w):WL P N ops Q (⟨some d,op,ty,pos,af,some (j,t)⟩ :: rest) L w:=fun a w1 e ha=>by
 have hg:=yielded_of ha hj hN hb
 refine wpList_step fun K hK=>?_
 by_cases hbt:b=t
 ·rw [if_pos (by simp [Region.wanted,hg,hbt])]
  obtain ⟨v,hy,h⟩:=hyes hbt
  unfold Oper.wp
  have:execOp a.eval ⟨some d,op,ty,pos,af,some (j,t)⟩=execOp a.eval ⟨some d,op,ty,pos,af,none⟩:=rfl
  rw [this,hy a w1 e ha]
  exact hK _ _ (h _ _ e (ha.put hd v))
 ·rw [if_neg (by simp [Region.wanted,hg,hbt])]
  exact hK _ _ (hno (by cases b <;> cases t <;> simp_all) _ _ e (ha.put hd undef))
theorem WQ.guard {K:Act->Prop} {d j d':Nat} {op:Op} {ty:TypeId} {pos:String} {af:Array Edge} {rest:List Oper} {b t:Bool} (hj:(ops[j]?).bind (·.dst)=some d') (hN:Nat.blt d' N=true) (hb:lk L d'=some (.bool b)) (hd:Nat.blt d N=true)
  (hyes:b=t->∃ v,Yld P N w ⟨some d,op,ty,pos,af,none⟩ L v/\WQ P N ops K rest ((d,v) :: L) w) (hno:b = !t->WQ P N ops K rest ((d,undef) :: L) w):WQ P N ops K (⟨some d,op,ty,pos,af,some (j,t)⟩ :: rest) L w:=fun a ha=>by
 have hg:=yielded_of ha hj hN hb
 refine wpQuiet_step fun K' hK=>?_
 by_cases hbt:b=t
 ·rw [if_pos (by simp [Region.wanted,hg,hbt])]
  obtain ⟨v,hy,h⟩:=hyes hbt
  exact ⟨v,fun w1 e=>by unfold Oper.quietAt; have:execOp a.eval ⟨some d,op,ty,pos,af,some (j,t)⟩=execOp a.eval ⟨some d,op,ty,pos,af,none⟩:=rfl; rw [this,hy a w1 e ha]; exact ⟨rfl,rfl⟩,hK _ (h _ (ha.put hd v))⟩
 ·rw [if_neg (by simp [Region.wanted,hg,hbt])]
  exact hK _ (hno (by cases b <;> cases t <;> simp_all) _ (ha.put hd undef))
end rules
end
 
section
open Go Go.RowKit
structure Tab where
 int:List (Nat × IntKind)
 str:List (Nat × Unit)
 one:List (Nat × Unit)
 sl:List (Nat × (Nat × Nat))
 arr:List (Nat × (Nat × Nat × Nat))
 agg:List (Nat × Nat)
 off:List (Nat × List Nat)
 ow:List (Nat × (Nat × Nat))
def nk {B:Type}:List (Nat × B)->Nat->Option B
 | [],_=>none
 | (t,v) :: L,s=>bif Nat.beq t s then some v else nk L s
theorem nk_all {B:Type} {p:Nat × B->Bool}:∀ {l:List (Nat × B)},l.all p=true->∀ {t:Nat} {b:B},nk l t=some b->p (t,b)=true
 | [],_,_,_,h=>by simp [nk] at h
 | (s,v) :: l,ha,t,b,h=>by
  simp only [List.all_cons,Bool.and_eq_true] at ha
  simp only [nk] at h
  cases hb:Nat.beq s t with
  | true =>
   have:=Nat.eq_of_beq_eq_true hb
   subst this
   simp only [hb,cond_true,Option.some.injEq] at h
   rw [<-h]; exact ha.1
  | false=>simp only [hb,cond_false] at h; exact nk_all ha.2 h
def isRow:TypeDesc->Bool
 | .struct _ | .array _ _=>true
 | _=>false
def ckInt (P:Program) (x:Nat × IntKind):Bool:=match P.underlying x.1 with | some (.int k)=>decide (k=x.2) | _=>false
def ckStr (P:Program) (x:Nat × Unit):Bool:=match P.underlying x.1 with | some .string=>true | _=>false
def ckOne (P:Program) (x:Nat × Unit):Bool:=match P.underlying x.1 with | some d => !isRow d | _=>false
def ckSl (P:Program) (x:Nat × (Nat × Nat)):Bool:=match P.underlying x.1 with | some (.slice e)=>Nat.beq e x.2.1 && (match P.info? e with | some i=>Nat.beq i.size x.2.2 | _=>false) | _=>false
def ckArr (P:Program) (x:Nat × (Nat × Nat × Nat)):Bool:=match P.underlying x.1 with | some (.array n e)=>Nat.beq n x.2.1 && Nat.beq e x.2.2.1 && (match P.info? e with | some i=>Nat.beq i.size x.2.2.2 | _=>false) | _=>false
def ckAgg (P:Program) (x:Nat × Nat):Bool:=(match P.underlying x.1 with | some d=>isRow d | _=>false) && (match P.info? x.1 with | some i=>Nat.beq i.size x.2 | _=>false)
def ckOffs (P:Program):List Field->List Nat->Bool
 | [],[]=>true
 | f :: fs,o :: os=>Nat.beq f.offset o && (match P.info? f.type with | some i => !Nat.beq i.size 0 | _=>false) && ckOffs P fs os
 | _,_=>false
def ckOff (P:Program) (x:Nat × List Nat):Bool:=match P.underlying x.1 with | some (.struct fs)=>ckOffs P fs.toList x.2 | _=>false
def ckOw (P:Program) (x:Nat × (Nat × Nat)):Bool:=match P.underlying x.1 with
 | some (.slice e)=>Nat.beq e x.2.1 && (match P.info? e with
  | some i=>Nat.beq i.size 1 && Nat.beq i.bytes x.2.2 && (match i.zero with | some z=>Nat.beq z.cells.size 1 | none=>false)
  | _=>false)
 | _=>false
def Tab.check (P:Program) (T:Tab):Bool :=
 T.int.all (ckInt P) && (T.str.all (ckStr P) && (T.one.all (ckOne P) && (T.sl.all (ckSl P) && (T.arr.all (ckArr P) && (T.agg.all (ckAgg P) && (T.off.all (ckOff P) && T.ow.all (ckOw P)))))))
structure Tab.Ok (P:Program) (T:Tab):Prop where
 int:∀ {t k},nk T.int t=some k->P.underlying t=some (.int k)
 str:∀ {t u},nk T.str t=some u->P.underlying t=some .string
 one:∀ {t u},nk T.one t=some u->∃ d,P.underlying t=some d/\isRow d=false
 sl:∀ {t e s},nk T.sl t=some (e,s)->P.underlying t=some (.slice e)/\∃ i,P.info? e=some i/\i.size=s
 arr:∀ {t n e s},nk T.arr t=some (n,e,s)->P.underlying t=some (.array n e)/\∃ i,P.info? e=some i/\i.size=s
 agg:∀ {t n},nk T.agg t=some n->(∃ d,P.underlying t=some d/\isRow d=true)/\∃ i,P.info? t=some i/\i.size=n
 off:∀ {t os},nk T.off t=some os->∃ fs:Array Field,P.underlying t=some (.struct fs)/\∀ (f o:Nat),os[f]? = some o->∃ fd:Field,fs[f]? = some fd/\fd.offset=o/\∃ i,P.info? fd.type=some i/\i.size≠0
 ow:∀ {t e b},nk T.ow t=some (e,b)->P.underlying t=some (.slice e)/\∃ i z,P.info? e=some i/\i.zero=some z/\i.size=1/\i.bytes=b/\z.cells.size=1
theorem ckOffs_spec {P:Program}:∀ {fs:List Field} {os:List Nat},ckOffs P fs os=true->∀ (f o:Nat),os[f]? = some o->∃ fd:Field,fs[f]? = some fd/\fd.offset=o/\∃ i,P.info? fd.type=some i/\i.size≠0
 | [],[],_,f,o,h=>by simp at h
 | [],_ :: _,h,_,_,_=>by simp [ckOffs] at h
 | _ :: _,[],h,_,_,_=>by simp [ckOffs] at h
 | fd :: fs,o' :: os,h,f,o,ho=>by
  simp only [ckOffs,Bool.and_eq_true] at h
  obtain ⟨⟨h1,h2⟩,h3⟩:=h
  cases f with
  | zero =>
   simp only [List.getElem?_cons_zero,Option.some.injEq] at ho
   refine ⟨fd,rfl,(Nat.eq_of_beq_eq_true h1).trans ho,?_⟩
   cases hq:P.info? fd.type with
   | none=>rw [hq] at h2; simp at h2
   | some i =>
    rw [hq] at h2
    simp only [Bool.not_eq_true'] at h2
    exact ⟨i,rfl,Nat.ne_of_beq_eq_false h2⟩
  | succ f=>exact ckOffs_spec h3 f o (by simpa using ho)
theorem Tab.ok_of_check {P:Program} {T:Tab} (h:T.check P=true):T.Ok P:=by
 simp only [Tab.check,Bool.and_eq_true] at h
 obtain ⟨h1,h2,h3,h4,h5,h6,h7,h8⟩:=h
 refine ⟨fun {t k} e=>?_,fun {t u} e=>?_,fun {t u} e=>?_,fun {t a s} e=>?_,fun {t n a s} e=>?_,fun {t n} e=>?_,fun {t os} e=>?_,fun {t a b} e=>?_⟩
 ·have:=nk_all h1 e
  unfold ckInt at this
  split at this
  ·rename_i hq; rw [hq,of_decide_eq_true this]
  ·cases this
 ·have:=nk_all h2 e
  unfold ckStr at this
  split at this
  ·rename_i hq; exact hq
  ·cases this
 ·have:=nk_all h3 e
  unfold ckOne at this
  split at this
  ·rename_i d hq; exact ⟨d,hq,by simpa using this⟩
  ·cases this
 ·have:=nk_all h4 e
  unfold ckSl at this
  split at this
  ·rename_i e' hq
   simp only [Bool.and_eq_true] at this
   have he:=Nat.eq_of_beq_eq_true this.1
   subst he
   have h2:=this.2
   split at h2
   ·rename_i i hi; exact ⟨hq,i,hi,Nat.eq_of_beq_eq_true h2⟩
   ·cases h2
  ·cases this
 ·have:=nk_all h5 e
  unfold ckArr at this
  split at this
  ·rename_i n' e' hq
   simp only [Bool.and_eq_true] at this
   have he:=Nat.eq_of_beq_eq_true this.1.1
   have he2:=Nat.eq_of_beq_eq_true this.1.2
   subst he
   subst he2
   have h2:=this.2
   split at h2
   ·rename_i i hi; exact ⟨hq,i,hi,Nat.eq_of_beq_eq_true h2⟩
   ·cases h2
  ·cases this
 ·have:=nk_all h6 e
  unfold ckAgg at this
  simp only [Bool.and_eq_true] at this
  obtain ⟨ha,hb⟩:=this
  constructor
  ·split at ha
   ·rename_i d hq; exact ⟨d,hq,ha⟩
   ·cases ha
  ·split at hb
   ·rename_i i hq; exact ⟨i,hq,Nat.eq_of_beq_eq_true hb⟩
   ·cases hb
 ·have:=nk_all h7 e
  unfold ckOff at this
  split at this
  ·rename_i fs hq
   exact ⟨fs,hq,fun f o ho=>by simpa using ckOffs_spec this f o ho⟩
  ·cases this
 ·have:=nk_all h8 e
  unfold ckOw at this
  split at this
  ·rename_i e' hq
   simp only [Bool.and_eq_true] at this
   have he:=Nat.eq_of_beq_eq_true this.1
   subst he
   have h2:=this.2
   split at h2
   ·rename_i i hi
    simp only [Bool.and_eq_true] at h2
    have h3:=h2.2
    split at h3
    ·rename_i z hz; exact ⟨hq,i,z,hi,hz,Nat.eq_of_beq_eq_true h2.1.1,Nat.eq_of_beq_eq_true h2.1.2,Nat.eq_of_beq_eq_true h3⟩
    ·cases h3
   ·cases h2
  ·cases this
def shlV (k:IntKind) (a:Int) (n:Nat):Int:=k.wrap (a*2 ^ (min n k.bits))
def shrV (k:IntKind) (a:Int) (n:Nat):Int:=a.fdiv (2 ^ (min n k.bits))
def pvInt (op:BinOp) (k:IntKind) (a b:Int):Option Value :=
 match op with
 | .add=>some (.int k (k.wrap (a+b)))
 | .sub=>some (.int k (k.wrap (a - b)))
 | .mul=>some (.int k (k.wrap (a*b)))
 | .and=>some (.int k (bits .and k a b))
 | .or=>some (.int k (bits .or k a b))
 | .xor=>some (.int k (bits .xor k a b))
 | .andNot=>some (.int k (bits .andNot k a b))
 | .eql=>some (.bool (decide (a=b)))
 | .neq=>some (.bool (!decide (a=b)))
 | .lss=>some (.bool (decide (a<b)))
 | .leq=>some (.bool (decide (a<=b)))
 | .gtr=>some (.bool (decide (b<a)))
 | .geq=>some (.bool (decide (b<=a)))
 | _=>none
def pvStr (op:BinOp) (a b:List UInt8):Option Value :=
 match op with
 | .eql=>some (.bool (decide (a=b)))
 | .neq=>some (.bool (!decide (a=b)))
 | .lss=>some (.bool (Op.bytesLess a b))
 | .leq=>some (.bool (Op.bytesLess a b || decide (a=b)))
 | .gtr=>some (.bool (!(Op.bytesLess a b || decide (a=b))))
 | .geq=>some (.bool (!Op.bytesLess a b))
 | _=>none
def pvBin (op:BinOp):Value->Value->Option Value
 | .int k a,.int k' b=>bif decide (k=k') then pvInt op k a b else none
 | .string ⟨⟨a⟩⟩,.string ⟨⟨b⟩⟩=>pvStr op a b
 | _,_=>none
def pvUn (op:UnOp):Value->Option Value
 | .int k n=>match op with
  | .neg=>some (.int k (k.wrap (0 - n)))
  | .xor=>some (.int k (bits .xor k (if k.signed then -1 else k.max) n))
  | _=>none
 | .bool b=>match op with
  | .not=>some (.bool (!b))
  | _=>none
 | _=>none
def pvCall (T:Tab) (b:Builtin) (t:TypeId) (x:Value):Option Value :=
 match b with
 | .len=>match x with
  | .string ⟨⟨s⟩⟩=>match nk T.str t with
   | some _=>some (.int .i64 s.length)
   | none=>none
  | .slice _ n _=>match nk T.sl t with
   | some _=>some (.int .i64 n)
   | none=>none
  | _=>match nk T.arr t with
   | some (n,_,_)=>some (.int .i64 n)
   | none=>none
 | .cap=>match x with
  | .slice _ _ n=>match nk T.sl t with
   | some _=>some (.int .i64 n)
   | none=>none
  | _=>none
 | _=>none
def pvPick (c x y:Value):Option Value :=
 match c with
 | .bool b=>match x,y with
  | .bool p,.bool q=>some (.bool (bif b then p else q))
  | _,_=>none
 | _=>none
def pvConv (T:Tab) (src dst:TypeId) (x:Value):Option Value :=
 match x with
 | .int _ n=>match nk T.int src,nk T.int dst with
  | some _,some k=>some (.int k (k.wrap n))
  | _,_=>none
 | .string s=>match nk T.str src,nk T.str dst with
  | some _,some _=>some (.string s)
  | _,_=>none
 | _=>none
def pvField (T:Tab) (s:TypeId) (f:Nat) (x:Value):Option Value :=
 match nk T.off s,x with
 | some os,.pointer (some a)=>match os[f]? with
  | some o=>match a with
   | ⟨b,p,none⟩=>some (.pointer (some ⟨b,p+o,none⟩))
   | _=>none
  | none=>none
 | _,_=>none
def pvNil (x:Value):Option Value :=
 match x with
 | .pointer (some a)=>some (.pointer (some a))
 | _=>none
def pvExt (x:Value) (i:Nat):Option Value :=
 match x with
 | .tuple vs=>vs[i]?
 | _=>none
def o1 (f:Value->Option Value) (x:Option Value):Option Value:=match x with | some v=>f v | none=>none
def o2 (f:Value->Value->Option Value) (x y:Option Value):Option Value:=match x with | some v=>(match y with | some u=>f v u | none=>none) | none=>none
def pv (T:Tab) (L:jj) (op:Op):Option Value :=
 match op with
 | .move x=>opv L x
 | .assign x=>opv L x
 | .pick c x y=>match opv L c with
  | some v=>o2 (pvPick v) (opv L x) (opv L y)
  | none=>none
 | .binOp b _ x y _=>o2 (pvBin b) (opv L x) (opv L y)
 | .unOp u _ x=>o1 (pvUn u) (opv L x)
 | .convert s d x=>o1 (pvConv T s d) (opv L x)
 | .extract x i=>o1 (fun v=>pvExt v i) (opv L x)
 | .nilCheck x=>o1 pvNil (opv L x)
 | .fieldAddr s x f=>o1 (pvField T s f) (opv L x)
 | .call ⟨.builtin b,⟨[x]⟩,⟨[t]⟩⟩=>o1 (pvCall T b t) (opv L x)
 | _=>none
theorem o1_some {f:Value->Option Value} {x:Option Value} {v:Value} (h:o1 f x=some v):∃ u,x=some u/\f u=some v:=by
 cases x with
 | none=>simp [o1] at h
 | some u=>exact ⟨u,rfl,h⟩
theorem o2_some {f:Value->Value->Option Value} {x y:Option Value} {v:Value} (h:o2 f x y=some v):∃ u u',x=some u/\y=some u'/\f u u'=some v:=by
 cases x with
 | none=>simp [o2] at h
 | some u=>cases y with
  | none=>simp [o2] at h
  | some u'=>exact ⟨u,u',rfl,rfl,h⟩
theorem mk_toList (l:List UInt8):(⟨⟨l⟩⟩:ByteArray).toList=l:=by rw [ByteArray.toList_eq]
theorem mk_size (l:List UInt8):(⟨⟨l⟩⟩:ByteArray).size=l.length:=rfl
section
variable {P:Program} {T:Tab} {L:jj} {N:Nat} {w:World}
theorem run_pvInt {op:BinOp} {k:IntKind} {a b:Int} {v:Value} (t:TypeId) (h:pvInt op k a b=some v) (w1:World):(binOp op t (.int k a) (.int k b)).run P w1=.ok v w1:=by
 cases op <;> simp only [pvInt,Option.some.injEq,reduceCtorEq] at h <;> subst h <;> simp [binOp,Op.intArith,Op.intBits,Op.intCmp,bits,bne] <;> rfl
theorem run_pvStr {op:BinOp} {a b:List UInt8} {v:Value} (t:TypeId) (h:pvStr op a b=some v) (w1:World):(binOp op t (.string ⟨⟨a⟩⟩) (.string ⟨⟨b⟩⟩)).run P w1=.ok v w1:=by
 cases op <;> simp only [pvStr,Option.some.injEq,reduceCtorEq] at h <;> subst h <;> simp only [binOp,Op.stringOp,mk_toList,Sem.run_pure,Bool.beq_eq_decide_eq] <;> first | rfl | (congr 3 <;> (rw [Bool.eq_iff_iff]; simp))
theorem run_eqGuard (op:BinOp) (t:TypeId) (x y:Operand) {a b:Value} (h:(∃ k n k' n',a=.int k n/\b=.int k' n')∨(∃ s s',a=.string s/\b=.string s')) (w1:World):(eqGuard op t x y a b).run P w1=.ok () w1:=by
 rcases h with ⟨k,n,k',n',rfl,rfl⟩ | ⟨s,s',rfl,rfl⟩ <;> unfold eqGuard <;> split <;> rfl
theorem kz {op:BinOp} {t:TypeId} {x y:Operand} {ty':TypeId} {d:Option Tmp} {ty:TypeId} {pos:String} {af:Array Edge} {ev:Operand->Value} {a b v:Value} (hx:ev x=a) (hy:ev y=b) {w1:World}
  (h1:(eqGuard op t x y a b).run P w1=.ok () w1) (h2:(binOp op t a b).run P w1=.ok v w1):(execOp ev ⟨d,.binOp op t x y ty',ty,pos,af,none⟩).run P w1=.ok (.value v) w1:=by
 unfold execOp
 simp only [hx,hy,Sem.run_bind,h1,h2,Result.andThen_ok,Sem.run_pure]
theorem Yld.move {x:Operand} {v:Value} {d:Option Tmp} {ty:TypeId} {pos:String} {af:Array Edge} (hx:opv L x=some v):Yld P N w ⟨d,.move x,ty,pos,af,none⟩ L v:=fun a w1 _ ha=>by
 unfold execOp
 simp only [ha.ev hx,Sem.run_pure]
theorem zc (hT:T.Ok P) {op:Op} {v:Value} {d:Option Tmp} {ty:TypeId} {pos:String} {af:Array Edge} (h:pv T L op=some v):Yld P N w ⟨d,op,ty,pos,af,none⟩ L v:=fun a w1 _ ha=>by
 unfold pv at h
 split at h
 ·exact Yld.move h a w1 (Eqv.refl _) ha
 ·unfold execOp
  simp only [ha.ev h,Sem.run_pure]
 ·rename_i c x y
  split at h
  ·rename_i u hc
   obtain ⟨p,q,hx,hy,hp⟩:=o2_some h
   unfold execOp
   unfold pvPick at hp
   split at hp
   ·split at hp
    ·simp only [Option.some.injEq] at hp
     subst hp
     rename_i b _ _ p q
     simp only [ha.ev hc,ha.ev hx,ha.ev hy,Sem.run_bind,asBool,Sem.run_pure,Result.andThen_ok]
     cases b <;> rfl
    ·cases hp
   ·cases hp
  ·cases h
 ·obtain ⟨p,q,hx,hy,hp⟩:=o2_some h
  unfold pvBin at hp
  split at hp
  ·rename_i k n k' n'
   cases hk:decide (k=k') with
   | false=>simp [hk] at hp
   | true =>
    have:=of_decide_eq_true hk
    subst this
    rw [hk] at hp
    exact kz (ha.ev hx) (ha.ev hy) (run_eqGuard _ _ _ _ (.inl ⟨_,_,_,_,rfl,rfl⟩) _) (run_pvInt _ hp _)
  ·exact kz (ha.ev hx) (ha.ev hy) (run_eqGuard _ _ _ _ (.inr ⟨_,_,rfl,rfl⟩) _) (run_pvStr _ hp _)
  ·cases hp
 ·obtain ⟨p,hx,hp⟩:=o1_some h
  unfold execOp
  unfold pvUn at hp
  split at hp
  ·split at hp <;> simp only [Option.some.injEq,reduceCtorEq] at hp <;> subst hp <;> simp [ha.ev hx,Op.unary,Op.intArith,Op.intBits,bits]
  ·split at hp <;> simp only [Option.some.injEq,reduceCtorEq] at hp <;> subst hp <;> simp [ha.ev hx,Op.unary]
  ·cases hp
 ·obtain ⟨p,hx,hp⟩:=o1_some h
  unfold execOp
  unfold pvConv at hp
  split at hp
  ·split at hp
   ·rename_i k k' h1 h2
    simp only [Option.some.injEq] at hp
    subst hp
    simp [ha.ev hx,convert,run_underlying (hT.int h1),run_underlying (hT.int h2),Conv.intToInt]
   ·cases hp
  ·split at hp
   ·rename_i h1 h2
    simp only [Option.some.injEq] at hp
    subst hp
    simp [ha.ev hx,convert,run_underlying (hT.str h1),run_underlying (hT.str h2)]
   ·cases hp
  ·cases hp
 ·obtain ⟨p,hx,hp⟩:=o1_some h
  unfold execOp
  unfold pvExt at hp
  split at hp
  ·rename_i vs
   simp [ha.ev hx,Instr.extract,hp]
  ·cases hp
 ·obtain ⟨p,hx,hp⟩:=o1_some h
  unfold execOp
  unfold pvNil at hp
  split at hp
  ·simp only [Option.some.injEq] at hp
   subst hp
   simp [ha.ev hx]
  ·cases hp
 ·obtain ⟨p,hx,hp⟩:=o1_some h
  unfold execOp
  unfold pvField at hp
  split at hp
  ·rename_i hos
   obtain ⟨fs,hfs,hall⟩:=hT.off hos
   split at hp
   ·rename_i o ho
    obtain ⟨fd,hfd,rfl,i,hi,hi0⟩:=hall _ _ ho
    split at hp
    ·simp only [Option.some.injEq] at hp
     subst hp
     simp [ha.ev hx,Instr.fieldAt,run_underlying hfs,hfd,Instr.sureAddr,fieldPlace,sizeOf,typeInfo,hi,hi0,Addr.add_mid]
    ·cases hp
   ·cases hp
  ·cases hp
 ·obtain ⟨p,hx,hp⟩:=o1_some h
  unfold execOp
  unfold pvCall at hp
  split at hp
  ·split at hp
   ·split at hp
    ·rename_i hu
     simp only [Option.some.injEq] at hp
     subst hp
     simp [ha.ev hx,resolve,invoke,builtin,Builtin.len_,run_underlying (hT.str hu),goInt,mk_size]
    ·cases hp
   ·split at hp
    ·rename_i u hu
     simp only [Option.some.injEq] at hp
     subst hp
     simp [ha.ev hx,resolve,invoke,builtin,Builtin.len_,run_underlying (hT.sl (e:=u.1) (s:=u.2) hu).1,goInt]
    ·cases hp
   ·split at hp
    ·rename_i n e s hu
     simp only [Option.some.injEq] at hp
     subst hp
     obtain ⟨he,_⟩:=hT.arr hu
     simp [ha.ev hx,resolve,invoke,builtin,Builtin.len_,run_underlying he,goInt]
    ·cases hp
  ·split at hp
   ·split at hp
    ·rename_i u hu
     simp only [Option.some.injEq] at hp
     subst hp
     simp [ha.ev hx,resolve,invoke,builtin,Builtin.cap_,run_underlying (hT.sl (e:=u.1) (s:=u.2) hu).1,goInt]
    ·cases hp
   ·cases hp
  ·cases hp
 ·cases h
end
end
 
section
open Go Go.RowKit
def In:IntKind->Int->Prop
 | .i8,n => -128<=n/\n<=127
 | .i16,n => -32768<=n/\n<=32767
 | .i32,n => -2147483648<=n/\n<=2147483647
 | .i64,n => -9223372036854775808<=n/\n<=9223372036854775807
 | .u8,n=>0<=n/\n<=255
 | .u16,n=>0<=n/\n<=65535
 | .u32,n=>0<=n/\n<=4294967295
 | .u64,n=>0<=n/\n<=18446744073709551615
theorem In.wrap {k:IntKind} {n:Int} (h:In k n):k.wrap n=n:=by
 cases k
 ·exact IntWalk.i8_in n h
 ·exact IntWalk.i16_in n h
 ·exact IntWalk.i32_in n h
 ·exact IntWalk.i64_in n h
 ·exact IntWalk.u8_in n h
 ·exact IntWalk.u16_in n h
 ·exact IntWalk.u32_in n h
 ·exact IntWalk.u64_in n h
section
variable {P:Program} {T:Tab} {L:jj} {N:Nat} {w:World} {x y:Operand} {d:Option Tmp} {ty:TypeId} {pos:String} {af:Array Edge} {t t':TypeId} {k k':IntKind} {a b:Int}
theorem qR {op:BinOp} {v:Value} (hx:opv L x=some (.int k a)) (hy:opv L y=some (.int k' b)) (hr:∀ w1,(binOp op t (.int k a) (.int k' b)).run P w1=.ok v w1):Yld P N w ⟨d,.binOp op t x y t',ty,pos,af,none⟩ L v:=fun _ w1 _ ha =>
 kz (ha.ev hx) (ha.ev hy) (run_eqGuard _ _ _ _ (.inl ⟨_,_,_,_,rfl,rfl⟩) _) (hr w1)
theorem Yld.add (hx:opv L x=some (.int k a)) (hy:opv L y=some (.int k b)) (hi:In k (a+b)):Yld P N w ⟨d,.binOp .add t x y t',ty,pos,af,none⟩ L (.int k (a+b)):=qR hx hy fun w1=>by simp [binOp,Op.intArith,hi.wrap]
theorem Yld.sub (hx:opv L x=some (.int k a)) (hy:opv L y=some (.int k b)) (hi:In k (a - b)):Yld P N w ⟨d,.binOp .sub t x y t',ty,pos,af,none⟩ L (.int k (a - b)):=qR hx hy fun w1=>by simp [binOp,Op.intArith,hi.wrap]
theorem zE (hx:opv L x=some (.int k a)) (hy:opv L y=some (.int k b)) (hi:In k (a*b)):Yld P N w ⟨d,.binOp .mul t x y t',ty,pos,af,none⟩ L (.int k (a*b)):=qR hx hy fun w1=>by simp [binOp,Op.intArith,hi.wrap]
theorem zH (hx:opv L x=some (.int k a)) (hy:opv L y=some (.int k b)) (ha:0<=a) (hb:0<b) (hi:In k a):Yld P N w ⟨d,.binOp .quo t x y t',ty,pos,af,none⟩ L (.int k (a / b)):=qR hx hy fun w1=>by
 have h1:a.tdiv b=a / b:=Int.tdiv_eq_ediv_of_nonneg ha
 have h2:0<=a / b:=Int.ediv_nonneg ha (by omega)
 have h3:a / b<=a:=Int.ediv_le_self _ ha
 have h4:In k (a / b):=by cases k <;> simp only [In] at hi |- <;> omega
 have h5:¬ b=0:=by omega
 simp [binOp,Op.intDiv,h5,h1,h4.wrap]
theorem zI (hx:opv L x=some (.int k a)) (hy:opv L y=some (.int k b)) (ha:0<=a) (hb:0<b):Yld P N w ⟨d,.binOp .rem t x y t',ty,pos,af,none⟩ L (.int k (a % b)):=qR hx hy fun w1=>by
 have h1:a.tmod b=a % b:=Int.tmod_eq_emod_of_nonneg ha
 have h5:¬ b=0:=by omega
 simp [binOp,Op.intDiv,h5,h1]
theorem Yld.rem' (hx:opv L x=some (.int k a)) (hy:opv L y=some (.int k b)) (hb:b≠0):Yld P N w ⟨d,.binOp .rem t x y t',ty,pos,af,none⟩ L (.int k (a.tmod b)):=qR hx hy fun w1=>by simp [binOp,Op.intDiv,hb]
theorem zG (hx:opv L x=some (.int k a)) (hy:opv L y=some (.int k' b)) (hb:0<=b):Yld P N w ⟨d,.binOp .shl t x y t',ty,pos,af,none⟩ L (.int k (shlV k a b.toNat)):=qR hx hy fun w1=>by
 have:¬ b<0:=by omega
 simp only [binOp,Op.shift,if_neg this,shlV]; rfl
theorem zA (hx:opv L x=some (.int k a)) (hy:opv L y=some (.int k' b)) (hb:0<=b):Yld P N w ⟨d,.binOp .shr t x y t',ty,pos,af,none⟩ L (.int k (shrV k a b.toNat)):=qR hx hy fun w1=>by
 have:¬ b<0:=by omega
 simp only [binOp,Op.shift,if_neg this,shrV]; rfl
theorem zz (hT:T.Ok P) {s e:TypeId} (hs:nk T.int s=some k') (he:nk T.int e=some k) {k2:IntKind} (hx:opv L x=some (.int k2 a)) (hi:In k a):Yld P N w ⟨d,.convert s e x,ty,pos,af,none⟩ L (.int k a):=fun ac w1 _ ha=>by
 unfold execOp
 simp [ha.ev hx,convert,run_underlying (hT.int hs),run_underlying (hT.int he),Conv.intToInt,hi.wrap]
theorem qn {p q:List UInt8} (hx:opv L x=some (.string ⟨⟨p⟩⟩)) (hy:opv L y=some (.string ⟨⟨q⟩⟩)) (hi:p.length+q.length<=9223372036854775807):Yld P N w ⟨d,.binOp .add t x y t',ty,pos,af,none⟩ L (.string ⟨⟨p++q⟩⟩):=fun ac w1 _ ha =>
 kz (ha.ev hx) (ha.ev hy) (run_eqGuard _ _ _ _ (.inr ⟨_,_,rfl,rfl⟩) _) (by
  have:=run_string_add_sum (P:=P) w1 ⟨⟨p⟩⟩ ⟨⟨q⟩⟩ (by simpa [mk_size] using hi)
  simp only [binOp]
  rw [this]
  rfl)
theorem qF (hT:T.Ok P) {i:Operand} {p:List UInt8} {u:Unit} (ht:nk T.str t=some u) (hx:opv L x=some (.string ⟨⟨p⟩⟩)) (hi:opv L i=some (.int k a)) (h0:0<=a) (h1:a<p.length) :
  Yld P N w ⟨d,.index t x i,ty,pos,af,none⟩ L (.int .u8 ((p.getD a.toNat 0).toNat:Int)):=fun ac w1 _ ha=>by
 have h2:a.toNat<p.length:=by omega
 have h3:(⟨⟨p⟩⟩:ByteArray)[a.toNat]? = some (p.getD a.toNat 0):=by
  show (if h:a.toNat<(⟨⟨p⟩⟩:ByteArray).size then some _ else none)=_
  rw [dif_pos (by rw [mk_size]; exact h2)]
  simp [List.getD,h2]
  rfl
 unfold execOp
 simp [ha.ev hx,ha.ev hi,Instr.index,run_underlying (hT.str ht),asIntOf,h0,h3]
def optv (L:jj) (o:Option Operand) (dflt:Int):Option Int:=match o with
 | none=>some dflt
 | some x=>match opv L x with
  | some (.int _ v)=>some v
  | _=>none
theorem run_bound {N:Nat} {ac:Act} (ha:Has N L ac) {o:Operand} {l:Int} {dflt:Int} (h:optv L (some o) dflt=some l):∃ k,ac.eval o=.int k l:=by
 unfold optv at h
 simp only at h
 split at h
 ·rename_i k v hv
  simp only [Option.some.injEq] at h
  subst h
  exact ⟨k,ha.ev hv⟩
 ·cases h
theorem run_bounds {ac:Act} (ha:Has N L ac) {lo hi:Option Operand} {l h:Int} {len cap:Nat} {isS:Bool} (hl:optv L lo 0=some l) (hh:optv L hi len=some h) (h0:0<=l) (h1:l<=h) (h2:h<=cap) (w1:World) :
  (Instr.sliceBounds isS len cap (lo.map ac.eval) (hi.map ac.eval) none).run P w1=.ok (l.toNat,h.toNat,cap) w1:=by
 have g1:0<=h:=by omega
 cases lo with
 | none =>
  simp only [optv,Option.some.injEq] at hl
  subst hl
  cases hi with
  | none =>
   simp only [optv,Option.some.injEq] at hh
   subst hh
   simp [Instr.sliceBounds]
  | some y =>
   obtain ⟨k,hy⟩:=run_bound ha hh
   simp [Instr.sliceBounds,Instr.sliceBound,hy,asIntOf,g1,h2]
 | some x =>
  obtain ⟨k,hx⟩:=run_bound ha hl
  cases hi with
  | none =>
   simp only [optv,Option.some.injEq] at hh
   subst hh
   simp [Instr.sliceBounds,Instr.sliceBound,hx,asIntOf,h0,h1]
  | some y =>
   obtain ⟨k',hy⟩:=run_bound ha hh
   have g2:l<=max h 0:=by omega
   simp [Instr.sliceBounds,Instr.sliceBound,hx,hy,asIntOf,h0,g1,g2,h2]
theorem qB (hT:T.Ok P) {lo hi:Option Operand} {p:List UInt8} {u:Unit} {l h:Int} (ht:nk T.str t=some u) (hx:opv L x=some (.string ⟨⟨p⟩⟩))
  (hl:optv L lo 0=some l) (hh:optv L hi p.length=some h) (h0:0<=l) (h1:l<=h) (h2:h<=p.length) :
  Yld P N w ⟨d,.slice t x lo hi none,ty,pos,af,none⟩ L (.string ⟨⟨(p.drop l.toNat).take (h.toNat - l.toNat)⟩⟩):=fun ac w1 _ ha=>by
 unfold execOp
 have e:(⟨⟨p⟩⟩:ByteArray).extract l.toNat h.toNat=⟨⟨(p.drop l.toNat).take (h.toNat - l.toNat)⟩⟩:=ByteArray.extract_mk p l.toNat h.toNat
 have hb:=run_bounds (P:=P) (len:=p.length) (cap:=p.length) (isS:=false) ha hl hh h0 h1 h2 w1
 simp [ha.ev hx,Instr.sliceAt,run_underlying (hT.str ht),Instr.slice,mk_size,hb,e]
end
end
 
section
open Go Go.RowKit
def Bl (w:World) (g:Nat) (e:TypeId) (us:List Value):Prop:=w.heap[g]? = some (.cells ⟨us⟩ e (0,0))
def blk (A:Option Addr):Option Nat:=A.map (·.block)
structure Rd {α:Type} (f:α->Value) (w:World) (A:Option Addr) (c:Nat) (xs:List α):Prop where
 cap:xs.length<=c
 max:c<=maxLen
 cells:xs≠[]->∃ ad,A=some ad/\∀ j x,xs[j]? = some x->w.cell? (ad.add j)=some (f x)
def Own {α:Type} (f:α->Value) (w:World) (B:Nat) (e:TypeId) (A:Option Addr) (c:Nat) (xs:List α):Prop:=w.ownsRow B e 1 (.slice A xs.length c) xs.length (xs.map f)
def One {α:Type} (f:α->Value):Prop:=∀ x,(f x).oneCell'=true
def vb (b:UInt8):Value:=.int .u8 (b.toNat:Int)
def vi (n:Int):Value:=.int .i64 n
def vu (n:Int):Value:=.int .u32 n
def vs (l:List UInt8):Value:=.string ⟨⟨l⟩⟩
theorem One.b:One vb:=fun _=>rfl
theorem One.i:One vi:=fun _=>rfl
theorem One.u:One vu:=fun _=>rfl
theorem One.s:One vs:=fun _=>rfl
section
variable {w w':World} {g:Nat} {e:TypeId} {us:List Value} {row:Option Nat}
theorem addr_block (a:Addr) (n:Nat):(a.add n).block=a.block:=by unfold Addr.add; split <;> rfl
theorem addr_add (a:Addr) (i j:Nat):(a.add i).add j=a.add (i+j):=by
 unfold Addr.add
 by_cases hi:i=0 <;> by_cases hj:j=0 <;> simp [hi,hj,Nat.add_assoc]
theorem Bl.lt (h:Bl w g e us):g<w.heap.size:=by
 rcases Nat.lt_or_ge g w.heap.size with hlt | hge
 ·exact hlt
 ·unfold Bl at h; rw [Array.getElem?_eq_none hge] at h; cases h
theorem Bl.cell (h:Bl w g e us) (i:Nat):w.cell? ⟨g,i,none⟩=us[i]? := by rw [cell_of_row w g i _ e (0,0) h]; simp
theorem Bl.frozen (h:Bl w g e us) (i:Nat):w.frozen? ⟨g,i,none⟩=false:=frozen_of_row w g i _ e h
theorem Bl.keep (h:Bl w g e us) (hg:w.grownBy w' row) (hne:row≠some g):Bl w' g e us:=(hg.block g h.lt (fun e=>hne e.symm)).trans h
theorem Bl.below {B:Nat} (h:Bl w g e us) (hb:Below B w w') (hg:g<B):Bl w' g e us:=(hb.block g hg).trans h
theorem Bl.ne {g':Nat} {e':TypeId} {us':List Value} (h:Bl w g e us) (h':Bl w g' e' us') (hne:e≠e'):g≠g':=by
 rintro rfl
 unfold Bl at h h'
 rw [h] at h'
 injection h' with h'
 injection h' with _ ht
 exact hne ht
theorem ja {a b c:World} {row:Option Nat} (h:a.grownBy b row) (k:b.grownBy c row):a.grownBy c row :=
 ⟨k.os.trans h.os,k.tape.trans h.tape,k.output.trans h.output,Nat.le_trans h.size k.size,fun i hi hne=>(k.block i (Nat.lt_of_lt_of_le hi h.size) hne).trans (h.block i hi hne)⟩
theorem gr_some {a b:World} (h:a.grownBy b none) (row:Option Nat):a.grownBy b row:=⟨h.os,h.tape,h.output,h.size,fun i hi _=>h.block i hi (by simp)⟩
theorem kq {a b c:World} {row:Option Nat} {g:Nat} (h:a.grownBy b row) (k:b.grownBy c (some g)) (hg:a.heap.size<=g):a.grownBy c row :=
 ⟨k.os.trans h.os,k.tape.trans h.tape,k.output.trans h.output,Nat.le_trans h.size k.size,fun i hi hne=>(k.block i (Nat.lt_of_lt_of_le hi h.size) (fun e=>by injection e with e; omega)).trans (h.block i hi hne)⟩
theorem jr (a:World) (row:Option Nat):a.grownBy a row:=⟨rfl,rfl,rfl,Nat.le_refl _,fun _ _ _=>rfl⟩
theorem gr_below {a b:World} (h:Below a.heap.size a b) (row:Option Nat):a.grownBy b row:=⟨h.os,h.tape,h.output,h.size,fun i hi _=>h.block i hi⟩
theorem below_gr {a b:World} (h:a.grownBy b none):Below a.heap.size a b:=⟨h.os,h.tape,h.output,h.size,fun i hi=>h.block i hi (by simp)⟩
variable {α:Type} {f:α->Value} {A:Option Addr} {c B:Nat} {xs:List α}
theorem Rd.nil (f:α->Value) (w:World) {A:Option Addr} {c:Nat} (hc:c<=maxLen):Rd f w A c []:=⟨Nat.zero_le _,hc,fun h=>absurd rfl h⟩
theorem Rd.at (h:Rd f w A c xs) {j:Nat} (hj:j<xs.length) (d:α):∃ ad,A=some ad/\w.cell? (ad.add j)=some (f (xs.getD j d)):=by
 obtain ⟨ad,e,hc⟩:=h.cells (fun e=>by rw [e] at hj; simp at hj)
 refine ⟨ad,e,hc j _ ?_⟩
 simp [List.getD,hj]
theorem Rd.lt (h:Rd f w A c xs) (hx:xs≠[]) {g:Nat} (hg:blk A=some g):g<w.heap.size:=by
 obtain ⟨ad,rfl,hc⟩:=h.cells hx
 obtain ⟨x,l,rfl⟩:=List.exists_cons_of_ne_nil hx
 have:=World.block_lt_of_cell? w _ (hc 0 x rfl)
 rw [addr_block] at this
 simp only [blk,Option.map_some,Option.some.injEq] at hg
 omega
theorem Rd.keep (h:Rd f w A c xs) (hg:w.grownBy w' row) (hne:∀ g,row=some g->blk A≠some g):Rd f w' A c xs :=
 ⟨h.cap,h.max,fun hx=>by
  obtain ⟨ad,rfl,hc⟩:=h.cells hx
  refine ⟨ad,rfl,fun j x hj=>hg.cell (hc j x hj) (fun e=>?_)⟩
  rw [addr_block] at e
  exact hne _ e.symm (by simp [blk])⟩
theorem Rd.grown (h:Rd f w A c xs) (hg:w.grownBy w' none):Rd f w' A c xs:=h.keep hg (by simp)
theorem Rd.below (h:Rd f w A c xs) (hb:Below w.heap.size w w'):Rd f w' A c xs:=h.grown (gr_below hb none)
theorem Rd.cut (h:Rd f w A c xs) {l k:Nat} (hl:l<=k) (hk:k<=xs.length):Rd f w (if c=l then A else A.map (·.add l)) (c - l) ((xs.drop l).take (k - l)):=by
 have hlen:((xs.drop l).take (k - l)).length=k - l:=by simp; omega
 refine ⟨by have:=h.cap; omega,by have:=h.max; omega,fun hx=>?_⟩
 have hx':0<k - l:=by
  rw [<-hlen]
  exact List.length_pos_iff.2 hx
 obtain ⟨ad,rfl,hc⟩:=h.cells (fun e=>by rw [e] at hk; simp at hk; omega)
 rw [if_neg (by have:=h.cap; omega)]
 refine ⟨ad.add l,rfl,fun j x hj=>?_⟩
 rw [addr_add]
 refine hc (l+j) x ?_
 rw [List.getElem?_take] at hj
 split at hj
 ·rw [List.getElem?_drop] at hj; exact hj
 ·cases hj
theorem blk_cut {l:Nat}:∀ g,blk (if c=l then A else A.map (·.add l))=some g->blk A=some g:=fun g hg=>by
 split at hg
 ·exact hg
 ·cases A with
  | none=>simp [blk] at hg
  | some a=>simpa [blk,addr_block] using hg
theorem Own.nil (f:α->Value) (w:World) (B:Nat) (e:TypeId):Own f w B e none 0 []:=World.ownsRow_nil w B e 1
theorem Own.rd (h:Own f w B e A c xs):Rd f w A c xs:=by
 unfold Own at h
 rcases h.2 with ⟨hv,hn⟩ | ⟨g,cap,cur,hv,hb,hg,hnc,hcm,hcs,htake⟩
 ·simp only [Value.slice.injEq] at hv
  obtain ⟨rfl,_,rfl⟩:=hv
  have:xs=[]:=List.eq_nil_of_length_eq_zero hn
  subst this
  exact Rd.nil f w (Nat.zero_le _)
 ·simp only [Value.slice.injEq] at hv
  obtain ⟨rfl,_,rfl⟩:=hv
  exact ⟨hnc,hcm,fun _=>⟨_,rfl,fun j x hj=>h.cells (g:=g) rfl j _ (by simp [hj])⟩⟩
theorem Own.keep (h:Own f w B e A c xs) (hg:w.grownBy w' row) (hne:∀ g,row=some g->blk A≠some g):Own f w' B e A c xs:=by
 unfold Own at h |-
 refine World.ownsRow.kept h hg ?_
 cases A with
 | none=>exact .inl rfl
 | some a =>
  refine .inr ?_
  simp only [Value.ownBlock]
  intro e
  exact hne _ e.symm (by simp [blk])
theorem Own.grown (h:Own f w B e A c xs) (hg:w.grownBy w' none):Own f w' B e A c xs:=h.keep hg (by simp)
theorem Own.lt (h:Own f w B e A c xs) {g:Nat} (hg:blk A=some g):B<=g/\g<w.heap.size:=by
 unfold Own at h
 refine World.ownsRow.lt h g ?_
 cases A with
 | none=>simp [blk] at hg
 | some a=>simpa [blk,Value.ownBlock] using hg
theorem Own.len (h:Own f w B e A c xs):xs.length<=maxLen:=Nat.le_trans h.rd.cap h.rd.max
end
section rules
variable {P:Program} {T:Tab} {N:Nat} {ops:Array Oper} {Q:Post} {L:jj} {w:World} {rest:List Oper} {d:Nat} {ty:TypeId} {pos:String} {af:Array Edge} {t t':TypeId} {x y i:Operand} {k:IntKind} {q:Int}
variable {α:Type} {f:α->Value} {A:Option Addr} {c n B:Nat} {xs ys:List α} {e:TypeId}
theorem Yld.iaddr {dd:Option Tmp} {e:TypeId} (hT:T.Ok P) (hR:Rd f w A c xs) (hs:nk T.sl t=some (e,1)) (hx:opv L x=some (.slice A n c)) (hn:n=xs.length) (hi:opv L i=some (.int k q)) (h0:0<=q) (h1:q<n) :
  Yld P N w ⟨dd,.indexAddr t x i,ty,pos,af,none⟩ L (.pointer (A.map (·.add q.toNat))):=fun a w1 _ ha=>by
 obtain ⟨hu,j,hj,hj1⟩:=hT.sl hs
 obtain ⟨ad,rfl,_⟩:=hR.cells (fun e=>by rw [e] at hn; simp at hn; omega)
 unfold execOp
 simp [ha.ev hx,ha.ev hi,Instr.indexAt,run_underlying hu,asIntOf,h0,h1,sizeOf,typeInfo,hj,hj1]
theorem zN {dd:Option Tmp} {u:Unit} {j:Nat} (dv:α) (hT:T.Ok P) (hR:Rd f w A c xs) (hs:nk T.one t=some u) (hx:opv L x=some (.pointer (A.map (·.add j)))) (hj:j<xs.length) :
  Yld P N w ⟨dd,.load t x,ty,pos,af,none⟩ L (f (xs.getD j dv)):=fun a w1 hw ha=>by
 obtain ⟨de,hu,hr⟩:=hT.one hs
 obtain ⟨ad,rfl,hc⟩:=hR.at hj dv
 have hc1:w1.cell? (ad.add j)=some (f (xs.getD j dv)):=(hw.cell _).trans hc
 have hagg:(isAgg t).run P w1=.ok false w1:=by
  unfold isAgg
  rw [Sem.run_bind,run_underlying hu w1]
  cases de <;> simp_all [isRow]
 unfold execOp
 simp only [ha.ev hx,Option.map_some,Instr.loadAt,Instr.sureAddr,Sem.run_bind,Sem.run_pure,Result.andThen_ok,loadVar,hagg,Bool.false_eq_true,if_false]
 simp [load,Sem.run,hc1]
theorem Yld.cell {dd:Option Tmp} {u:Unit} {p:Addr} {v:Value} (hT:T.Ok P) (hc:w.cell? p=some v) (hs:nk T.one t=some u) (hx:opv L x=some (.pointer (some p))) :
  Yld P N w ⟨dd,.load t x,ty,pos,af,none⟩ L v:=fun a w1 hw ha=>by
 obtain ⟨de,hu,hr⟩:=hT.one hs
 have hc1:w1.cell? p=some v:=(hw.cell _).trans hc
 have hagg:(isAgg t).run P w1=.ok false w1:=by
  unfold isAgg
  rw [Sem.run_bind,run_underlying hu w1]
  cases de <;> simp_all [isRow]
 unfold execOp
 simp only [ha.ev hx,Instr.loadAt,Instr.sureAddr,Sem.run_bind,Sem.run_pure,Result.andThen_ok,loadVar,hagg,Bool.false_eq_true,if_false]
 simp [load,Sem.run,hc1]
theorem zk {dd:Option Tmp} {u:Unit} {g o:Nat} {us:List Value} {v:Value} (hT:T.Ok P) (hB:Bl w g e us) (hs:nk T.one t=some u) (hx:opv L x=some (.pointer (some ⟨g,o,none⟩))) (hv:us[o]? = some v) :
  Yld P N w ⟨dd,.load t x,ty,pos,af,none⟩ L v:=Yld.cell hT ((hB.cell o).trans hv) hs hx
theorem qz {dd:Option Tmp} {u:Unit} {g o:Nat} (dv:α) (hT:T.Ok P) (hB:Bl w g e (xs.map f)) (hs:nk T.one t=some u) (hx:opv L x=some (.pointer (some ⟨g,o,none⟩))) (ho:o<xs.length) :
  Yld P N w ⟨dd,.load t x,ty,pos,af,none⟩ L (f (xs.getD o dv)):=zk hT hB hs hx (by simp [List.getD,ho])
theorem zu {dd:Option Tmp} {s d:TypeId} {k2:IntKind} {b:UInt8} (hT:T.Ok P) (hs:nk T.int s=some .u8) (hd:nk T.int d=some k2) (hx:opv L x=some (.int .u8 (b.toNat:Int))) (hk:(match k2 with | .i8=>false | _=>true)=true) :
  Yld P N w ⟨dd,.convert s d x,ty,pos,af,none⟩ L (.int k2 (b.toNat:Int)):=zz hT hs hd hx (by
 have:=b.toNat_lt
 cases k2 <;> simp at hk <;> simp only [In] <;> omega)
theorem zQ {dd:Option Tmp} {g o m:Nat} {us vs:List Value} (hT:T.Ok P) (hB:Bl w g e us) (hs:nk T.agg t=some m) (hx:opv L x=some (.pointer (some ⟨g,o,none⟩))) (hv:(us.drop o).take m=vs) (hl:vs.length=m) :
  Yld P N w ⟨dd,.load t x,ty,pos,af,none⟩ L (.agg ⟨vs⟩):=fun a w1 hw ha=>by
 obtain ⟨⟨de,hu,hr⟩,j,hj,hj1⟩:=hT.agg hs
 unfold execOp
 have hrow:de.isRow=true:=by cases de <;> simp_all [isRow]
 have:=run_loadVar_mid (P:=P) w1 g o t vs de (fun p v hv'=>by
  rw [hw.cell,hB.cell,<-hv']
  subst hv
  rw [List.getElem?_take,List.getElem?_drop]
  split
  ·rfl
  ·rename_i hp
   rw [List.getElem?_take,if_neg hp] at hv'
   cases hv') hu hrow (by simp [hj,hj1,hl])
 simp only [ha.ev hx,Instr.loadAt,Instr.sureAddr,Sem.run_bind,Sem.run_pure,Result.andThen_ok,this]
theorem qi {dd:Option Tmp} {g o m s:Nat} {e:TypeId} (hT:T.Ok P) (hs:nk T.arr t=some (m,e,s)) (hx:opv L x=some (.pointer (some ⟨g,o,none⟩))) (hi:opv L i=some (.int k q)) (h0:0<=q) (h1:q<m) :
  Yld P N w ⟨dd,.indexAddr t x i,ty,pos,af,none⟩ L (.pointer (some ⟨g,o+q.toNat*s,none⟩)):=fun a w1 _ ha=>by
 obtain ⟨hu,j,hj,hj1⟩:=hT.arr hs
 unfold execOp
 simp [ha.ev hx,ha.ev hi,Instr.indexAt,run_underlying hu,asIntOf,h0,h1,sizeOf,typeInfo,hj,hj1,Instr.sureAddr,Addr.add_mid]
theorem Yld.aidx {dd:Option Tmp} {m:Nat} {e:TypeId} {us:List Value} {u:Unit} {v:Value} (hT:T.Ok P) (hs:nk T.arr t=some (m,e,1)) (he:nk T.one e=some u) (hx:opv L x=some (.agg ⟨us⟩)) (hi:opv L i=some (.int k q)) (h0:0<=q) (h1:q<m) (hv:us[q.toNat]? = some v) :
  Yld P N w ⟨dd,.index t x i,ty,pos,af,none⟩ L v:=fun a w1 _ ha=>by
 obtain ⟨hu,j,hj,hj1⟩:=hT.arr hs
 obtain ⟨de,hue,hr⟩:=hT.one he
 have hagg:(isAgg e).run P w1=.ok false w1:=by
  unfold isAgg
  rw [Sem.run_bind,run_underlying hue w1]
  cases de <;> simp_all [isRow]
 unfold execOp
 simp [ha.ev hx,ha.ev hi,Instr.index,run_underlying hu,asIntOf,h0,h1,sizeOf,typeInfo,hj,hj1,part,hagg,hv]
theorem Yld.b2s {dd:Option Tmp} {e b s:TypeId} {u:Unit} {xs:List UInt8} (hT:T.Ok P) (hR:Rd vb w A c xs) (hs:nk T.sl b=some (e,1)) (he:nk T.int e=some .u8) (hd:nk T.str s=some u) (hx:opv L x=some (.slice A n c)) (hn:n=xs.length) :
  Yld P N w ⟨dd,.convert b s x,ty,pos,af,none⟩ L (.string ⟨⟨xs⟩⟩):=fun a w1 hw ha=>by
 obtain ⟨hu,_⟩:=hT.sl hs
 subst hn
 have key:(Conv.bytesToString (.slice A xs.length c)).run P w1=.ok (.string ⟨⟨xs⟩⟩) w1:=by
  by_cases hx0:xs=[]
  ·subst hx0
   cases A with
   | none=>rfl
   | some ad=>simp [Conv.bytesToString,loadCells,loadCellsFrom]; rfl
  ·obtain ⟨ad,rfl,hc⟩:=hR.cells hx0
   have hl:(loadCells ad xs.length).run P w1=.ok ((xs.map fun b=>(b.toNat:Int)).map (Value.int .u8)).toArray w1:=by
    have:=run_loadCells_list (P:=P) w1 ad (xs.map vb) (fun j v hv=>by
     rw [List.getElem?_map] at hv
     cases hq:xs[j]? with
     | none=>rw [hq] at hv; simp at hv
     | some b=>rw [hq] at hv; simp at hv; rw [hw.cell,<-hv]; exact hc j b hq)
    rw [List.length_map] at this
    rw [this,List.map_map]
    rfl
   rw [run_bytesToString w1 ad xs.length c _ hl]
   congr 2
   have gen:∀ (l:List UInt8) (r:List UInt8),(l.map fun b=>(b.toNat:Int)).foldl (fun r n=>r.push (UInt8.ofNat n.toNat)) (⟨⟨r⟩⟩:ByteArray)=⟨⟨r++l⟩⟩:=by
    intro l
    induction l with
    | nil=>intro r; simp
    | cons b l ih =>
     intro r
     simp only [List.map_cons,List.foldl_cons]
     have:(⟨⟨r⟩⟩:ByteArray).push (UInt8.ofNat ((b.toNat:Int)).toNat)=⟨⟨r++[b]⟩⟩:=by
      rw [Int.toNat_natCast,UInt8.ofNat_toNat]
      show ByteArray.mk ((⟨r⟩:Array UInt8).push b)=_
      rw [List.push_toArray]
     rw [this,ih,List.append_assoc]
     rfl
   exact gen xs []
 unfold execOp
 simp only [ha.ev hx,convert,Sem.run_bind,run_underlying hu,run_underlying (hT.str hd),run_underlying (hT.int he),Result.andThen_ok,key,Sem.run_pure]
theorem Yld.cut {dd:Option Tmp} {e:TypeId} {lo hi:Option Operand} {l h:Int} (hT:T.Ok P) (hR:Rd f w A c xs) (hs:nk T.sl t=some (e,1)) (hx:opv L x=some (.slice A n c)) (hn:n=xs.length)
  (hl:optv L lo 0=some l) (hh:optv L hi n=some h) (h0:0<=l) (h1:l<=h) (h2:h<=n) :
  Yld P N w ⟨dd,.slice t x lo hi none,ty,pos,af,none⟩ L (.slice (if c=l.toNat then A else A.map (·.add l.toNat)) ((xs.drop l.toNat).take (h.toNat - l.toNat)).length (c - l.toNat)):=fun a w1 _ ha=>by
 obtain ⟨hu,j,hj,hj1⟩:=hT.sl hs
 have hb:=run_bounds (P:=P) (len:=n) (cap:=c) (isS:=true) ha hl hh h0 h1 (by have:=hR.cap; omega) w1
 have hlen:((xs.drop l.toNat).take (h.toNat - l.toNat)).length=h.toNat - l.toNat:=by simp; omega
 rw [hlen]
 unfold execOp
 simp [ha.ev hx,Instr.sliceAt,run_underlying hu,Instr.slice,hb,sizeOf,typeInfo,hj,hj1]
theorem WL.cut {e:TypeId} {lo hi:Option Operand} {l h:Int} (hT:T.Ok P) (hR:Rd f w A c xs) (hd:Nat.blt d N=true) (hs:nk T.sl t=some (e,1)) (hx:opv L x=some (.slice A n c)) (hn:n=xs.length)
  (hl:optv L lo 0=some l) (hh:optv L hi n=some h) (h0:0<=l) (h1:l<=h) (h2:h<=n)
  (hk:∀ A' c',Rd f w A' c' ((xs.drop l.toNat).take (h.toNat - l.toNat))->(∀ g,blk A'=some g->blk A=some g)->WL P N ops Q rest ((d,.slice A' ((xs.drop l.toNat).take (h.toNat - l.toNat)).length c') :: L) w) :
  WL P N ops Q (⟨some d,.slice t x lo hi none,ty,pos,af,none⟩ :: rest) L w :=
 zg hd (Yld.cut hT hR hs hx hn hl hh h0 h1 h2) (hk _ _ (hR.cut (by omega) (by omega)) blk_cut)
theorem WQ.cut {K:Act->Prop} {e:TypeId} {lo hi:Option Operand} {l h:Int} (hT:T.Ok P) (hR:Rd f w A c xs) (hd:Nat.blt d N=true) (hs:nk T.sl t=some (e,1)) (hx:opv L x=some (.slice A n c)) (hn:n=xs.length)
  (hl:optv L lo 0=some l) (hh:optv L hi n=some h) (h0:0<=l) (h1:l<=h) (h2:h<=n)
  (hk:∀ A' c',Rd f w A' c' ((xs.drop l.toNat).take (h.toNat - l.toNat))->(∀ g,blk A'=some g->blk A=some g)->WQ P N ops K rest ((d,.slice A' ((xs.drop l.toNat).take (h.toNat - l.toNat)).length c') :: L) w) :
  WQ P N ops K (⟨some d,.slice t x lo hi none,ty,pos,af,none⟩ :: rest) L w :=
 z7 hd (Yld.cut hT hR hs hx hn hl hh h0 h1 h2) (hk _ _ (hR.cut (by omega) (by omega)) blk_cut)
end rules
end
 
section
open Go Go.RowKit
def jM (P:Program) (t:TypeId):Option (List Value):=match P.info? t with
 | some i=>match i.zero with
  | some z=>some z.cells.toList
  | none=>none
 | none=>none
theorem zeroOf_run {P:Program} {t:TypeId} {us:List Value} (h:jM P t=some us) (w:World):∃ z,(zeroValue t).run P w=.ok z w/\z.cells=⟨us⟩:=by
 unfold jM at h
 split at h
 ·rename_i i hi
  split at h
  ·rename_i z hz
   simp only [Option.some.injEq] at h
   refine ⟨z,by simp [zeroValue,typeInfo,hi,hz],?_⟩
   rw [<-h]
  ·cases h
 ·cases h
theorem gr_alloc (w:World) (o:Obj) (row:Option Nat):w.grownBy (w.alloc o) row:=World.grownBy_alloc w o row
theorem jg {a b b':World} {row:Option Nat} (h:a.grownBy b row) (k:Eqv b b'):a.grownBy b' row:=⟨k.os.trans h.os,k.tape.trans h.tape,k.output.trans h.output,by rw [k.heap]; exact h.size,fun i hi hne=>by rw [k.heap]; exact h.block i hi hne⟩
theorem kh {a a' b:World} {row:Option Nat} (k:Eqv a a') (h:a'.grownBy b row):a.grownBy b row:=⟨h.os.trans k.os,h.tape.trans k.tape,h.output.trans k.output,by rw [<-k.heap]; exact h.size,fun i hi hne=>by rw [<-k.heap]; exact h.block i (by rw [k.heap]; exact hi) hne⟩
section rules
variable {P:Program} {T:Tab} {N:Nat} {ops:Array Oper} {Q:Post} {L:jj} {w:World} {rest:List Oper} {d:Nat} {ty:TypeId} {pos:String} {af:Array Edge} {t t':TypeId} {x y i:Operand} {k:IntKind} {q:Int}
variable {α:Type} {f:α->Value} {A:Option Addr} {c n B:Nat} {xs ys:List α} {e:TypeId} {us:List Value}
def Eff (P:Program) (N:Nat) (w:World) (o:Oper) (L:jj) (R:Value->World->Prop):Prop:=∀ a w1,Eqv w w1->Has N L a->∃ v w',(execOp a.eval o).run P w1=.ok (.value v) w'/\R v w'
theorem WL.put {op:Op} {R:Value->World->Prop} (hd:Nat.blt d N=true) (hr:∀ a w1,Eqv w w1->Has N L a->∃ v w',(execOp a.eval ⟨some d,op,ty,pos,af,none⟩).run P w1=.ok (.value v) w'/\R v w')
  (hk:∀ v w',R v w'->WL P N ops Q rest ((d,v) :: L) w'):WL P N ops Q (⟨some d,op,ty,pos,af,none⟩ :: rest) L w:=fun a w1 e ha =>
 wpList_plain rfl fun K hK=>by
  obtain ⟨v,w',h,hR⟩:=hr a w1 e ha
  unfold Oper.wp
  rw [h]
  exact hK _ _ (hk v w' hR _ w' (Eqv.refl _) (ha.put hd v))
theorem WL.eff {op:Op} {R:World->Prop} (hr:∀ a w1,Eqv w w1->Has N L a->∃ w',(execOp a.eval ⟨none,op,ty,pos,af,none⟩).run P w1=.ok .skip w'/\R w')
  (hk:∀ w',R w'->WL P N ops Q rest L w'):WL P N ops Q (⟨none,op,ty,pos,af,none⟩ :: rest) L w:=fun a w1 e ha =>
 wpList_plain rfl fun K hK=>by
  obtain ⟨w',h,hR⟩:=hr a w1 e ha
  unfold Oper.wp
  rw [h]
  exact hK _ _ (hk w' hR _ w' (Eqv.refl _) ha)
theorem newBlock (w1:World) (hw:Eqv w w1) (us:List Value) (e:TypeId):Bl (w1.alloc (.cells ⟨us⟩ e)) w.heap.size e us/\w.grownBy (w1.alloc (.cells ⟨us⟩ e)) none:=by
 have hs:w1.heap.size=w.heap.size:=by rw [hw.heap]
 refine ⟨?_,kh hw (gr_alloc w1 _ none)⟩
 unfold Bl
 rw [<-hs]
 exact heap_alloc_new w1 _
theorem Eff.alloc (hz:jM P t=some us) :
  Eff P N w ⟨some d,.alloc t,ty,pos,af,none⟩ L (fun v w'=>v=.pointer (some ⟨w.heap.size,0,none⟩)/\Bl w' w.heap.size t us/\w.grownBy w' none):=fun a w1 hw ha=>by
  obtain ⟨z,hz1,hz2⟩:=zeroOf_run hz w1
  have hs:w1.heap.size=w.heap.size:=by rw [hw.heap]
  refine ⟨_,w1.alloc (.cells ⟨us⟩ t),?_,rfl,newBlock w1 hw us t⟩
  unfold execOp
  simp only [Instr.alloc,Sem.run_bind,hz1,Result.andThen_ok,newVar,newRow,hz2,newObj,Sem.run_pure]
  rw [<-hs]; rfl
theorem WL.alloc (hd:Nat.blt d N=true) (hz:jM P t=some us)
  (hk:∀ g w',Bl w' g t us->w.grownBy w' none->w.heap.size<=g->WL P N ops Q rest ((d,.pointer (some ⟨g,0,none⟩)) :: L) w') :
  WL P N ops Q (⟨some d,.alloc t,ty,pos,af,none⟩ :: rest) L w :=
 WL.put (R:=fun v w'=>v=.pointer (some ⟨w.heap.size,0,none⟩)/\Bl w' w.heap.size t us/\w.grownBy w' none) hd (Eff.alloc hz) (fun v w' ⟨hv,hb,hg⟩=>by subst hv; exact hk _ _ hb hg (Nat.le_refl _))
theorem Eff.box {v:Value} (hx:opv L x=some v) (hv:v.cells.toList=us) :
  Eff P N w ⟨some d,.box t x,ty,pos,af,none⟩ L (fun v w'=>v=.pointer (some ⟨w.heap.size,0,none⟩)/\Bl w' w.heap.size t us/\w.grownBy w' none):=fun a w1 hw ha=>by
  have hs:w1.heap.size=w.heap.size:=by rw [hw.heap]
  have hc:v.cells=⟨us⟩:=by rw [<-hv]
  refine ⟨_,w1.alloc (.cells ⟨us⟩ t),?_,rfl,newBlock w1 hw us t⟩
  unfold execOp
  simp only [ha.ev hx,Instr.box,Sem.run_bind,newVar,newRow,hc,newObj,Sem.run_pure]
  rw [<-hs]; rfl
theorem qm {v:Value} (hd:Nat.blt d N=true) (hx:opv L x=some v) (hv:v.cells.toList=us)
  (hk:∀ g w',Bl w' g t us->w.grownBy w' none->w.heap.size<=g->WL P N ops Q rest ((d,.pointer (some ⟨g,0,none⟩)) :: L) w') :
  WL P N ops Q (⟨some d,.box t x,ty,pos,af,none⟩ :: rest) L w :=
 WL.put (R:=fun v w'=>v=.pointer (some ⟨w.heap.size,0,none⟩)/\Bl w' w.heap.size t us/\w.grownBy w' none) hd (Eff.box hx hv) (fun v w' ⟨hv,hb,hg⟩=>by subst hv; exact hk _ _ hb hg (Nat.le_refl _))
def partsV (L:jj):Nat->List (Nat × Operand)->Option (List Value)
 | _,[]=>some []
 | j,(i,x) :: r=>bif Nat.beq i j then (match opv L x,partsV L (j+1) r with
  | some v,some vs=>some (v :: vs)
  | _,_=>none) else none
theorem set_last {β:Type} (done:List β) (z v:β) (i:Nat) (h:done.length=i):(done++[z]).set i v=done++[v]:=by subst h; simp
theorem fill_parts {a:Act} (ha:Has N L a):∀ (ps:List (Nat × Operand)) (j:Nat) (vs:List Value) (done:List Value) (cells:Array Value),partsV L j ps=some vs->(∀ u∈vs,u.oneCell'=true)->done.length=j->cells.toList.take j=done->cells.size=j+vs.length ->
  Instr.fill (fun i=>some (i*1,1)) cells (ps.map fun p=>(p.1,a.eval p.2))=some ⟨done++vs⟩
 | [],j,vs,done,cells,hp,_,hdl,ht,hs=>by
  simp only [partsV,Option.some.injEq] at hp
  subst hp
  simp only [List.map_nil,Instr.fill,List.append_nil]
  congr 1
  apply Array.ext'
  rw [<-ht,List.take_of_length_le (by simp at hs |-; omega)]
 | (i,x) :: ps,j,vs,done,cells,hp,h1,hdl,ht,hs=>by
  simp only [partsV] at hp
  cases hij:Nat.beq i j with
  | false=>simp [hij] at hp
  | true =>
   have:=Nat.eq_of_beq_eq_true hij
   subst this
   simp only [hij,cond_true] at hp
   split at hp
   ·rename_i v us hv hus
    simp only [Option.some.injEq] at hp
    subst hp
    have hv1:v.oneCell'=true:=h1 v (by simp)
    have hcs:v.cells = #[v]:=by cases v <;> first | rfl | simp [Value.oneCell'] at hv1
    simp only [List.map_cons,Instr.fill,ha.ev hv,hcs]
    have hlt:i<cells.size:=by simp at hs; omega
    rw [if_neg (by simp; omega)]
    have:=fill_parts ha ps (i+1) us (done++[v]) (cells.setIfInBounds i v) hus (fun u hu=>h1 u (by simp [hu])) (by simp [hdl]) (by
     rw [Array.toList_setIfInBounds,List.take_set,List.take_succ_eq_append_getElem (by simpa using hlt),ht]
     exact set_last done _ v i hdl) (by simp at hs |-; omega)
    simpa using this
   ·cases hp
theorem Eff.lit {e b m:Nat} {ps:List (Nat × Operand)} (hT:T.Ok P) (hs:nk T.ow t=some (e,b)) (hp:partsV L 0 ps=some us) (h1:∀ u∈us,u.oneCell'=true) (hm:us.length=m) (hm2:m<=16777216) :
  Eff P N w ⟨some d,.buildSlice t m ⟨ps⟩,ty,pos,af,none⟩ L (fun v w'=>v=.slice (some ⟨w.heap.size,0,none⟩) m m/\Bl w' w.heap.size e us/\w.grownBy w' none):=fun a w1 hw ha=>by
  have hs1:w1.heap.size=w.heap.size:=by rw [hw.heap]
  obtain ⟨hu,j,z,hj,hz,hj1,_,hz1⟩:=hT.ow hs
  refine ⟨_,w1.alloc (.cells ⟨us⟩ e),?_,rfl,newBlock w1 hw us e⟩
  have hne:¬ (m*1 > 2 ^ 24):=by simp; omega
  have hmap:((⟨ps⟩:Array (Nat × Operand)).map fun p=>(p.1,a.eval p.2)).toList=ps.map fun p=>(p.1,a.eval p.2):=by simp
  have hfill:∀ cells:Array Value,cells.size=m->Instr.fill (fun i=>some (i*1,1)) cells (ps.map fun p=>(p.1,a.eval p.2))=some ⟨us⟩:=fun cells hc=>by
   have:=fill_parts ha ps 0 us [] cells hp h1 rfl rfl (by omega)
   simpa using this
  have hzr:(zeroValue e).run P w1=.ok z w1:=by simp [zeroValue,typeInfo,hj,hz]
  unfold execOp
  simp only [Instr.buildSlice,Sem.run_bind,run_underlying hu,Result.andThen_ok,sizeOf,typeInfo,program,Sem.run,hj,hj1,hne,if_false,Sem.run_pure,hmap]
  by_cases hm0:m=0
  ·subst hm0
   simp only [Nat.zero_mul,if_true,Sem.run_bind,Sem.run_pure,Result.andThen_ok]
   rw [hfill _ (by simp)]
   simp only [newRow,newObj,Sem.run_bind,Sem.run_pure]
   rw [<-hs1]; rfl
  ·rw [if_neg (by omega)]
   simp only [Sem.run_bind,hzr,Result.andThen_ok,Sem.run_pure]
   rw [hfill _ (by simp)]
   simp only [newRow,newObj,Sem.run_bind,Sem.run_pure]
   rw [<-hs1]; rfl
theorem qD {e b m:Nat} {ps:List (Nat × Operand)} (hT:T.Ok P) (hd:Nat.blt d N=true) (hs:nk T.ow t=some (e,b)) (hp:partsV L 0 ps=some us) (h1:∀ u∈us,u.oneCell'=true) (hm:us.length=m) (hm2:m<=16777216)
  (hk:∀ g w',Bl w' g e us->w.grownBy w' none->w.heap.size<=g->WL P N ops Q rest ((d,.slice (some ⟨g,0,none⟩) m m) :: L) w') :
  WL P N ops Q (⟨some d,.buildSlice t m ⟨ps⟩,ty,pos,af,none⟩ :: rest) L w :=
 WL.put (R:=fun v w'=>v=.slice (some ⟨w.heap.size,0,none⟩) m m/\Bl w' w.heap.size e us/\w.grownBy w' none) hd (Eff.lit hT hs hp h1 hm hm2) (fun v w' ⟨hv,hb,hg⟩=>by subst hv; exact hk _ _ hb hg (Nat.le_refl _))
theorem run_store1 {u:Value} {g o:Nat} {w1:World} (hB:Bl w1 g e us) (ho:o<us.length) (h1:u.oneCell'=true) {j:TypeInfo} (hj:P.info? t=some j) (hj1:j.size=1) :
  (Instr.storeAt t (.pointer (some ⟨g,o,none⟩)) u).run P w1=.ok () (w1.setCell ⟨g,o,none⟩ u):=by
 have hc:w1.cell? ⟨g,o,none⟩=some us[o]:=by rw [hB.cell]; simp [ho]
 have hf:=hB.frozen o
 have hcs:u.cells = #[u]:=by cases u <;> first | rfl | simp [Value.oneCell'] at h1
 simp only [Instr.storeAt,Instr.sureAddr,Sem.run_bind,Sem.run_pure,Result.andThen_ok,storeVar,hcs,sizeOf,typeInfo,program,Sem.run,hj,hj1]
 simp only [List.size_toArray,List.length_cons,List.length_nil,ne_eq,not_true_eq_false,if_false,storeCells,Sem.run_bind,store,Addr.add_mid,Nat.add_zero,Sem.run_pure]
 cases u <;> simp [Value.oneCell'] at h1 <;> simp [Sem.run,hc,hf]
theorem bl_set {w1:World} {g o:Nat} {u:Value} (hB:Bl w1 g e us):Bl (w1.setCell ⟨g,o,none⟩ u) g e (us.set o u):=by
 unfold Bl at hB |-
 rw [heap_setCell_same w1 g o _ e u hB]
 simp
theorem gr_set (w1:World) (a:Addr) (u:Value):w1.grownBy (w1.setCell a u) (some a.block):=⟨rfl,rfl,rfl,by simp [World.setCell],fun k _ hk=>Below.heap_setCell _ _ _ _ (fun e=>hk (by rw [e]))⟩
theorem ji {w1:World} {g:Nat} (hw:Eqv w w1) (hB:Bl w g e us):Bl w1 g e us:=by unfold Bl; rw [hw.heap]; exact hB
def sz1 (P:Program) (t:TypeId):Bool:=match P.info? t with | some i=>Nat.beq i.size 1 | none=>false
theorem zR {g o:Nat} {u:Value} (h1:sz1 P t=true) (hx:opv L x=some (.pointer (some ⟨g,o,none⟩))) (hy:opv L y=some u) (hu:u.oneCell'=true) (hB:Bl w g e us) (ho:o<us.length)
  (hk:∀ w',Bl w' g e (us.set o u)->w.grownBy w' (some g)->WL P N ops Q rest L w'):WL P N ops Q (⟨none,.store t x y,ty,pos,af,none⟩ :: rest) L w :=
 WL.eff (R:=fun w'=>Bl w' g e (us.set o u)/\w.grownBy w' (some g)) (fun a w1 hw ha=>by
  have hB1:=ji hw hB
  unfold sz1 at h1
  split at h1
  ·rename_i j hj
   refine ⟨_,?_,bl_set (o:=o) (u:=u) hB1,kh hw (gr_set w1 ⟨g,o,none⟩ u)⟩
   unfold execOp
   simp only [ha.ev hx,ha.ev hy,Sem.run_bind,run_store1 hB1 ho hu hj (Nat.eq_of_beq_eq_true h1),Result.andThen_ok,Sem.run_pure]
  ·cases h1) (fun w' ⟨hb,hg⟩=>hk w' hb hg)
theorem zP {g:Nat} {vs:List Value} {m:Nat} (hT:T.Ok P) (h1:nk T.agg t=some m) (hx:opv L x=some (.pointer (some ⟨g,0,none⟩))) (hy:opv L y=some (.agg ⟨vs⟩)) (hu:∀ u∈vs,u.oneCell'=true) (hB:Bl w g e us) (ho:us.length=m) (hv:vs.length=m)
  (hk:∀ w',Bl w' g e vs->w.grownBy w' (some g)->WL P N ops Q rest L w'):WL P N ops Q (⟨none,.store t x y,ty,pos,af,none⟩ :: rest) L w :=
 WL.eff (R:=fun w'=>Bl w' g e vs/\w.grownBy w' (some g)) (fun a w1 hw ha=>by
  have hB1:=ji hw hB
  obtain ⟨_,j,hj,hj1⟩:=hT.agg h1
  have hst:=run_storeCells_at P g 0 e vs 0 ⟨us⟩ w1 hB1 (by simp; omega) hu
  have hrow:(List.take (0+0) (⟨us⟩:Array Value).toList++vs++List.drop (0+0+vs.length) (⟨us⟩:Array Value).toList).toArray=⟨vs⟩:=by
   have:List.drop (0+0+vs.length) us=[]:=List.drop_eq_nil_of_le (by omega)
   simp only [this]
   simp
  rw [hrow] at hst
  refine ⟨w1.setRow g ⟨vs⟩,?_,setRow_heap w1 g _ _ e _ hB1,kh hw ⟨rfl,rfl,rfl,by simp,fun k _ hk=>setRow_other w1 g k _ (fun e=>hk (by rw [e]))⟩⟩
  unfold execOp
  have hcell:(Value.agg ⟨vs⟩).cells=⟨vs⟩:=rfl
  simp only [ha.ev hx,ha.ev hy,Sem.run_bind,Instr.storeAt,Instr.sureAddr,Sem.run_pure,Result.andThen_ok,storeVar,hcell,sizeOf,typeInfo,program,Sem.run,hj,hj1]
  have hsz:(⟨vs⟩:Array Value).size=m:=hv
  simp only [hsz,ne_eq,not_true_eq_false,if_false,hst,Result.andThen_ok]) (fun w' ⟨hb,hg⟩=>hk w' hb hg)
theorem WL.ostore {j:Nat} {v:α} (h1:sz1 P t=true) (hf:One f) (hO:Own f w B e A c xs) (hx:opv L x=some (.pointer (A.map (·.add j)))) (hy:opv L y=some (f v)) (hj:j<xs.length)
  (hk:∀ w',Own f w' B e A c (xs.set j v)->w.grownBy w' (blk A)->WL P N ops Q rest L w'):WL P N ops Q (⟨none,.store t x y,ty,pos,af,none⟩ :: rest) L w:=by
 unfold Own at hO
 rcases hO.2 with ⟨hv,hn⟩ | ⟨g,cap,cur,hv,hb,hg,hnc,hcm,hcs,htake⟩
 ·omega
 ·simp only [Value.slice.injEq] at hv
  obtain ⟨rfl,_,rfl⟩:=hv
  refine zR (g:=g) (o:=j) (e:=e) (us:=cur.toList) h1 ?_ hy (hf v) (by unfold Bl; exact hg) (by have:cur.size=c*1:=hcs; rw [Array.length_toList]; omega) (fun w' hB' hgr=>hk w' ?_ hgr)
  ·rw [hx]; simp [Addr.add_mid]
  ·unfold Own
   refine ⟨by simp,.inr ⟨g,c,_,by simp,hb,hB',by simpa using hnc,hcm,by simpa using hcs,?_⟩⟩
   simp only [List.length_set,List.map_set]
   rw [List.take_set,<-htake]
theorem run_append_own_src {w1:World} {tx:TypeId} {v:Value} {e b m:Nat} {ys:List α} (hT:T.Ok P) (hs:nk T.ow t=some (e,b)) (hO:Own f w1 B e A c xs) (hS:Src P 1 tx v m (ys.map f) w1) (hm:m=ys.length) (hl:(xs.length+ys.length)*b<=140737488355328) (h63:xs.length+ys.length<=maxLen) (hB:B<=w1.heap.size) (ty:TypeId) :
  ∃ A' c' w',(Builtin.append_ #[t,tx] ty #[.slice A xs.length c,v]).run P w1=.ok (.slice A' (xs++ys).length c') w'/\Own f w' B e A' c' (xs++ys)/\w1.grownBy w' (blk A)/\(∀ g,blk A'=some g->blk A=some g∨w1.heap.size<=g):=by
 obtain ⟨hu,i,z,hi,hz,hi1,hib,hz1⟩:=hT.ow hs
 subst hib
 subst hm
 have h63':((xs.length+ys.length:Nat):Int)<=9223372036854775807:=by simp only [maxLen] at h63; omega
 have hO':=hO
 unfold Own at hO
 have hlen:((xs++ys).map f).length=(xs++ys).length*1:=by simp
 have hge:=grownCap_ge w1 (xs.length+ys.length) c e
 have hcm:=grownCap_le_maxLen w1 (xs.length+ys.length) c e (by omega)
 have grow:c<xs.length+ys.length->∃ A' c' w',(Builtin.append_ #[t,tx] ty #[.slice A xs.length c,v]).run P w1=.ok (.slice A' (xs++ys).length c') w'/\Own f w' B e A' c' (xs++ys)/\w1.grownBy w' (blk A)/\(∀ g,blk A'=some g->blk A=some g∨w1.heap.size<=g):=by
  intro hlt
  have hold:(Builtin.firstCells i.size xs.length (.slice A xs.length c)).run P w1.drew=.ok ((xs.map f).toArray) w1.drew:=by
   rw [hi1]
   by_cases hx0:xs=[]
   ·subst hx0
    cases A with
    | none=>exact run_firstCells_none w1.drew 1 0 0 c
    | some ad=>exact run_firstCells_some w1.drew 1 0 ad 0 c [] (by simp) (by simp)
   ·obtain ⟨ad,rfl,hc⟩:=hO'.rd.cells hx0
    exact run_firstCells_some w1.drew 1 xs.length ad xs.length c (xs.map f) (by simp) (fun j u hj=>by
     rw [List.getElem?_map] at hj
     cases hq:xs[j]? with
     | none=>rw [hq] at hj; simp at hj
     | some a=>rw [hq] at hj; simp at hj; rw [<-hj]; exact hc j a hq)
  have hr:=run_append_grow_src (P:=P) w1 t tx ty e i z hu hi hz A xs.length c (xs.map f) hold v ys.length (ys.map f) (by rw [hi1]; exact hS) hlt h63' (growslice_fits hlt hl)
  refine ⟨_,_,_,by rw [hr,List.length_append],?_,?_,?_⟩
  ·unfold Own
   refine ⟨hlen,.inr ⟨w1.heap.size,_,_,by rw [List.length_append],hB,heap_alloc_new w1.drew _,by rw [List.length_append]; exact hge,hcm,?_,?_⟩⟩
   ·simp [size_zeroCells,hz1]
    omega
   ·simp only [Array.toList_append,List.map_append,List.length_append,Nat.mul_one]
    rw [List.take_left' (by simp)]
  ·exact ⟨rfl,rfl,rfl,by simp,fun k hk _=>heap_alloc_old w1.drew _ hk⟩
  ·intro g hg
   simp only [blk,Option.map_some,Option.some.injEq] at hg
   exact .inr (by omega)
 by_cases hroom:xs.length+ys.length<=c
 ·rcases hO.2 with ⟨hv,hn⟩ | ⟨g,cap,cur,hv,hb,hg,hnc,hcm',hcs,htake⟩
  ·simp only [Value.slice.injEq] at hv
   obtain ⟨rfl,_,rfl⟩:=hv
   have hx0:xs=[]:=List.eq_nil_of_length_eq_zero hn
   have hy0:ys=[]:=List.eq_nil_of_length_eq_zero (by omega)
   subst hx0; subst hy0
   refine ⟨none,0,w1,?_,Own.nil f w1 B e,jr _ _,fun g hg=>by simp [blk] at hg⟩
   have:=hS.cells
   rcases hS.kind with ⟨e',hk⟩ | hk <;> simp [Builtin.append_,run_underlying hu,run_underlying hk,sizeOf,typeInfo,hi,hi1,hS.len] <;> simp at this <;> simp [this]
  ·simp only [Value.slice.injEq] at hv
   obtain ⟨rfl,_,rfl⟩:=hv
   have hB1:Bl w1 g e cur.toList:=hg
   have hcs':cur.size=c:=by omega
   have hcl:cur.toList.length=c:=by simpa using hcs'
   have hr:=run_append_room_src (P:=P) w1 t tx ty e i hu hi g 0 xs.length c v ys.length (ys.map f) (by rw [hi1]; exact hS) hroom (fun j hj=>by
    rw [hi1,hB1.cell]
    simp only [List.length_map] at hj
    rw [List.getElem?_eq_getElem (by omega)]
    rfl) (fun j _=>hB1.frozen _)
   have hst:=run_storeCells_at P g xs.length e (ys.map f) 0 cur w1 hg (by simp; omega) hS.one
   have hst2:=run_storeCells_cells (P:=P) g xs.length (ys.map f) 0 w1 (fun j hj=>by
    rw [hB1.cell]
    simp only [List.length_map] at hj
    rw [List.getElem?_eq_getElem (by omega)]
    rfl) (fun j _=>hB1.frozen _) hS.one
   have hw:w1.setCells g (0+xs.length*i.size) (ys.map f)=w1.setRow g (List.take (xs.length+0) cur.toList++ys.map f++List.drop (xs.length+0+(ys.map f).length) cur.toList).toArray:=by
    rw [hst] at hst2
    injection hst2 with _ h2
    rw [hi1,Nat.zero_add,Nat.mul_one]
    exact h2.symm
   rw [hw] at hr
   refine ⟨_,_,_,by rw [hr,List.length_append],?_,?_,fun g' hg'=>.inl hg'⟩
   ·unfold Own
    refine ⟨hlen,.inr ⟨g,c,_,by rw [List.length_append],hb,setRow_heap w1 g cur _ e _ hg,by rw [List.length_append]; exact hroom,hcm',?_,?_⟩⟩
    ·simp only [List.size_toArray,List.length_append,List.length_take,List.length_drop,Array.length_toList,List.length_map]
     omega
    ·have h2:List.take xs.length cur.toList=xs.map f:=by rw [<-htake,Nat.mul_one]
     simp only [Nat.add_zero,h2,List.map_append,List.length_append,Nat.mul_one]
     rw [List.take_left' (by simp)]
   ·exact ⟨rfl,rfl,rfl,by simp,fun k _ hk=>setRow_other w1 g k _ (fun e=>hk (by simp [blk,e]))⟩
 ·exact grow (by omega)
theorem src_rd {w1:World} {A2:Option Addr} {c2:Nat} {ys:List α} {e':TypeId} (hf:One f) (hu:P.underlying t=some (.slice e')) (hR:Rd f w1 A2 c2 ys):Src P 1 t (.slice A2 ys.length c2) ys.length (ys.map f) w1:=by
 by_cases hy:ys=[]
 ·subst hy
  cases A2 with
  | none=>exact Src.ofNil w1 hu c2
  | some ad=>exact Src.ofSlice w1 hu ad 0 c2 [] (by simp) (by simp) (by simp)
 ·obtain ⟨ad,rfl,hc⟩:=hR.cells hy
  exact Src.ofSlice w1 hu ad ys.length c2 (ys.map f) (by simp) (fun j u hj=>by
   rw [List.getElem?_map] at hj
   cases hq:ys[j]? with
   | none=>rw [hq] at hj; simp at hj
   | some a=>rw [hq] at hj; simp at hj; rw [<-hj]; exact hc j a hq) (fun u hu=>by
   obtain ⟨a,_,rfl⟩:=List.mem_map.1 hu
   exact hf a)
theorem kW {w1:World} (hw:Eqv w w1) (h:Rd f w A c xs):Rd f w1 A c xs:=⟨h.cap,h.max,fun hx=>by
 obtain ⟨ad,e,hc⟩:=h.cells hx
 exact ⟨ad,e,fun j x hj=>(hw.cell _).trans (hc j x hj)⟩⟩
theorem own_eqv {w1:World} (hw:Eqv w w1) (h:Own f w B e A c xs):Own f w1 B e A c xs:=by
 unfold Own World.ownsRow at h |-
 rw [hw.heap]
 exact h
theorem Eff.append {A2:Option Addr} {c2 n2:Nat} {ys:List α} {b:Nat} (hT:T.Ok P) (hs:nk T.ow t=some (e,b)) (hf:One f) (hO:Own f w B e A c xs) (hx:opv L x=some (.slice A n c)) (hn:n=xs.length) (hR:Rd f w A2 c2 ys) (hy:opv L y=some (.slice A2 n2 c2)) (hn2:n2=ys.length) (hl:(xs.length+ys.length)*b<=140737488355328) (h63:xs.length+ys.length<=maxLen) (hB:B<=w.heap.size) :
  Eff P N w ⟨some d,.call ⟨.builtin .append,⟨[x,y]⟩,⟨[t,t]⟩⟩,ty,pos,af,none⟩ L (fun v w'=>∃ A' c',v=.slice A' (xs++ys).length c'/\Own f w' B e A' c' (xs++ys)/\w.grownBy w' (blk A)/\(∀ g,blk A'=some g->blk A=some g∨w.heap.size<=g)):=fun a w1 hw ha=>by
  obtain ⟨hu,_⟩:=hT.ow hs
  subst hn; subst hn2
  have hs1:w1.heap.size=w.heap.size:=by rw [hw.heap]
  obtain ⟨A',c',w',hr,h1,h2,h3⟩:=run_append_own_src (P:=P) (ty:=ty) hT hs (own_eqv hw hO) (src_rd hf hu (kW hw hR)) rfl hl h63 (by omega)
  refine ⟨_,w',?_,A',c',rfl,h1,kh hw h2,fun g hg=>by rw [<-hs1]; exact h3 g hg⟩
  unfold execOp
  simp [resolve,invoke,builtin,ha.ev hx,ha.ev hy,hr]
theorem qp {A2:Option Addr} {c2 n2:Nat} {ys:List α} {b:Nat} (hT:T.Ok P) (hd:Nat.blt d N=true) (hs:nk T.ow t=some (e,b)) (hf:One f) (hO:Own f w B e A c xs) (hx:opv L x=some (.slice A n c)) (hn:n=xs.length) (hR:Rd f w A2 c2 ys) (hy:opv L y=some (.slice A2 n2 c2)) (hn2:n2=ys.length)
  (hl:(xs.length+ys.length)*b<=140737488355328) (h63:xs.length+ys.length<=maxLen) (hB:B<=w.heap.size)
  (hk:∀ A' c' w',Own f w' B e A' c' (xs++ys)->w.grownBy w' (blk A)->(∀ g,blk A'=some g->blk A=some g∨w.heap.size<=g)->WL P N ops Q rest ((d,.slice A' (xs++ys).length c') :: L) w') :
  WL P N ops Q (⟨some d,.call ⟨.builtin .append,⟨[x,y]⟩,⟨[t,t]⟩⟩,ty,pos,af,none⟩ :: rest) L w :=
 WL.put (R:=fun v w'=>∃ A' c',v=.slice A' (xs++ys).length c'/\Own f w' B e A' c' (xs++ys)/\w.grownBy w' (blk A)/\(∀ g,blk A'=some g->blk A=some g∨w.heap.size<=g)) hd (Eff.append hT hs hf hO hx hn hR hy hn2 hl h63 hB) (fun v w' ⟨A',c',hv,h1,h2,h3⟩=>by subst hv; exact hk A' c' w' h1 h2 h3)
theorem Eff.appendS {xs p:List UInt8} {b:Nat} {u:Unit} (hT:T.Ok P) (hs:nk T.ow t=some (e,b)) (hst:nk T.str t'=some u) (hO:Own vb w B e A c xs) (hx:opv L x=some (.slice A n c)) (hn:n=xs.length) (hy:opv L y=some (.string ⟨⟨p⟩⟩)) (hl:(xs.length+p.length)*b<=140737488355328) (h63:xs.length+p.length<=maxLen) (hB:B<=w.heap.size) :
  Eff P N w ⟨some d,.call ⟨.builtin .append,⟨[x,y]⟩,⟨[t,t']⟩⟩,ty,pos,af,none⟩ L (fun v w'=>∃ A' c',v=.slice A' (xs++p).length c'/\Own vb w' B e A' c' (xs++p)/\w.grownBy w' (blk A)/\(∀ g,blk A'=some g->blk A=some g∨w.heap.size<=g)):=fun a w1 hw ha=>by
  subst hn
  have hs1:w1.heap.size=w.heap.size:=by rw [hw.heap]
  have hS:Src P 1 t' (.string ⟨⟨p⟩⟩) p.length (p.map vb) w1:=Src.ofString w1 (hT.str hst) ⟨⟨p⟩⟩
  obtain ⟨A',c',w',hr,h1,h2,h3⟩:=run_append_own_src (P:=P) (ty:=ty) hT hs (own_eqv hw hO) hS rfl hl h63 (by omega)
  refine ⟨_,w',?_,A',c',rfl,h1,kh hw h2,fun g hg=>by rw [<-hs1]; exact h3 g hg⟩
  unfold execOp
  simp [resolve,invoke,builtin,ha.ev hx,ha.ev hy,hr]
theorem WL.appendS {xs p:List UInt8} {b:Nat} {u:Unit} (hT:T.Ok P) (hd:Nat.blt d N=true) (hs:nk T.ow t=some (e,b)) (hst:nk T.str t'=some u) (hO:Own vb w B e A c xs) (hx:opv L x=some (.slice A n c)) (hn:n=xs.length) (hy:opv L y=some (.string ⟨⟨p⟩⟩))
  (hl:(xs.length+p.length)*b<=140737488355328) (h63:xs.length+p.length<=maxLen) (hB:B<=w.heap.size)
  (hk:∀ A' c' w',Own vb w' B e A' c' (xs++p)->w.grownBy w' (blk A)->(∀ g,blk A'=some g->blk A=some g∨w.heap.size<=g)->WL P N ops Q rest ((d,.slice A' (xs++p).length c') :: L) w') :
  WL P N ops Q (⟨some d,.call ⟨.builtin .append,⟨[x,y]⟩,⟨[t,t']⟩⟩,ty,pos,af,none⟩ :: rest) L w :=
 WL.put (R:=fun v w'=>∃ A' c',v=.slice A' (xs++p).length c'/\Own vb w' B e A' c' (xs++p)/\w.grownBy w' (blk A)/\(∀ g,blk A'=some g->blk A=some g∨w.heap.size<=g)) hd (Eff.appendS hT hs hst hO hx hn hy hl h63 hB) (fun v w' ⟨A',c',hv,h1,h2,h3⟩=>by subst hv; exact hk A' c' w' h1 h2 h3)
theorem Eff.s2b {p:List UInt8} {u:Unit} {s b:TypeId} (hT:T.Ok P) (hs:nk T.str s=some u) (hb:nk T.sl b=some (e,1)) (he:nk T.int e=some .u8) (hx:opv L x=some (.string ⟨⟨p⟩⟩)) (hm:p.length<=maxLen) :
  Eff P N w ⟨some d,.convert s b x,ty,pos,af,none⟩ L (fun v w'=>∃ A' c',v=.slice A' p.length c'/\Rd vb w' A' c' p/\w.grownBy w' none/\(∀ g,blk A'=some g->w.heap.size<=g)):=fun a w1 hw ha=>by
  obtain ⟨hu,_⟩:=hT.sl hb
  have hs1:w1.heap.size=w.heap.size:=by rw [hw.heap]
  have hr:=run_bytes_of_string (P:=P) w1 s b e ⟨⟨p⟩⟩ (hT.str hs) hu (hT.int he)
  generalize hob:Obj.cells (bytesRow (ByteArray.mk ⟨p⟩) (grownCap w1 (ByteArray.mk ⟨p⟩).size 0 e)) e ((bytesRow (ByteArray.mk ⟨p⟩) (grownCap w1 (ByteArray.mk ⟨p⟩).size 0 e)).size,(bytesRow (ByteArray.mk ⟨p⟩) (grownCap w1 (ByteArray.mk ⟨p⟩).size 0 e)).size+1)=ob at hr
  have hgr:w1.grownBy (w1.drew.alloc ob) none:=⟨rfl,rfl,rfl,by simp,fun k hk _=>heap_alloc_old w1.drew ob hk⟩
  refine ⟨.slice (some ⟨w1.heap.size,0,none⟩) p.length (grownCap w1 p.length 0 e),w1.drew.alloc ob,?_,some ⟨w1.heap.size,0,none⟩,grownCap w1 p.length 0 e,rfl,⟨grownCap_ge w1 p.length 0 e,grownCap_le_maxLen w1 p.length 0 e hm,fun _=>⟨_,rfl,fun j y hj=>?_⟩⟩,kh hw hgr,fun g hg=>?_⟩
  ·unfold execOp
   simp only [ha.ev hx,Sem.run_bind,hr,Result.andThen_ok,Sem.run_pure]
   rfl
  ·subst hob
   rw [Addr.add_mid]
   refine (cell_of_row _ _ _ _ _ _ (heap_alloc_new w1.drew _)).trans ?_
   have hlt:j<p.length:=by
    rcases Nat.lt_or_ge j p.length with h | h
    ·exact h
    ·rw [List.getElem?_eq_none h] at hj; cases hj
   unfold bytesRow
   rw [Nat.zero_add,Array.getElem?_append,if_pos (by simpa using hlt)]
   simp [hj,vb]
  ·simp only [blk,Option.map_some,Option.some.injEq] at hg
   omega
theorem WL.s2b {p:List UInt8} {u:Unit} {s b:TypeId} (hT:T.Ok P) (hd:Nat.blt d N=true) (hs:nk T.str s=some u) (hb:nk T.sl b=some (e,1)) (he:nk T.int e=some .u8) (hx:opv L x=some (.string ⟨⟨p⟩⟩)) (hm:p.length<=maxLen)
  (hk:∀ A' c' w',Rd vb w' A' c' p->w.grownBy w' none->(∀ g,blk A'=some g->w.heap.size<=g)->WL P N ops Q rest ((d,.slice A' p.length c') :: L) w') :
  WL P N ops Q (⟨some d,.convert s b x,ty,pos,af,none⟩ :: rest) L w :=
 WL.put (R:=fun v w'=>∃ A' c',v=.slice A' p.length c'/\Rd vb w' A' c' p/\w.grownBy w' none/\(∀ g,blk A'=some g->w.heap.size<=g)) hd (Eff.s2b hT hs hb he hx hm) (fun v w' ⟨A',c',hv,h1,h2,h3⟩=>by subst hv; exact hk A' c' w' h1 h2 h3)
theorem WL.call {R:Value->World->Prop} {g:FuncId} {as_:List Operand} {ts:Array TypeId} {vs:List Value} (hd:Nat.blt d N=true) (hv:opvs L as_=some vs) (hf:Fn P g ⟨vs⟩ w R) (hk:∀ v w',R v w'->WL P N ops Q rest ((d,v) :: L) w') :
  WL P N ops Q (⟨some d,.call ⟨.value (.func g),⟨as_⟩,ts⟩,ty,pos,af,none⟩ :: rest) L w:=fun a w1 e ha =>
 wpList_plain rfl fun K hK=>by
  have hm:(⟨as_⟩:Array Operand).map a.eval=⟨vs⟩:=by rw [<-ha.evs hv]; simp
  obtain ⟨hgo,hC⟩:=hf
  unfold goesIn at hgo
  split at hgo
  ·rename_i fn hfn
   simp only [Bool.and_eq_true,Bool.not_eq_true'] at hgo
   have hnone:fn.body.isNone=false:=by cases hb:fn.body <;> simp_all
   have hrun:(execOp a.eval ⟨some d,.call ⟨.value (.func g),⟨as_⟩,ts⟩,ty,pos,af,none⟩).run P w1=.ok (.enter g ⟨vs⟩) w1:=by
    unfold execOp
    simp only [resolve,Act.eval,hm,Deferred.ofValue,Sem.run_bind,Sem.run_pure,Result.andThen_ok,invoke,callFunc,program,Sem.run,hfn,hgo.1,hnone,Bool.false_eq_true,if_false]
    simp
   unfold Oper.wp
   rw [hrun]
   refine (hC w1 e).mono ?_
   rintro en w' ⟨v,w0,rfl,h0,hR⟩
   exact hK _ _ (hk v w0 hR _ w' h0 (ha.put hd v))
  ·cases hgo
theorem WQ.call {K:Act->Prop} {g:FuncId} {as_:List Operand} {ts:Array TypeId} {vs:List Value} {v:Value} (hd:Nat.blt d N=true) (hv:opvs L as_=some vs) (hf:Fn P g ⟨vs⟩ w (fun u w'=>u=v/\w'=w)) (hk:WQ P N ops K rest ((d,v) :: L) w) :
  WQ P N ops K (⟨some d,.call ⟨.value (.func g),⟨as_⟩,ts⟩,ty,pos,af,none⟩ :: rest) L w:=fun a ha =>
 wpQuiet_step fun K' hK=>by
  have hm:(⟨as_⟩:Array Operand).map a.eval=⟨vs⟩:=by rw [<-ha.evs hv]; simp
  obtain ⟨hgo,hC⟩:=hf
  unfold goesIn at hgo
  split at hgo
  ·rename_i fn hfn
   simp only [Bool.and_eq_true,Bool.not_eq_true'] at hgo
   have hnone:fn.body.isNone=false:=by cases hb:fn.body <;> simp_all
   rw [if_pos (by simp [Region.wanted])]
   refine ⟨v,fun w1 e=>?_,hK _ (hk _ (ha.put hd v))⟩
   have hrun:(execOp a.eval ⟨some d,.call ⟨.value (.func g),⟨as_⟩,ts⟩,ty,pos,af,none⟩).run P w1=.ok (.enter g ⟨vs⟩) w1:=by
    unfold execOp
    simp only [resolve,Act.eval,hm,Deferred.ofValue,Sem.run_bind,Sem.run_pure,Result.andThen_ok,invoke,callFunc,program,Sem.run,hfn,hgo.1,hnone,Bool.false_eq_true,if_false]
    simp
   unfold Oper.quietAt
   rw [hrun]
   refine ⟨rfl,(hC w1 e).mono ?_⟩
   rintro en w' ⟨u,w0,rfl,h0,rfl,rfl⟩
   exact ⟨rfl,h0⟩
  ·cases hgo
def slotsOf (args:List Value) (k:Nat):jj:=match args with
 | []=>[]
 | v :: r=>(k,v) :: slotsOf r (k+1)
theorem slotsOf_get:∀ (args:List Value) (k t:Nat) (v:Value),lk (slotsOf args k) t=some v->k<=t/\args[t - k]? = some v
 | [],_,_,_,h=>by simp [slotsOf,lk] at h
 | u :: r,k,t,v,h=>by
  simp only [slotsOf,lk] at h
  cases hb:Nat.beq k t with
  | true =>
   have:=Nat.eq_of_beq_eq_true hb
   subst this
   simp only [hb,cond_true,Option.some.injEq] at h
   simp [h]
  | false =>
   have hne:=Nat.ne_of_beq_eq_false hb
   simp only [hb,cond_false] at h
   obtain ⟨h1,h2⟩:=slotsOf_get r (k+1) t v h
   refine ⟨by omega,?_⟩
   rw [show t - k=(t - (k+1))+1 by omega]
   simpa using h2
def RetPost (P:Program) (fn:Func) (R:Value->World->Prop):Post:=bodyPost P fn fun e w'=>∃ v w0,e=.returned v/\Eqv w0 w'/\R v w0
theorem Fn.enter {g:FuncId} {fn:Func} {c:Code} {args:List Value} {R:Value->World->Prop} (hgo:goesIn P g=true) (hf:P.funcs[g]? = some fn) (hb:fn.body=some c) (hN:fn.ntmps=N) (ha:Nat.ble args.length N=true)
  (h:WC P N (RetPost P fn R) c (slotsOf args 0) w):Fn P g ⟨args⟩ w R :=
 ⟨hgo,fun w1 e=>calls_of_wp hf hb (h _ w1 e (by
  have hle:args.length<=N:=Nat.le_of_ble_eq_true ha
  refine ⟨by simp [hN]; omega,rfl,fun t v ht=>?_⟩
  obtain ⟨_,h2⟩:=slotsOf_get args 0 t v ht
  have hlt:t<args.length:=by
   rcases Nat.lt_or_ge t args.length with h | h
   ·exact h
   ·rw [List.getElem?_eq_none (by omega)] at h2; cases h2
  have h3:args[t]=v:=by
   rw [Nat.sub_zero,List.getElem?_eq_getElem hlt] at h2
   exact Option.some.inj h2
  rw [Array.getD_eq_getD_getElem?,Array.getElem?_append_left (by simpa using hlt)]
  simp [hlt,h3]))⟩
theorem zw {fn:Func} {R:Value->World->Prop} {s:Nat} {v:Value} (hr:fn.results = #[.tmp s]) (hv:lk L s=some v) (hR:R v w):WX N (RetPost P fn R) .ret L w:=fun a w1 e ha =>
 ⟨ha.defers,v,by rw [results_tmp hr,ha.get s v hv],v,w,rfl,e,hR⟩
theorem WX.ret0 {fn:Func} {R:Value->World->Prop} (hr:fn.results = #[]) (hR:R (.tuple #[]) w):WX N (RetPost P fn R) .ret L w:=fun a w1 e ha =>
 ⟨ha.defers,.tuple #[],by rw [results_none hr],_,w,rfl,e,hR⟩
theorem qM {fn:Func} {R:Value->World->Prop} (hr:fn.results = #[]) (hR:R (.tuple #[]) w):WX N (RetPost P fn R) .normal L w:=fun a w1 e ha =>
 ⟨ha.defers,.tuple #[],by rw [results_none hr],_,w,rfl,e,hR⟩
theorem qg {fn:Func} {R:Value->World->Prop} {s1 s2:Nat} {v1 v2:Value} (hr:fn.results = #[.tmp s1,.tmp s2]) (h1:lk L s1=some v1) (h2:lk L s2=some v2) (hR:R (.tuple #[v1,v2]) w):WX N (RetPost P fn R) .ret L w:=fun a w1 e ha =>
 ⟨ha.defers,.tuple #[v1,v2],by rw [results_tmp2 hr,ha.get s1 v1 h1,ha.get s2 v2 h2],_,w,rfl,e,hR⟩
theorem WX.ret3 {fn:Func} {R:Value->World->Prop} {s1 s2 s3:Nat} {v1 v2 v3:Value} (hr:fn.results = #[.tmp s1,.tmp s2,.tmp s3]) (h1:lk L s1=some v1) (h2:lk L s2=some v2) (h3:lk L s3=some v3) (hR:R (.tuple #[v1,v2,v3]) w):WX N (RetPost P fn R) .ret L w:=fun a w1 e ha =>
 ⟨ha.defers,.tuple #[v1,v2,v3],by
  have:=ha.get s1 v1 h1
  have:=ha.get s2 v2 h2
  have:=ha.get s3 v3 h3
  simp_all [results],_,w,rfl,e,hR⟩
theorem qv {fn:Func} {R:Value->World->Prop} {s g m:Nat} (hT:T.Ok P) (hr:fn.results = #[.cell s t]) (hs:nk T.agg t=some m) (hv:lk L s=some (.pointer (some ⟨g,0,none⟩))) (hB:Bl w g e us) (hm:us.length=m) (hR:R (.agg ⟨us⟩) w):WX N (RetPost P fn R) .ret L w:=fun a w1 hw ha=>by
 obtain ⟨⟨de,hu,hrow⟩,j,hj,hj1⟩:=hT.agg hs
 have hrow':de.isRow=true:=by cases de <;> simp_all [isRow]
 have hl:=run_loadVar_mid (P:=P) w1 g 0 t us de (fun p v hv'=>by rw [hw.cell,hB.cell,<-hv',Nat.zero_add]) hu hrow' (by simp [hj,hj1,hm])
 have hp:=ha.get s _ hv
 refine ⟨ha.defers,.agg ⟨us⟩,?_,_,w,rfl,hw,hR⟩
 have hp':a.tmps[s]?.getD undef=.pointer (some ⟨g,0,none⟩):=by simpa using hp
 simp [results,hr,hp',asAddr,hl]
end rules
end
 
section
open Go Go.RowKit
def splice (cells:List Value) (off:Nat) (vs:List Value):List Value:=cells.take off++vs++cells.drop (off+vs.length)
theorem splice_set (cells:List Value) (off:Nat) (v:Value) (vs:List Value) (h:off<cells.length):splice (cells.set off v) (off+1) vs=splice cells off (v :: vs):=by
 unfold splice
 rw [List.take_set,List.take_succ_eq_append_getElem h,List.drop_set_of_lt (by omega)]
 have:(List.take off cells++[cells[off]]).set off v=List.take off cells++[v]:=set_last _ _ v off (by simp; omega)
 rw [this]
 simp [Nat.add_assoc,Nat.add_comm 1]
theorem foldl_splice:∀ (vs:List Value) (k:Nat) (cells:Array Value) (off:Nat),off+k+vs.length<=cells.size ->
  ((vs.zipIdx k).foldl (fun (cs:Array Value) (x:Value × Nat)=>cs.setIfInBounds (off+x.2) x.1) cells).toList=splice cells.toList (off+k) vs
 | [],k,cells,off,_=>by simp [splice]
 | v :: vs,k,cells,off,h=>by
  simp only [List.zipIdx_cons,List.foldl_cons]
  simp only [List.length_cons] at h
  rw [foldl_splice vs (k+1) _ off (by simp; omega),Array.toList_setIfInBounds]
  rw [show off+(k+1)=(off+k)+1 by omega,splice_set _ _ _ _ (by simp; omega)]
def fillL (place:Nat->Option (Nat × Nat)) (cells:List Value):List (Nat × Value)->Option (List Value)
 | []=>some cells
 | (i,v) :: rest=>match place i with
  | none=>none
  | some (off,size)=>bif Nat.beq v.cells.toList.length size && Nat.ble (off+size) cells.length then fillL place (splice cells off v.cells.toList) rest else none
theorem splice_length (cells:List Value) (off:Nat) (vs:List Value) (h:off+vs.length<=cells.length):(splice cells off vs).length=cells.length:=by
 unfold splice
 simp only [List.length_append,List.length_take,List.length_drop]
 omega
theorem fill_fillL (place:Nat->Option (Nat × Nat)):∀ (ps:List (Nat × Value)) (cells:Array Value) (us:List Value),fillL place cells.toList ps=some us->Instr.fill place cells ps=some ⟨us⟩
 | [],cells,us,h=>by
  simp only [fillL,Option.some.injEq] at h
  simp only [Instr.fill]
  rw [<-h]
 | (i,v) :: rest,cells,us,h=>by
  simp only [fillL] at h
  simp only [Instr.fill]
  split at h
  ·cases h
  ·rename_i off size hp
   simp only [hp]
   cases hb:(Nat.beq v.cells.toList.length size && Nat.ble (off+size) cells.toList.length) with
   | false=>rw [hb] at h; cases h
   | true =>
    rw [hb] at h
    simp only [Bool.and_eq_true,Nat.ble_eq] at hb
    have h1:v.cells.size=size:=by have:=Nat.eq_of_beq_eq_true hb.1; simpa using this
    have h2:off+size<=cells.size:=by simpa using hb.2
    rw [if_neg (by simp [h1]; omega)]
    refine fill_fillL place rest _ us ?_
    have h3:=foldl_splice v.cells.toList 0 cells off (by simp [h1]; omega)
    have h4:(v.cells.zipIdx.foldl (fun (cs:Array Value) (x:Value × Nat)=>cs.setIfInBounds (off+x.2) x.1) cells).toList=splice cells.toList off v.cells.toList:=by
     rw [Nat.add_zero] at h3
     rw [<-h3,<-Array.foldl_toList]
     simp
    have h5:(v.cells.zipIdx.foldl (fun cs (x:Value × Nat)=>match x with | (c,j)=>cs.setIfInBounds (off+j) c) cells).toList=splice cells.toList off v.cells.toList:=h4
    rw [h5]
    exact h
def kA (P:Program) (t:TypeId):Option (List (Nat × Nat)):=match P.underlying t with
 | some (.struct fs)=>fs.toList.mapM fun f=>(P.info? f.type).map fun i=>(f.offset,i.size)
 | _=>none
theorem run_places {P:Program} (w:World):∀ (fs:List Field) (ps:List (Nat × Nat)),fs.mapM (fun f=>(P.info? f.type).map fun i=>(f.offset,i.size))=some ps ->
  (fs.mapM (fun f=>do pure (f.offset,<-sizeOf f.type)):Sem (List (Nat × Nat))).run P w=.ok ps w
 | [],ps,h=>by
  simp at h
  subst h
  simp
 | f :: fs,ps,h=>by
  rw [List.mapM_cons] at h
  cases hi:P.info? f.type with
  | none=>simp [hi] at h
  | some i =>
   cases hr:fs.mapM (fun f=>(P.info? f.type).map fun i=>(f.offset,i.size)) with
   | none=>simp [hi,hr] at h
   | some qs =>
    simp [hi,hr] at h
    subst h
    have:=run_places w fs qs hr
    simp [List.mapM_cons,sizeOf,typeInfo,hi] at this |-
    rw [this]
    simp
def partsE (L:jj):List (Nat × Operand)->Option (List (Nat × Value))
 | []=>some []
 | (i,x) :: r=>match opv L x,partsE L r with
  | some v,some vs=>some ((i,v) :: vs)
  | _,_=>none
theorem partsE_map {N:Nat} {L:jj} {a:Act} (ha:Has N L a):∀ {ps:List (Nat × Operand)} {vs:List (Nat × Value)},partsE L ps=some vs->ps.map (fun p=>(p.1,a.eval p.2))=vs
 | [],vs,h=>by simp only [partsE,Option.some.injEq] at h; rw [<-h]; rfl
 | (i,x) :: r,vs,h=>by
  simp only [partsE] at h
  split at h
  ·rename_i v us hv hus
   simp only [Option.some.injEq] at h
   rw [<-h,List.map_cons,partsE_map ha hus,ha.ev hv]
  ·cases h
section
variable {P:Program} {T:Tab} {N:Nat} {L:jj} {w:World} {dd:Option Tmp} {ty t:TypeId} {pos:String} {af:Array Edge} {us zs:List Value}
theorem z6 {ps:List (Nat × Operand)} {vs:List (Nat × Value)} {pl:List (Nat × Nat)} (hz:jM P t=some zs) (hpl:kA P t=some pl) (hv:partsE L ps=some vs) (hf:fillL (fun i=>pl[i]?) zs vs=some us) :
  Yld P N w ⟨dd,.build t ⟨ps⟩,ty,pos,af,none⟩ L (.agg ⟨us⟩):=fun a w1 _ ha=>by
 obtain ⟨z,hz1,hz2⟩:=zeroOf_run hz w1
 unfold kA at hpl
 split at hpl
 ·rename_i fs hu
  have hr:=run_places (P:=P) w1 fs.toList pl hpl
  have hfill:=fill_fillL (fun i=>pl[i]?) vs ⟨zs⟩ us hf
  have hm:((⟨ps⟩:Array (Nat × Operand)).map fun (i,x)=>(i,a.eval x)).toList=vs:=by rw [<-partsE_map ha hv]; simp
  unfold execOp
  simp only [Instr.build,Sem.run_bind,hz1,Result.andThen_ok,run_underlying hu,hz2,Array.mapM_eq_mapM_toList,hm]
  have hr2:(List.toArray <$> (fs.toList.mapM (fun f=>do Pure.pure (f.offset,<-sizeOf f.type)):Sem (List (Nat × Nat)))).run P w1=.ok pl.toArray w1:=by
   rw [<-bind_pure_comp,Sem.run_bind,hr]
   simp
  rw [hr2]
  simp only [Result.andThen_ok]
  have:(fun (x:Nat)=>pl.toArray[x]?)=fun i=>pl[i]? := by funext i; simp
  rw [this,hfill]
  simp
 ·cases hpl
theorem Yld.arr {ps:List (Nat × Operand)} {m:Nat} {e:TypeId} (hT:T.Ok P) (hs:nk T.arr t=some (m,e,1)) (hz:jM P t=some zs) (hzl:zs.length=m) (hp:partsV L 0 ps=some us) (h1:∀ u∈us,u.oneCell'=true) (hl:us.length=m) :
  Yld P N w ⟨dd,.build t ⟨ps⟩,ty,pos,af,none⟩ L (.agg ⟨us⟩):=fun a w1 _ ha=>by
 obtain ⟨z,hz1,hz2⟩:=zeroOf_run hz w1
 obtain ⟨hu,i,hi,hi1⟩:=hT.arr hs
 have hm:((⟨ps⟩:Array (Nat × Operand)).map fun (i,x)=>(i,a.eval x)).toList=ps.map fun p=>(p.1,a.eval p.2):=by simp
 have hfill:=fill_parts ha ps 0 us [] ⟨zs⟩ hp h1 rfl rfl (by simp [hzl,hl])
 unfold execOp
 simp only [Instr.build,Sem.run_bind,hz1,Result.andThen_ok,run_underlying hu,hz2,sizeOf,typeInfo,program,Sem.run,hi,hi1,Sem.run_pure,hm]
 rw [hfill]
 simp
end
end
 
section
open Go Go.RowKit
section rules
variable {P:Program} {T:Tab} {N:Nat} {ops:Array Oper} {Q:Post} {L:jj} {w:World} {rest:List Oper} {d:Nat} {ty:TypeId} {pos:String} {af:Array Edge} {t t':TypeId} {x y i:Operand} {k:IntKind} {q:Int}
variable {α:Type} {f:α->Value} {A:Option Addr} {c n B:Nat} {xs ys:List α} {e:TypeId} {us:List Value}
theorem Own.take (h:Own f w B e A c xs) (m:Nat) (hm:m<=xs.length) (hA:xs=[]->A=none->c=0):Own f w B e A c (xs.take m):=by
 unfold Own at h |-
 rcases h.2 with ⟨hv,hn⟩ | ⟨g,cap,cur,hv,hb,hg,hnc,hcm,hcs,htake⟩
 ·simp only [Value.slice.injEq] at hv
  obtain ⟨rfl,_,rfl⟩:=hv
  have:xs=[]:=List.eq_nil_of_length_eq_zero hn
  subst this
  simpa using World.ownsRow_nil w B e 1
 ·simp only [Value.slice.injEq] at hv
  obtain ⟨rfl,_,rfl⟩:=hv
  have hl:(xs.take m).length=m:=by simp; omega
  rw [hl]
  refine ⟨by simp; omega,.inr ⟨g,c,cur,rfl,hb,hg,by omega,hcm,hcs,?_⟩⟩
  rw [List.map_take,<-htake,List.take_take,Nat.mul_one,Nat.mul_one,Nat.min_eq_left hm]
theorem WL.ocut {lo hi:Option Operand} {h:Int} (hT:T.Ok P) (hd:Nat.blt d N=true) (hs:nk T.sl t=some (e,1)) {e':TypeId} (hO:Own f w B e' A c xs) (hx:opv L x=some (.slice A n c)) (hn:n=xs.length)
  (hl:optv L lo 0=some 0) (hh:optv L hi n=some h) (h1:0<=h) (h2:h<=n)
  (hk:Own f w B e' A c (xs.take h.toNat)->WL P N ops Q rest ((d,.slice A (xs.take h.toNat).length c) :: L) w) :
  WL P N ops Q (⟨some d,.slice t x lo hi none,ty,pos,af,none⟩ :: rest) L w:=by
 have hy:=Yld.cut (P:=P) (N:=N) (ty:=ty) (pos:=pos) (af:=af) (dd:=some d) hT hO.rd hs hx hn hl hh (by omega) h1 h2
 have e1:(Value.slice (if c=(0:Int).toNat then A else A.map (·.add (0:Int).toNat)) ((xs.drop (0:Int).toNat).take (h.toNat - (0:Int).toNat)).length (c - (0:Int).toNat))=.slice A (xs.take h.toNat).length c:=by
  have:A.map (·.add 0)=A:=by
   cases A with
   | none=>rfl
   | some a=>simp [Addr.add]
  simp [this]
 rw [e1] at hy
 refine zg hd hy (hk (hO.take h.toNat (by omega) (fun he hA=>?_)))
 subst hA
 unfold Own at hO
 rcases hO.2 with ⟨hv,_⟩ | ⟨g,cap,cur,hv,_⟩
 ·simp only [Value.slice.injEq] at hv
  exact hv.2.2
 ·simp only [Value.slice.injEq] at hv
  cases hv.1
theorem WL.appendZ {m:Int} {z:α} {b:Nat} {u:IntKind} (hT:T.Ok P) (hd:Nat.blt d N=true) (hs:nk T.ow t=some (e,b)) (hti:nk T.int t'=some u) (hz:jM P e=some [f z]) (hx:opv L x=some (.slice none 0 0)) (hy:opv L y=some (.int k m)) (h0:0<=m) (hm:m*b<=140737488355328) (h63:m<=140737488355328) (hB:B<=w.heap.size)
  (hk:∀ A' c' w',Own f w' B e A' c' (List.replicate m.toNat z)->w.grownBy w' none->(∀ g,blk A'=some g->w.heap.size<=g)->WL P N ops Q rest ((d,.slice A' m.toNat c') :: L) w') :
  WL P N ops Q (⟨some d,.call ⟨.builtin .append,⟨[x,y]⟩,⟨[t,t']⟩⟩,ty,pos,af,none⟩ :: rest) L w :=
 WL.put (R:=fun v w'=>∃ A' c',v=.slice A' m.toNat c'/\Own f w' B e A' c' (List.replicate m.toNat z)/\w.grownBy w' none/\(∀ g,blk A'=some g->w.heap.size<=g)) hd (fun a w1 hw ha=>by
  obtain ⟨hu,i,z0,hi,hz0,hi1,hib,hz1⟩:=hT.ow hs
  have hs1:w1.heap.size=w.heap.size:=by rw [hw.heap]
  have hzc:z0.cells = #[f z]:=by
   unfold jM at hz
   rw [hi] at hz
   simp only [hz0,Option.some.injEq] at hz
   apply Array.ext'
   rw [hz]
  obtain ⟨q,rfl⟩:=Int.eq_ofNat_of_zero_le h0
  have hwrap:IntKind.i64.wrap (q:Int)=q:=In.wrap (by simp only [In]; omega)
  have hmb:¬ (281474976710656<(q:Int)*(i.bytes:Int)):=by rw [hib]; omega
  by_cases hq:q=0
  ·subst hq
   refine ⟨.slice none 0 0,w1,?_,none,0,rfl,Own.nil f w1 B e,kh hw (jr _ _),fun g hg=>by simp [blk] at hg⟩
   unfold execOp
   simp [resolve,invoke,builtin,ha.ev hx,ha.ev hy,Builtin.append_,run_underlying hu,run_underlying (hT.int hti),sizeOf,typeInfo,hi,hi1,asInt,asIntOf]
   have:IntKind.i64.wrap 0=0:=rfl
   simp [this]
  ·have hge:=grownCap_ge w1 q 0 e
   have hcm:=grownCap_le_maxLen w1 q 0 e (by simp only [maxLen]; omega)
   have hnn:¬ ((q:Int)<0):=by omega
   have hqb:q*b<=140737488355328:=by
    have:((q*b:Nat):Int)<=140737488355328:=by rw [Int.natCast_mul]; exact hm
    omega
   have hfit:¬ (281474976710656<Builtin.nextslicecap q 0*i.bytes):=by
    have:=growslice_fits (need:=q) (old:=0) (bytes:=i.bytes) (by omega) (by rw [hib]; exact hqb)
    omega
   have hbig:¬ (9223372036854775807<(q:Int)):=by omega
   have hforced:(Question.appendCap q 0 e).forced=false:=rfl
   have hfc:(Builtin.firstCells 1 0 (Value.slice none 0 0)).run P w1.drew=.ok #[] w1.drew:=rfl
   have hgr:w1.grownBy (w1.drew.alloc (.cells (Builtin.zeroCells z0.cells q++Builtin.zeroCells z0.cells (grownCap w1 q 0 e - q)) e)) none:=⟨rfl,rfl,rfl,by simp,fun k hk _=>heap_alloc_old w1.drew _ hk⟩
   refine ⟨.slice (some ⟨w1.heap.size,0,none⟩) q (grownCap w1 q 0 e),_,?_,some ⟨w1.heap.size,0,none⟩,grownCap w1 q 0 e,rfl,?_,kh hw hgr,fun g hg=>?_⟩
   ·unfold execOp
    simp [resolve,invoke,builtin,ha.ev hx,ha.ev hy,Builtin.append_,run_underlying hu,run_underlying (hT.int hti),sizeOf,typeInfo,hi,hi1,asInt,asIntOf,hwrap,zeroValue,hz0,hnn,hmb,hq,hbig,hfit,hforced,hfc]
    rfl
   ·have hzs:∀ m,(Builtin.zeroCells z0.cells m).toList=List.replicate m (f z):=fun m=>by
     rw [hzc]
     unfold Builtin.zeroCells
     apply List.ext_getElem
     ·simp
     ·intro p h1 h2
      simp [Nat.mod_one]
    unfold Own
    rw [List.length_replicate]
    refine ⟨by simp,.inr ⟨w1.heap.size,_,_,rfl,by omega,heap_alloc_new w1.drew _,hge,hcm,?_,?_⟩⟩
    ·simp [size_zeroCells,hzc]; omega
    ·rw [Array.toList_append,hzs,hzs]
     simp
   ·simp only [blk,Option.map_some,Option.some.injEq] at hg
    omega) (fun v w' ⟨A',c',hv,h1,h2,h3⟩=>by subst hv; exact hk A' c' w' h1 h2 h3)
theorem jX {x y:Value} {b:Bool} {w1:World} (h:∀ d:Nat,(Op.equalIn (d+1) t x y).run P w1=.ok b w1):(Op.equal t x y).run P w1=.ok b w1:=by
 simp [Op.equal,Op.maxDepth,h 9999]
theorem Yld.eqnil {dd:Option Tmp} {es:Nat × Nat} {n2 c2:Nat} (hT:T.Ok P) (hs:nk T.sl t=some es) (hx:opv L x=some (.slice A n c)) (hy:opv L y=some (.slice none n2 c2)):Yld P N w ⟨dd,.binOp .eql t x y t',ty,pos,af,none⟩ L (.bool A.isNone):=fun a w1 _ ha=>by
 obtain ⟨hu,_⟩:=hT.sl (e:=es.1) (s:=es.2) hs
 refine kz (ha.ev hx) (ha.ev hy) (by unfold eqGuard; rfl) ?_
 have h:(Op.equal t (.slice A n c) (.slice none n2 c2)).run P w1=.ok A.isNone w1:=jX fun d=>by
  cases A <;> simp [Op.equalIn,run_underlying hu]
 simp [binOp,h]
end rules
end
 
section
open Go Go.RowKit
theorem gr_own {α:Type} {f:α->Value} {a b c:World} {B:Nat} {e:TypeId} {A:Option Addr} {k:Nat} {xs:List α} (h:a.grownBy b none) (hO:Own f b B e A k xs) (hg:b.grownBy c (blk A)) (hB:a.heap.size<=B):a.grownBy c none:=by
 cases hq:blk A with
 | none=>rw [hq] at hg; exact ja h hg
 | some q=>rw [hq] at hg; exact kq h hg (Nat.le_trans hB (hO.lt hq).1)
theorem Rd.keep' {α:Type} {f:α->Value} {w w':World} {A:Option Addr} {c:Nat} {xs:List α} {row:Option Nat} (h:Rd f w A c xs) (hg:w.grownBy w' row) (hne:xs≠[]->∀ g,row=some g->blk A≠some g):Rd f w' A c xs:=by
 by_cases hx:xs=[]
 ·subst hx; exact Rd.nil f w' h.max
 ·exact h.keep hg (hne hx)
section rules
variable {P:Program} {T:Tab} {N:Nat} {L:jj} {w:World} {ty:TypeId} {pos:String} {af:Array Edge} {t:TypeId} {x i:Operand} {k:IntKind}
variable {α:Type} {f:α->Value} {A:Option Addr} {c n:Nat} {xs:List α}
theorem qV {dd:Option Tmp} {e:TypeId} {j:Nat} (hT:T.Ok P) (hR:Rd f w A c xs) (hs:nk T.sl t=some (e,1)) (hx:opv L x=some (.slice A n c)) (hn:n=xs.length) (hi:opv L i=some (.int k (j:Int))) (h1:j<n) :
  Yld P N w ⟨dd,.indexAddr t x i,ty,pos,af,none⟩ L (.pointer (A.map (·.add j))):=by
 have:=Yld.iaddr (P:=P) (N:=N) (dd:=dd) (ty:=ty) (pos:=pos) (af:=af) hT hR hs hx hn hi (by omega) (by omega)
 rwa [Int.toNat_natCast] at this
theorem Yld.aaddrN {dd:Option Tmp} {g o m s j:Nat} {e:TypeId} (hT:T.Ok P) (hs:nk T.arr t=some (m,e,s)) (hx:opv L x=some (.pointer (some ⟨g,o,none⟩))) (hi:opv L i=some (.int k (j:Int))) (h1:j<m) :
  Yld P N w ⟨dd,.indexAddr t x i,ty,pos,af,none⟩ L (.pointer (some ⟨g,o+j*s,none⟩)):=by
 have:=qi (P:=P) (N:=N) (w:=w) (dd:=dd) (ty:=ty) (pos:=pos) (af:=af) hT hs hx hi (by omega) (by omega)
 rwa [Int.toNat_natCast] at this
theorem Yld.aidxN {dd:Option Tmp} {m j:Nat} {e:TypeId} {us:List Value} {u:Unit} {v:Value} (hT:T.Ok P) (hs:nk T.arr t=some (m,e,1)) (he:nk T.one e=some u) (hx:opv L x=some (.agg ⟨us⟩)) (hi:opv L i=some (.int k (j:Int))) (h1:j<m) (hv:us[j]? = some v) :
  Yld P N w ⟨dd,.index t x i,ty,pos,af,none⟩ L v :=
 Yld.aidx hT hs he hx hi (by omega) (by omega) (by rwa [Int.toNat_natCast])
end rules
end
 
section
open Go Go.RowKit
def vd (n:Nat):Value:=.int .u32 (n:Int)
theorem One.d:One vd:=fun _=>rfl
def vj (n:Nat):Value:=.int .i64 (n:Int)
theorem One.j:One vj:=fun _=>rfl
section rules
variable {P:Program} {T:Tab} {N:Nat} {ops:Array Oper} {Q:Post} {L:jj} {w:World} {ty:TypeId} {pos:String} {af:Array Edge} {rest:List Oper} {x y c:Operand} {d:Tmp}
theorem zx {dd:Option Tmp} {b:Bool} {u v:Value} (hc:opv L c=some (.bool b)) (hx:opv L x=some u) (hy:opv L y=some v) :
  Yld P N w ⟨dd,.pick c x y,ty,pos,af,none⟩ L (bif b then u else v):=fun a w1 hw ha=>by
 unfold execOp
 simp only [ha.ev hc,ha.ev hx,ha.ev hy,Sem.run_bind,asBool,Sem.run_pure,Result.andThen_ok]
 cases b <;> rfl
theorem zB {dd:Option Tmp} {k k':IntKind} {p q:Int} {ts:Array TypeId} (hx:opv L x=some (.int k p)) (hy:opv L y=some (.int k' q)) :
  Yld P N w ⟨dd,.call ⟨.builtin .max,⟨[x,y]⟩,ts⟩,ty,pos,af,none⟩ L (.int k (if q > p then q else p)):=fun a w1 hw ha=>by
 unfold execOp
 simp [resolve,invoke,builtin,ha.ev hx,ha.ev hy,run_max_int2]
theorem zC {dd:Option Tmp} {k k':IntKind} {p q:Int} {ts:Array TypeId} (hx:opv L x=some (.int k p)) (hy:opv L y=some (.int k' q)) :
  Yld P N w ⟨dd,.call ⟨.builtin .min,⟨[x,y]⟩,ts⟩,ty,pos,af,none⟩ L (.int k (if q<p then q else p)):=fun a w1 hw ha=>by
 unfold execOp
 simp [resolve,invoke,builtin,ha.ev hx,ha.ev hy,run_min_int2]
theorem ze {op:Op} {j d':Nat} {t:Bool} {v:Value} (hj:(ops[j]?).bind (·.dst)=some d') (hN:Nat.blt d' N=true) (hb:lk L d'=some (.bool t)) (hd:Nat.blt d N=true) (hy:Yld P N w ⟨some d,op,ty,pos,af,none⟩ L v)
  (h:WL P N ops Q rest ((d,v) :: L) w):WL P N ops Q (⟨some d,op,ty,pos,af,some (j,t)⟩ :: rest) L w :=
 WL.guard hj hN hb hd (fun _=>⟨v,hy,h⟩) (fun e=>by cases t <;> cases e)
theorem zV {op:Op} {j d':Nat} {t:Bool} (hj:(ops[j]?).bind (·.dst)=some d') (hN:Nat.blt d' N=true) (hb:lk L d'=some (.bool (!t))) (hd:Nat.blt d N=true)
  (h:WL P N ops Q rest ((d,undef) :: L) w):WL P N ops Q (⟨some d,op,ty,pos,af,some (j,t)⟩ :: rest) L w :=
 WL.guard hj hN hb hd (fun e=>by cases t <;> cases e) (fun _=>h)
theorem WQ.gyes {K:Act->Prop} {op:Op} {j d':Nat} {t:Bool} {v:Value} (hj:(ops[j]?).bind (·.dst)=some d') (hN:Nat.blt d' N=true) (hb:lk L d'=some (.bool t)) (hd:Nat.blt d N=true) (hy:Yld P N w ⟨some d,op,ty,pos,af,none⟩ L v)
  (h:WQ P N ops K rest ((d,v) :: L) w):WQ P N ops K (⟨some d,op,ty,pos,af,some (j,t)⟩ :: rest) L w :=
 WQ.guard hj hN hb hd (fun _=>⟨v,hy,h⟩) (fun e=>by cases t <;> cases e)
theorem WQ.gno {K:Act->Prop} {op:Op} {j d':Nat} {t:Bool} (hj:(ops[j]?).bind (·.dst)=some d') (hN:Nat.blt d' N=true) (hb:lk L d'=some (.bool (!t))) (hd:Nat.blt d N=true)
  (h:WQ P N ops K rest ((d,undef) :: L) w):WQ P N ops K (⟨some d,op,ty,pos,af,some (j,t)⟩ :: rest) L w :=
 WQ.guard hj hN hb hd (fun e=>by cases t <;> cases e) (fun _=>h)
theorem WC.loopG {S:Type} {k:Code} (K:S->Act->World->Prop) (mu:S->Nat) (Ls:S->jj) (I:S->World->Prop) (hK:∀ s a' w',K s a' w'->∃ s' w0,I s' w0/\Eqv w0 w'/\Has N (Ls s') a'/\mu s'<mu s) (s0:S) (h0:I s0 w) (hL:Sub L (Ls s0))
  (round:∀ s w,I s w->WC P N (Exit.then (K s) Q) k (Ls s) w):WC P N Q (.loop k) L w:=fun a w1 e ha=>by
 have key:∀ n s a w0 w1,mu s=n->I s w0->Eqv w0 w1->Has N (Ls s) a->∀ (b:Frame) (k':List Item) (cs:List Frame),
   ∃ e a' w',Q e a' w'/\Arrives P (lone (b.at a (.code k :: .inLoop k :: k')) cs w1) b k' cs e a' w':=by
  intro n
  induction n using Nat.strongRecOn with
  | _ n ih =>
   intro s a w0 w1 hn hI he ha b k' cs
   obtain ⟨e,a1,w2,hq,harr⟩:=round s w0 hI a w1 he ha b (.inLoop k :: k') cs
   cases e with
   | normal =>
    obtain ⟨s',w3,hI',he',ha',hlt⟩:=hK _ _ _ hq
    obtain ⟨e2,a2,w4,hq2,harr2⟩:=ih (mu s') (hn ▸ hlt) s' a1 w3 w2 rfl hI' he' ha' b k' cs
    exact ⟨e2,a2,w4,hq2,.of_steps (Steps.trans harr (.one step_inLoop)) harr2⟩
   | exit id=>exact ⟨_,a1,w2,hq,.pass (x:=.inLoop k) rfl (fun _ _=>.inl (by simp)) harr⟩
   | goto l=>exact ⟨_,a1,w2,hq,.pass (x:=.inLoop k) rfl (fun _ _=>.inl (by simp)) harr⟩
   | ret=>exact ⟨_,a1,w2,hq,.pass (x:=.inLoop k) rfl (fun _ _=>.inl (by simp)) harr⟩
   | panic ch=>exact ⟨_,a1,w2,hq,.pass (x:=.inLoop k) rfl (fun _ _=>.inl (by simp)) harr⟩
   | outgrown=>exact ⟨_,a1,w2,hq,.pass (x:=.inLoop k) rfl (fun _ _=>.inl (by simp)) harr⟩
 intro b k' cs
 obtain ⟨e',a',w',hq,harr⟩:=key _ s0 a w w1 rfl h0 e (ha.sub hL) b k' cs
 exact ⟨e',a',w',hq,.of_steps (.one step_loop) harr⟩
theorem WC.loop2 {S1 S2:Type} {k:Code} (mu:S1->S2->Nat) (Ls:S1->S2->jj) (I:S1->S2->World->Prop) (x0:S1) (y0:S2) (h0:I x0 y0 w) (hL:Sub L (Ls x0 y0))
  (round:∀ x y w,I x y w->WC P N (Exit.then (fun a' w'=>∃ x' y' w0,I x' y' w0/\Eqv w0 w'/\Has N (Ls x' y') a'/\mu x' y'<mu x y) Q) k (Ls x y) w):WC P N Q (.loop k) L w :=
 WC.loopG (S:=S1 × S2) (fun s a' w'=>∃ x' y' w0,I x' y' w0/\Eqv w0 w'/\Has N (Ls x' y') a'/\mu x' y'<mu s.1 s.2) (fun s=>mu s.1 s.2) (fun s=>Ls s.1 s.2) (fun s=>I s.1 s.2)
  (fun _ _ _ ⟨x',y',w0,h⟩=>⟨(x',y'),w0,h⟩) (x0,y0) h0 hL (fun s w h=>round s.1 s.2 w h)
theorem WX.round2 {S1 S2:Type} {mu:S1->S2->Nat} {Ls:S1->S2->jj} {I:S1->S2->World->Prop} {m:Nat} (x':S1) (y':S2) (hI:I x' y' w) (hm:mu x' y'<m) (hL:Sub L (Ls x' y')) :
  WX N (Exit.then (fun a' w'=>∃ x' y' w0,I x' y' w0/\Eqv w0 w'/\Has N (Ls x' y') a'/\mu x' y'<m) Q) .normal L w:=fun _ _ e ha=>⟨x',y',w,hI,e,ha.sub hL,hm⟩
end rules
end
 
section
open Go Go.RowKit
section
variable {P:Program} {N:Nat} {Q:Post} {L:jj} {w:World}
theorem WX.weaken {L':jj} {e:Exit} (hs:Sub L L') (h:WX N Q e L' w):WX N Q e L w:=fun a w1 he ha=>h a w1 he (ha.sub hs)
theorem Yld.beql {ty:TypeId} {pos:String} {af:Array Edge} {dd:Option Tmp} {t t':TypeId} {x y:Operand} {p q:Bool} (h:P.underlying t=some .bool) (hx:opv L x=some (.bool p)) (hy:opv L y=some (.bool q)):Yld P N w ⟨dd,.binOp .eql t x y t',ty,pos,af,none⟩ L (.bool (p == q)):=fun a w1 _ ha=>by
 refine kz (ha.ev hx) (ha.ev hy) (by unfold eqGuard; rfl) ?_
 have h:(Op.equal t (.bool p) (.bool q)).run P w1=.ok (p == q) w1:=jX fun d=>by simp [Op.equalIn,run_underlying h]
 simp [binOp,h]
theorem qS {ty:TypeId} {pos:String} {af:Array Edge} {dd:Option Tmp} {t t':TypeId} {x y:Operand} {p q:Bool} (h:P.underlying t=some .bool) (hx:opv L x=some (.bool p)) (hy:opv L y=some (.bool q)):Yld P N w ⟨dd,.binOp .neq t x y t',ty,pos,af,none⟩ L (.bool (!(p == q))):=fun a w1 _ ha=>by
 refine kz (ha.ev hx) (ha.ev hy) (by unfold eqGuard; rfl) ?_
 have h:(Op.equal t (.bool p) (.bool q)).run P w1=.ok (p == q) w1:=jX fun d=>by simp [Op.equalIn,run_underlying h]
 simp [binOp,h]
end
end
 
section
open Go Go.RowKit
def ckFlds (P:Program):List Field->List (Nat × Option Nat)->Bool
 | [],[]=>true
 | f :: fs,(o,m) :: os=>Nat.beq f.offset o && (match P.underlying f.type with
  | some d=>(match m with
   | none => !isRow d
   | some n=>isRow d && (match P.info? f.type with | some i=>Nat.beq i.size n | none=>false))
  | none=>false) && ckFlds P fs os
 | _,_=>false
def ckFld (P:Program) (x:Nat × List (Nat × Option Nat)):Bool:=match P.underlying x.1 with | some (.struct fs)=>ckFlds P fs.toList x.2 | _=>false
def fldV (os:List (Nat × Option Nat)) (us:List Value) (f:Nat):Option Value:=match os[f]? with
 | some (o,none)=>us[o]?
 | some (o,some n)=>some (.agg ⟨(us.drop o).take n⟩)
 | none=>none
theorem ckFlds_spec {P:Program}:∀ {fs:List Field} {os:List (Nat × Option Nat)},ckFlds P fs os=true->∀ (f o:Nat) (m:Option Nat),os[f]? = some (o,m)->∃ fd:Field,fs[f]? = some fd/\fd.offset=o/\∃ d,P.underlying fd.type=some d /\
  (m=none->isRow d=false)/\(∀ n,m=some n->isRow d=true/\∃ i,P.info? fd.type=some i/\i.size=n)
 | [],[],_,f,o,m,h=>by simp at h
 | [],_ :: _,h,_,_,_,_=>by simp [ckFlds] at h
 | _ :: _,[],h,_,_,_,_=>by simp [ckFlds] at h
 | fd :: fs,(o',m') :: os,h,f,o,m,ho=>by
  simp only [ckFlds,Bool.and_eq_true] at h
  obtain ⟨⟨h1,h2⟩,h3⟩:=h
  cases f with
  | zero =>
   simp only [List.getElem?_cons_zero,Option.some.injEq,Prod.mk.injEq] at ho
   obtain ⟨rfl,rfl⟩:=ho
   refine ⟨fd,rfl,Nat.eq_of_beq_eq_true h1,?_⟩
   cases hq:P.underlying fd.type with
   | none=>rw [hq] at h2; simp at h2
   | some d =>
    rw [hq] at h2
    refine ⟨d,rfl,fun e=>?_,fun n e=>?_⟩
    ·subst e; simpa using h2
    ·subst e
     simp only [Bool.and_eq_true] at h2
     refine ⟨h2.1,?_⟩
     have h4:=h2.2
     cases hi:P.info? fd.type with
     | none=>rw [hi] at h4; simp at h4
     | some i=>rw [hi] at h4; exact ⟨i,rfl,Nat.eq_of_beq_eq_true h4⟩
  | succ f=>exact ckFlds_spec h3 f o m (by simpa using ho)
section rules
variable {P:Program} {T:Tab} {N:Nat} {ops:Array Oper} {Q:Post} {L:jj} {w:World} {rest:List Oper} {d:Nat} {ty:TypeId} {pos:String} {af:Array Edge} {t s:TypeId} {x y:Operand} {k k':IntKind}
variable {α:Type} {f:α->Value} {B:Nat} {e:TypeId}
theorem zM {F:List (Nat × List (Nat × Option Nat))} {dd:Option Tmp} {os:List (Nat × Option Nat)} {us:List Value} {n:Nat} {v:Value} (hF:F.all (ckFld P)=true) (hs:nk F s=some os) (hx:opv L x=some (.agg ⟨us⟩)) (hv:fldV os us n=some v) :
  Yld P N w ⟨dd,.field s x n,ty,pos,af,none⟩ L v:=fun a w1 _ ha=>by
 have h:=nk_all hF hs
 unfold ckFld at h
 unfold fldV at hv
 cases hu:P.underlying s with
 | none=>simp only [hu] at h; cases h
 | some de =>
  simp only [hu] at h
  cases de with
  | struct fs =>
   cases ho:os[n]? with
   | none=>rw [ho] at hv; cases hv
   | some p =>
    obtain ⟨o,m⟩:=p
    obtain ⟨fd,hfd,rfl,dd',hd,h1,h2⟩:=ckFlds_spec h n o m ho
    have hfd':fs[n]? = some fd:=by simpa using hfd
    rw [ho] at hv
    unfold execOp
    cases m with
    | none =>
     have hr:=h1 rfl
     have hv':us[fd.offset]? = some v:=hv
     cases dd' <;> simp [isRow] at hr <;> simp [ha.ev hx,Instr.field,run_underlying hu,hfd',asAgg,part,isAgg,run_underlying hd,hv']
    | some q =>
     obtain ⟨hr,i,hi,hi2⟩:=h2 q rfl
     simp only [Option.some.injEq] at hv
     cases dd' <;> simp [isRow] at hr <;> simp [ha.ev hx,Instr.field,run_underlying hu,hfd',asAgg,part,isAgg,run_underlying hd,sizeOf,typeInfo,hi,hi2,hv]
  | _=>simp at h
theorem Eff.makeZ {m:Nat} {z:α} {b:Nat} (hT:T.Ok P) (hs:nk T.ow t=some (e,b)) (hz:jM P e=some [f z]) (hx:opv L x=some (.int k (m:Int))) (hy:opv L y=some (.int k' (m:Int))) (hm:m*b<=140737488355328) (h63:m<=140737488355328) (hB:B<=w.heap.size) :
  Eff P N w ⟨some d,.makeSlice t x y,ty,pos,af,none⟩ L (fun v w'=>v=.slice (some ⟨w.heap.size,0,none⟩) m m/\Own f w' B e (some ⟨w.heap.size,0,none⟩) m (List.replicate m z)/\w.grownBy w' none):=fun a w1 hw ha=>by
 obtain ⟨hu,i,z0,hi,hz0,hi1,hib,hz1⟩:=hT.ow hs
 have hs1:w1.heap.size=w.heap.size:=by rw [hw.heap]
 have hzc:z0.cells = #[f z]:=by
  unfold jM at hz
  rw [hi] at hz
  simp only [hz0,Option.some.injEq] at hz
  apply Array.ext'
  rw [hz]
 obtain ⟨w',hr,hO,hg⟩:=run_make_full (P:=P) w1 B t e i z0 1 hu hi hz0 hi1 k k' m (by rw [hib,Nat.mul_comm]; omega) (by simp only [maxLen]; omega) (by omega)
 refine ⟨_,w',?_,by rw [<-hs1],?_,kh hw hg⟩
 ·unfold execOp
  simp only [ha.ev hx,ha.ev hy,Sem.run_bind,hr,Result.andThen_ok,Sem.run_pure]
 ·have e1:(madeCells z0.cells (m*1)).toList=(List.replicate m z).map f:=by rw [hzc,Nat.mul_one,toList_madeCells_one]; simp
  unfold Own
  rw [e1] at hO
  rw [<-hs1]
  simpa using hO
theorem WL.makeZ {m:Nat} {z:α} {b:Nat} (hT:T.Ok P) (hd:Nat.blt d N=true) (hs:nk T.ow t=some (e,b)) (hz:jM P e=some [f z]) (hx:opv L x=some (.int k (m:Int))) (hy:opv L y=some (.int k' (m:Int))) (hm:m*b<=140737488355328) (h63:m<=140737488355328) (hB:B<=w.heap.size)
  (hk:∀ g w',Own f w' B e (some ⟨g,0,none⟩) m (List.replicate m z)->w.grownBy w' none->w.heap.size<=g->WL P N ops Q rest ((d,.slice (some ⟨g,0,none⟩) m m) :: L) w') :
  WL P N ops Q (⟨some d,.makeSlice t x y,ty,pos,af,none⟩ :: rest) L w :=
 WL.put (R:=fun v w'=>v=.slice (some ⟨w.heap.size,0,none⟩) m m/\Own f w' B e (some ⟨w.heap.size,0,none⟩) m (List.replicate m z)/\w.grownBy w' none) hd (Eff.makeZ hT hs hz hx hy hm h63 hB) (fun v w' ⟨hv,h1,h2⟩=>by subst hv; exact hk _ w' h1 h2 (Nat.le_refl _))
theorem WL.makeC {c:Nat} {b:Nat} (hT:T.Ok P) (hd:Nat.blt d N=true) (hs:nk T.ow t=some (e,b)) (hx:opv L x=some (.int k 0)) (hy:opv L y=some (.int k' (c:Int))) (hm:c*b<=140737488355328) (h63:c<=140737488355328) (hB:B<=w.heap.size)
  (hk:∀ g w',Own f w' B e (some ⟨g,0,none⟩) c []->w.grownBy w' none->w.heap.size<=g->WL P N ops Q rest ((d,.slice (some ⟨g,0,none⟩) 0 c) :: L) w') :
  WL P N ops Q (⟨some d,.makeSlice t x y,ty,pos,af,none⟩ :: rest) L w :=
 WL.put (R:=fun v w'=>v=.slice (some ⟨w.heap.size,0,none⟩) 0 c/\Own f w' B e (some ⟨w.heap.size,0,none⟩) c []/\w.grownBy w' none) hd (fun a w1 hw ha=>by
  obtain ⟨hu,i,z0,hi,hz0,hi1,hib,hz1⟩:=hT.ow hs
  have hs1:w1.heap.size=w.heap.size:=by rw [hw.heap]
  obtain ⟨w',hr,hO,hg⟩:=run_make_own (P:=P) w1 B t e i z0 1 hu hi hz0 hi1 k k' c (by rw [hib,Nat.mul_comm]; omega) (by simp only [maxLen]; omega) (by omega)
  refine ⟨_,w',?_,by rw [<-hs1],?_,kh hw hg⟩
  ·unfold execOp
   simp only [ha.ev hx,ha.ev hy,Sem.run_bind,hr,Result.andThen_ok,Sem.run_pure]
  ·unfold Own
   rw [<-hs1]
   simpa using hO) (fun v w' ⟨hv,h1,h2⟩=>by subst hv; exact hk _ w' h1 h2 (Nat.le_refl _))
end rules
end
 
section
open Go Go.RowKit
section
variable {P:Program} {ops:Array Oper} {md:Region.Mode} {fl:Nat->Bool} {D:World->Prop} {Q:Act->World->Prop}
def fYld (P:Program) (ops:Array Oper) (D:World->Prop) (o:Oper) (a:Act) (v:Value):Prop :=
 (Region.wanted o (yielded ops a.tmps)=true/\∀ w,D w->(execOp a.eval o).run P w=.ok (.value v) w)∨(Region.wanted o (yielded ops a.tmps)=false/\v=undef)
def sUpon (P:Program) (D:World->Prop) (o:Oper) (a:Act) (K:Act->World->Prop):Result Next->Prop
 | .ok (.value v) w'=>D w'/\K (a.put o.dst v) w'
 | .ok .skip w'=>D w'/\K (a.put o.dst undef) w'
 | .ok (.enter f args) w'=>Calls P f args w' fun e w''=>∃ v,e=.returned v/\D w''/\K (a.put o.dst v) w''
 | _=>False
def sRun (P:Program) (ops:Array Oper) (D:World->Prop) (o:Oper) (a:Act) (w:World) (K:Act->World->Prop):Prop :=
 if Region.wanted o (yielded ops a.tmps) then sUpon P D o a K ((execOp a.eval o).run P w) else K (a.put o.dst undef) w
theorem sRun_mono {o:Oper} {a:Act} {w:World} {K K':Act->World->Prop} (h:∀ a w,D w->K a w->K' a w) (hw:D w) (hh:sRun P ops D o a w K):sRun P ops D o a w K':=by
 unfold sRun at hh |-
 split
 ·rename_i hw'
  rw [if_pos hw'] at hh
  generalize (execOp a.eval o).run P w=r at hh |-
  cases r with
  | halt=>exact hh.elim
  | ok x w'=>cases x with
   | value v=>exact ⟨hh.1,h _ _ hh.1 hh.2⟩
   | skip=>exact ⟨hh.1,h _ _ hh.1 hh.2⟩
   | enter f args=>exact Calls.mono hh fun e w'' ⟨v,e1,d,k⟩=>⟨v,e1,d,h _ _ d k⟩
   | _=>exact hh.elim
 ·rename_i hw'
  rw [if_neg hw'] at hh
  exact h _ _ hw hh
theorem sRun_some {o:Oper} {a:Act} {w:World} {K:Act->World->Prop} (hw:D w) (hh:sRun P ops D o a w K):∃ u w',D w'/\K (a.put o.dst u) w':=by
 unfold sRun at hh
 split at hh
 ·generalize (execOp a.eval o).run P w=r at hh
  cases r with
  | halt=>exact hh.elim
  | ok x w'=>cases x with
   | value v=>exact ⟨v,w',hh⟩
   | skip=>exact ⟨undef,w',hh⟩
   | enter f args =>
    obtain ⟨e,w2,fr,⟨v,_,d,k⟩,_⟩:=hh []
    exact ⟨v,w2,d,k⟩
   | _=>exact hh.elim
 ·exact ⟨undef,w,hw,hh⟩
theorem wp_of_sRun {o:Oper} {a:Act} {w:World} {K:Act->World->Prop} {Q':Post} {i:Nat} (hi:ops[i]? = some o) (hh:sRun P ops D o a w K):wpOp P ops Q' i K a w:=by
 unfold sRun at hh
 unfold wpOp
 simp only [hi]
 split
 ·rename_i hw
  rw [if_pos hw] at hh
  refine .inl ?_
  unfold Oper.wp
  generalize (execOp a.eval o).run P w=r at hh |-
  cases r with
  | halt=>exact hh.elim
  | ok x w'=>cases x with
   | value v=>exact hh.2
   | skip=>exact hh.2
   | enter f args=>exact Calls.mono hh fun e w'' ⟨v,e1,_,k⟩=>by subst e1; exact k
   | _=>exact hh.elim
 ·rename_i hw
  rw [if_neg hw] at hh
  exact hh
def anyC (P:Program) (md:Region.Mode) (ops:Array Oper) (fl:Nat->Bool) (D:World->Prop) (Q:Act->World->Prop):Nat->Array Bool->Act->World->Prop
 | 0,listed,a,w=>Region.ready md ops listed=[]/\Q a w
 | f+1,listed,a,w=>(Region.ready md ops listed=[]->Q a w)/\∀ i∈Region.ready md ops listed,∃ o,ops[i]? = some o /\
   ((fl i=true/\∃ v,fYld P ops D o a v/\anyC P md ops fl D Q f (listed.setIfInBounds i true) (a.put o.dst v) w) ∨
    (fl i=false/\sRun P ops D o a w fun a' w'=>anyC P md ops fl D Q f (listed.setIfInBounds i true) a' w'))
theorem any_of_anyC {Q':Post} (hQ:∀ a w,D w->Q a w->Q' .normal a w):∀ (f:Nat) (listed:Array Bool) (a:Act) (w:World),D w->anyC P md ops fl D Q f listed a w->wpAny P md ops Q' f listed a w:=by
 intro f
 induction f with
 | zero=>intro listed a w hw h; exact ⟨h.1,hQ _ _ hw h.2⟩
 | succ f ih =>
  intro listed a w hw h
  refine ⟨fun h0=>hQ _ _ hw (h.1 h0),fun i hi=>?_⟩
  obtain ⟨o,ho,h1⟩:=h.2 i hi
  rcases h1 with ⟨_,v,hy,hn⟩ | ⟨_,hs⟩
  ·unfold wpOp
   simp only [ho]
   rcases hy with ⟨hwn,hv⟩ | ⟨hwn,hv⟩
   ·rw [if_pos hwn]
    refine .inl ?_
    unfold Oper.wp
    rw [hv w hw]
    exact ih _ _ _ hw hn
   ·rw [if_neg (by simp [hwn])]
    subst hv
    exact ih _ _ _ hw hn
  ·exact wp_of_sRun (D:=D) ho (sRun_mono (fun a' w' hw' h'=>ih _ _ _ hw' h') hw hs)
theorem fYld_put {oi oj:Oper} {v u:Value} {a:Act} (hap:oi.apart ops oj=true) (hsj:∀ cs b,oj.op≠.select cs b):fYld P ops D oj (a.put oi.dst u) v↔fYld P ops D oj a v:=by
 obtain ⟨h1,_,_⟩:=Oper.apart_spec hap
 unfold fYld
 rw [execOp_put oj hsj a oi.dst u h1,wanted_put oj a oi.dst u h1]
theorem fYld_put' {oi oj:Oper} {v u:Value} {a:Act} (hap:oi.apart ops oj=true) (hsi:∀ cs b,oi.op≠.select cs b):fYld P ops D oi (a.put oj.dst u) v↔fYld P ops D oi a v:=by
 obtain ⟨_,_,h3⟩:=Oper.apart_spec hap
 unfold fYld
 rw [execOp_put oi hsi a oj.dst u h3,wanted_put oi a oj.dst u h3]
theorem sUpon_put {o:Oper} {a:Act} {K:Act->World->Prop} {d:Option Tmp} {v:Value} (hc:∀ u,(a.put o.dst u).put d v=(a.put d v).put o.dst u) (r:Result Next) (h:sUpon P D o a (fun a' w'=>K (a'.put d v) w') r):sUpon P D o (a.put d v) K r:=by
 cases r with
 | halt=>exact h.elim
 | ok x w'=>cases x with
  | value u=>exact ⟨h.1,by rw [<-hc]; exact h.2⟩
  | skip=>exact ⟨h.1,by rw [<-hc]; exact h.2⟩
  | enter f args=>exact Calls.mono h fun e w'' ⟨u,e1,d1,k⟩=>⟨u,e1,d1,by rw [<-hc]; exact k⟩
  | _=>exact h.elim
theorem sUpon_back {o:Oper} {a:Act} {K:Act->World->Prop} {d:Option Tmp} {v:Value} (hc:∀ u,(a.put o.dst u).put d v=(a.put d v).put o.dst u) (r:Result Next) (h:sUpon P D o (a.put d v) K r):sUpon P D o a (fun a' w'=>K (a'.put d v) w') r:=by
 cases r with
 | halt=>exact h.elim
 | ok x w'=>cases x with
  | value u=>exact ⟨h.1,by dsimp only; rw [hc]; exact h.2⟩
  | skip=>exact ⟨h.1,by dsimp only; rw [hc]; exact h.2⟩
  | enter f args=>exact Calls.mono h fun e w'' ⟨u,e1,d1,k⟩=>⟨u,e1,d1,by dsimp only; rw [hc]; exact k⟩
  | _=>exact h.elim
theorem sRun_put {oi oj:Oper} {v:Value} {a:Act} {w:World} {K:Act->World->Prop} (hap:oi.apart ops oj=true) (hsj:∀ cs b,oj.op≠.select cs b) :
  sRun P ops D oj (a.put oi.dst v) w K↔sRun P ops D oj a w (fun a' w'=>K (a'.put oi.dst v) w'):=by
 obtain ⟨h1,h2,_⟩:=Oper.apart_spec hap
 have hc:∀ u,(a.put oj.dst u).put oi.dst v=(a.put oi.dst v).put oj.dst u:=fun u=>(Act.put_comm a v u h2).symm
 unfold sRun
 rw [execOp_put oj hsj a oi.dst v h1,wanted_put oj a oi.dst v h1]
 split
 ·exact ⟨sUpon_back hc _,sUpon_put hc _⟩
 ·dsimp only; rw [hc]
theorem apart_symm_dst {oi oj:Oper} (hap:oi.apart ops oj=true) (a:Act) (v u:Value):(a.put oi.dst v).put oj.dst u=(a.put oj.dst u).put oi.dst v:=Act.put_comm a v u (Oper.apart_spec hap).2.1
theorem float_first {i:Nat} {oi:Oper} {v:Value} (hi:ops[i]? = some oi) (hf:fl i=true) (hsel:∀ (j:Nat) (o:Oper) cs b,ops[j]? = some o->o.op≠.select cs b) :
  ∀ (f:Nat) (listed:Array Bool) (a:Act) (w:World),D w ->
   (∀ j oj,ops[j]? = some oj->j≠i->listed.getD j true=false->(∀ e∈oj.after,Region.binds md e=true->e.on≠i)->oi.apart ops oj=true) ->
   i∈Region.ready md ops listed->fYld P ops D oi a v->anyC P md ops fl D Q f (listed.setIfInBounds i true) (a.put oi.dst v) w->anyC P md ops fl D Q (f+1) listed a w:=by
 intro f
 induction f with
 | zero =>
  intro listed a w _ _ hr hy H
  refine ⟨fun h=>(by rw [h] at hr; cases hr),fun j hj=>?_⟩
  by_cases hji:j=i
  ·subst hji; exact ⟨oi,hi,.inl ⟨hf,v,hy,H⟩⟩
  ·have:=ready_mono hj hji
   rw [H.1] at this
   cases this
 | succ f ih =>
  intro listed a w hw hfree hr hy H
  refine ⟨fun h=>(by rw [h] at hr; cases hr),fun j hj=>?_⟩
  by_cases hji:j=i
  ·subst hji; exact ⟨oi,hi,.inl ⟨hf,v,hy,H⟩⟩
  ·obtain ⟨oj,hoj,h1⟩:=H.2 j (ready_mono hj hji)
   obtain ⟨hjun,oj',hoj',hall⟩:=mem_ready.1 hj
   obtain rfl:oj'=oj:=Option.some.inj (hoj'.symm.trans hoj)
   have hnot:∀ e∈oj'.after,Region.binds md e=true->e.on≠i:=fun e he hb heq=>by
    have:=hall e he hb
    rw [heq,getD_both (mem_ready.1 hr).1] at this
    cases this
   have hap:=hfree j oj' hoj hji hjun hnot
   have hfree':∀ k ok,ops[k]? = some ok->k≠i->(listed.setIfInBounds j true).getD k true=false->(∀ e∈ok.after,Region.binds md e=true->e.on≠i)->oi.apart ops ok=true:=fun k ok hk hki hun hno=>by
    refine hfree k ok hk hki ?_ hno
    by_cases hjk:j=k
    ·subst hjk; exact hjun
    ·rw [getD_set_ne true hjk] at hun; exact hun
   have hr':=ready_mono hr (Ne.symm hji)
   refine ⟨oj',hoj,?_⟩
   rcases h1 with ⟨hfj,u,hyj,hn⟩ | ⟨hfj,hs⟩
   ·refine .inl ⟨hfj,u,(fYld_put hap (fun cs b=>hsel j oj' cs b hoj)).1 hyj,ih _ _ w hw hfree' hr' ((fYld_put' hap (fun cs b=>hsel i oi cs b hi)).2 hy) ?_⟩
    rw [Array.setIfInBounds_comm _ _ hji,<-apart_symm_dst hap]
    exact hn
   ·refine .inr ⟨hfj,?_⟩
    have hs':=(sRun_put hap (fun cs b=>hsel j oj' cs b hoj)).1 hs
    have key:∀ a' w',D w'->fYld P ops D oi a' v->anyC P md ops fl D Q f ((listed.setIfInBounds i true).setIfInBounds j true) (a'.put oi.dst v) w'->anyC P md ops fl D Q (f+1) (listed.setIfInBounds j true) a' w':=fun a' w' hw' hy' h' =>
     ih _ _ w' hw' hfree' hr' hy' (by rw [Array.setIfInBounds_comm _ _ hji]; exact h')
    have hput:∀ u,fYld P ops D oi (a.put oj'.dst u) v:=fun u=>(fYld_put' hap (fun cs b=>hsel i oi cs b hi)).2 hy
    unfold sRun at hs' |-
    split
    ·rename_i hwn
     rw [if_pos hwn] at hs'
     generalize (execOp a.eval oj').run P w=r at hs' |-
     cases r with
     | halt=>exact hs'.elim
     | ok x w'=>cases x with
      | value u=>exact ⟨hs'.1,key _ _ hs'.1 (hput u) hs'.2⟩
      | skip=>exact ⟨hs'.1,key _ _ hs'.1 (hput _) hs'.2⟩
      | enter g args=>exact Calls.mono hs' fun e w'' ⟨u,e1,d,k⟩=>⟨u,e1,d,key _ _ d (hput u) k⟩
      | _=>exact hs'.elim
    ·rename_i hwn
     rw [if_neg hwn] at hs'
     exact key _ _ hw (hput _) hs'
def reach (md:Region.Mode) (ops:Array Oper):Nat->Nat->Nat->Bool
 | 0,_,_=>false
 | f+1,j,k=>match ops[j]? with
  | some oj=>oj.after.any fun e=>Region.binds md e && (Nat.beq e.on k || reach md ops f e.on k)
  | none=>false
def Closed (md:Region.Mode) (ops:Array Oper) (listed:Array Bool):Prop:=∀ j oj,ops[j]? = some oj->listed.getD j false=true->∀ e∈oj.after,Region.binds md e=true->listed.getD e.on false=true
theorem Closed.set {listed:Array Bool} {i:Nat} (h:Closed md ops listed) (hi:i∈Region.ready md ops listed):Closed md ops (listed.setIfInBounds i true):=by
 obtain ⟨_,oi,hoi,hall⟩:=mem_ready.1 hi
 intro j oj hj hl e he hb
 by_cases hij:i=j
 ·subst hij
  obtain rfl:oj=oi:=Option.some.inj (hj.symm.trans hoi)
  exact getD_set_true (hall e he hb)
 ·rw [getD_set_ne false hij] at hl
  exact getD_set_true (h j oj hj hl e he hb)
theorem kl {listed:Array Bool} {k:Nat} (hc:Closed md ops listed) (hk:listed.getD k false=false):∀ (f j:Nat),reach md ops f j k=true->(∀ oj,ops[j]? = some oj->¬ ∀ e∈oj.after,Region.binds md e=true->listed.getD e.on false=true)
 | 0,j,h=>by simp [reach] at h
 | f+1,j,h=>by
  intro oj hoj hall
  unfold reach at h
  rw [hoj] at h
  simp only at h
  obtain ⟨e,he,h2⟩:=Array.any_eq_true'.1 h
  simp only [Bool.and_eq_true,Bool.or_eq_true] at h2
  have hl:=hall e he h2.1
  rcases h2.2 with h3 | h3
  ·rw [Nat.eq_of_beq_eq_true h3,hk] at hl; cases hl
  ·cases ho:ops[e.on]? with
   | none =>
    cases f with
    | zero=>simp [reach] at h3
    | succ f=>unfold reach at h3; rw [ho] at h3; cases h3
   | some oe=>exact kl hc hk f e.on h3 oe ho (hc e.on oe ho hl)
theorem seq_first {i n:Nat} {oi:Oper} (hi:ops[i]? = some oi) (hf:fl i=false) (hsel:∀ (j:Nat) (o:Oper) cs b,ops[j]? = some o->o.op≠.select cs b) :
  ∀ (f:Nat) (listed:Array Bool) (a:Act) (w:World),D w->Closed md ops listed ->
   (∀ j oj,ops[j]? = some oj->j≠i->listed.getD j true=false->(∀ e∈oj.after,Region.binds md e=true->e.on≠i)->oi.apart ops oj=true) ->
   (∀ j oj,ops[j]? = some oj->j≠i->listed.getD j true=false->fl j=true∨reach md ops n j i=true) ->
   i∈Region.ready md ops listed->sRun P ops D oi a w (fun a' w'=>anyC P md ops fl D Q f (listed.setIfInBounds i true) a' w')->anyC P md ops fl D Q (f+1) listed a w:=by
 intro f
 induction f with
 | zero =>
  intro listed a w hw _ _ _ hr H
  refine ⟨fun h=>(by rw [h] at hr; cases hr),fun j hj=>?_⟩
  by_cases hji:j=i
  ·subst hji; exact ⟨oi,hi,.inr ⟨hf,H⟩⟩
  ·obtain ⟨u,w',_,h⟩:=sRun_some hw H
   have:=ready_mono hj hji
   rw [h.1] at this
   cases this
 | succ f ih =>
  intro listed a w hw hcl hfree hseq hr H
  refine ⟨fun h=>(by rw [h] at hr; cases hr),fun j hj=>?_⟩
  by_cases hji:j=i
  ·subst hji; exact ⟨oi,hi,.inr ⟨hf,H⟩⟩
  ·obtain ⟨hjun,oj,hoj,hall⟩:=mem_ready.1 hj
   have hiun:=getD_both (mem_ready.1 hr).1
   have hfj:fl j=true:=by
    rcases hseq j oj hoj hji hjun with h | h
    ·exact h
    ·exact absurd hall (kl hcl hiun n j h oj hoj)
   have hnot:∀ e∈oj.after,Region.binds md e=true->e.on≠i:=fun e he hb heq=>by
    have:=hall e he hb
    rw [heq,hiun] at this
    cases this
   have hap:=hfree j oj hoj hji hjun hnot
   have hsi:=fun cs b=>hsel i oi cs b hi
   have hsj:=fun cs b=>hsel j oj cs b hoj
   obtain ⟨u,w',hw',h⟩:=sRun_some hw H
   obtain ⟨oj2,hoj2,h2⟩:=h.2 j (ready_mono hj hji)
   obtain rfl:oj2=oj:=Option.some.inj (hoj2.symm.trans hoj)
   rcases h2 with ⟨_,v,hy,_⟩ | ⟨hno,_⟩
   ·have hya:fYld P ops D oj2 a v:=(fYld_put hap hsj).1 hy
    refine ⟨oj2,hoj,.inl ⟨hfj,v,hya,ih _ _ w hw (hcl.set hj) (fun k ok hk hki hun hno=>hfree k ok hk hki ?_ hno) (fun k ok hk hki hun=>hseq k ok hk hki ?_) (ready_mono hr (Ne.symm hji)) ?_⟩⟩
    ·by_cases hjk:j=k
     ·subst hjk; exact hjun
     ·rw [getD_set_ne true hjk] at hun; exact hun
    ·by_cases hjk:j=k
     ·subst hjk; exact hjun
     ·rw [getD_set_ne true hjk] at hun; exact hun
    ·
     obtain ⟨g1,g2,g3⟩:=Oper.apart_spec hap
     have hc:∀ u,(a.put oi.dst u).put oj2.dst v=(a.put oj2.dst v).put oi.dst u:=fun u=>Act.put_comm a u v g2
     have huniq:∀ u2,fYld P ops D oj2 (a.put oi.dst u2) v:=fun u2=>(fYld_put hap hsj).2 hya
     have key:∀ u2 w2,D w2->anyC P md ops fl D Q (f+1) (listed.setIfInBounds i true) (a.put oi.dst u2) w2->anyC P md ops fl D Q f ((listed.setIfInBounds j true).setIfInBounds i true) ((a.put oj2.dst v).put oi.dst u2) w2:=fun u2 w2 hw2 hh=>by
      obtain ⟨oj3,hoj3,h3⟩:=hh.2 j (ready_mono hj hji)
      obtain rfl:oj3=oj2:=Option.some.inj (hoj3.symm.trans hoj)
      rcases h3 with ⟨_,v2,hy2,hn2⟩ | ⟨hno,_⟩
      ·have hv:v2=v:=by
        have hu:=huniq u2
        rcases hy2 with ⟨p1,p2⟩ | ⟨p1,p2⟩ <;> rcases hu with ⟨q1,q2⟩ | ⟨q1,q2⟩
        ·have:=(p2 w2 hw2).symm.trans (q2 w2 hw2)
         simpa using this
        ·rw [p1] at q1; cases q1
        ·rw [p1] at q1; cases q1
        ·rw [p2,q2]
       subst hv
       rw [Array.setIfInBounds_comm _ _ hji,<-hc]
       exact hn2
      ·rw [hfj] at hno; cases hno
     unfold sRun at H |-
     rw [execOp_put oi hsi a oj2.dst v g3,wanted_put oi a oj2.dst v g3]
     split
     ·rename_i hwn
      rw [if_pos hwn] at H
      generalize (execOp a.eval oi).run P w=r at H |-
      cases r with
      | halt=>exact H.elim
      | ok x w'=>cases x with
       | value u=>exact ⟨H.1,key _ _ H.1 H.2⟩
       | skip=>exact ⟨H.1,key _ _ H.1 H.2⟩
       | enter g args=>exact Calls.mono H fun e w'' ⟨u,e1,d,k⟩=>⟨u,e1,d,key _ _ d k⟩
       | _=>exact H.elim
     ·rename_i hwn
      rw [if_neg hwn] at H
      exact key _ _ hw H
   ·rw [hfj] at hno; cases hno
def Region.lexC (md:Region.Mode) (ops:Array Oper) (fl:Nat->Bool):Nat->Nat->Array Bool->Bool
 | 0,_,listed=>(Region.ready md ops listed).isEmpty
 | f+1,k,listed=>(Region.ready md ops listed).contains k && Region.free md ops listed k && (fl k || (List.range ops.size).all fun j=>Nat.beq j k || listed.getD j true || fl j || reach md ops ops.size j k) && Region.lexC md ops fl f (k+1) (listed.setIfInBounds k true)
def Region.chainOk (md:Region.Mode) (ops:Array Oper) (fl:Nat->Bool):Bool:=Region.noSelect ops && Region.lexC md ops fl ops.size 0 (Array.replicate ops.size false)
def wpC (P:Program) (ops:Array Oper) (fl:Nat->Bool) (D:World->Prop) (Q:Act->World->Prop):List Oper->Nat->Act->World->Prop
 | [],_,a,w=>Q a w
 | o :: rest,k,a,w=>bif fl k then ∃ v,fYld P ops D o a v/\wpC P ops fl D Q rest (k+1) (a.put o.dst v) w else sRun P ops D o a w fun a' w'=>wpC P ops fl D Q rest (k+1) a' w'
theorem anyC_lex (hsel:Region.noSelect ops=true):∀ (l:List Oper) (k:Nat) (listed:Array Bool) (a:Act) (w:World),D w->(∀ j,l[j]? = ops[k+j]?)->Closed md ops listed ->
  Region.lexC md ops fl l.length k listed=true->wpC P ops fl D Q l k a w->anyC P md ops fl D Q l.length listed a w:=by
 intro l
 induction l with
 | nil =>
  intro k listed a w _ _ _ hB h
  exact ⟨by simpa [Region.lexC] using hB,h⟩
 | cons o l ih =>
  intro k listed a w hw hl hcl hB h
  have h0:ops[k]? = some o:=by simpa using (hl 0).symm
  have hl':∀ j,l[j]? = ops[(k+1)+j]? := fun j=>by have:=hl (j+1); simpa [Nat.add_assoc,Nat.add_comm 1 j] using this
  simp only [List.length_cons,Region.lexC,Bool.and_eq_true] at hB
  obtain ⟨⟨⟨hr,hf⟩,hs⟩,hB'⟩:=hB
  have hr':k∈Region.ready md ops listed:=by simpa using hr
  unfold wpC at h
  cases hfl:fl k with
  | true =>
   rw [hfl] at h
   obtain ⟨v,hy,hn⟩:=h
   exact float_first h0 hfl (Region.noSelect_spec hsel) l.length listed a w hw (Region.free_spec h0 hf) hr' hy (ih (k+1) _ _ w hw hl' (hcl.set hr') hB' hn)
  | false =>
   rw [hfl] at h
   refine seq_first (n:=ops.size) h0 hfl (Region.noSelect_spec hsel) l.length listed a w hw hcl (Region.free_spec h0 hf) (fun j oj hj hji hun=>?_) hr' (sRun_mono (fun a' w' hw' h'=>ih (k+1) _ a' w' hw' hl' (hcl.set hr') hB' h') hw h)
   rw [hfl] at hs
   simp only [Bool.false_or] at hs
   have hjl:j<ops.size:=(Array.getElem?_eq_some_iff.1 hj).1
   have:=List.all_eq_true.1 hs j (List.mem_range.2 hjl)
   simp only [Bool.or_eq_true] at this
   rcases this with ((h1 | h1) | h1) | h1
   ·exact absurd (Nat.eq_of_beq_eq_true h1) hji
   ·rw [hun] at h1; cases h1
   ·exact .inl h1
   ·exact .inr h1
theorem wp_region_chain {id:Nat} {Q':Post} {a:Act} {w:World} {l:List Oper} (fl:Nat->Bool) (D:World->Prop) (hm:P.follows .mixedOrders=true) (hB:Region.chainOk .any l.toArray fl=true) (hD:D { w with drawn:=w.drawn+1 })
  (h:wpC P l.toArray fl D (fun a' w'=>Q' .normal a' w') l 0 a { w with drawn:=w.drawn+1 }):(Code.region id l.toArray true).wp P Q' a w:=by
 simp only [Region.chainOk,Bool.and_eq_true] at hB
 refine wp_region_any hm ?_
 have:=anyC_lex (md:=.any) (D:=D) hB.1 l 0 (Array.replicate l.toArray.size false) a _ hD (by simp) (fun j oj _ hl=>(by rw [getD_replicate_false] at hl; cases hl)) (by simpa using hB.2) h
 have h2:=any_of_anyC (Q':=Q') (fun _ _ _ hq=>hq) _ _ _ _ hD this
 simpa using h2
end
structure EqvClosed (D:World->Prop):Prop where
 out:∀ w w',Eqv w w'->D w->D w'
def WK (P:Program) (N:Nat) (ops:Array Oper) (fl:Nat->Bool) (D:World->Prop) (Q:Post) (l:List Oper) (k:Nat) (L:jj) (w:World):Prop :=
 ∀ a w1,Eqv w w1->D w1->Has N L a->wpC P ops fl D (fun a' w'=>Q .normal a' w') l k a w1
section
variable {P:Program} {N:Nat} {ops:Array Oper} {fl:Nat->Bool} {D:World->Prop} {Q:Post} {L:jj} {w:World} {k d:Nat} {op:Op} {ty:TypeId} {pos:String} {af:Array Edge} {rest:List Oper}
theorem WC.chain {i:Nat} {l:List Oper} (fl:Nat->Bool) (D:World->Prop) (hm:P.follows .mixedOrders=true) (hB:Region.chainOk .any l.toArray fl=true) (hE:∀ w',Eqv w w'->D w') (h:WK P N l.toArray fl D Q l 0 L w):WC P N Q (.region i l.toArray true) L w:=fun a _ e ha =>
 wp_region_chain fl D hm hB (hE _ (e.drawn _)) (h a _ (e.drawn _) (hE _ (e.drawn _)) ha)
theorem WK.nil (h:WX N Q .normal L w):WK P N ops fl D Q [] k L w:=fun a w1 e _ ha=>h a w1 e ha
theorem qy {v:Value} (hf:fl k=true) (hd:Nat.blt d N=true) (hy:∀ w',D w'->Yld P N w' ⟨some d,op,ty,pos,af,none⟩ L v) (h:WK P N ops fl D Q rest (k+1) ((d,v) :: L) w) :
  WK P N ops fl D Q (⟨some d,op,ty,pos,af,none⟩ :: rest) k L w:=fun a w1 e hw ha=>by
 unfold wpC
 rw [hf]
 exact ⟨v,.inl ⟨by simp [Region.wanted],fun w' hw'=>hy w' hw' a w' (Eqv.refl _) ha⟩,h _ _ e hw (ha.put hd v)⟩
theorem WK.put {R:Value->World->Prop} (hf:fl k=false) (hd:Nat.blt d N=true) (hr:Eff P N w ⟨some d,op,ty,pos,af,none⟩ L R) (hD:∀ v w',R v w'->D w')
  (hk:∀ v w',R v w'->WK P N ops fl D Q rest (k+1) ((d,v) :: L) w'):WK P N ops fl D Q (⟨some d,op,ty,pos,af,none⟩ :: rest) k L w:=fun a w1 e hw ha=>by
 unfold wpC
 rw [hf]
 show sRun _ _ _ _ _ _ _
 unfold sRun
 rw [if_pos (by simp [Region.wanted])]
 obtain ⟨v,w',h,hR⟩:=hr a w1 e ha
 rw [h]
 exact ⟨hD v w' hR,hk v w' hR _ w' (Eqv.refl _) (hD v w' hR) (ha.put hd v)⟩
end
end
 
section
open Go Go.RowKit
theorem run_enter {P:Program} {N:Nat} {L:jj} {a:Act} {w1:World} {dd:Option Tmp} {ty:TypeId} {pos:String} {af:Array Edge} {gd:Option (Nat × Bool)} {g:FuncId} {as_:List Operand} {ts:Array TypeId} {vs:List Value} (ha:Has N L a) (hv:opvs L as_=some vs) (hgo:goesIn P g=true) :
  (execOp a.eval ⟨dd,.call ⟨.value (.func g),⟨as_⟩,ts⟩,ty,pos,af,gd⟩).run P w1=.ok (.enter g ⟨vs⟩) w1:=by
 have hm:(⟨as_⟩:Array Operand).map a.eval=⟨vs⟩:=by rw [<-ha.evs hv]; simp
 unfold goesIn at hgo
 split at hgo
 ·rename_i fn hfn
  simp only [Bool.and_eq_true,Bool.not_eq_true'] at hgo
  have hnone:fn.body.isNone=false:=by cases hb:fn.body <;> simp_all
  unfold execOp
  simp only [resolve,Act.eval,hm,Deferred.ofValue,Sem.run_bind,Sem.run_pure,Result.andThen_ok,invoke,callFunc,program,Sem.run,hfn,hgo.1,hnone,Bool.false_eq_true,if_false]
  simp
 ·cases hgo
section
variable {P:Program} {N:Nat} {ops:Array Oper} {fl:Nat->Bool} {D:World->Prop} {Q:Post} {L:jj} {w:World} {k d:Nat} {op:Op} {ty:TypeId} {pos:String} {af:Array Edge} {rest:List Oper} {gd:Option (Nat × Bool)}
def Wants (N:Nat) (ops:Array Oper) (L:jj) (gd:Option (Nat × Bool)):Prop:=match gd with
 | none=>True
 | some (j,t)=>∃ d',(ops[j]?).bind (·.dst)=some d'/\Nat.blt d' N=true/\lk L d'=some (.bool t)
theorem je:Wants N ops L none:=trivial
theorem jb {j d':Nat} {t:Bool} (hj:(ops[j]?).bind (·.dst)=some d') (hN:Nat.blt d' N=true) (hb:lk L d'=some (.bool t)):Wants N ops L (some (j,t)):=⟨d',hj,hN,hb⟩
theorem Wants.wanted {o:Oper} {a:Act} (h:Wants N ops L o.guard) (ha:Has N L a):Region.wanted o (yielded ops a.tmps)=true:=by
 unfold Wants at h
 split at h
 ·rename_i hg; simp [Region.wanted,hg]
 ·rename_i j t hg
  obtain ⟨d',hj,hN,hb⟩:=h
  have:=yielded_of ha hj hN hb
  simp [Region.wanted,hg,this]
theorem WK.yw {v:Value} (hf:fl k=true) (hg:Wants N ops L gd) (hd:Nat.blt d N=true) (hy:∀ w',D w'->Yld P N w' ⟨some d,op,ty,pos,af,none⟩ L v) (h:WK P N ops fl D Q rest (k+1) ((d,v) :: L) w) :
  WK P N ops fl D Q (⟨some d,op,ty,pos,af,gd⟩ :: rest) k L w:=fun a w1 e hw ha=>by
 unfold wpC
 rw [hf]
 exact ⟨v,.inl ⟨Wants.wanted (o:=⟨some d,op,ty,pos,af,gd⟩) hg ha,fun w' hw'=>hy w' hw' a w' (Eqv.refl _) ha⟩,h _ _ e hw (ha.put hd v)⟩
theorem WK.putw {R:Value->World->Prop} (hf:fl k=false) (hg:Wants N ops L gd) (hd:Nat.blt d N=true) (hr:Eff P N w ⟨some d,op,ty,pos,af,none⟩ L R) (hD:∀ v w',R v w'->D w')
  (hk:∀ v w',R v w'->WK P N ops fl D Q rest (k+1) ((d,v) :: L) w'):WK P N ops fl D Q (⟨some d,op,ty,pos,af,gd⟩ :: rest) k L w:=fun a w1 e hw ha=>by
 unfold wpC
 rw [hf]
 show sRun _ _ _ _ _ _ _
 unfold sRun
 rw [if_pos (Wants.wanted (o:=⟨some d,op,ty,pos,af,gd⟩) hg ha)]
 obtain ⟨v,w',h,hR⟩:=hr a w1 e ha
 have h':(execOp a.eval ⟨some d,op,ty,pos,af,gd⟩).run P w1=.ok (.value v) w':=h
 rw [h']
 exact ⟨hD v w' hR,hk v w' hR _ w' (Eqv.refl _) (hD v w' hR) (ha.put hd v)⟩
theorem WK.call {R:Value->World->Prop} {g:FuncId} {as_:List Operand} {ts:Array TypeId} {vs:List Value} (hf:fl k=false) (hg:Wants N ops L gd) (hd:Nat.blt d N=true) (hv:opvs L as_=some vs) (hc:Fn P g ⟨vs⟩ w R) (hD:∀ v w',R v w'->∀ w2,Eqv w' w2->D w2)
  (hk:∀ v w',R v w'->WK P N ops fl D Q rest (k+1) ((d,v) :: L) w'):WK P N ops fl D Q (⟨some d,.call ⟨.value (.func g),⟨as_⟩,ts⟩,ty,pos,af,gd⟩ :: rest) k L w:=fun a w1 e hw ha=>by
 unfold wpC
 rw [hf]
 show sRun _ _ _ _ _ _ _
 unfold sRun
 rw [if_pos (Wants.wanted (o:=⟨some d,.call ⟨.value (.func g),⟨as_⟩,ts⟩,ty,pos,af,gd⟩) hg ha),run_enter ha hv hc.1]
 refine (hc.2 w1 e).mono ?_
 rintro en w' ⟨v,w0,rfl,h0,hR⟩
 exact ⟨v,rfl,hD v w0 hR w' h0,hk v w0 hR _ w' h0 (hD v w0 hR w' h0) (ha.put hd v)⟩
theorem WK.no {j d':Nat} {t:Bool} (hj:(ops[j]?).bind (·.dst)=some d') (hN:Nat.blt d' N=true) (hb:lk L d'=some (.bool (!t))) (hd:Nat.blt d N=true) (h:WK P N ops fl D Q rest (k+1) ((d,undef) :: L) w) :
  WK P N ops fl D Q (⟨some d,op,ty,pos,af,some (j,t)⟩ :: rest) k L w:=fun a w1 e hw ha=>by
 have hno:Region.wanted ⟨some d,op,ty,pos,af,some (j,t)⟩ (yielded ops a.tmps)=false:=by
  have:=yielded_of ha hj hN hb
  simp [Region.wanted,this]
 unfold wpC
 cases hf:fl k with
 | true=>exact ⟨undef,.inr ⟨hno,rfl⟩,h _ _ e hw (ha.put hd undef)⟩
 | false =>
  show sRun _ _ _ _ _ _ _
  unfold sRun
  rw [if_neg (by rw [hno]; simp)]
  exact h _ _ e hw (ha.put hd undef)
theorem qN {R:Value->World->Prop} {g:FuncId} {as_:List Operand} {ts:Array TypeId} {vs:List Value} (hg:Wants N ops L gd) (hd:Nat.blt d N=true) (hv:opvs L as_=some vs) (hc:Fn P g ⟨vs⟩ w R)
  (hk:∀ v w',R v w'->WL P N ops Q rest ((d,v) :: L) w'):WL P N ops Q (⟨some d,.call ⟨.value (.func g),⟨as_⟩,ts⟩,ty,pos,af,gd⟩ :: rest) L w:=fun a w1 e ha =>
 wpList_step fun K hK=>by
  rw [if_pos (Wants.wanted (o:=⟨some d,.call ⟨.value (.func g),⟨as_⟩,ts⟩,ty,pos,af,gd⟩) hg ha)]
  unfold Oper.wp
  rw [run_enter ha hv hc.1]
  refine (hc.2 w1 e).mono ?_
  rintro en w' ⟨v,w0,rfl,h0,hR⟩
  exact hK _ _ (hk v w0 hR _ w' h0 (ha.put hd v))
def Ef0 (P:Program) (N:Nat) (w:World) (o:Oper) (L:jj) (R:World->Prop):Prop:=∀ a w1,Eqv w w1->Has N L a->∃ w',(execOp a.eval o).run P w1=.ok .skip w'/\R w'
theorem qI {T:Tab} {g m:Nat} {t e:TypeId} {x y:Operand} {us vs:List Value} (hT:T.Ok P) (h1:nk T.agg t=some m) (hx:opv L x=some (.pointer (some ⟨g,0,none⟩))) (hy:opv L y=some (.agg ⟨vs⟩)) (hu:∀ u∈vs,u.oneCell'=true) (hB:Bl w g e us) (ho:us.length=m) (hv:vs.length=m) :
  Ef0 P N w ⟨none,.store t x y,ty,pos,af,none⟩ L (fun w'=>Bl w' g e vs/\w.grownBy w' (some g)):=fun a w1 hw ha=>by
 have hB1:=ji hw hB
 obtain ⟨_,j,hj,hj1⟩:=hT.agg h1
 have hst:=run_storeCells_at P g 0 e vs 0 ⟨us⟩ w1 hB1 (by simp; omega) hu
 have hrow:(List.take (0+0) (⟨us⟩:Array Value).toList++vs++List.drop (0+0+vs.length) (⟨us⟩:Array Value).toList).toArray=⟨vs⟩:=by
  have:List.drop (0+0+vs.length) us=[]:=List.drop_eq_nil_of_le (by omega)
  simp only [this]
  simp
 rw [hrow] at hst
 refine ⟨w1.setRow g ⟨vs⟩,?_,setRow_heap w1 g _ _ e _ hB1,kh hw ⟨rfl,rfl,rfl,by simp,fun k _ hk=>setRow_other w1 g k _ (fun e=>hk (by rw [e]))⟩⟩
 unfold execOp
 have hcell:(Value.agg ⟨vs⟩).cells=⟨vs⟩:=rfl
 simp only [ha.ev hx,ha.ev hy,Sem.run_bind,Instr.storeAt,Instr.sureAddr,Sem.run_pure,Result.andThen_ok,storeVar,hcell,sizeOf,typeInfo,program,Sem.run,hj,hj1]
 have hsz:(⟨vs⟩:Array Value).size=m:=hv
 simp only [hsz,ne_eq,not_true_eq_false,if_false,hst,Result.andThen_ok]
theorem WK.eff {R:World->Prop} (hf:fl k=false) (hr:Ef0 P N w ⟨none,op,ty,pos,af,none⟩ L R) (hD:∀ w',R w'->D w') (hk:∀ w',R w'->WK P N ops fl D Q rest (k+1) L w') :
  WK P N ops fl D Q (⟨none,op,ty,pos,af,none⟩ :: rest) k L w:=fun a w1 e hw ha=>by
 unfold wpC
 rw [hf]
 show sRun _ _ _ _ _ _ _
 unfold sRun
 rw [if_pos (by simp [Region.wanted])]
 obtain ⟨w',h,hR⟩:=hr a w1 e ha
 rw [h]
 exact ⟨hD w' hR,hk w' hR _ w' (Eqv.refl _) (hD w' hR) (ha.put_none undef)⟩
theorem qE {T:Tab} {fn:Func} {R:Value->World->Prop} {s s2 g m:Nat} {t e:TypeId} {us:List Value} {v2:Value} (hT:T.Ok P) (hr:fn.results = #[.cell s t,.tmp s2]) (hs:nk T.agg t=some m) (hv:lk L s=some (.pointer (some ⟨g,0,none⟩))) (hB:Bl w g e us) (hm:us.length=m) (h2:lk L s2=some v2)
  (hR:R (.tuple #[.agg ⟨us⟩,v2]) w):WX N (RetPost P fn R) .ret L w:=fun a w1 hw ha=>by
 obtain ⟨⟨de,hu,hrow⟩,j,hj,hj1⟩:=hT.agg hs
 have hrow':de.isRow=true:=by cases de <;> simp_all [isRow]
 have hl:=run_loadVar_mid (P:=P) w1 g 0 t us de (fun p v hv'=>by rw [hw.cell,hB.cell,<-hv',Nat.zero_add]) hu hrow' (by simp [hj,hj1,hm])
 have hp:=ha.get s _ hv
 have hp2:=ha.get s2 _ h2
 refine ⟨ha.defers,.tuple #[.agg ⟨us⟩,v2],?_,_,w,rfl,hw,hR⟩
 have hp':a.tmps[s]?.getD undef=.pointer (some ⟨g,0,none⟩):=by simpa using hp
 have hp2':a.tmps[s2]?.getD undef=v2:=by simpa using hp2
 simp [results,hr,hp',hp2',asAddr,hl]
theorem Yld.zarr {T:Tab} {dd:Option Tmp} {t e:TypeId} {m s:Nat} {zs:List Value} (hT:T.Ok P) (hs:nk T.arr t=some (m,e,s)) (hz:jM P t=some zs) :
  Yld P N w ⟨dd,.build t ⟨[]⟩,ty,pos,af,none⟩ L (.agg ⟨zs⟩):=fun a w1 _ ha=>by
 obtain ⟨z,hz1,hz2⟩:=zeroOf_run hz w1
 obtain ⟨hu,i,hi,hi1⟩:=hT.arr hs
 have hfill:=fill_fillL (fun j=>some (j*s,s)) [] ⟨zs⟩ zs rfl
 unfold execOp
 simp only [Instr.build,Sem.run_bind,hz1,Result.andThen_ok,run_underlying hu,hz2,sizeOf,typeInfo,program,Sem.run,hi,hi1,Sem.run_pure,List.map_toArray,List.map_nil,Instr.fill]
end
end
 
section
open Go Go.RowKit
theorem Own.ofBl {α:Type} {f:α->Value} {w:World} {B g:Nat} {e:TypeId} {xs:List α} {m:Nat} (h:Bl w g e (xs.map f)) (hB:B<=g) (hm:xs.length<=maxLen) (hn:m=xs.length):Own f w B e (some ⟨g,0,none⟩) m xs:=by
 subst hn
 unfold Own
 exact ⟨by simp,.inr ⟨g,xs.length,⟨xs.map f⟩,rfl,hB,h,Nat.le_refl _,hm,by simp,by rw [Nat.mul_one]; exact List.take_of_length_le (by simp)⟩⟩
theorem Own.base {α:Type} {f:α->Value} {w:World} {B B':Nat} {e:TypeId} {A:Option Addr} {c:Nat} {xs:List α} (h:Own f w B e A c xs) (hB:∀ g,blk A=some g->B'<=g):Own f w B' e A c xs:=by
 unfold Own at h |-
 rcases h.2 with ⟨hv,hn⟩ | ⟨g,cap,cur,hv,hb,hg⟩
 ·exact ⟨h.1,.inl ⟨hv,hn⟩⟩
 ·refine ⟨h.1,.inr ⟨g,cap,cur,hv,hB g ?_,hg⟩⟩
  simp only [Value.slice.injEq] at hv
  rw [hv.1]; rfl
end
 
section
open Go Go.RowKit
section
variable {P:Program} {ops:Array Oper} {md:Region.Mode} {fl:Nat->Bool} {D:World->Prop} {nT:Nat} {LT:Array Bool->Act->World->Prop}
def anyT (P:Program) (md:Region.Mode) (ops:Array Oper) (fl:Nat->Bool) (D:World->Prop) (n:Nat) (L:Array Bool->Act->World->Prop):Nat->Array Bool->Act->World->Prop
 | 0,listed,a,w=>L listed a w
 | f+1,listed,a,w=>Region.ready md ops listed≠[]/\∀ i∈Region.ready md ops listed,i<n/\∃ o,ops[i]? = some o /\
   ((fl i=true/\∃ v,fYld P ops D o a v/\anyT P md ops fl D n L f (listed.setIfInBounds i true) (a.put o.dst v) w) ∨
    (fl i=false/\sRun P ops D o a w fun a' w'=>anyT P md ops fl D n L f (listed.setIfInBounds i true) a' w'))
theorem float_firstT {i:Nat} {oi:Oper} {v:Value} (hi:ops[i]? = some oi) (hf:fl i=true) (hsel:∀ (j:Nat) (o:Oper) cs b,ops[j]? = some o->o.op≠.select cs b)
  (hsT:Region.sinkB md ops nT=true) (hcT:Region.chainB md ops nT=true) (hnT:nT<ops.size) (hinT:i<nT) (hdone:∀ listed a w,LT listed a w->∀ j∈Region.ready md ops listed,nT<=j) :
  ∀ (f:Nat) (listed:Array Bool) (a:Act) (w:World),D w->HeadInv md ops nT listed ->
   (∀ j oj,ops[j]? = some oj->j≠i->listed.getD j true=false->(∀ e∈oj.after,Region.binds md e=true->e.on≠i)->oi.apart ops oj=true) ->
   i∈Region.ready md ops listed->fYld P ops D oi a v->anyT P md ops fl D nT LT f (listed.setIfInBounds i true) (a.put oi.dst v) w->anyT P md ops fl D nT LT (f+1) listed a w:=by
 intro f
 induction f with
 | zero =>
  intro listed a w _ inv _ hr hy H
  refine ⟨fun h=>(by rw [h] at hr; cases hr),fun j hj=>?_⟩
  have hjn:j<nT:=(Nat.lt_or_ge j nT).elim id fun h=>absurd hj (tail_waits hsT hcT hnT inv _ i rfl hinT (mem_ready.1 hr).1 j h)
  refine ⟨hjn,?_⟩
  by_cases hji:j=i
  ·subst hji; exact ⟨oi,hi,.inl ⟨hf,v,hy,H⟩⟩
  ·exact absurd (hdone _ _ _ H j (ready_mono hj hji)) (by omega)
 | succ f ih =>
  intro listed a w hw inv hfree hr hy H
  refine ⟨fun h=>(by rw [h] at hr; cases hr),fun j hj=>?_⟩
  have hjn:j<nT:=(Nat.lt_or_ge j nT).elim id fun h=>absurd hj (tail_waits hsT hcT hnT inv _ i rfl hinT (mem_ready.1 hr).1 j h)
  refine ⟨hjn,?_⟩
  by_cases hji:j=i
  ·subst hji; exact ⟨oi,hi,.inl ⟨hf,v,hy,H⟩⟩
  ·obtain ⟨oj,hoj,h1⟩:=(H.2 j (ready_mono hj hji)).2
   obtain ⟨hjun,oj',hoj',hall⟩:=mem_ready.1 hj
   obtain rfl:oj'=oj:=Option.some.inj (hoj'.symm.trans hoj)
   have hnot:∀ e∈oj'.after,Region.binds md e=true->e.on≠i:=fun e he hb heq=>by
    have:=hall e he hb
    rw [heq,getD_both (mem_ready.1 hr).1] at this
    cases this
   have hap:=hfree j oj' hoj hji hjun hnot
   have hfree':∀ k ok,ops[k]? = some ok->k≠i->(listed.setIfInBounds j true).getD k true=false->(∀ e∈ok.after,Region.binds md e=true->e.on≠i)->oi.apart ops ok=true:=fun k ok hk hki hun hno=>by
    refine hfree k ok hk hki ?_ hno
    by_cases hjk:j=k
    ·subst hjk; exact hjun
    ·rw [getD_set_ne true hjk] at hun; exact hun
   have hr':=ready_mono hr (Ne.symm hji)
   refine ⟨oj',hoj,?_⟩
   rcases h1 with ⟨hfj,u,hyj,hn⟩ | ⟨hfj,hs⟩
   ·refine .inl ⟨hfj,u,(fYld_put hap (fun cs b=>hsel j oj' cs b hoj)).1 hyj,ih _ _ w hw (inv.set hj hjn) hfree' hr' ((fYld_put' hap (fun cs b=>hsel i oi cs b hi)).2 hy) ?_⟩
    rw [Array.setIfInBounds_comm _ _ hji,<-apart_symm_dst hap]
    exact hn
   ·refine .inr ⟨hfj,?_⟩
    have hs':=(sRun_put hap (fun cs b=>hsel j oj' cs b hoj)).1 hs
    have key:∀ a' w',D w'->fYld P ops D oi a' v->anyT P md ops fl D nT LT f ((listed.setIfInBounds i true).setIfInBounds j true) (a'.put oi.dst v) w'->anyT P md ops fl D nT LT (f+1) (listed.setIfInBounds j true) a' w':=fun a' w' hw' hy' h' =>
     ih _ _ w' hw' (inv.set hj hjn) hfree' hr' hy' (by rw [Array.setIfInBounds_comm _ _ hji]; exact h')
    have hput:∀ u,fYld P ops D oi (a.put oj'.dst u) v:=fun u=>(fYld_put' hap (fun cs b=>hsel i oi cs b hi)).2 hy
    unfold sRun at hs' |-
    split
    ·rename_i hwn
     rw [if_pos hwn] at hs'
     generalize (execOp a.eval oj').run P w=r at hs' |-
     cases r with
     | halt=>exact hs'.elim
     | ok x w'=>cases x with
      | value u=>exact ⟨hs'.1,key _ _ hs'.1 (hput u) hs'.2⟩
      | skip=>exact ⟨hs'.1,key _ _ hs'.1 (hput _) hs'.2⟩
      | enter g args=>exact Calls.mono hs' fun e w'' ⟨u,e1,d,k⟩=>⟨u,e1,d,key _ _ d (hput u) k⟩
      | _=>exact hs'.elim
    ·rename_i hwn
     rw [if_neg hwn] at hs'
     exact key _ _ hw (hput _) hs'
end
section
variable {P:Program} {N:Nat} {ops:Array Oper} {fl:Nat->Bool} {D:World->Prop} {Q:Post} {L:jj} {w:World} {k:Nat}
def TailP (P:Program) (ops:Array Oper) (Q:Post) (rest:List Oper):Post:=fun _ a w=>wpList P ops Q rest a w
theorem WK.tail {rest:List Oper} (h:WL P N ops Q rest L w):WK P N ops fl D (TailP P ops Q rest) [] k L w:=fun a w1 e _ ha=>h a w1 e ha
end
end
 
section
open Go Go.RowKit
section
variable {P:Program} {N:Nat} {L:jj} {w:World}
end
end
 
section
open Go Go.RowKit
section
variable {P:Program} {ops:Array Oper} {md:Region.Mode} {fl:Nat->Bool} {D:Nat->World->Prop} {Q:Act->World->Prop}
def DD (md:Region.Mode) (ops:Array Oper) (fl:Nat->Bool) (D:Nat->World->Prop) (j:Nat) (w:World):Prop:=∀ k,fl k=true->reach md ops ops.size j k=false->D k w
def Hold (fl:Nat->Bool) (D:Nat->World->Prop) (listed:Array Bool) (w:World):Prop:=∀ k,fl k=true->listed.getD k true=false->D k w
theorem Hold.set {listed:Array Bool} {w:World} (h:Hold fl D listed w) (j:Nat):Hold fl D (listed.setIfInBounds j true) w:=fun k hk hl=>h k hk (by
 by_cases hjk:j=k
 ·subst hjk
  rcases Nat.lt_or_ge j listed.size with h' | h'
  ·simp [h'] at hl
  ·simp at hl
 ·rw [getD_set_ne true hjk] at hl; exact hl)
theorem DD.hold {listed:Array Bool} {w:World} {j:Nat} (h:DD md ops fl D j w) (hcl:Closed md ops listed) (hj:j∈Region.ready md ops listed):Hold fl D (listed.setIfInBounds j true) w:=fun k hk hl=>by
 obtain ⟨hjun,oj,hoj,hall⟩:=mem_ready.1 hj
 have hku:listed.getD k true=false:=by
  by_cases hjk:j=k
  ·subst hjk
   rcases Nat.lt_or_ge j listed.size with h' | h'
   ·simp [h'] at hl
   ·simp at hl
  ·rw [getD_set_ne true hjk] at hl; exact hl
 refine h k hk ?_
 cases hq:reach md ops ops.size j k with
 | false=>rfl
 | true=>exact absurd hall (kl hcl (getD_both hku) ops.size j hq oj hoj)
theorem sRun_some2 {E:World->Prop} {o:Oper} {a:Act} {w:World} {K:Act->World->Prop} (hh:sRun P ops E o a w K):∃ u w',(E w'∨w'=w)/\K (a.put o.dst u) w':=by
 unfold sRun at hh
 split at hh
 ·generalize (execOp a.eval o).run P w=r at hh
  cases r with
  | halt=>exact hh.elim
  | ok x w'=>cases x with
   | value v=>exact ⟨v,w',.inl hh.1,hh.2⟩
   | skip=>exact ⟨undef,w',.inl hh.1,hh.2⟩
   | enter f args =>
    obtain ⟨e,w2,fr,⟨v,_,d,k⟩,_⟩:=hh []
    exact ⟨v,w2,.inl d,k⟩
   | _=>exact hh.elim
 ·exact ⟨undef,w,.inr rfl,hh⟩
theorem sRun_mono2 {E:World->Prop} {o:Oper} {a:Act} {w:World} {K K':Act->World->Prop} (h:∀ a w,E w->K a w->K' a w) (h2:∀ a,K a w->K' a w) (hh:sRun P ops E o a w K):sRun P ops E o a w K':=by
 unfold sRun at hh |-
 split
 ·rename_i hw'
  rw [if_pos hw'] at hh
  generalize (execOp a.eval o).run P w=r at hh |-
  cases r with
  | halt=>exact hh.elim
  | ok x w'=>cases x with
   | value v=>exact ⟨hh.1,h _ _ hh.1 hh.2⟩
   | skip=>exact ⟨hh.1,h _ _ hh.1 hh.2⟩
   | enter f args=>exact Calls.mono hh fun e w'' ⟨v,e1,d,k⟩=>⟨v,e1,d,h _ _ d k⟩
   | _=>exact hh.elim
 ·rename_i hw'
  rw [if_neg hw'] at hh
  exact h2 _ hh
def anyJ (P:Program) (md:Region.Mode) (ops:Array Oper) (fl:Nat->Bool) (D:Nat->World->Prop) (Q:Act->World->Prop):Nat->Array Bool->Act->World->Prop
 | 0,listed,a,w=>Region.ready md ops listed=[]/\Q a w
 | f+1,listed,a,w=>(Region.ready md ops listed=[]->Q a w)/\∀ i∈Region.ready md ops listed,∃ o,ops[i]? = some o /\
   ((fl i=true/\∃ v,fYld P ops (D i) o a v/\anyJ P md ops fl D Q f (listed.setIfInBounds i true) (a.put o.dst v) w) ∨
    (fl i=false/\sRun P ops (DD md ops fl D i) o a w fun a' w'=>anyJ P md ops fl D Q f (listed.setIfInBounds i true) a' w'))
theorem any_of_anyJ {Q':Post} (hQ:∀ a w,Q a w->Q' .normal a w):∀ (f:Nat) (listed:Array Bool) (a:Act) (w:World),Hold fl D listed w->Closed md ops listed->anyJ P md ops fl D Q f listed a w->wpAny P md ops Q' f listed a w:=by
 intro f
 induction f with
 | zero=>intro listed a w _ _ h; exact ⟨h.1,hQ _ _ h.2⟩
 | succ f ih =>
  intro listed a w hw hcl h
  refine ⟨fun h0=>hQ _ _ (h.1 h0),fun i hi=>?_⟩
  obtain ⟨o,ho,h1⟩:=h.2 i hi
  rcases h1 with ⟨hf,v,hy,hn⟩ | ⟨_,hs⟩
  ·unfold wpOp
   simp only [ho]
   rcases hy with ⟨hwn,hv⟩ | ⟨hwn,hv⟩
   ·rw [if_pos hwn]
    refine .inl ?_
    unfold Oper.wp
    rw [hv w (hw i hf (mem_ready.1 hi).1)]
    exact ih _ _ _ (hw.set i) (hcl.set hi) hn
   ·rw [if_neg (by simp [hwn])]
    subst hv
    exact ih _ _ _ (hw.set i) (hcl.set hi) hn
  ·exact wp_of_sRun (D:=DD md ops fl D i) ho (sRun_mono2 (fun a' w' hw' h'=>ih _ _ _ (hw'.hold hcl hi) (hcl.set hi) h') (fun a' h'=>ih _ _ _ (hw.set i) (hcl.set hi) h') hs)
theorem float_firstJ {i:Nat} {oi:Oper} {v:Value} (hi:ops[i]? = some oi) (hf:fl i=true) (hsel:∀ (j:Nat) (o:Oper) cs b,ops[j]? = some o->o.op≠.select cs b) :
  ∀ (f:Nat) (listed:Array Bool) (a:Act) (w:World),Hold fl D listed w->Closed md ops listed ->
   (∀ j oj,ops[j]? = some oj->j≠i->listed.getD j true=false->(∀ e∈oj.after,Region.binds md e=true->e.on≠i)->oi.apart ops oj=true) ->
   i∈Region.ready md ops listed->fYld P ops (D i) oi a v->anyJ P md ops fl D Q f (listed.setIfInBounds i true) (a.put oi.dst v) w->anyJ P md ops fl D Q (f+1) listed a w:=by
 intro f
 induction f with
 | zero =>
  intro listed a w _ _ _ hr hy H
  refine ⟨fun h=>(by rw [h] at hr; cases hr),fun j hj=>?_⟩
  by_cases hji:j=i
  ·subst hji; exact ⟨oi,hi,.inl ⟨hf,v,hy,H⟩⟩
  ·have:=ready_mono hj hji
   rw [H.1] at this
   cases this
 | succ f ih =>
  intro listed a w hw hcl hfree hr hy H
  refine ⟨fun h=>(by rw [h] at hr; cases hr),fun j hj=>?_⟩
  by_cases hji:j=i
  ·subst hji; exact ⟨oi,hi,.inl ⟨hf,v,hy,H⟩⟩
  ·obtain ⟨oj,hoj,h1⟩:=H.2 j (ready_mono hj hji)
   obtain ⟨hjun,oj',hoj',hall⟩:=mem_ready.1 hj
   obtain rfl:oj'=oj:=Option.some.inj (hoj'.symm.trans hoj)
   have hnot:∀ e∈oj'.after,Region.binds md e=true->e.on≠i:=fun e he hb heq=>by
    have:=hall e he hb
    rw [heq,getD_both (mem_ready.1 hr).1] at this
    cases this
   have hap:=hfree j oj' hoj hji hjun hnot
   have hfree':∀ k ok,ops[k]? = some ok->k≠i->(listed.setIfInBounds j true).getD k true=false->(∀ e∈ok.after,Region.binds md e=true->e.on≠i)->oi.apart ops ok=true:=fun k ok hk hki hun hno=>by
    refine hfree k ok hk hki ?_ hno
    by_cases hjk:j=k
    ·subst hjk; exact hjun
    ·rw [getD_set_ne true hjk] at hun; exact hun
   have hr':=ready_mono hr (Ne.symm hji)
   refine ⟨oj',hoj,?_⟩
   rcases h1 with ⟨hfj,u,hyj,hn⟩ | ⟨hfj,hs⟩
   ·refine .inl ⟨hfj,u,(fYld_put hap (fun cs b=>hsel j oj' cs b hoj)).1 hyj,ih _ _ w (hw.set j) (hcl.set hj) hfree' hr' ((fYld_put' hap (fun cs b=>hsel i oi cs b hi)).2 hy) ?_⟩
    rw [Array.setIfInBounds_comm _ _ hji,<-apart_symm_dst hap]
    exact hn
   ·refine .inr ⟨hfj,?_⟩
    have hs':=(sRun_put hap (fun cs b=>hsel j oj' cs b hoj)).1 hs
    have key:∀ a' w',Hold fl D (listed.setIfInBounds j true) w'->fYld P ops (D i) oi a' v->anyJ P md ops fl D Q f ((listed.setIfInBounds i true).setIfInBounds j true) (a'.put oi.dst v) w'->anyJ P md ops fl D Q (f+1) (listed.setIfInBounds j true) a' w':=fun a' w' hw' hy' h' =>
     ih _ _ w' hw' (hcl.set hj) hfree' hr' hy' (by rw [Array.setIfInBounds_comm _ _ hji]; exact h')
    have hput:∀ u,fYld P ops (D i) oi (a.put oj'.dst u) v:=fun u=>(fYld_put' hap (fun cs b=>hsel i oi cs b hi)).2 hy
    unfold sRun at hs' |-
    split
    ·rename_i hwn
     rw [if_pos hwn] at hs'
     generalize (execOp a.eval oj').run P w=r at hs' |-
     cases r with
     | halt=>exact hs'.elim
     | ok x w'=>cases x with
      | value u=>exact ⟨hs'.1,key _ _ (hs'.1.hold hcl hj) (hput u) hs'.2⟩
      | skip=>exact ⟨hs'.1,key _ _ (hs'.1.hold hcl hj) (hput _) hs'.2⟩
      | enter g args=>exact Calls.mono hs' fun e w'' ⟨u,e1,d,k⟩=>⟨u,e1,d,key _ _ (d.hold hcl hj) (hput u) k⟩
      | _=>exact hs'.elim
    ·rename_i hwn
     rw [if_neg hwn] at hs'
     exact key _ _ (hw.set j) (hput _) hs'
theorem seq_firstJ {i:Nat} {oi:Oper} (hi:ops[i]? = some oi) (hf:fl i=false) (hsel:∀ (j:Nat) (o:Oper) cs b,ops[j]? = some o->o.op≠.select cs b) :
  ∀ (f:Nat) (listed:Array Bool) (a:Act) (w:World),Hold fl D listed w->Closed md ops listed ->
   (∀ j oj,ops[j]? = some oj->j≠i->listed.getD j true=false->(∀ e∈oj.after,Region.binds md e=true->e.on≠i)->oi.apart ops oj=true) ->
   (∀ j oj,ops[j]? = some oj->j≠i->listed.getD j true=false->fl j=true∨reach md ops ops.size j i=true) ->
   i∈Region.ready md ops listed->sRun P ops (DD md ops fl D i) oi a w (fun a' w'=>anyJ P md ops fl D Q f (listed.setIfInBounds i true) a' w')->anyJ P md ops fl D Q (f+1) listed a w:=by
 intro f
 induction f with
 | zero =>
  intro listed a w hw _ _ _ hr H
  refine ⟨fun h=>(by rw [h] at hr; cases hr),fun j hj=>?_⟩
  by_cases hji:j=i
  ·subst hji; exact ⟨oi,hi,.inr ⟨hf,H⟩⟩
  ·obtain ⟨u,w',_,h⟩:=sRun_some2 H
   have:=ready_mono hj hji
   rw [h.1] at this
   cases this
 | succ f ih =>
  intro listed a w hw hcl hfree hseq hr H
  refine ⟨fun h=>(by rw [h] at hr; cases hr),fun j hj=>?_⟩
  by_cases hji:j=i
  ·subst hji; exact ⟨oi,hi,.inr ⟨hf,H⟩⟩
  ·obtain ⟨hjun,oj,hoj,hall⟩:=mem_ready.1 hj
   have hiun:=getD_both (mem_ready.1 hr).1
   have hfj:fl j=true:=by
    rcases hseq j oj hoj hji hjun with h | h
    ·exact h
    ·exact absurd hall (kl hcl hiun ops.size j h oj hoj)
   have hnot:∀ e∈oj.after,Region.binds md e=true->e.on≠i:=fun e he hb heq=>by
    have:=hall e he hb
    rw [heq,hiun] at this
    cases this
   have hap:=hfree j oj hoj hji hjun hnot
   have hsi:=fun cs b=>hsel i oi cs b hi
   have hsj:=fun cs b=>hsel j oj cs b hoj
   obtain ⟨u,w',hw',h⟩:=sRun_some2 H
   obtain ⟨oj2,hoj2,h2⟩:=h.2 j (ready_mono hj hji)
   obtain rfl:oj2=oj:=Option.some.inj (hoj2.symm.trans hoj)
   rcases h2 with ⟨_,v,hy,_⟩ | ⟨hno,_⟩
   ·have hya:fYld P ops (D j) oj2 a v:=(fYld_put hap hsj).1 hy
    refine ⟨oj2,hoj,.inl ⟨hfj,v,hya,ih _ _ w (hw.set j) (hcl.set hj) (fun k ok hk hki hun hno=>hfree k ok hk hki ?_ hno) (fun k ok hk hki hun=>hseq k ok hk hki ?_) (ready_mono hr (Ne.symm hji)) ?_⟩⟩
    ·by_cases hjk:j=k
     ·subst hjk; exact hjun
     ·rw [getD_set_ne true hjk] at hun; exact hun
    ·by_cases hjk:j=k
     ·subst hjk; exact hjun
     ·rw [getD_set_ne true hjk] at hun; exact hun
    ·
     obtain ⟨g1,g2,g3⟩:=Oper.apart_spec hap
     have hc:∀ u,(a.put oi.dst u).put oj2.dst v=(a.put oj2.dst v).put oi.dst u:=fun u=>Act.put_comm a u v g2
     have huniq:∀ u2,fYld P ops (D j) oj2 (a.put oi.dst u2) v:=fun u2=>(fYld_put hap hsj).2 hya
     have hnr:reach md ops ops.size i j=false:=by
      cases hq:reach md ops ops.size i j with
      | false=>rfl
      | true=>exact absurd (mem_ready.1 hr).2 (fun ⟨oi',hoi',hall'⟩=>kl hcl (getD_both hjun) ops.size i hq oi' hoi' hall')
     have key:∀ u2 w2,D j w2->anyJ P md ops fl D Q (f+1) (listed.setIfInBounds i true) (a.put oi.dst u2) w2->anyJ P md ops fl D Q f ((listed.setIfInBounds j true).setIfInBounds i true) ((a.put oj2.dst v).put oi.dst u2) w2:=fun u2 w2 hw2 hh=>by
      obtain ⟨oj3,hoj3,h3⟩:=hh.2 j (ready_mono hj hji)
      obtain rfl:oj3=oj2:=Option.some.inj (hoj3.symm.trans hoj)
      rcases h3 with ⟨_,v2,hy2,hn2⟩ | ⟨hno,_⟩
      ·have hv:v2=v:=by
        have hu:=huniq u2
        rcases hy2 with ⟨p1,p2⟩ | ⟨p1,p2⟩ <;> rcases hu with ⟨q1,q2⟩ | ⟨q1,q2⟩
        ·have:=(p2 w2 hw2).symm.trans (q2 w2 hw2)
         simpa using this
        ·rw [p1] at q1; cases q1
        ·rw [p1] at q1; cases q1
        ·rw [p2,q2]
       subst hv
       rw [Array.setIfInBounds_comm _ _ hji,<-hc]
       exact hn2
      ·rw [hfj] at hno; cases hno
     unfold sRun at H |-
     rw [execOp_put oi hsi a oj2.dst v g3,wanted_put oi a oj2.dst v g3]
     split
     ·rename_i hwn
      rw [if_pos hwn] at H
      generalize (execOp a.eval oi).run P w=r at H |-
      cases r with
      | halt=>exact H.elim
      | ok x w'=>cases x with
       | value u=>exact ⟨H.1,key _ _ (H.1 j hfj hnr) H.2⟩
       | skip=>exact ⟨H.1,key _ _ (H.1 j hfj hnr) H.2⟩
       | enter g args=>exact Calls.mono H fun e w'' ⟨u,e1,d,k⟩=>⟨u,e1,d,key _ _ (d j hfj hnr) k⟩
       | _=>exact H.elim
     ·rename_i hwn
      rw [if_neg hwn] at H
      exact key _ _ (hw j hfj hjun) H
   ·rw [hfj] at hno; cases hno
def wpJ (P:Program) (md:Region.Mode) (ops:Array Oper) (fl:Nat->Bool) (D:Nat->World->Prop) (Q:Act->World->Prop):List Oper->Nat->Act->World->Prop
 | [],_,a,w=>Q a w
 | o :: rest,k,a,w=>bif fl k then ∃ v,fYld P ops (D k) o a v/\wpJ P md ops fl D Q rest (k+1) (a.put o.dst v) w else sRun P ops (DD md ops fl D k) o a w fun a' w'=>wpJ P md ops fl D Q rest (k+1) a' w'
theorem anyJ_lex (hsel:Region.noSelect ops=true):∀ (l:List Oper) (k:Nat) (listed:Array Bool) (a:Act) (w:World),Hold fl D listed w->(∀ j,l[j]? = ops[k+j]?)->Closed md ops listed ->
  Region.lexC md ops fl l.length k listed=true->wpJ P md ops fl D Q l k a w->anyJ P md ops fl D Q l.length listed a w:=by
 intro l
 induction l with
 | nil =>
  intro k listed a w _ _ _ hB h
  exact ⟨by simpa [Region.lexC] using hB,h⟩
 | cons o l ih =>
  intro k listed a w hw hl hcl hB h
  have h0:ops[k]? = some o:=by simpa using (hl 0).symm
  have hl':∀ j,l[j]? = ops[(k+1)+j]? := fun j=>by have:=hl (j+1); simpa [Nat.add_assoc,Nat.add_comm 1 j] using this
  simp only [List.length_cons,Region.lexC,Bool.and_eq_true] at hB
  obtain ⟨⟨⟨hr,hf⟩,hs⟩,hB'⟩:=hB
  have hr':k∈Region.ready md ops listed:=by simpa using hr
  unfold wpJ at h
  cases hfl:fl k with
  | true =>
   rw [hfl] at h
   obtain ⟨v,hy,hn⟩:=h
   exact float_firstJ h0 hfl (Region.noSelect_spec hsel) l.length listed a w hw hcl (Region.free_spec h0 hf) hr' hy (ih (k+1) _ _ w (hw.set k) hl' (hcl.set hr') hB' hn)
  | false =>
   rw [hfl] at h
   refine seq_firstJ h0 hfl (Region.noSelect_spec hsel) l.length listed a w hw hcl (Region.free_spec h0 hf) (fun j oj hj hji hun=>?_) hr' (sRun_mono2 (fun a' w' hw' h'=>ih (k+1) _ a' w' (hw'.hold hcl hr') hl' (hcl.set hr') hB' h') (fun a' h'=>ih (k+1) _ a' w (hw.set k) hl' (hcl.set hr') hB' h') h)
   rw [hfl] at hs
   simp only [Bool.false_or] at hs
   have hjl:j<ops.size:=(Array.getElem?_eq_some_iff.1 hj).1
   have:=List.all_eq_true.1 hs j (List.mem_range.2 hjl)
   simp only [Bool.or_eq_true] at this
   rcases this with ((h1 | h1) | h1) | h1
   ·exact absurd (Nat.eq_of_beq_eq_true h1) hji
   ·rw [hun] at h1; cases h1
   ·exact .inl h1
   ·exact .inr h1
theorem wp_region_chainJ {id:Nat} {Q':Post} {a:Act} {w:World} {l:List Oper} (fl:Nat->Bool) (D:Nat->World->Prop) (hm:P.follows .mixedOrders=true) (hB:Region.chainOk .any l.toArray fl=true) (hD:∀ k,fl k=true->D k { w with drawn:=w.drawn+1 })
  (h:wpJ P .any l.toArray fl D (fun a' w'=>Q' .normal a' w') l 0 a { w with drawn:=w.drawn+1 }):(Code.region id l.toArray true).wp P Q' a w:=by
 simp only [Region.chainOk,Bool.and_eq_true] at hB
 refine wp_region_any hm ?_
 have hcl:Closed .any l.toArray (Array.replicate l.toArray.size false):=fun j oj _ hl=>(by rw [getD_replicate_false] at hl; cases hl)
 have hh:Hold fl D (Array.replicate l.toArray.size false) { w with drawn:=w.drawn+1 }:=fun k hk _=>hD k hk
 have:=anyJ_lex (md:=.any) (D:=D) hB.1 l 0 (Array.replicate l.toArray.size false) a _ hh (by simp) hcl (by simpa using hB.2) h
 have h2:=any_of_anyJ (Q':=Q') (fun _ _ hq=>hq) _ _ _ _ hh hcl this
 simpa using h2
end
def WJ (P:Program) (N:Nat) (ops:Array Oper) (fl:Nat->Bool) (D:Nat->World->Prop) (Q:Post) (l:List Oper) (k:Nat) (L:jj) (w:World):Prop :=
 ∀ a w1,Eqv w w1->Has N L a->wpJ P .any ops fl D (fun a' w'=>Q .normal a' w') l k a w1
section
variable {P:Program} {N:Nat} {ops:Array Oper} {fl:Nat->Bool} {D:Nat->World->Prop} {Q:Post} {L:jj} {w:World} {k d:Nat} {op:Op} {ty:TypeId} {pos:String} {af:Array Edge} {rest:List Oper} {gd:Option (Nat × Bool)}
theorem WC.chainJ {i:Nat} {l:List Oper} (fl:Nat->Bool) (D:Nat->World->Prop) (hm:P.follows .mixedOrders=true) (hB:Region.chainOk .any l.toArray fl=true) (hE:∀ k w',Eqv w w'->D k w') (h:WJ P N l.toArray fl D Q l 0 L w):WC P N Q (.region i l.toArray true) L w:=fun a _ e ha =>
 wp_region_chainJ fl D hm hB (fun k _=>hE k _ (e.drawn _)) (h a _ (e.drawn _) ha)
theorem z8 (h:WX N Q .normal L w):WJ P N ops fl D Q [] k L w:=fun a w1 e ha=>h a w1 e ha
theorem zY {v:Value} (hf:fl k=true) (hg:Wants N ops L gd) (hd:Nat.blt d N=true) (hy:∀ w',D k w'->Yld P N w' ⟨some d,op,ty,pos,af,none⟩ L v) (h:WJ P N ops fl D Q rest (k+1) ((d,v) :: L) w) :
  WJ P N ops fl D Q (⟨some d,op,ty,pos,af,gd⟩ :: rest) k L w:=fun a w1 e ha=>by
 unfold wpJ
 rw [hf]
 exact ⟨v,.inl ⟨Wants.wanted (o:=⟨some d,op,ty,pos,af,gd⟩) hg ha,fun w' hw'=>hy w' hw' a w' (Eqv.refl _) ha⟩,h _ _ e (ha.put hd v)⟩
theorem zl {v:Value} (hf:fl k=true) (hd:Nat.blt d N=true) (hy:∀ w',D k w'->Yld P N w' ⟨some d,op,ty,pos,af,none⟩ L v) (h:WJ P N ops fl D Q rest (k+1) ((d,v) :: L) w) :
  WJ P N ops fl D Q (⟨some d,op,ty,pos,af,none⟩ :: rest) k L w:=zY hf je hd hy h
theorem qr {R:Value->World->Prop} (hf:fl k=false) (hg:Wants N ops L gd) (hd:Nat.blt d N=true) (hr:Eff P N w ⟨some d,op,ty,pos,af,none⟩ L R) (hD:∀ v w',R v w'->DD .any ops fl D k w')
  (hk:∀ v w',R v w'->WJ P N ops fl D Q rest (k+1) ((d,v) :: L) w'):WJ P N ops fl D Q (⟨some d,op,ty,pos,af,gd⟩ :: rest) k L w:=fun a w1 e ha=>by
 unfold wpJ
 rw [hf]
 show sRun _ _ _ _ _ _ _
 unfold sRun
 rw [if_pos (Wants.wanted (o:=⟨some d,op,ty,pos,af,gd⟩) hg ha)]
 obtain ⟨v,w',h,hR⟩:=hr a w1 e ha
 have h':(execOp a.eval ⟨some d,op,ty,pos,af,gd⟩).run P w1=.ok (.value v) w':=h
 rw [h']
 exact ⟨hD v w' hR,hk v w' hR _ w' (Eqv.refl _) (ha.put hd v)⟩
theorem WJ.call {R:Value->World->Prop} {g:FuncId} {as_:List Operand} {ts:Array TypeId} {vs:List Value} (hf:fl k=false) (hg:Wants N ops L gd) (hd:Nat.blt d N=true) (hv:opvs L as_=some vs) (hc:Fn P g ⟨vs⟩ w R) (hD:∀ v w',R v w'->∀ w2,Eqv w' w2->DD .any ops fl D k w2)
  (hk:∀ v w',R v w'->WJ P N ops fl D Q rest (k+1) ((d,v) :: L) w'):WJ P N ops fl D Q (⟨some d,.call ⟨.value (.func g),⟨as_⟩,ts⟩,ty,pos,af,gd⟩ :: rest) k L w:=fun a w1 e ha=>by
 unfold wpJ
 rw [hf]
 show sRun _ _ _ _ _ _ _
 unfold sRun
 rw [if_pos (Wants.wanted (o:=⟨some d,.call ⟨.value (.func g),⟨as_⟩,ts⟩,ty,pos,af,gd⟩) hg ha),run_enter ha hv hc.1]
 refine (hc.2 w1 e).mono ?_
 rintro en w' ⟨v,w0,rfl,h0,hR⟩
 exact ⟨v,rfl,hD v w0 hR w' h0,hk v w0 hR _ w' h0 (ha.put hd v)⟩
theorem zX {j d':Nat} {t:Bool} (hj:(ops[j]?).bind (·.dst)=some d') (hN:Nat.blt d' N=true) (hb:lk L d'=some (.bool (!t))) (hd:Nat.blt d N=true) (h:WJ P N ops fl D Q rest (k+1) ((d,undef) :: L) w) :
  WJ P N ops fl D Q (⟨some d,op,ty,pos,af,some (j,t)⟩ :: rest) k L w:=fun a w1 e ha=>by
 have hno:Region.wanted ⟨some d,op,ty,pos,af,some (j,t)⟩ (yielded ops a.tmps)=false:=by
  have:=yielded_of ha hj hN hb
  simp [Region.wanted,this]
 unfold wpJ
 cases hf:fl k with
 | true=>exact ⟨undef,.inr ⟨hno,rfl⟩,h _ _ e (ha.put hd undef)⟩
 | false =>
  show sRun _ _ _ _ _ _ _
  unfold sRun
  rw [if_neg (by rw [hno]; simp)]
  exact h _ _ e (ha.put hd undef)
theorem qh {R:World->Prop} (hf:fl k=false) (hr:Ef0 P N w ⟨none,op,ty,pos,af,none⟩ L R) (hD:∀ w',R w'->DD .any ops fl D k w') (hk:∀ w',R w'->WJ P N ops fl D Q rest (k+1) L w') :
  WJ P N ops fl D Q (⟨none,op,ty,pos,af,none⟩ :: rest) k L w:=fun a w1 e ha=>by
 unfold wpJ
 rw [hf]
 show sRun _ _ _ _ _ _ _
 unfold sRun
 rw [if_pos (by simp [Region.wanted])]
 obtain ⟨w',h,hR⟩:=hr a w1 e ha
 rw [h]
 exact ⟨hD w' hR,hk w' hR _ w' (Eqv.refl _) ha⟩
def LD (lo:List Nat) (I:World->Prop) (k:Nat) (w:World):Prop:=lo.contains k=true->I w
theorem qf {lo:List Nat} {I:World->Prop} {w':World} (h:lo.all (fun k=>reach .any ops ops.size d k)=true):DD .any ops fl (LD lo I) d w':=fun k _ hr hk=>by
 have:=List.all_eq_true.1 h k (by simpa using hk)
 rw [hr] at this
 cases this
theorem DD.keep {lo:List Nat} {I:World->Prop} {w':World} (h:I w'):DD .any ops fl (LD lo I) d w':=fun _ _ _ _=>h
end
end
 
section
open Go Go.RowKit
section
variable {P:Program} {T:Tab} {N:Nat} {L:jj} {w w0:World} {ty:TypeId} {pos:String} {af:Array Edge} {t:TypeId} {x i:Operand} {k:IntKind} {q:Int} {α:Type} {f:α->Value} {A:Option Addr} {c n:Nat} {xs:List α}
theorem zK {dd:Option Tmp} {e:TypeId} (hT:T.Ok P) (hR:Rd f w0 A c xs) (hs:nk T.sl t=some (e,1)) (hx:opv L x=some (.slice A n c)) (hn:n=xs.length) (hi:opv L i=some (.int k q)) (h0:0<=q) (h1:q<n) :
  Yld P N w ⟨dd,.indexAddr t x i,ty,pos,af,none⟩ L (.pointer (A.map (·.add q.toNat))):=fun a w1 _ ha=>by
 obtain ⟨hu,j,hj,hj1⟩:=hT.sl hs
 obtain ⟨ad,rfl,_⟩:=hR.cells (fun e=>by rw [e] at hn; simp at hn; omega)
 unfold execOp
 simp [ha.ev hx,ha.ev hi,Instr.indexAt,run_underlying hu,asIntOf,h0,h1,sizeOf,typeInfo,hj,hj1]
variable {y:Operand} {us:List Value} {e:TypeId} {B:Nat}
theorem qc {g o:Nat} {u:Value} (h1:sz1 P t=true) (hx:opv L x=some (.pointer (some ⟨g,o,none⟩))) (hy:opv L y=some u) (hu:u.oneCell'=true) (hB:Bl w g e us) (ho:o<us.length) :
  Ef0 P N w ⟨none,.store t x y,ty,pos,af,none⟩ L (fun w'=>Bl w' g e (us.set o u)/\w.grownBy w' (some g)):=fun a w1 hw ha=>by
 have hB1:=ji hw hB
 unfold sz1 at h1
 split at h1
 ·rename_i j hj
  refine ⟨_,?_,bl_set (o:=o) (u:=u) hB1,kh hw (gr_set w1 ⟨g,o,none⟩ u)⟩
  unfold execOp
  simp only [ha.ev hx,ha.ev hy,Sem.run_bind,run_store1 hB1 ho hu hj (Nat.eq_of_beq_eq_true h1),Result.andThen_ok,Sem.run_pure]
 ·cases h1
theorem Ef0.ostore {j:Nat} {v:α} (h1:sz1 P t=true) (hf:One f) (hO:Own f w B e A c xs) (hx:opv L x=some (.pointer (A.map (·.add j)))) (hy:opv L y=some (f v)) (hj:j<xs.length) :
  Ef0 P N w ⟨none,.store t x y,ty,pos,af,none⟩ L (fun w'=>Own f w' B e A c (xs.set j v)/\w.grownBy w' (blk A)):=fun a w1 hw ha=>by
 unfold Own at hO
 rcases hO.2 with ⟨hv,hn⟩ | ⟨g,cap,cur,hv,hb,hg,hnc,hcm,hcs,htake⟩
 ·omega
 ·simp only [Value.slice.injEq] at hv
  obtain ⟨rfl,_,rfl⟩:=hv
  obtain ⟨w',hr,hB',hgr⟩:=qc (P:=P) (N:=N) (ty:=ty) (pos:=pos) (af:=af) (g:=g) (o:=j) (e:=e) (us:=cur.toList) (u:=f v) h1 (by rw [hx]; simp [Addr.add_mid]) hy (hf v) (by unfold Bl; exact hg) (by have:cur.size=c*1:=hcs; rw [Array.length_toList]; omega) a w1 hw ha
  refine ⟨w',hr,?_,hgr⟩
  unfold Own
  refine ⟨by simp,.inr ⟨g,c,_,by simp,hb,hB',by simpa using hnc,hcm,by simpa using hcs,?_⟩⟩
  simp only [List.length_set,List.map_set]
  rw [List.take_set,<-htake]
end
section
variable {P:Program} {N:Nat} {ops:Array Oper} {Q:Post} {L:jj} {w:World} {ty:TypeId} {pos:String} {af:Array Edge} {rest:List Oper} {op:Op} {j d' d k:Nat} {t:Bool}
theorem not_wanted_undef {o:Oper} {a:Act} (hg:o.guard=some (j,t)) (hj:(ops[j]?).bind (·.dst)=some d') (hN:Nat.blt d' N=true) (hb:lk L d'=some undef) (ha:Has N L a):Region.wanted o (yielded ops a.tmps)=false:=by
 have h1:d'<a.tmps.size:=by rw [ha.size]; simpa [Nat.blt_eq] using hN
 have h2:=ha.get d' _ hb
 have h3:a.tmps[d']=undef:=by rw [<-h2]; simp [Array.getD,h1]
 have h4:yielded ops a.tmps j=none:=by
  unfold yielded
  rw [hj]
  simp only [Option.bind_some,Array.getElem?_eq_getElem h1,h3]
  rfl
 simp [Region.wanted,hg,h4]
theorem qo (hj:(ops[j]?).bind (·.dst)=some d') (hN:Nat.blt d' N=true) (hb:lk L d'=some undef) (hd:Nat.blt d N=true) (h:WL P N ops Q rest ((d,undef) :: L) w) :
  WL P N ops Q (⟨some d,op,ty,pos,af,some (j,t)⟩ :: rest) L w:=fun a w1 e ha=>by
 refine wpList_step fun K hK=>?_
 rw [if_neg (by rw [not_wanted_undef (o:=⟨some d,op,ty,pos,af,some (j,t)⟩) rfl hj hN hb ha]; simp)]
 exact hK _ _ (h _ _ e (ha.put hd undef))
theorem WQ.gun {K:Act->Prop} (hj:(ops[j]?).bind (·.dst)=some d') (hN:Nat.blt d' N=true) (hb:lk L d'=some undef) (hd:Nat.blt d N=true) (h:WQ P N ops K rest ((d,undef) :: L) w) :
  WQ P N ops K (⟨some d,op,ty,pos,af,some (j,t)⟩ :: rest) L w:=fun a ha=>by
 refine wpQuiet_step fun K' hK=>?_
 rw [if_neg (by rw [not_wanted_undef (o:=⟨some d,op,ty,pos,af,some (j,t)⟩) rfl hj hN hb ha]; simp)]
 exact hK _ (h _ (ha.put hd undef))
theorem WJ.gun {fl:Nat->Bool} {D:Nat->World->Prop} (hj:(ops[j]?).bind (·.dst)=some d') (hN:Nat.blt d' N=true) (hb:lk L d'=some undef) (hd:Nat.blt d N=true) (h:WJ P N ops fl D Q rest (k+1) ((d,undef) :: L) w) :
  WJ P N ops fl D Q (⟨some d,op,ty,pos,af,some (j,t)⟩ :: rest) k L w:=fun a w1 e ha=>by
 have hno:=not_wanted_undef (o:=⟨some d,op,ty,pos,af,some (j,t)⟩) rfl hj hN hb ha
 unfold wpJ
 cases hf:fl k with
 | true=>exact ⟨undef,.inr ⟨hno,rfl⟩,h _ _ e (ha.put hd undef)⟩
 | false =>
  show sRun _ _ _ _ _ _ _
  unfold sRun
  rw [if_neg (by rw [hno]; simp)]
  exact h _ _ e (ha.put hd undef)
end
theorem WL.weaken {P:Program} {N:Nat} {ops:Array Oper} {Q:Post} {L L':jj} {w:World} {l:List Oper} (hs:Sub L L') (h:WL P N ops Q l L' w):WL P N ops Q l L w:=fun a w1 e ha=>h a w1 e (ha.sub hs)
end
 
section
open Go Go.RowKit
theorem reach_mono {md:Region.Mode} {ops:Array Oper}:∀ (f g j k:Nat),f<=g->reach md ops f j k=true->reach md ops g j k=true
 | 0,_,_,_,_,h=>by simp [reach] at h
 | f+1,0,_,_,hg,_=>by omega
 | f+1,g+1,j,k,hg,h=>by
  unfold reach at h |-
  cases ho:ops[j]? with
  | none=>rw [ho] at h; cases h
  | some oj =>
   rw [ho] at h
   simp only at h |-
   obtain ⟨e,he,h2⟩:=Array.any_eq_true'.1 h
   refine Array.any_eq_true'.2 ⟨e,he,?_⟩
   simp only [Bool.and_eq_true,Bool.or_eq_true] at h2 |-
   exact ⟨h2.1,h2.2.imp id (fun h3=>reach_mono f g _ _ (by omega) h3)⟩
def emask (md:Region.Mode) (acc:List Nat):List Edge->Nat
 | []=>0
 | e :: es=>bif Region.binds md e then Nat.lor (Nat.lor (Nat.shiftLeft 1 e.on) (acc.getD e.on 0)) (emask md acc es) else emask md acc es
def maskL (md:Region.Mode):List Oper->List Nat->List Nat
 | [],acc=>acc
 | o :: l,acc=>maskL md l (acc++[emask md acc o.after.toList])
theorem emask_spec {md:Region.Mode} {acc:List Nat}:∀ {es:List Edge} {k:Nat},(emask md acc es).testBit k=true->∃ e∈es,Region.binds md e=true/\(e.on=k∨(acc.getD e.on 0).testBit k=true)
 | [],k,h=>by simp [emask] at h
 | e :: es,k,h=>by
  unfold emask at h
  cases hb:Region.binds md e with
  | false =>
   rw [hb] at h
   obtain ⟨e',he',h'⟩:=emask_spec (by simpa using h)
   exact ⟨e',by simp [he'],h'⟩
  | true =>
   rw [hb] at h
   simp only [cond_true] at h
   have h:((1 <<< e.on ||| acc.getD e.on 0) ||| emask md acc es).testBit k=true:=h
   rw [Nat.testBit_or,Nat.testBit_or,Bool.or_eq_true,Bool.or_eq_true] at h
   rcases h with (h | h) | h
   ·refine ⟨e,by simp,hb,.inl ?_⟩
    rw [Nat.testBit_shiftLeft] at h
    simp only [Bool.and_eq_true,decide_eq_true_eq,ge_iff_le] at h
    have h2:=h.2
    rw [Nat.testBit_one_eq_true_iff_self_eq_zero] at h2
    omega
   ·exact ⟨e,by simp,hb,.inr h⟩
   ·obtain ⟨e',he',h'⟩:=emask_spec h
    exact ⟨e',by simp [he'],h'⟩
def MaskOk (md:Region.Mode) (ops:Array Oper) (acc:List Nat):Prop:=∀ j k,(acc.getD j 0).testBit k=true->reach md ops (j+1) j k=true
def backL (md:Region.Mode):Nat->List Oper->Bool
 | _,[]=>true
 | k,o :: l=>o.after.toList.all (fun e => !Region.binds md e || Nat.blt e.on k) && backL md (k+1) l
theorem maskL_ok {md:Region.Mode} {ops:Array Oper}:∀ (l:List Oper) (acc:List Nat),(∀ j,l[j]? = ops[acc.length+j]?)->backL md acc.length l=true->MaskOk md ops acc->MaskOk md ops (maskL md l acc)/\(maskL md l acc).length=acc.length+l.length
 | [],acc,_,_,h=>⟨h,by simp [maskL]⟩
 | o :: l,acc,hl,hb,h=>by
  have h0:ops[acc.length]? = some o:=by simpa using (hl 0).symm
  simp only [backL,Bool.and_eq_true] at hb
  have ih:=maskL_ok l (acc++[emask md acc o.after.toList]) (fun j=>by
   have:=hl (j+1)
   simp only [List.getElem?_cons_succ,List.length_append,List.length_singleton] at this |-
   rw [this]; congr 1; omega) (by simpa using hb.2) (fun j k hj=>by
   rcases Nat.lt_trichotomy j acc.length with hlt | heq | hgt
   ·rw [List.getD_eq_getElem?_getD,List.getElem?_append_left hlt,<-List.getD_eq_getElem?_getD] at hj
    exact h j k hj
   ·subst heq
    have:(acc++[emask md acc o.after.toList]).getD acc.length 0=emask md acc o.after.toList:=by simp [List.getD]
    rw [this] at hj
    obtain ⟨e,he,hbind,h3⟩:=emask_spec hj
    unfold reach
    rw [h0]
    refine Array.any_eq_true'.2 ⟨e,by simpa using he,?_⟩
    simp only [Bool.and_eq_true,Bool.or_eq_true]
    refine ⟨hbind,h3.imp (fun h=>by rw [h]; exact Nat.beq_refl _) (fun h3=>?_)⟩
    have hlt:e.on<acc.length:=by
     have:=List.all_eq_true.1 hb.1 e he
     simpa [hbind,Nat.blt_eq] using this
    exact reach_mono _ _ _ _ (by omega) (h e.on k h3)
   ·rw [List.getD_eq_getElem?_getD,List.getElem?_eq_none (by simp; omega)] at hj
    simp at hj)
  refine ⟨ih.1,?_⟩
  have h5:=ih.2
  have e5:maskL md (o :: l) acc=maskL md l (acc++[emask md acc o.after.toList]):=rfl
  rw [e5,h5]
  simp only [List.length_append,List.length_cons,List.length_nil]
  omega
def flAll (fl:Nat->Bool) (k:Nat):Nat->List Nat->Bool
 | _,[]=>true
 | j,m :: ms=>(fl j || Nat.testBit m k) && flAll fl k (j+1) ms
theorem flAll_spec {fl:Nat->Bool} {k:Nat}:∀ {ms:List Nat} {j i:Nat},flAll fl k j ms=true->i<ms.length->fl (j+i)=true∨(ms.getD i 0).testBit k=true
 | [],_,_,_,h=>by simp at h
 | m :: ms,j,0,h,_=>by simp only [flAll,Bool.and_eq_true,Bool.or_eq_true] at h; simpa using h.1
 | m :: ms,j,i+1,h,hi=>by
  simp only [flAll,Bool.and_eq_true,Bool.or_eq_true] at h
  have:=flAll_spec h.2 (i:=i) (by simpa using hi)
  rw [show j+(i+1)=j+1+i by omega]
  simpa using this
def lex2 (md:Region.Mode) (ops:Array Oper) (fl:Nat->Bool):Nat->List Oper->List Nat->Bool
 | _,[],[]=>true
 | k,o :: rest,_ :: ms=>rest.all (fun oj=>oj.after.any (fun e=>Region.binds md e && e.on == k) || o.apart ops oj) && ((fl k || flAll fl k (k+1) ms) && lex2 md ops fl (k+1) rest ms)
 | _,_,_=>false
theorem lexC_of {md:Region.Mode} {ops:Array Oper} {fl:Nat->Bool} {M:List Nat} (hM:MaskOk md ops M) (hlen:M.length=ops.size):∀ (l:List Oper) (k:Nat) (listed:Array Bool),listed.size=ops.size->(∀ j,j<ops.size->∀ b,listed.getD j b=decide (j<k))->(∀ j,l[j]? = ops[k+j]?)->k+l.length=ops.size ->
  backL md k l=true->lex2 md ops fl k l (M.drop k)=true->Region.lexC md ops fl l.length k listed=true
 | [],k,listed,hs,hlis,hl,hk,hb,h=>by
  simp only [List.length_nil,Region.lexC,Nat.add_zero] at *
  rw [List.isEmpty_iff,Region.ready,List.filter_eq_nil_iff]
  intro i hi
  rw [List.mem_range] at hi
  simp [hlis i hi true,hk,hi]
 | o :: rest,k,listed,hs,hlis,hl,hk,hb,h=>by
  have h0:ops[k]? = some o:=by simpa using (hl 0).symm
  have hkn:k<ops.size:=by simp at hk; omega
  have hdrop:M.drop k=M.getD k 0 :: M.drop (k+1):=by
   rw [List.drop_eq_getElem_cons (by omega)]
   simp [List.getD,List.getElem?_eq_getElem (by omega:k<M.length)]
  rw [hdrop] at h
  simp only [lex2,Bool.and_eq_true] at h
  obtain ⟨hap,hfl,hrest⟩:=h
  simp only [backL,Bool.and_eq_true] at hb
  simp only [List.length_cons,Region.lexC,Bool.and_eq_true]
  have hrj:∀ j,k<j->∀ oj,ops[j]? = some oj->oj∈rest:=fun j hj oj hoj=>by
   have:=hl (j - k)
   rw [show k+(j - k)=j by omega,hoj,show j - k=(j - k - 1)+1 by omega,List.getElem?_cons_succ] at this
   exact List.mem_of_getElem? this
  refine ⟨⟨⟨?_,?_⟩,?_⟩,?_⟩
  ·rw [List.contains_iff_mem,mem_ready]
   refine ⟨by rw [hlis k hkn]; simp,o,h0,fun e he hbe=>?_⟩
   have:=List.all_eq_true.1 hb.1 e (by simpa using he)
   simp only [hbe,Bool.not_true,Bool.false_or,Nat.blt_eq] at this
   rw [hlis e.on (by omega)]
   simpa using this
  ·simp only [Region.free,h0,List.all_eq_true,List.mem_range]
   intro j hj
   rcases Nat.lt_trichotomy j k with hlt | heq | hgt
   ·rw [hlis j hj]; simp [hlt]
   ·simp [heq]
   ·have hoj:ops[j]? = some ops[j]:=Array.getElem?_eq_getElem hj
    rw [hoj]
    have:=List.all_eq_true.1 hap _ (hrj j hgt _ hoj)
    show (j == k || listed.getD j true || ((ops[j].after.any fun e=>Region.binds md e && e.on == k) || Oper.apart ops o ops[j]))=true
    rw [this]; simp
  ·rcases Bool.or_eq_true _ _ ▸ hfl with h1 | h1
   ·rw [h1]; rfl
   ·rw [Bool.or_eq_true]; right
    rw [List.all_eq_true]
    intro j hj
    rw [List.mem_range] at hj
    rcases Nat.lt_trichotomy j k with hlt | heq | hgt
    ·rw [hlis j hj]; simp [hlt]
    ·simp [heq]
    ·have h3:=flAll_spec h1 (i:=j - (k+1)) (by rw [List.length_drop]; omega)
     rw [show k+1+(j - (k+1))=j by omega] at h3
     rcases h3 with h3 | h3
     ·rw [h3]; simp
     ·have h4:(M.getD j 0).testBit k=true:=by
       rw [List.getD_eq_getElem?_getD,List.getElem?_drop,show k+1+(j - (k+1))=j by omega] at h3
       rwa [List.getD_eq_getElem?_getD]
      rw [reach_mono _ _ _ _ (by omega) (hM j k h4)]; simp
  ·refine lexC_of hM hlen rest (k+1) (listed.setIfInBounds k true) (by simp [hs]) (fun j hj b=>?_) (fun j=>?_) (by simp at hk; omega) hb.2 hrest
   ·rcases Nat.lt_trichotomy j k with hlt | heq | hgt
    ·rw [getD_set_ne b (by omega),hlis j hj]; simp [hlt]; omega
    ·subst heq; simp [Array.getD,hs,hj]
    ·rw [getD_set_ne b (by omega),hlis j hj]
     rw [decide_eq_decide]; omega
   ·have:=hl (j+1)
    simp only [List.getElem?_cons_succ] at this
    rw [this]; congr 1; omega
def chain2 (md:Region.Mode) (l:List Oper) (fl:Nat->Bool):Bool:=Region.noSelect l.toArray && (backL md 0 l && lex2 md l.toArray fl 0 l (maskL md l []))
theorem chain2_ok {md:Region.Mode} {l:List Oper} {fl:Nat->Bool} (h:chain2 md l fl=true):Region.chainOk md l.toArray fl=true:=by
 simp only [chain2,Bool.and_eq_true] at h
 obtain ⟨h1,h2,h3⟩:=h
 obtain ⟨hM,hlen⟩:=maskL_ok (ops:=l.toArray) l [] (fun j=>by simp) h2 (fun j k hj=>by simp at hj)
 unfold Region.chainOk
 rw [h1,Bool.true_and]
 exact lexC_of (l:=l) hM (by simpa using hlen) 0 _ (by simp) (fun j hj b=>by simp at hj; simp [Array.getD,hj]) (fun j=>by simp) (by simp) h2 (by simpa using h3)
section
variable {P:Program} {N:Nat} {Q:Post} {L:jj} {w:World}
theorem zO {i:Nat} {l:List Oper} (fl:Nat->Bool) (D:Nat->World->Prop) (hm:P.follows .mixedOrders=true) (hB:chain2 .any l fl=true) (hE:∀ k w',Eqv w w'->D k w') (h:WJ P N l.toArray fl D Q l 0 L w):WC P N Q (.region i l.toArray true) L w:=WC.chainJ fl D hm (chain2_ok hB) hE h
end
end
 
section
open Go Go.RowKit
def tab:Tab:={ int:=[(2,.i64),(3,.i64),(5,.u8),(6,.u8),(12,.u64),(21,.i32),(115,.u32),(116,.u64),(117,.u64),(175,.i64),(206,.u64),(237,.u8),(238,.u8),(241,.i32),(242,.i32)],str:=[(9,()),(10,()),(11,())],one:=[(1,()),(2,()),(3,()),(4,()),(5,()),(6,()),(9,()),(10,()),(11,()),(12,()),(15,()),(16,()),(17,()),(20,()),(21,()),(22,()),(23,()),(24,()),(25,()),(26,()),(28,()),(31,()),(33,()),(34,()),(35,()),(37,()),(38,()),(40,()),(43,()),(46,()),(47,()),(48,()),(49,()),(50,()),(51,()),(52,()),(54,()),(56,()),(57,()),(58,()),(59,()),(60,()),(61,()),(62,()),(63,()),(64,()),(67,()),(68,()),(69,()),(70,()),(71,()),(74,()),(75,()),(76,()),(78,()),(79,()),(82,()),(83,()),(84,()),(87,()),(91,()),(92,()),(93,()),(99,()),(101,()),(102,()),(105,()),(106,()),(107,()),(108,()),(111,()),(112,()),(113,()),(114,()),(115,()),(116,()),(117,()),(118,()),(119,()),(120,()),(121,()),(122,()),(123,()),(124,()),(125,()),(128,()),(131,()),(132,()),(133,()),(134,()),(135,()),(136,()),(138,()),(140,()),(141,()),(142,()),(143,()),(144,()),(145,()),(146,()),(147,()),(148,()),(149,()),(150,()),(151,()),(152,()),(153,()),(154,()),(155,()),(156,()),(157,()),(158,()),(159,()),(161,()),(165,()),(166,()),(167,()),(168,()),(172,()),(173,()),(174,()),(175,()),(177,()),(178,()),(179,()),(181,()),(182,()),(183,()),(184,()),(185,()),(186,()),(188,()),(189,()),(190,()),(192,()),(193,()),(194,()),(196,()),(199,()),(200,()),(201,()),(202,()),(203,()),(204,()),(205,()),(206,()),(207,()),(208,()),(209,()),(210,()),(211,()),(213,()),(214,()),(215,()),(216,()),(217,()),(218,()),(219,()),(221,()),(222,()),(223,()),(229,()),(230,()),(231,()),(237,()),(238,()),(239,()),(240,()),(241,()),(242,()),(247,())],sl:=[(22,(42,4)),(34,(30,2)),(64,(104,64)),(68,(97,64)),(71,(89,6)),(84,(130,2)),(87,(127,3)),(107,(5,1)),(113,(115,1)),(120,(9,1)),(189,(107,1)),(214,(26,1))],arr:=[(44,(32,5,1)),(45,(32,5,1)),(162,(8,115,1)),(191,(64,115,1)),(224,(256,5,1)),(227,(16,226,2)),(234,(0,16,1))],agg:=[(7,4),(8,4),(13,2),(14,2),(18,1),(19,1),(29,2),(30,2),(41,4),(42,4),(44,32),(45,32),(65,3),(66,3),(72,4),(73,4),(80,4),(81,4),(85,5),(86,5),(88,6),(89,6),(94,3),(95,3),(96,64),(97,64),(103,64),(104,64),(109,5),(110,5),(126,3),(127,3),(129,2),(130,2),(162,8),(163,10),(164,10),(170,2),(171,2),(191,64),(197,2),(198,2),(224,256),(225,2),(226,2),(227,32),(232,4),(233,4),(234,0),(235,0),(236,0),(243,11),(244,11),(245,1),(246,1)],off:=[(7,[0,1,2,3]),(8,[0,1,2,3]),(13,[0,1]),(14,[0,1]),(18,[0]),(19,[0]),(29,[0,1]),(30,[0,1]),(41,[0,1,2,3]),(42,[0,1,2,3]),(65,[0,1,2]),(66,[0,1,2]),(72,[0,1,2,3]),(73,[0,1,2,3]),(80,[0,1,2,3]),(81,[0,1,2,3]),(85,[0,1,2,3,4]),(86,[0,1,2,3,4]),(88,[0,1,2,3,4,5]),(89,[0,1,2,3,4,5]),(94,[0,1,2]),(95,[0,1,2]),(96,[0,32]),(97,[0,32]),(103,[0,32]),(104,[0,32]),(109,[0,1,2,3,4]),(110,[0,1,2,3,4]),(126,[0,1,2]),(127,[0,1,2]),(129,[0,1]),(130,[0,1]),(163,[0,8,9]),(164,[0,8,9]),(170,[0,1]),(171,[0,1]),(197,[0,1]),(198,[0,1]),(225,[0,1]),(226,[0,1]),(232,[0,1,2,3]),(233,[0,1,2,3]),(243,[0,1,2,3,4,5,6,7,8,9,10]),(244,[0,1,2,3,4,5,6,7,8,9,10]),(245,[0]),(246,[0])],ow:=[(107,(5,1)),(113,(115,4)),(120,(9,16)),(189,(107,24)),(214,(26,16))] }
theorem qY:tab.Ok Tryz.prog:=Tab.ok_of_check (by kernel_rfl)
theorem mixed:Tryz.prog.follows .mixedOrders=true:=by kernel_rfl
def flds:List (Nat × List (Nat × Option Nat)):=[(7,[(0,none),(1,none),(2,none),(3,none)]),(8,[(0,none),(1,none),(2,none),(3,none)]),(13,[(0,none),(1,none)]),(14,[(0,none),(1,none)]),(18,[(0,none)]),(19,[(0,none)]),(29,[(0,none),(1,none)]),(30,[(0,none),(1,none)]),(41,[(0,none),(1,none),(2,none),(3,none)]),(42,[(0,none),(1,none),(2,none),(3,none)]),(65,[(0,none),(1,none),(2,none)]),(66,[(0,none),(1,none),(2,none)]),(72,[(0,none),(1,none),(2,none),(3,none)]),(73,[(0,none),(1,none),(2,none),(3,none)]),(80,[(0,none),(1,none),(2,none),(3,none)]),(81,[(0,none),(1,none),(2,none),(3,none)]),(85,[(0,none),(1,none),(2,none),(3,none),(4,none)]),(86,[(0,none),(1,none),(2,none),(3,none),(4,none)]),(88,[(0,none),(1,none),(2,none),(3,none),(4,none),(5,none)]),(89,[(0,none),(1,none),(2,none),(3,none),(4,none),(5,none)]),(94,[(0,none),(1,none),(2,none)]),(95,[(0,none),(1,none),(2,none)]),(96,[(0,some 32),(32,some 32)]),(97,[(0,some 32),(32,some 32)]),(103,[(0,some 32),(32,some 32)]),(104,[(0,some 32),(32,some 32)]),(109,[(0,none),(1,none),(2,none),(3,none),(4,none)]),(110,[(0,none),(1,none),(2,none),(3,none),(4,none)]),(126,[(0,none),(1,none),(2,none)]),(127,[(0,none),(1,none),(2,none)]),(129,[(0,none),(1,none)]),(130,[(0,none),(1,none)]),(163,[(0,some 8),(8,none),(9,none)]),(164,[(0,some 8),(8,none),(9,none)]),(170,[(0,none),(1,none)]),(171,[(0,none),(1,none)]),(197,[(0,none),(1,none)]),(198,[(0,none),(1,none)]),(225,[(0,none),(1,none)]),(226,[(0,none),(1,none)]),(232,[(0,none),(1,none),(2,none),(3,none)]),(233,[(0,none),(1,none),(2,none),(3,none)]),(235,[(0,some 0)]),(236,[(0,some 0)]),(243,[(0,none),(1,none),(2,none),(3,none),(4,none),(5,none),(6,none),(7,none),(8,none),(9,none),(10,none)]),(244,[(0,none),(1,none),(2,none),(3,none),(4,none),(5,none),(6,none),(7,none),(8,none),(9,none),(10,none)]),(245,[(0,none)]),(246,[(0,none)])]
theorem jh:flds.all (ckFld Tryz.prog)=true:=by kernel_rfl
theorem zero5:jM Tryz.prog 5=some ([.int .u8 0]):=by kernel_rfl
theorem zero30:jM Tryz.prog 30=some ([.string ⟨⟨[]⟩⟩,.string ⟨⟨[]⟩⟩]):=by kernel_rfl
theorem zero42:jM Tryz.prog 42=some ([.int .i64 0,.int .i64 0,.int .i64 0,.string ⟨⟨[]⟩⟩]):=by kernel_rfl
theorem zero44:jM Tryz.prog 44=some (List.replicate 32 (.int .u8 0)):=by kernel_rfl
theorem zero45:jM Tryz.prog 45=some (List.replicate 32 (.int .u8 0)):=by kernel_rfl
theorem zero66:jM Tryz.prog 66=some ([.pointer none,.string ⟨⟨[]⟩⟩,.slice none 0 0]):=by kernel_rfl
theorem zero73:jM Tryz.prog 73=some ([.slice none 0 0,.int .i64 0,.int .i64 0,.bool false]):=by kernel_rfl
theorem zero81:jM Tryz.prog 81=some ([.map none,.int .i64 0,.int .i64 0,.bool false]):=by kernel_rfl
theorem zero86:jM Tryz.prog 86=some ([.string ⟨⟨[]⟩⟩,.bool false,.string ⟨⟨[]⟩⟩,.bool false,.slice none 0 0]):=by kernel_rfl
theorem zero89:jM Tryz.prog 89=some ([.string ⟨⟨[]⟩⟩,.bool false,.string ⟨⟨[]⟩⟩,.bool false,.string ⟨⟨[]⟩⟩,.slice none 0 0]):=by kernel_rfl
theorem zero95:jM Tryz.prog 95=some ([.pointer none,.string ⟨⟨[]⟩⟩,.map none]):=by kernel_rfl
theorem zero97:jM Tryz.prog 97=some (List.replicate 64 (.int .u8 0)):=by kernel_rfl
theorem zero104:jM Tryz.prog 104=some (List.replicate 64 (.int .u8 0)):=by kernel_rfl
theorem zero110:jM Tryz.prog 110=some ([.int .i64 0,.bool false,.int .i64 0,.bool false,.string ⟨⟨[]⟩⟩]):=by kernel_rfl
theorem zero115:jM Tryz.prog 115=some ([.int .u32 0]):=by kernel_rfl
theorem zero127:jM Tryz.prog 127=some ([.bool false,.string ⟨⟨[]⟩⟩,.int .i64 0]):=by kernel_rfl
theorem zero130:jM Tryz.prog 130=some ([.int .i64 0,.string ⟨⟨[]⟩⟩]):=by kernel_rfl
theorem zero162:jM Tryz.prog 162=some (List.replicate 8 (.int .u32 0)):=by kernel_rfl
theorem zero164:jM Tryz.prog 164=some ([.int .u32 0,.int .u32 0,.int .u32 0,.int .u32 0,.int .u32 0,.int .u32 0,.int .u32 0,.int .u32 0,.slice none 0 0,.int .u64 0]):=by kernel_rfl
theorem zero191:jM Tryz.prog 191=some (List.replicate 64 (.int .u32 0)):=by kernel_rfl
theorem places30:kA Tryz.prog 30=some [(0,1),(1,1)]:=by kernel_rfl
theorem places66:kA Tryz.prog 66=some [(0,1),(1,1),(2,1)]:=by kernel_rfl
theorem places73:kA Tryz.prog 73=some [(0,1),(1,1),(2,1),(3,1)]:=by kernel_rfl
theorem places81:kA Tryz.prog 81=some [(0,1),(1,1),(2,1),(3,1)]:=by kernel_rfl
theorem places86:kA Tryz.prog 86=some [(0,1),(1,1),(2,1),(3,1),(4,1)]:=by kernel_rfl
theorem places89:kA Tryz.prog 89=some [(0,1),(1,1),(2,1),(3,1),(4,1),(5,1)]:=by kernel_rfl
theorem places95:kA Tryz.prog 95=some [(0,1),(1,1),(2,1)]:=by kernel_rfl
theorem places97:kA Tryz.prog 97=some [(0,32),(32,32)]:=by kernel_rfl
theorem places104:kA Tryz.prog 104=some [(0,32),(32,32)]:=by kernel_rfl
theorem places110:kA Tryz.prog 110=some [(0,1),(1,1),(2,1),(3,1),(4,1)]:=by kernel_rfl
theorem places127:kA Tryz.prog 127=some [(0,1),(1,1),(2,1)]:=by kernel_rfl
theorem places130:kA Tryz.prog 130=some [(0,1),(1,1)]:=by kernel_rfl
theorem places164:kA Tryz.prog 164=some [(0,8),(8,1),(9,1)]:=by kernel_rfl
theorem one3:sz1 Tryz.prog 3=true:=by kernel_rfl
theorem one4:sz1 Tryz.prog 4=true:=by kernel_rfl
theorem one5:sz1 Tryz.prog 5=true:=by kernel_rfl
theorem one9:sz1 Tryz.prog 9=true:=by kernel_rfl
theorem one64:sz1 Tryz.prog 64=true:=by kernel_rfl
theorem one71:sz1 Tryz.prog 71=true:=by kernel_rfl
theorem one84:sz1 Tryz.prog 84=true:=by kernel_rfl
theorem one87:sz1 Tryz.prog 87=true:=by kernel_rfl
theorem one107:sz1 Tryz.prog 107=true:=by kernel_rfl
theorem one115:sz1 Tryz.prog 115=true:=by kernel_rfl
theorem one116:sz1 Tryz.prog 116=true:=by kernel_rfl
end
 
section
open Go Go.RowKit
def Lp1 {A:Type} (b:A->(A->Prop)->Prop) (a:A):Prop:=∃ (I:A->Prop) (mu:A->Nat),I a/\∀ a,I a->b a fun a'=>I a'/\mu a'<mu a
def Lp2 {A B:Type} (b:A->B->(A->B->Prop)->Prop) (x:A) (y:B):Prop:=∃ (I:A->B->Prop) (mu:A->B->Nat),I x y/\∀ x y,I x y->b x y fun x' y'=>I x' y'/\mu x' y'<mu x y
def Lp3 {A B C:Type} (b:A->B->C->(A->B->C->Prop)->Prop) (x:A) (y:B) (z:C):Prop:=∃ (I:A->B->C->Prop) (mu:A->B->C->Nat),I x y z/\∀ x y z,I x y z->b x y z fun x' y' z'=>I x' y' z'/\mu x' y' z'<mu x y z
def vB (b:Bool):Value:=.bool b
theorem One.B:One vB:=fun _=>rfl
def Dj (p q:Option Nat):Prop:=∀ g,p=some g->q≠some g
theorem Dj.symm {p q:Option Nat} (h:Dj p q):Dj q p:=fun g hq hp=>h g hp hq
def Dn {α:Type} (xs:List α) (p q:Option Nat):Prop:=xs≠[]->Dj p q
theorem Dn.of {α:Type} {xs:List α} {p q:Option Nat} (h:Dj p q):Dn xs p q:=fun _=>h
theorem Dn.sub {α β:Type} {xs:List α} {ys:List β} {p p' q:Option Nat} (h:Dn xs p q) (hx:ys≠[]->xs≠[]) (hb:∀ g,p'=some g->p=some g):Dn ys p' q:=fun hy g hg=>h (hx hy) g (hb g hg)
theorem Dj.nl {q:Option Nat}:Dj none q:=fun _ h=>by cases h
theorem Dj.nr {q:Option Nat}:Dj q none:=fun _ _ h=>by cases h
theorem Dn.nr {α:Type} {xs:List α} {q:Option Nat}:Dn xs q none:=fun _=>Dj.nr
def Lt (p:Option Nat) (n:Nat):Prop:=∀ g,p=some g->g<n
def Ge (p:Option Nat) (n:Nat):Prop:=∀ g,p=some g->n<=g
theorem Dj.new {p q:Option Nat} {n:Nat} (h:Lt p n) (k:Ge q n):Dj p q:=fun g hp hq=>by have:=h g hp; have:=k g hq; omega
theorem Dn.new {α:Type} {xs:List α} {p q:Option Nat} {n:Nat} (h:xs≠[]->Lt p n) (k:Ge q n):Dn xs p q:=fun hx=>Dj.new (h hx) k
theorem Dj.app {p p' q:Option Nat} {n:Nat} (h:Dj p q) (hq:Lt q n) (k:∀ g,p'=some g->p=some g∨n<=g):Dj p' q:=fun g hp hqg=>by
 rcases k g hp with h1 | h1
 ·exact h g h1 hqg
 ·have:=hq g hqg; omega
theorem Dn.app {α:Type} {xs:List α} {r p p':Option Nat} {n:Nat} (h:Dn xs r p) (hq:xs≠[]->Lt r n) (k:∀ g,p'=some g->p=some g∨n<=g):Dn xs r p':=fun hx=>((h hx).symm.app (hq hx) k).symm
theorem Lt.box {g n:Nat} (h:g<n):Lt (some g) n:=fun _ e=>by cases e; exact h
theorem Ge.box {g n:Nat} (h:n<=g):Ge (some g) n:=fun _ e=>by cases e; exact h
section
variable {α:Type} {f:α->Value} {w w' w0:World} {A:Option Addr} {c B g:Nat} {xs:List α} {e:TypeId} {us:List Value} {row:Option Nat}
theorem Bl.lt' (h:Bl w g e us):Lt (some g) w.heap.size:=Lt.box h.lt
theorem Own.lt' (h:Own f w B e A c xs):Lt (blk A) w.heap.size:=fun _ hg=>(h.lt hg).2
theorem Own.ge' (h:Own f w B e A c xs):Ge (blk A) B:=fun _ hg=>(h.lt hg).1
theorem Rd.lt' (h:Rd f w A c xs) (hx:xs≠[]):Lt (blk A) w.heap.size:=fun _ hg=>h.lt hx hg
theorem Bl.go (h:Bl w g e us) (hg:w.grownBy w' row) (hd:Dj (some g) row):Bl w' g e us:=h.keep hg fun e=>hd g rfl e
theorem Own.go (h:Own f w B e A c xs) (hg:w.grownBy w' row) (hd:Dj (blk A) row):Own f w' B e A c xs:=h.keep hg fun g e k=>hd g k e
theorem Rd.go (h:Rd f w A c xs) (hg:w.grownBy w' row) (hd:Dn xs (blk A) row):Rd f w' A c xs:=h.keep' hg fun hx g e k=>hd hx g k e
theorem Bl.g0 (h:Bl w g e us) (hg:w.grownBy w' none):Bl w' g e us:=h.keep hg (by simp)
theorem cell_g0 {p:Addr} {v:Value} (h:w.cell? p=some v) (hg:w.grownBy w' none):w'.cell? p=some v:=by
 have hlt:=World.block_lt_of_cell? w _ h
 have:=hg.block p.block hlt (by simp)
 unfold World.cell? at h |-
 rw [this]; exact h
theorem jk (h:w0.grownBy w none) (k:w.grownBy w' row) (hn:Ge row w0.heap.size):w0.grownBy w' none:=by
 cases row with
 | none=>exact ja h k
 | some g=>exact kq h k (hn g rfl)
theorem qZ (h:w.grownBy w' row):w.heap.size<=w'.heap.size:=h.size
theorem Ge.none {n:Nat}:Ge Option.none n:=fun _ h=>by cases h
theorem Ge.le {p:Option Nat} {m n:Nat} (h:Ge p n) (k:m<=n):Ge p m:=fun g hg=>Nat.le_trans k (h g hg)
end
section
variable {P:Program} {N:Nat} {Q:Post} {L:jj} {w:World}
theorem qd {x:Code} (F:jj->World->Prop) (h2:∀ L' w',F L' w'->WX N Q .normal L' w') (h1:(∀ L' w',F L' w'->WX N Q .normal L' w')->WC P N Q x L w):WC P N Q x L w:=h1 h2
theorem zW {k:Code} (F:Nat->jj->World->Prop) (n0:Nat) (L0:jj) (h0:F n0 L0 w) (hL:Sub L L0)
  (round:∀ n L w,F n L w->WC P N (Exit.then (fun a' w'=>∃ n' L' w0,F n' L' w0/\Eqv w0 w'/\Has N L' a'/\n'<n) Q) k L w):WC P N Q (.loop k) L w :=
 WC.loopG (S:=Nat × jj) (fun s a' w'=>∃ n' L' w0,F n' L' w0/\Eqv w0 w'/\Has N L' a'/\n'<s.1) (fun s=>s.1) (fun s=>s.2) (fun s=>F s.1 s.2)
  (fun _ _ _ ⟨n',L',w0,h⟩=>⟨(n',L'),w0,h⟩) (n0,L0) h0 hL (fun s w h=>round s.1 s.2 w h)
theorem zS {F:Nat->jj->World->Prop} {n n':Nat} (L':jj) (hI:F n' L' w) (hL:Sub L L') (hm:n'<n) :
  WX N (Exit.then (fun a' w'=>∃ n' L' w0,F n' L' w0/\Eqv w0 w'/\Has N L' a'/\n'<n) Q) .normal L w:=fun _ _ e ha=>⟨n',L',w,hI,e,ha.sub hL,hm⟩
theorem WC.cut {c:Code} {L':jj} (hs:Sub L L') (h:WC P N Q c L' w):WC P N Q c L w:=h.weaken hs
end
theorem kg:∀ u∈([]:List Value),u.oneCell'=true:=fun _ h=>by cases h
theorem jd {u:Value} {us:List Value} (h:u.oneCell'=true) (t:∀ v∈us,v.oneCell'=true):∀ v∈u :: us,v.oneCell'=true:=fun v hv=>by
 rcases List.mem_cons.1 hv with rfl | hv
 ·exact h
 ·exact t v hv
theorem okb {e t:Bool} (h:e=t):some (Value.bool e)=some (Value.bool t):=by rw [h]
section
variable {P:Program} {T:Tab} {N:Nat} {L:jj} {w:World} {ty:TypeId} {pos:String} {af:Array Edge} {dd:Option Tmp} {t t':TypeId} {x y c i:Operand} {k:IntKind} {q:Int}
theorem zt {u:Value} (hc:opv L c=some (.bool true)) (hx:opv L x=some u):Yld P N w ⟨dd,.pick c x y,ty,pos,af,none⟩ L u:=fun a w1 _ ha=>by
 unfold execOp
 simp only [ha.ev hc,ha.ev hx,Sem.run_bind,asBool,Sem.run_pure,Result.andThen_ok]
 rfl
theorem zr {u:Value} (hc:opv L c=some (.bool false)) (hy:opv L y=some u):Yld P N w ⟨dd,.pick c x y,ty,pos,af,none⟩ L u:=fun a w1 _ ha=>by
 unfold execOp
 simp only [ha.ev hc,ha.ev hy,Sem.run_bind,asBool,Sem.run_pure,Result.andThen_ok]
 rfl
end
section
variable {P:Program} {T:Tab} {N:Nat} {L:jj} {w:World} {ty:TypeId} {pos:String} {af:Array Edge} {dd:Option Tmp} {t:TypeId} {x:Operand} {k:IntKind} {q:Int}
theorem Yld.neg (hT:T.Ok P) (hx:opv L x=some (.int k q)) (hi:In k (0 - q)):Yld P N w ⟨dd,.unOp .neg t x,ty,pos,af,none⟩ L (.int k (0 - q)):=by
 have h:=zc (P:=P) (T:=T) (L:=L) (N:=N) (w:=w) (d:=dd) (ty:=ty) (pos:=pos) (af:=af) hT (op:=.unOp .neg t x) (v:=.int k (k.wrap (0 - q))) (by simp only [pv,hx,o1,pvUn])
 rw [In.wrap hi] at h
 exact h
end
theorem Zp {p:Prop} [Decidable p] (h:(!decide p)=true):¬ p:=by simpa using h
theorem kL {p:Prop} [Decidable p] (h:(!decide p)=false):p:=by simpa using h
theorem iltN {α:Type} {xs:List α} {i:Int} {n:Nat} (h:0<=i/\i<(n:Int)) (hn:n=xs.length):i.toNat<xs.length:=by omega
theorem kF {a b c:Nat} (h:(a+b)*(c+1)<=140737488355328):a+b<=maxLen:=by
 have:(a+b)*1<=(a+b)*(c+1):=Nat.mul_le_mul_left _ (by omega)
 simp only [maxLen]; omega
theorem byte_eq {k:IntKind} {e:Int} (h:0<=e/\e<=255):some (Value.int k e)=some (Value.int k ((UInt8.ofNat e.toNat).toNat:Int)):=by
 have:((UInt8.ofNat e.toNat).toNat:Int)=e:=by rw [UInt8.toNat_ofNat']; omega
 rw [this]
theorem byte_eq' {e:Int} (h:0<=e/\e<=255):Value.int .u8 e=vb (UInt8.ofNat e.toNat):=by
 have:((UInt8.ofNat e.toNat).toNat:Int)=e:=by rw [UInt8.toNat_ofNat']; omega
 unfold vb; rw [this]
def Orig (ne:Prop) (p:Option Nat) (n:Nat) (ps:List (Prop × Option Nat)):Prop:=ne->∀ g,p=some g->n<=g∨∃ x,List.Mem x ps/\x.1/\x.2=some g
def OrAll (Q:Prop->Option Nat->Prop) (ps:List (Prop × Option Nat)):Prop:=∀ x,List.Mem x ps->Q x.1 x.2
theorem Orig.apart {α:Type} {ys:List α} {p z:Option Nat} {n:Nat} {ps:List (Prop × Option Nat)} (h:Orig (ys≠[]) p n ps) (hz:Lt z n) (hs:OrAll (fun ne q=>ne->Dj q z) ps):Dn ys p z:=fun hy g hg hzg=>by
 rcases h hy g hg with h1 | ⟨x,hx,hne,hxg⟩
 ·have:=hz g hzg; omega
 ·exact hs x hx hne g hxg hzg
theorem Orig.new {ne:Prop} {p:Option Nat} {n:Nat} {ps:List (Prop × Option Nat)} (h:Ge p n):Orig ne p n ps:=fun _ g hg=>.inl (h g hg)
theorem Orig.sub {ne ne':Prop} {p p':Option Nat} {n:Nat} {ps:List (Prop × Option Nat)} (h:Orig ne p n ps) (hx:ne'->ne) (hb:∀ g,p'=some g->p=some g):Orig ne' p' n ps:=fun hn g hg=>h (hx hn) g (hb g hg)
theorem Orig.trans {ne:Prop} {p:Option Nat} {n m:Nat} {ps qs:List (Prop × Option Nat)} (h:Orig ne p n qs) (hm:m<=n) (hs:OrAll (fun ne q=>Orig ne q m ps) qs):Orig ne p m ps:=fun hn g hg=>by
 rcases h hn g hg with h1 | ⟨x,hx,hne,hxg⟩
 ·exact .inl (by omega)
 ·exact hs x hx hne g hxg
section
variable {P:Program} {T:Tab} {N:Nat} {ops:Array Oper} {Q:Post} {L:jj} {w:World} {rest:List Oper} {d:Nat} {ty:TypeId} {pos:String} {af:Array Edge} {t t':TypeId} {x y i:Operand} {k k':IntKind} {q:Int}
variable {α:Type} {f:α->Value} {A:Option Addr} {c n B:Nat} {xs ys:List α} {e:TypeId}
theorem WL.makeZI {q:Int} {z:α} {b:Nat} (hT:T.Ok P) (hd:Nat.blt d N=true) (hs:nk T.ow t=some (e,b)) (hz:jM P e=some [f z]) (hx:opv L x=some (.int k q)) (hy:opv L y=some (.int k' q)) (h0:0<=q) (hm:q*(b:Int)<=140737488355328) (h63:q<=140737488355328) (hB:B<=w.heap.size)
  (hk:∀ g w',Own f w' B e (some ⟨g,0,none⟩) q.toNat (List.replicate q.toNat z)->w.grownBy w' none->w.heap.size<=g->WL P N ops Q rest ((d,.slice (some ⟨g,0,none⟩) q.toNat q.toNat) :: L) w') :
  WL P N ops Q (⟨some d,.makeSlice t x y,ty,pos,af,none⟩ :: rest) L w:=by
 have e1:((q.toNat:Nat):Int)=q:=Int.toNat_of_nonneg h0
 have e2:q.toNat*b<=140737488355328:=by
  have:((q.toNat*b:Nat):Int)<=140737488355328:=by rw [Int.natCast_mul,e1]; exact hm
  omega
 exact WL.makeZ hT hd hs hz (by rw [e1]; exact hx) (by rw [e1]; exact hy) e2 (by omega) hB hk
theorem WL.makeCI {q:Int} {b:Nat} (hT:T.Ok P) (hd:Nat.blt d N=true) (hs:nk T.ow t=some (e,b)) (hx:opv L x=some (.int k 0)) (hy:opv L y=some (.int k' q)) (h0:0<=q) (hm:q*(b:Int)<=140737488355328) (h63:q<=140737488355328) (hB:B<=w.heap.size)
  (hk:∀ g w',Own f w' B e (some ⟨g,0,none⟩) q.toNat []->w.grownBy w' none->w.heap.size<=g->WL P N ops Q rest ((d,.slice (some ⟨g,0,none⟩) 0 q.toNat) :: L) w') :
  WL P N ops Q (⟨some d,.makeSlice t x y,ty,pos,af,none⟩ :: rest) L w:=by
 have e1:((q.toNat:Nat):Int)=q:=Int.toNat_of_nonneg h0
 have e2:q.toNat*b<=140737488355328:=by
  have:((q.toNat*b:Nat):Int)<=140737488355328:=by rw [Int.natCast_mul,e1]; exact hm
  omega
 exact WL.makeC hT hd hs hx (by rw [e1]; exact hy) e2 (by omega) hB hk
theorem zL {l:List Oper} (m:Nat) (F:jj->World->Prop) (h2:∀ L' w',F L' w'->WL P N ops Q (l.drop m) L' w') (h1:(∀ L' w',F L' w'->WL P N ops Q (l.drop m) L' w')->WL P N ops Q l L w):WL P N ops Q l L w:=h1 h2
theorem WQ.midF {K:Act->Prop} {l:List Oper} (m:Nat) (F:jj->World->Prop) (h2:∀ L' w',F L' w'->WQ P N ops K (l.drop m) L' w') (h1:(∀ L' w',F L' w'->WQ P N ops K (l.drop m) L' w')->WQ P N ops K l L w):WQ P N ops K l L w:=h1 h2
theorem qH {fl:Nat->Bool} {D:Nat->World->Prop} {l:List Oper} {j:Nat} (m:Nat) (F:jj->World->Prop) (h2:∀ L' w',F L' w'->WJ P N ops fl D Q (l.drop m) (j+m) L' w') (h1:(∀ L' w',F L' w'->WJ P N ops fl D Q (l.drop m) (j+m) L' w')->WJ P N ops fl D Q l j L w):WJ P N ops fl D Q l j L w:=h1 h2
theorem WQ.weaken {K:Act->Prop} {l:List Oper} {L':jj} (hs:Sub L L') (h:WQ P N ops K l L' w):WQ P N ops K l L w:=fun a ha=>h a (ha.sub hs)
theorem WJ.weaken {fl:Nat->Bool} {D:Nat->World->Prop} {l:List Oper} {j:Nat} {L':jj} (hs:Sub L L') (h:WJ P N ops fl D Q l j L' w):WJ P N ops fl D Q l j L w:=fun a w1 e ha=>h a w1 e (ha.sub hs)
end
theorem Bl.cast {w:World} {g:Nat} {e:TypeId} {us vs:List Value} (h:us=vs) (hB:Bl w g e us):Bl w g e vs:=h ▸ hB
theorem lnil {α:Type} {f:α->Value}:([]:List Value)=[].map f:=rfl
theorem lcons {α:Type} {f:α->Value} {v:Value} {l:List Value} {x:α} {xs:List α} (h:v=f x) (t:l=xs.map f):v :: l=(x :: xs).map f:=by rw [h,t]; rfl
end
 
section
open Go Go.RowKit
structure OneK {α:Type} (k:Nat) (f:α->List Value):Prop where
 pos:0<k
 len:∀ x,(f x).length=k
 one:∀ x,∀ u∈f x,u.oneCell'=true
structure RdK {α:Type} (k:Nat) (f:α->List Value) (w:World) (A:Option Addr) (c:Nat) (xs:List α):Prop where
 ok:OneK k f
 cap:xs.length<=c
 max:c<=maxLen
 cells:xs≠[]->∃ g o,A=some ⟨g,o,none⟩/\∀ j x i u,xs[j]? = some x->(f x)[i]? = some u->w.cell? ⟨g,o+(j*k+i),none⟩=some u
def OwnK {α:Type} (k:Nat) (f:α->List Value) (w:World) (B:Nat) (e:TypeId) (A:Option Addr) (c:Nat) (xs:List α):Prop:=OneK k f/\w.ownsRow B e k (.slice A xs.length c) xs.length (xs.flatMap f)
section
variable {α:Type} {k:Nat} {f:α->List Value}
theorem OneK.flen (h:OneK k f):∀ xs:List α,(xs.flatMap f).length=xs.length*k
 | []=>by simp
 | x :: xs=>by simp [List.flatMap_cons,h.flen xs,h.len x,Nat.add_mul,Nat.add_comm]
theorem OneK.fget (h:OneK k f):∀ (xs:List α) (j:Nat) (x:α) (i:Nat),xs[j]? = some x->i<k->(xs.flatMap f)[j*k+i]? = (f x)[i]?
 | [],_,_,_,hx,_=>by simp at hx
 | y :: xs,0,x,i,hx,hi=>by
  simp only [List.getElem?_cons_zero,Option.some.injEq] at hx
  subst hx
  rw [List.flatMap_cons,Nat.zero_mul,Nat.zero_add,List.getElem?_append_left (by rw [h.len]; exact hi)]
 | y :: xs,j+1,x,i,hx,hi=>by
  have e:(j+1)*k+i=(f y).length+(j*k+i):=by rw [h.len,Nat.add_mul]; omega
  rw [List.flatMap_cons,e,List.getElem?_append_right (by omega)]
  simp only [Nat.add_sub_cancel_left]
  exact h.fget xs j x i (by simpa using hx) hi
theorem OneK.fset (h:OneK k f):∀ (xs:List α) (j:Nat) (y:α),j<xs.length->(xs.set j y).flatMap f=(xs.flatMap f).take (j*k)++f y++(xs.flatMap f).drop (j*k+k)
 | [],_,_,hj=>by simp at hj
 | x :: xs,0,y,_=>by
  have e:List.drop (0*k+k) (f x++xs.flatMap f)=xs.flatMap f:=by rw [Nat.zero_mul,Nat.zero_add,List.drop_left' (h.len x)]
  rw [List.set_cons_zero,List.flatMap_cons,List.flatMap_cons,e]
  simp
 | x :: xs,j+1,y,hj=>by
  have e1:(j+1)*k=(f x).length+j*k:=by rw [h.len,Nat.add_mul]; omega
  have e2:(j+1)*k+k=(f x).length+(j*k+k):=by rw [e1]; omega
  rw [List.set_cons_succ,List.flatMap_cons,List.flatMap_cons,h.fset xs j y (by simpa using hj),e2,e1,List.take_length_add_append,List.drop_length_add_append]
  simp
theorem OneK.mem (h:OneK k f) {xs:List α}:∀ u∈xs.flatMap f,u.oneCell'=true:=fun u hu=>by
 obtain ⟨x,_,hx⟩:=List.mem_flatMap.1 hu
 exact h.one x u hx
end
section
variable {α:Type} {k:Nat} {f:α->List Value} {w w':World} {A:Option Addr} {c B g:Nat} {xs:List α} {e:TypeId} {row:Option Nat}
theorem RdK.nil (h:OneK k f) (w:World) {A:Option Addr} {c:Nat} (hc:c<=maxLen):RdK k f w A c []:=⟨h,Nat.zero_le _,hc,fun h=>absurd rfl h⟩
theorem RdK.lt (h:RdK k f w A c xs) (hx:xs≠[]) {g:Nat} (hg:blk A=some g):g<w.heap.size:=by
 obtain ⟨g',o,rfl,hc⟩:=h.cells hx
 obtain ⟨x,l,rfl⟩:=List.exists_cons_of_ne_nil hx
 have h0:0<(f x).length:=by rw [h.ok.len]; exact h.ok.pos
 have:=World.block_lt_of_cell? w _ (hc 0 x 0 _ rfl (List.getElem?_eq_getElem h0))
 simp only [blk,Option.map_some,Option.some.injEq] at hg
 subst hg
 exact this
theorem RdK.keep (h:RdK k f w A c xs) (hg:w.grownBy w' row) (hne:xs≠[]->∀ g,row=some g->blk A≠some g):RdK k f w' A c xs :=
 ⟨h.ok,h.cap,h.max,fun hx=>by
  obtain ⟨g',o,rfl,hc⟩:=h.cells hx
  refine ⟨g',o,rfl,fun j x i u hj hi=>hg.cell (hc j x i u hj hi) (fun e=>?_)⟩
  exact hne hx _ e.symm (by simp [blk])⟩
theorem RdK.grown (h:RdK k f w A c xs) (hg:w.grownBy w' none):RdK k f w' A c xs:=h.keep hg (by simp)
theorem RdK.go (h:RdK k f w A c xs) (hg:w.grownBy w' row) (hd:Dn xs (blk A) row):RdK k f w' A c xs:=h.keep hg fun hx g e k=>hd hx g k e
theorem RdK.lt' (h:RdK k f w A c xs) (hx:xs≠[]):Lt (blk A) w.heap.size:=fun _ hg=>h.lt hx hg
theorem RdK.eqv (hw:Eqv w w') (h:RdK k f w A c xs):RdK k f w' A c xs:=h.grown (jg (jr w none) hw)
theorem RdK.cut (h:RdK k f w A c xs) {l m:Nat} (hl:l<=m) (hm:m<=xs.length):RdK k f w (if c=l then A else A.map (·.add (l*k))) (c - l) ((xs.drop l).take (m - l)):=by
 have hlen:((xs.drop l).take (m - l)).length=m - l:=by simp; omega
 refine ⟨h.ok,by have:=h.cap; omega,by have:=h.max; omega,fun hx=>?_⟩
 have hx':0<m - l:=by
  rw [<-hlen]
  exact List.length_pos_iff.2 hx
 obtain ⟨g',o,rfl,hc⟩:=h.cells (fun e=>by rw [e] at hm; simp at hm; omega)
 rw [if_neg (by have:=h.cap; omega)]
 refine ⟨g',o+l*k,by simp [Addr.add_mid],fun j x i u hj hi=>?_⟩
 have:=hc (l+j) x i u (by
  rw [List.getElem?_take] at hj
  split at hj
  ·rw [List.getElem?_drop] at hj; exact hj
  ·cases hj) hi
 rw [show o+l*k+(j*k+i)=o+((l+j)*k+i) by rw [Nat.add_mul]; omega]
 exact this
theorem blk_cutK {l m:Nat}:∀ g,blk (if c=l then A else A.map (·.add m))=some g->blk A=some g:=fun g hg=>by
 split at hg
 ·exact hg
 ·cases A with
  | none=>simp [blk] at hg
  | some a=>simpa [blk,addr_block] using hg
theorem OwnK.nil (h:OneK k f) (w:World) (B:Nat) (e:TypeId):OwnK k f w B e none 0 []:=⟨h,World.ownsRow_nil w B e k⟩
theorem OwnK.rd (h:OwnK k f w B e A c xs):RdK k f w A c xs:=by
 have h2:=h.2
 rcases h2.2 with ⟨hv,hn⟩ | ⟨g,cap,cur,hv,hb,hg,hnc,hcm,hcs,htake⟩
 ·simp only [Value.slice.injEq] at hv
  obtain ⟨rfl,_,rfl⟩:=hv
  have:xs=[]:=List.eq_nil_of_length_eq_zero hn
  subst this
  exact RdK.nil h.1 w (Nat.zero_le _)
 ·simp only [Value.slice.injEq] at hv
  obtain ⟨rfl,_,rfl⟩:=hv
  refine ⟨h.1,hnc,hcm,fun _=>⟨g,0,rfl,fun j x i u hj hi=>?_⟩⟩
  have hik:i<k:=by
   rcases Nat.lt_or_ge i k with h1 | h1
   ·exact h1
   ·rw [List.getElem?_eq_none (by rw [h.1.len]; exact h1)] at hi; cases hi
  have:=h2.cells (g:=g) rfl (j*k+i) u (by rw [h.1.fget xs j x i hj hik]; exact hi)
  rwa [Addr.add_mid] at this
theorem OwnK.keep (h:OwnK k f w B e A c xs) (hg:w.grownBy w' row) (hne:∀ g,row=some g->blk A≠some g):OwnK k f w' B e A c xs:=by
 refine ⟨h.1,World.ownsRow.kept h.2 hg ?_⟩
 cases A with
 | none=>exact .inl rfl
 | some a =>
  refine .inr ?_
  simp only [Value.ownBlock]
  intro e
  exact hne _ e.symm (by simp [blk])
theorem OwnK.grown (h:OwnK k f w B e A c xs) (hg:w.grownBy w' none):OwnK k f w' B e A c xs:=h.keep hg (by simp)
theorem OwnK.go (h:OwnK k f w B e A c xs) (hg:w.grownBy w' row) (hd:Dj (blk A) row):OwnK k f w' B e A c xs:=h.keep hg fun g e k=>hd g k e
theorem OwnK.lt (h:OwnK k f w B e A c xs) {g:Nat} (hg:blk A=some g):B<=g/\g<w.heap.size:=by
 refine World.ownsRow.lt h.2 g ?_
 cases A with
 | none=>simp [blk] at hg
 | some a=>simpa [blk,Value.ownBlock] using hg
theorem OwnK.lt' (h:OwnK k f w B e A c xs):Lt (blk A) w.heap.size:=fun _ hg=>(h.lt hg).2
theorem OwnK.ge' (h:OwnK k f w B e A c xs):Ge (blk A) B:=fun _ hg=>(h.lt hg).1
theorem OwnK.eqv (hw:Eqv w w') (h:OwnK k f w B e A c xs):OwnK k f w' B e A c xs:=h.grown (jg (jr w none) hw)
theorem OwnK.base {B':Nat} (h:OwnK k f w B e A c xs) (hB:∀ g,blk A=some g->B'<=g):OwnK k f w B' e A c xs:=by
 refine ⟨h.1,h.2.1,?_⟩
 rcases h.2.2 with hn | ⟨g,cap,cur,hv,hb,rest⟩
 ·exact .inl hn
 ·refine .inr ⟨g,cap,cur,hv,?_,rest⟩
  simp only [Value.slice.injEq] at hv
  exact hB g (by rw [hv.1]; rfl)
theorem OwnK.ofBl {m:Nat} (ho:OneK k f) (h:Bl w g e (xs.flatMap f)) (hB:B<=g) (hm:xs.length<=maxLen) (hn:m=xs.length):OwnK k f w B e (some ⟨g,0,none⟩) m xs:=by
 subst hn
 refine ⟨ho,ho.flen xs,.inr ⟨g,_,_,rfl,hB,h,Nat.le_refl _,hm,by simpa using ho.flen xs,?_⟩⟩
 rw [<-ho.flen xs]
 exact List.take_length
theorem OwnK.take (h:OwnK k f w B e A c xs) (m:Nat) (hm:m<=xs.length):OwnK k f w B e A c (xs.take m):=by
 rcases h.2.2 with ⟨hv,hn⟩ | ⟨g,cap,cur,hv,hb,hg,hnc,hcm,hcs,htake⟩
 ·simp only [Value.slice.injEq] at hv
  obtain ⟨rfl,_,rfl⟩:=hv
  have:xs=[]:=List.eq_nil_of_length_eq_zero hn
  subst this
  simpa using OwnK.nil h.1 w B e
 ·simp only [Value.slice.injEq] at hv
  obtain ⟨rfl,_,rfl⟩:=hv
  have hl:(xs.take m).length=m:=by simp; omega
  refine ⟨h.1,h.1.flen _,.inr ⟨g,c,cur,rfl,hb,hg,by omega,hcm,hcs,?_⟩⟩
  rw [hl]
  have e1:(xs.take m).flatMap f=(xs.flatMap f).take (m*k):=by
   have h2:=h.1.flen (xs.take m)
   rw [hl] at h2
   have h3:xs.flatMap f=(xs.take m).flatMap f++(xs.drop m).flatMap f:=by rw [<-List.flatMap_append,List.take_append_drop]
   rw [h3,List.take_left' h2]
  rw [e1,<-htake,List.take_take,Nat.min_eq_left (Nat.mul_le_mul_right k hm)]
end
def ckOwK (P:Program) (t e k b:Nat):Bool:=match P.underlying t with
 | some (.slice e')=>Nat.beq e' e && (match P.info? e with
  | some i=>Nat.beq i.size k && Nat.beq i.bytes b && (match i.zero with | some z=>Nat.beq z.cells.size k | none=>false)
  | _=>false)
 | _=>false
theorem ckOwK_spec {P:Program} {t e k b:Nat} (h:ckOwK P t e k b=true):P.underlying t=some (.slice e)/\∃ i z,P.info? e=some i/\i.zero=some z/\i.size=k/\i.bytes=b/\z.cells.size=k:=by
 unfold ckOwK at h
 split at h
 ·rename_i e' he
  simp only [Bool.and_eq_true] at h
  have h1:=Nat.eq_of_beq_eq_true h.1
  subst h1
  refine ⟨he,?_⟩
  have h2:=h.2
  split at h2
  ·rename_i i hi
   simp only [Bool.and_eq_true] at h2
   obtain ⟨⟨h3,h4⟩,h5⟩:=h2
   split at h5
   ·rename_i z hz
    exact ⟨i,z,hi,hz,Nat.eq_of_beq_eq_true h3,Nat.eq_of_beq_eq_true h4,Nat.eq_of_beq_eq_true h5⟩
   ·cases h5
  ·cases h2
 ·cases h
theorem splice_take {c v:List Value} {a k m:Nat} (hv:v.length=k) (h:a+k<=m) (hm:m<=c.length):(c.take a++v++c.drop (a+k)).take m=(c.take m).take a++v++(c.take m).drop (a+k):=by
 have hl:(c.take a++v).length=a+k:=by simp; omega
 rw [List.take_append,List.take_of_length_le (by omega),hl,List.take_take,Nat.min_eq_left (by omega),List.drop_take]
section rules
variable {P:Program} {T:Tab} {N:Nat} {ops:Array Oper} {Q:Post} {L:jj} {w w0:World} {rest:List Oper} {d:Nat} {dd:Option Tmp} {ty:TypeId} {pos:String} {af:Array Edge} {t t':TypeId} {x y i:Operand} {kk kk':IntKind} {q:Int}
variable {α:Type} {k:Nat} {f:α->List Value} {A:Option Addr} {c n B:Nat} {xs ys:List α} {e:TypeId} {us:List Value}
theorem qa {e:TypeId} (hT:T.Ok P) (hR:RdK k f w0 A c xs) (hs:nk T.sl t=some (e,k)) (hx:opv L x=some (.slice A n c)) (hn:n=xs.length) (hi:opv L i=some (.int kk q)) (h0:0<=q) (h1:q<n) :
  Yld P N w ⟨dd,.indexAddr t x i,ty,pos,af,none⟩ L (.pointer (A.map (·.add (q.toNat*k)))):=fun a w1 _ ha=>by
 obtain ⟨hu,j,hj,hj1⟩:=hT.sl hs
 obtain ⟨g,o,rfl,_⟩:=hR.cells (fun e=>by rw [e] at hn; simp at hn; omega)
 unfold execOp
 simp [ha.ev hx,ha.ev hi,Instr.indexAt,run_underlying hu,asIntOf,h0,h1,sizeOf,typeInfo,hj,hj1]
theorem qk {m fi o j:Nat} {s:TypeId} {os:List Nat} (hT:T.Ok P) (hR:RdK k f w0 A c xs) (hj:j<xs.length) (hos:nk T.off s=some os) (ho:os[fi]? = some o) (hx:opv L x=some (.pointer (A.map (·.add m)))) :
  Yld P N w ⟨dd,.fieldAddr s x fi,ty,pos,af,none⟩ L (.pointer (A.map (·.add (m+o)))):=fun a w1 _ ha=>by
 obtain ⟨g,p,rfl,_⟩:=hR.cells (fun e=>by rw [e] at hj; simp at hj)
 obtain ⟨fs,hfs,hall⟩:=hT.off hos
 obtain ⟨fd,hfd,rfl,i,hi,hi0⟩:=hall _ _ ho
 unfold execOp
 simp [ha.ev hx,Instr.fieldAt,run_underlying hfs,hfd,Instr.sureAddr,fieldPlace,sizeOf,typeInfo,hi,hi0,Addr.add_mid,Nat.add_assoc]
theorem RdK.cellsAt (hR:RdK k f w A c xs) (dv:α) {j:Nat} (hj:j<xs.length):∃ g o,A=some ⟨g,o,none⟩/\∀ i u,(f (xs.getD j dv))[i]? = some u->w.cell? ⟨g,o+(j*k+i),none⟩=some u:=by
 obtain ⟨g,o,hA,hc⟩:=hR.cells (fun e=>by rw [e] at hj; simp at hj)
 exact ⟨g,o,hA,fun i u hi=>hc j _ i u (by simp [List.getD,hj]) hi⟩
theorem qt (dv:α) {j:Nat} (hT:T.Ok P) (hR:RdK k f w A c xs) (hs:nk T.agg t=some k) (hx:opv L x=some (.pointer (A.map (·.add (j*k))))) (hj:j<xs.length) :
  Yld P N w ⟨dd,.load t x,ty,pos,af,none⟩ L (.agg ⟨f (xs.getD j dv)⟩):=fun a w1 hw ha=>by
 obtain ⟨⟨de,hu,hr⟩,i,hi,hi1⟩:=hT.agg hs
 obtain ⟨g,o,rfl,hc⟩:=hR.cellsAt dv hj
 have hrow:de.isRow=true:=by cases de <;> simp_all [isRow]
 have:=run_loadVar_mid (P:=P) w1 g (o+j*k) t (f (xs.getD j dv)) de (fun p v hv'=>by
  rw [hw.cell,Nat.add_assoc]
  exact hc p v hv') hu hrow (by simp [hi,hi1,hR.ok.len])
 unfold execOp
 simp only [ha.ev hx,Option.map_some,Addr.add_mid,Instr.loadAt,Instr.sureAddr,Sem.run_bind,Sem.run_pure,Result.andThen_ok,this]
theorem qA (dv:α) {j o m:Nat} {vs:List Value} (hT:T.Ok P) (hR:RdK k f w A c xs) (hs:nk T.agg t=some m) (hx:opv L x=some (.pointer (A.map (·.add (j*k+o))))) (hj:j<xs.length) (hv:((f (xs.getD j dv)).drop o).take m=vs) (hl:vs.length=m) :
  Yld P N w ⟨dd,.load t x,ty,pos,af,none⟩ L (.agg ⟨vs⟩):=fun a w1 hw ha=>by
 obtain ⟨⟨de,hu,hr⟩,i,hi,hi1⟩:=hT.agg hs
 obtain ⟨g,p,rfl,hc⟩:=hR.cellsAt dv hj
 have hrow:de.isRow=true:=by cases de <;> simp_all [isRow]
 have:=run_loadVar_mid (P:=P) w1 g (p+(j*k+o)) t vs de (fun r v hv'=>by
  rw [hw.cell,Nat.add_assoc,Nat.add_assoc]
  refine hc (o+r) v ?_
  rw [<-hv,List.getElem?_take] at hv'
  split at hv'
  ·rw [List.getElem?_drop] at hv'; exact hv'
  ·cases hv') hu hrow (by simp [hi,hi1,hl])
 unfold execOp
 simp only [ha.ev hx,Option.map_some,Addr.add_mid,Instr.loadAt,Instr.sureAddr,Sem.run_bind,Sem.run_pure,Result.andThen_ok,this]
theorem Yld.iloadF (dv:α) {j o:Nat} {u:Unit} {v:Value} (hT:T.Ok P) (hR:RdK k f w A c xs) (hs:nk T.one t=some u) (hx:opv L x=some (.pointer (A.map (·.add (j*k+o))))) (hj:j<xs.length) (hv:(f (xs.getD j dv))[o]? = some v) :
  Yld P N w ⟨dd,.load t x,ty,pos,af,none⟩ L v:=by
 obtain ⟨g,p,rfl,hc⟩:=hR.cellsAt dv hj
 exact Yld.cell hT (hc o v hv) hs (by rw [hx,Option.map_some,Addr.add_mid])
theorem Yld.cutK {e:TypeId} {lo hi:Option Operand} {l h:Int} (hT:T.Ok P) (hR:RdK k f w A c xs) (hs:nk T.sl t=some (e,k)) (hx:opv L x=some (.slice A n c)) (hn:n=xs.length)
  (hl:optv L lo 0=some l) (hh:optv L hi n=some h) (h0:0<=l) (h1:l<=h) (h2:h<=n) :
  Yld P N w ⟨dd,.slice t x lo hi none,ty,pos,af,none⟩ L (.slice (if c=l.toNat then A else A.map (·.add (l.toNat*k))) ((xs.drop l.toNat).take (h.toNat - l.toNat)).length (c - l.toNat)):=fun a w1 _ ha=>by
 obtain ⟨hu,j,hj,hj1⟩:=hT.sl hs
 have hb:=run_bounds (P:=P) (len:=n) (cap:=c) (isS:=true) ha hl hh h0 h1 (by have:=hR.cap; omega) w1
 have hlen:((xs.drop l.toNat).take (h.toNat - l.toNat)).length=h.toNat - l.toNat:=by simp; omega
 rw [hlen]
 unfold execOp
 simp [ha.ev hx,Instr.sliceAt,run_underlying hu,Instr.slice,hb,sizeOf,typeInfo,hj,hj1]
theorem WL.cutK {e:TypeId} {lo hi:Option Operand} {l h:Int} (hT:T.Ok P) (hR:RdK k f w A c xs) (hd:Nat.blt d N=true) (hs:nk T.sl t=some (e,k)) (hx:opv L x=some (.slice A n c)) (hn:n=xs.length)
  (hl:optv L lo 0=some l) (hh:optv L hi n=some h) (h0:0<=l) (h1:l<=h) (h2:h<=n)
  (hk:∀ A' c',RdK k f w A' c' ((xs.drop l.toNat).take (h.toNat - l.toNat))->(∀ g,blk A'=some g->blk A=some g)->WL P N ops Q rest ((d,.slice A' ((xs.drop l.toNat).take (h.toNat - l.toNat)).length c') :: L) w) :
  WL P N ops Q (⟨some d,.slice t x lo hi none,ty,pos,af,none⟩ :: rest) L w :=
 zg hd (Yld.cutK hT hR hs hx hn hl hh h0 h1 h2) (hk _ _ (hR.cut (by omega) (by omega)) blk_cutK)
theorem WL.cutFK {e:TypeId} {lo:Operand} {l:Int} (hT:T.Ok P) (hR:RdK k f w A c xs) (hd:Nat.blt d N=true) (hs:nk T.sl t=some (e,k)) (hx:opv L x=some (.slice A n c)) (hn:n=xs.length) (hl:optv L (some lo) 0=some l) (h0:0<=l) (h1:l<=(n:Int))
  (hk:∀ A' c',RdK k f w A' c' (xs.drop l.toNat)->(∀ g,blk A'=some g->blk A=some g)->WL P N ops Q rest ((d,.slice A' (xs.drop l.toNat).length c') :: L) w):WL P N ops Q (⟨some d,.slice t x (some lo) none none,ty,pos,af,none⟩ :: rest) L w:=by
 refine WL.cutK (h:=(n:Int)) hT hR hd hs hx hn hl rfl h0 h1 (Int.le_refl _) (fun A' c'=>?_)
 have e:(xs.drop l.toNat).take ((n:Int).toNat - l.toNat)=xs.drop l.toNat:=List.take_of_length_le (by simp; omega)
 rw [e]
 exact hk A' c'
end rules
end
 
section
open Go Go.RowKit
section
variable {P:Program} {N:Nat} {L:jj} {w:World} {ty:TypeId} {pos:String} {af:Array Edge} {dd:Option Tmp} {t t':TypeId} {x:Operand}
theorem qe {e:TypeId} {y:Operand} {p:Option Addr} (h:P.underlying t=some (.pointer e)) (hx:opv L x=some (.pointer p)) (hy:opv L y=some (.pointer none)):Yld P N w ⟨dd,.binOp .eql t x y t',ty,pos,af,none⟩ L (.bool p.isNone):=fun a w1 _ ha=>by
 refine kz (ha.ev hx) (ha.ev hy) (by unfold eqGuard; rfl) ?_
 have h:(Op.equal t (.pointer p) (.pointer none)).run P w1=.ok p.isNone w1:=jX fun d=>by
  cases p <;> simp [Op.equalIn,run_underlying h]
 simp [binOp,h]
theorem Yld.ieqnil0 {ms:Array (String × TypeId)} {y:Value} (h:P.underlying t=some (.interface ms)) (hx:opv L x=some .nilIface) (hy:y=.nilIface):Yld P N w ⟨dd,.binOp .eql t x (.const y) t',ty,pos,af,none⟩ L (.bool true):=fun a w1 _ ha=>by
 subst hy
 refine kz (ha.ev hx) rfl ?_ ?_
 ·unfold eqGuard; cases x <;> rfl
 have h:(Op.equal t .nilIface .nilIface).run P w1=.ok true w1:=jX fun d=>by
  simp [Op.equalIn,run_underlying h]
 have ec:a.eval (.const .nilIface)=.nilIface:=rfl
 simp [binOp,h,ec]
theorem Yld.ieqnil1 {ms:Array (String × TypeId)} {y u:Value} {tx:TypeId} (h:P.underlying t=some (.interface ms)) (hx:opv L x=some (.iface tx u)) (hy:y=.nilIface):Yld P N w ⟨dd,.binOp .eql t x (.const y) t',ty,pos,af,none⟩ L (.bool false):=fun a w1 _ ha=>by
 subst hy
 refine kz (ha.ev hx) rfl ?_ ?_
 ·unfold eqGuard; cases x <;> rfl
 have h:(Op.equal t (.iface tx u) .nilIface).run P w1=.ok false w1:=jX fun d=>by
  simp [Op.equalIn,run_underlying h]
 have ec:a.eval (.const .nilIface)=.nilIface:=rfl
 simp [binOp,h,ec]
end
end
 
section
open Go Go.RowKit
inductive Er where
 | ok
 | e (n:Nat)
 | at_ (pos:Int) (n:Nat)
 deriving DecidableEq,Inhabited
def eglob:List (Option Nat):=[some 5,some 6,some 7,some 8,some 9,some 10,some 11,some 12,some 13,some 1,some 14,some 0,some 4,some 15,some 16,some 2,some 17]
def etext:List (List UInt8):=[[108,101,120],[112,97,114,115,101],[114,101,115,111,108,118,101],[100,121,110,97,109,105,99],[99,121,99,108,101],[118,105,115,105,98,105,108,105,116,121],[97,110,97,108,121,115,105,115],[108,105,109,105,116],[109,105,115,115,105,110,103],[116,111,111,32,109,97,110,121],[110,111,32,115,117,99,104,32,107,105,110,100],[110,111,32,112,97,116,104],[110,111,116,32,116,104,101,32,115,104,97,112,101,32,116,104,97,116,32,105,116,32,104,97,115,32,116,111,32,104,97,118,101],[105,116,32,101,110,100,115,32,116,111,111,32,101,97,114,108,121],[97,32,110,117,109,98,101,114,32,111,117,116,32,111,102,32,105,116,115,32,114,97,110,103,101],[116,104,101,32,112,111,119,101,114,32,104,97,115,32,103,111,110,101],[105,116,32,104,97,115,32,102,97,105,108,101,100]]
structure ErV (w:World) (v:Value) (n:Nat):Prop where
 ex:∃ g t a,eglob[n]? = some (some g)/\etext[n]? = some t/\w.cell? ⟨g,0,none⟩=some v/\v=.iface 230 (.pointer (some a))/\w.cell? a=some (vs t)/\∃ c e,w.heap[a.block]? = some (.cells c e (0,0))
def ErrR (S:List Nat) (w:World) (v:Value):Er->Prop
 | .ok=>v=.nilIface
 | .e n=>ErV w v n/\n∈S
 | .at_ pos n=>∃ b u,v=.iface 194 (.pointer (some ⟨b,0,none⟩))/\Bl w b 198 [.int .i64 pos,u]/\ErV w u n/\n∈S
structure GOK (S:List Nat) (w:World):Prop where
 er:∀ n∈S,n<17->∃ v,ErV w v n
 ml:100∈S->∃ m,w.cell? ⟨3,0,none⟩=some (.int .i64 m)
 p10:101∈S->Lib.TabIs Tryz.prog w "internal/strconv.uint64pow10" .u64 Lib.pow10Tab
theorem tab_grown {P:Program} {nm:String} {k:IntKind} {w w':World} {zs:List Int} (h:Lib.TabIs P w nm k zs) (hg:w.grownBy w' none):Lib.TabIs P w' nm k zs:=by
 unfold Lib.TabIs World.var? at h |-
 obtain ⟨o,ho⟩:∃ o,P.globalNamed nm=o:=⟨_,rfl⟩
 rw [ho] at h |-
 cases o with
 | none=>cases h
 | some g =>
  simp only [Option.bind_some] at h |-
  have hlt:g<w.heap.size:=by
   rcases Nat.lt_or_ge g w.heap.size with h' | h'
   ·exact h'
   ·rw [Array.getElem?_eq_none h'] at h; cases h
  rw [hg.block g hlt (by simp)]
  exact h
variable {S:List Nat}
theorem ErV.grown {w w':World} {v:Value} {n:Nat} (h:ErV w v n) (hg:w.grownBy w' none):ErV w' v n:=by
 obtain ⟨g,t,a,h1,h2,h3,h4,h5⟩:=h
 obtain ⟨h5,c,e,h6⟩:=h5
 exact ⟨g,t,a,h1,h2,cell_g0 h3 hg,h4,cell_g0 h5 hg,c,e,(hg.block a.block (World.block_lt_of_cell? w _ h5) (by simp)).trans h6⟩
theorem ErV.uniq {w:World} {u v:Value} {n:Nat} (h:ErV w u n) (k:ErV w v n):u=v:=by
 obtain ⟨g,t,a,h1,h2,h3,h4,h5⟩:=h
 obtain ⟨g',t',a',k1,k2,k3,k4,k5⟩:=k
 have e1:=Option.some.inj (Option.some.inj (h1.symm.trans k1))
 subst e1
 exact Option.some.inj (h3.symm.trans k3)
theorem ErV.lt {w:World} {v:Value} {n:Nat} (h:ErV w v n):n<17:=by
 obtain ⟨g,t,a,h1,_⟩:=h
 have:=(List.getElem?_eq_some_iff.1 h1).1
 simpa [eglob] using this
theorem ErV.inj {w:World} {v:Value} {n m:Nat} (h:ErV w v n) (k:ErV w v m):n=m:=by
 have hn:=h.lt
 have hm:=k.lt
 obtain ⟨g,t,a,h1,h2,h3,h4,h5⟩:=h
 obtain ⟨g',t',a',k1,k2,k3,k4,k5⟩:=k
 have e:=h4.symm.trans k4
 simp only [Value.iface.injEq,true_and,Value.pointer.injEq,Option.some.injEq] at e
 subst e
 have e2:=Option.some.inj (h5.1.symm.trans k5.1)
 simp only [vs,Value.string.injEq,ByteArray.mk.injEq,Array.mk.injEq] at e2
 subst e2
 have key:(List.range 17).all (fun i=>(List.range 17).all fun j => !(decide (etext[i]? = etext[j]?)) || decide (i=j))=true:=by decide +kernel
 have k6:=List.all_eq_true.1 (List.all_eq_true.1 key n (by simpa using hn)) m (by simpa using hm)
 rw [h2,k2] at k6
 simpa using k6
theorem ErV.back {w w':World} {v:Value} {n:Nat} (h:ErV w' v n) (hS:n∈S) (hG:GOK S w) (hg:w.grownBy w' none):ErV w v n:=by
 obtain ⟨u,hu⟩:=hG.er n hS h.lt
 rw [ErV.uniq h (hu.grown hg)]
 exact hu
theorem ErV.iface {w:World} {v:Value} {n:Nat} (h:ErV w v n):∃ a,v=.iface 230 (.pointer (some a)):=by
 obtain ⟨g,t,a,h1,h2,h3,h4,h5⟩:=h
 exact ⟨a,h4⟩
theorem ErrR.grown {w w':World} {v:Value} {e:Er} (h:ErrR S w v e) (hg:w.grownBy w' none):ErrR S w' v e:=by
 cases e with
 | ok=>exact h
 | e n=>exact ⟨ErV.grown h.1 hg,h.2⟩
 | at_ pos n =>
  obtain ⟨b,u,h1,h2,h3,h4⟩:=h
  exact ⟨b,u,h1,h2.g0 hg,h3.grown hg,h4⟩
theorem ErrR.eqv {w w':World} {v:Value} {e:Er} (h:ErrR S w v e) (hg:Eqv w w'):ErrR S w' v e:=h.grown (jg (jr w none) hg)
theorem ErrR.go {w0 w w':World} {v:Value} {e:Er} {g:Nat} {t:TypeId} {us:List Value} (h:ErrR S w v e) (hG:GOK S w0) (h0:w0.grownBy w none) (hg:w.grownBy w' (some g)) (h1:w0.grownBy w' none) (hB:Bl w g t us) (ht:Nat.beq t 198=false):ErrR S w' v e:=by
 cases e with
 | ok=>exact h
 | e n=>exact ⟨(ErV.back h.1 h.2 hG h0).grown h1,h.2⟩
 | at_ pos n =>
  obtain ⟨b,u,k1,k2,k3,k4⟩:=h
  refine ⟨b,u,k1,k2.keep hg (fun e=>?_),(ErV.back k3 k4 hG h0).grown h1,k4⟩
  injection e with e
  subst e
  exact Bl.ne k2 hB (fun e=>Nat.ne_of_beq_eq_false ht e.symm) rfl
theorem ErrR.one {w:World} {v:Value} {e:Er} (h:ErrR S w v e):v.oneCell'=true:=by
 cases e with
 | ok=>rw [show v=.nilIface from h]; rfl
 | e n=>obtain ⟨a,rfl⟩:=ErV.iface h.1; rfl
 | at_ pos n=>obtain ⟨b,u,rfl,_⟩:=h; rfl
theorem ErrR.okR {w:World}:ErrR S w .nilIface .ok:=rfl
theorem GOK.grown {w w':World} (h:GOK S w) (hg:w.grownBy w' none):GOK S w':=⟨fun n hn hl=>by
 obtain ⟨v,hv⟩:=h.er n hn hl
 exact ⟨v,hv.grown hg⟩,fun hn=>by
 obtain ⟨m,hm⟩:=h.ml hn
 exact ⟨m,cell_g0 hm hg⟩,fun hn=>tab_grown (h.p10 hn) hg
 ⟩
section
variable {P:Program} {N:Nat} {L:jj} {w w0:World} {ty:TypeId} {pos:String} {af:Array Edge} {dd:Option Tmp} {t t':TypeId} {x:Operand}
theorem Yld.inenil0 {ms:Array (String × TypeId)} {y:Value} (h:P.underlying t=some (.interface ms)) (hx:opv L x=some .nilIface) (hy:y=.nilIface):Yld P N w ⟨dd,.binOp .neq t x (.const y) t',ty,pos,af,none⟩ L (.bool false):=fun a w1 _ ha=>by
 subst hy
 refine kz (ha.ev hx) rfl ?_ ?_
 ·unfold eqGuard; cases x <;> rfl
 have h:(Op.equal t .nilIface .nilIface).run P w1=.ok true w1:=jX fun d=>by
  simp [Op.equalIn,run_underlying h]
 have ec:a.eval (.const .nilIface)=.nilIface:=rfl
 simp [binOp,h,ec]
theorem Yld.inenil1 {ms:Array (String × TypeId)} {y u:Value} {tx:TypeId} (h:P.underlying t=some (.interface ms)) (hx:opv L x=some (.iface tx u)) (hy:y=.nilIface):Yld P N w ⟨dd,.binOp .neq t x (.const y) t',ty,pos,af,none⟩ L (.bool true):=fun a w1 _ ha=>by
 subst hy
 refine kz (ha.ev hx) rfl ?_ ?_
 ·unfold eqGuard; cases x <;> rfl
 have h:(Op.equal t (.iface tx u) .nilIface).run P w1=.ok false w1:=jX fun d=>by
  simp [Op.equalIn,run_underlying h]
 have ec:a.eval (.const .nilIface)=.nilIface:=rfl
 simp [binOp,h,ec]
theorem qq {ms:Array (String × TypeId)} {v:Value} {e:Er} (h:P.underlying t=some (.interface ms)) (hE:ErrR S w0 v e) (hx:opv L x=some v):Yld P N w ⟨dd,.binOp .eql t x (.const .nilIface) t',ty,pos,af,none⟩ L (.bool (decide (e=.ok))):=by
 cases e with
 | ok=>rw [show v=.nilIface from hE] at hx; exact Yld.ieqnil0 h hx rfl
 | e n=>obtain ⟨a,rfl⟩:=ErV.iface hE.1; exact Yld.ieqnil1 h hx rfl
 | at_ p n=>obtain ⟨b,u,rfl,_⟩:=hE; exact Yld.ieqnil1 h hx rfl
theorem qj {ms:Array (String × TypeId)} {v:Value} {e:Er} (h:P.underlying t=some (.interface ms)) (hE:ErrR S w0 v e) (hx:opv L x=some v):Yld P N w ⟨dd,.binOp .neq t x (.const .nilIface) t',ty,pos,af,none⟩ L (.bool (!decide (e=.ok))):=by
 cases e with
 | ok=>rw [show v=.nilIface from hE] at hx; exact Yld.inenil0 h hx rfl
 | e n=>obtain ⟨a,rfl⟩:=ErV.iface hE.1; exact Yld.inenil1 h hx rfl
 | at_ p n=>obtain ⟨b,u,rfl,_⟩:=hE; exact Yld.inenil1 h hx rfl
end
section
variable {P:Program} {N:Nat} {L:jj} {w w0:World} {ty:TypeId} {pos:String} {af:Array Edge} {dd:Option Tmp} {t t' ta e0:TypeId} {x y:Operand}
theorem Yld.assertNo {v:Value} {er:Er} (hu:P.underlying ta=some (.pointer e0)) (hz:∀ w,(zeroValue ta).run P w=.ok (.pointer none) w) (hE:ErrR S w0 v er) (hx:opv L x=some v) (h1:Nat.beq 230 ta=false) (h2:Nat.beq 194 ta=false∨∀ p n,er≠.at_ p n) :
  Yld P N w ⟨dd,.typeAssert x t ta true,ty,pos,af,none⟩ L (.tuple #[.pointer none,.bool false]):=fun a w1 _ ha=>by
 have hx':=ha.ev hx
 have n1:¬ (230:Nat)=ta:=Nat.ne_of_beq_eq_false h1
 cases er with
 | ok =>
  obtain rfl:v=.nilIface:=hE
  simp [execOp,Instr.typeAssert,run_underlying hu,hx',hz]
 | e n =>
  obtain ⟨a',rfl⟩:=ErV.iface hE.1
  simp [execOp,Instr.typeAssert,run_underlying hu,hx',hz,n1]
 | at_ p n =>
  obtain ⟨b,u,rfl,_⟩:=hE
  rcases h2 with h2 | h2
  ·have n2:¬ (194:Nat)=ta:=Nat.ne_of_beq_eq_false h2
   simp [execOp,Instr.typeAssert,run_underlying hu,hx',hz,n2]
  ·exact absurd rfl (h2 p n)
theorem Yld.assertYes {v u:Value} (hu:P.underlying ta=some (.pointer e0)) (hx:opv L x=some v) (hv:v=.iface ta u) :
  Yld P N w ⟨dd,.typeAssert x t ta true,ty,pos,af,none⟩ L (.tuple #[u,.bool true]):=fun a w1 _ ha=>by
 have hx':=ha.ev hx
 subst hv
 simp [execOp,Instr.typeAssert,run_underlying hu,hx']
theorem Er.atCases (e:Er):(∃ p n,e=.at_ p n)∨∀ p n,e≠.at_ p n:=by
 cases e with
 | at_ p n=>exact .inl ⟨p,n,rfl⟩
 | ok=>right; intro p n h; cases h
 | e k=>right; intro p n h; cases h
theorem ErrR.atOut {v:Value} {p:Int} {n:Nat} (h:ErrR S w v (.at_ p n)):∃ b u,v=.iface 194 (.pointer (some ⟨b,0,none⟩))/\Bl w b 198 [.int .i64 p,u]/\ErrR S w u (.e n):=by
 obtain ⟨b,u,h1,h2,h3,h4⟩:=h
 exact ⟨b,u,h1,h2,h3,h4⟩
theorem Yld.erreq2 {ms:Array (String × TypeId)} {ii ij:TypeInfo} {u v:Value} {d e:Er} (h:P.underlying t=some (.interface ms)) (hp:P.underlying 230=some (.pointer e0)) (hinfo:P.info? 230=some ii) (hcomp:ii.comparable=true) (hte:P.info? e0=some ij) (hsz:ij.size≠0)
  (hD:ErrR S w u d) (hE:ErrR S w v e) (hx:opv L x=some u) (hy:opv L y=some v)
  (h0:¬ (d=.ok/\e=.ok)) (h1:(∀ p n,d≠.at_ p n)∨∀ p n,e≠.at_ p n):Yld P N w ⟨dd,.binOp .eql t x y t',ty,pos,af,none⟩ L (.bool (decide (d=e))):=by
 have key:∀ b,(u≠.nilIface∨v≠.nilIface)->((∃ t1 u1,u=.iface t1 u1)∨u=.nilIface)->((∃ t1 u1,v=.iface t1 u1)∨v=.nilIface)->(∀ w1,Eqv w w1->(binOp .eql t u v).run P w1=.ok (.bool b) w1)->Yld P N w ⟨dd,.binOp .eql t x y t',ty,pos,af,none⟩ L (.bool b):=fun b hn hu hv hb=>fun a w1 hw ha=>by
  refine kz (ha.ev hx) (ha.ev hy) ?_ (hb w1 hw)
  unfold eqGuard
  rcases hu with ⟨t1,u1,rfl⟩ | rfl <;> rcases hv with ⟨t2,u2,rfl⟩ | rfl <;> first | rfl | simp at hn
 have nl:∀ tp q w1,(binOp .eql t .nilIface (.iface tp q)).run P w1=.ok (.bool false) w1:=fun tp q w1=>run_eql_iface_nil_left w1 tp q h
 have nr:∀ tp q w1,(binOp .eql t (.iface tp q) .nilIface).run P w1=.ok (.bool false) w1:=fun tp q w1=>by
  have h2:(Op.equal t (.iface tp q) .nilIface).run P w1=.ok false w1:=jX fun d=>by simp [Op.equalIn,run_underlying h]
  simp [binOp,h2]
 have ne:∀ tp q tp' q' w1,tp≠tp'->(binOp .eql t (.iface tp q) (.iface tp' q')).run P w1=.ok (.bool false) w1:=fun tp q tp' q' w1 hne=>by
  have h2:(Op.equal t (.iface tp q) (.iface tp' q')).run P w1=.ok false w1:=jX fun d=>by simp [Op.equalIn,run_underlying h,hne]
  simp [binOp,h2]
 have tne:(230:Nat)≠194:=by decide
 cases d with
 | ok =>
  obtain rfl:u=.nilIface:=hD
  cases e with
  | ok=>exact absurd ⟨rfl,rfl⟩ h0
  | e n=>obtain ⟨a,rfl⟩:=ErV.iface hE.1; exact key false (by simp) (by simp) (by simp) fun w1 _=>nl _ _ w1
  | at_ p n=>obtain ⟨b,u,rfl,_⟩:=hE; exact key false (by simp) (by simp) (by simp) fun w1 _=>nl _ _ w1
 | e m =>
  cases e with
  | ok=>obtain ⟨a,rfl⟩:=ErV.iface hD.1; obtain rfl:v=.nilIface:=hE; exact key false (by simp) (by simp) (by simp) fun w1 _=>nr _ _ w1
  | e n =>
   have hD':=hD.1
   have hE':=hE.1
   obtain ⟨g,tx,a,k1,k2,k3,rfl,k5,c,e',k6⟩:=hD.1
   obtain ⟨g',tx',a',l1,l2,l3,rfl,l5,c',e'',l6⟩:=hE.1
   by_cases haa:a=a'
   ·subst haa
    have hmn:m=n:=ErV.inj hD' hE'
    subst hmn
    rw [decide_eq_true rfl]
    exact key true (by simp) (by simp) (by simp) fun w1 hw=>run_eql_iface_ptr_same w1 a h hp hinfo hcomp hte
   ·have hmn:¬ (Er.e m=Er.e n):=fun hh=>by
     cases hh
     have:=ErV.uniq hD' hE'
     simp only [Value.iface.injEq,true_and,Value.pointer.injEq,Option.some.injEq] at this
     exact haa this
    rw [decide_eq_false hmn]
    exact key false (by simp) (by simp) (by simp) fun w1 hw=>run_eql_iface_ptr_other w1 h hp hinfo hcomp hte hsz haa (by rw [hw.heap]; exact k6) (by rw [hw.heap]; exact l6)
  | at_ p n=>obtain ⟨a,rfl⟩:=ErV.iface hD.1; obtain ⟨b,u,rfl,_⟩:=hE; exact key false (by simp) (by simp) (by simp) fun w1 _=>ne _ _ _ _ w1 tne
 | at_ p m =>
  obtain ⟨b,u',rfl,_⟩:=hD
  cases e with
  | ok=>obtain rfl:v=.nilIface:=hE; exact key false (by simp) (by simp) (by simp) fun w1 _=>nr _ _ w1
  | e n=>obtain ⟨a,rfl⟩:=ErV.iface hE.1; exact key false (by simp) (by simp) (by simp) fun w1 _=>ne _ _ _ _ w1 tne.symm
  | at_ p' n=>rcases h1 with h1 | h1 <;> exact absurd rfl (h1 _ _)
end
theorem GOK.get {w:World} (h:GOK S w) (n g:Nat) (hS:n∈S) (hl:Nat.blt n 17=true) (hg:eglob[n]? = some (some g)):∃ v,w.cell? ⟨g,0,none⟩=some v/\ErrR S w v (.e n):=by
 obtain ⟨v,hv⟩:=h.er n hS (by simpa [Nat.blt_eq] using hl)
 obtain ⟨g',t,a,h1,h2,h3,h4,h5⟩:=id hv
 have e1:=Option.some.inj (Option.some.inj (h1.symm.trans hg))
 subst e1
 exact ⟨v,h3,hv,hS⟩
theorem ErrR.cell {w:World} {v:Value} {n g:Nat} (h:ErrR S w v (.e n)) (hg:eglob[n]? = some (some g)):w.cell? ⟨g,0,none⟩=some v:=by
 obtain ⟨⟨g',t,a,h1,h2,h3,h4,h5⟩,_⟩:=h
 have e1:=Option.some.inj (Option.some.inj (h1.symm.trans hg))
 subst e1
 exact h3
theorem esCmp:(Tryz.prog.info? 230).map (·.comparable)=some true:=by kernel_rfl
theorem esSz:(Tryz.prog.info? 246).map (fun i=>Nat.beq i.size 0)=some false:=by kernel_rfl
theorem Yld.erreqA {N:Nat} {L:jj} {w:World} {ty:TypeId} {pos:String} {af:Array Edge} {dd:Option Tmp} {t':TypeId} {x y:Operand} {u v:Value} {d e:Er} (hD:ErrR S w u d) (hE:ErrR S w v e)
  (h0:¬ (d=.ok/\e=.ok)/\((∀ p n,d≠.at_ p n)∨∀ p n,e≠.at_ p n)) (hx:opv L x=some u) (hy:opv L y=some v):Yld Tryz.prog N w ⟨dd,.binOp .eql 26 x y t',ty,pos,af,none⟩ L (.bool (decide (d=e))):=by
 have h1:=esCmp
 have h2:=esSz
 rw [Option.map_eq_some_iff] at h1 h2
 obtain ⟨i,h1,h3⟩:=h1
 obtain ⟨j,h2,h4⟩:=h2
 exact Yld.erreq2 Tryz.underlying26 Tryz.underlying230 h1 h3 h2 (Nat.ne_of_beq_eq_false h4) hD hE hx hy h0.1 h0.2
end
 
section
open Go Go.RowKit
section
variable {α:Type} {k:Nat} {f:α->List Value}
theorem OneK.fidx (h:OneK k f):∀ (xs:List α) (p:Nat) (u:Value),(xs.flatMap f)[p]? = some u->∃ j x i,p=j*k+i/\xs[j]? = some x/\(f x)[i]? = some u
 | [],p,u,hu=>by simp at hu
 | x :: xs,p,u,hu=>by
  rw [List.flatMap_cons] at hu
  by_cases hp:p<k
  ·rw [List.getElem?_append_left (by rw [h.len]; exact hp)] at hu
   exact ⟨0,x,p,by omega,rfl,hu⟩
  ·rw [List.getElem?_append_right (by rw [h.len]; omega),h.len] at hu
   obtain ⟨j,y,i,h1,h2,h3⟩:=h.fidx xs _ u hu
   exact ⟨j+1,y,i,by rw [Nat.add_mul]; omega,by simpa using h2,h3⟩
def partsA (L:jj):Nat->List (Nat × Operand)->Option (List (List Value))
 | _,[]=>some []
 | j,(i,x) :: r=>bif Nat.beq i j then (match opv L x,partsA L (j+1) r with
  | some (.agg ⟨vs⟩),some us=>some (vs :: us)
  | _,_=>none) else none
theorem fill_partsA {N:Nat} {L:jj} {a:Act} (ha:Has N L a) (k:Nat):∀ (ps:List (Nat × Operand)) (j:Nat) (vs:List (List Value)) (done:List Value) (cells:Array Value),partsA L j ps=some vs->(∀ u∈vs,u.length=k)->done.length=j*k->cells.toList.take (j*k)=done->cells.size=(j+vs.length)*k ->
  Instr.fill (fun i=>some (i*k,k)) cells (ps.map fun p=>(p.1,a.eval p.2))=some ⟨done++vs.flatten⟩
 | [],j,vs,done,cells,hp,_,hdl,ht,hs=>by
  simp only [partsA,Option.some.injEq] at hp
  subst hp
  simp only [List.map_nil,Instr.fill,List.flatten_nil,List.append_nil]
  congr 1
  apply Array.ext'
  rw [<-ht,List.take_of_length_le (by simp at hs |-; omega)]
 | (i,x) :: ps,j,vs,done,cells,hp,h1,hdl,ht,hs=>by
  simp only [partsA] at hp
  cases hij:Nat.beq i j with
  | false=>simp [hij] at hp
  | true =>
   have:=Nat.eq_of_beq_eq_true hij
   subst this
   simp only [hij,cond_true] at hp
   split at hp
   ·rename_i v us hv hus
    simp only [Option.some.injEq] at hp
    subst hp
    have hvk:v.length=k:=h1 v (by simp)
    have hcs:(Value.agg ⟨v⟩).cells=⟨v⟩:=rfl
    simp only [List.length_cons] at hs
    have hs2:cells.size=i*k+k+us.length*k:=by rw [hs,Nat.add_mul,Nat.add_mul]; omega
    simp only [List.map_cons,Instr.fill,ha.ev hv,hcs]
    have h5:((⟨v⟩:Array Value).zipIdx.foldl (fun cs (x:Value × Nat)=>match x with | (c,j)=>cs.setIfInBounds (i*k+j) c) cells).toList=splice cells.toList (i*k) v:=by
     have h3:=foldl_splice v 0 cells (i*k) (by omega)
     rw [Nat.add_zero] at h3
     have h4:((⟨v⟩:Array Value).zipIdx.foldl (fun (cs:Array Value) (x:Value × Nat)=>cs.setIfInBounds (i*k+x.2) x.1) cells).toList=splice cells.toList (i*k) v:=by
      rw [<-h3,<-Array.foldl_toList]
      simp
     exact h4
    generalize hq:(⟨v⟩:Array Value).zipIdx.foldl (fun cs (x:Value × Nat)=>match x with | (c,j)=>cs.setIfInBounds (i*k+j) c) cells=q at h5
    rw [if_neg (by simp [hvk]; omega)]
    have hql:q.size=cells.size:=by
     have:=congrArg List.length h5
     rw [splice_length _ _ _ (by simp; omega)] at this
     simpa using this
    have:=fill_partsA ha k ps (i+1) us (done++v) q hus (fun u hu=>h1 u (by simp [hu])) (by rw [List.length_append,hdl,hvk,Nat.add_mul]; omega) (by
     rw [h5,Nat.add_mul,Nat.one_mul]
     unfold splice
     rw [ht,List.take_left' (by rw [List.length_append,hdl,hvk])]) (by rw [hql,hs2,Nat.add_mul,Nat.add_mul]; omega)
    rw [this]
    simp
   ·cases hp
theorem flatten_map (f:α->List Value):∀ xs:List α,(xs.map f).flatten=xs.flatMap f
 | []=>rfl
 | x :: xs=>by simp [List.flatMap_cons,flatten_map f xs]
end
section rules
variable {P:Program} {T:Tab} {N:Nat} {ops:Array Oper} {Q:Post} {L:jj} {w:World} {rest:List Oper} {d:Nat} {ty:TypeId} {pos:String} {af:Array Edge} {t t':TypeId} {x y:Operand} {kk kk':IntKind}
variable {α:Type} {k:Nat} {f:α->List Value} {A:Option Addr} {c n B:Nat} {xs ys:List α} {e:TypeId}
theorem Eff.litK {b m:Nat} {ps:List (Nat × Operand)} (hf:OneK k f) (hs:ckOwK P t e k b=true) (hp:partsA L 0 ps=some (xs.map f)) (hm:xs.length=m) (hm2:Nat.ble (m*k) 16777216=true) :
  Eff P N w ⟨some d,.buildSlice t m ⟨ps⟩,ty,pos,af,none⟩ L (fun v w'=>v=.slice (some ⟨w.heap.size,0,none⟩) m m/\Bl w' w.heap.size e (xs.flatMap f)/\w.grownBy w' none):=fun a w1 hw ha=>by
  have hs1:w1.heap.size=w.heap.size:=by rw [hw.heap]
  have hm2:m*k<=16777216:=by simpa using hm2
  obtain ⟨hu,j,z,hj,hz,hj1,_,hz1⟩:=ckOwK_spec hs
  refine ⟨_,w1.alloc (.cells ⟨xs.flatMap f⟩ e),?_,rfl,newBlock w1 hw _ e⟩
  have hne:¬ (m*k > 2 ^ 24):=by omega
  have hmap:((⟨ps⟩:Array (Nat × Operand)).map fun p=>(p.1,a.eval p.2)).toList=ps.map fun p=>(p.1,a.eval p.2):=by simp
  have hfill:∀ cells:Array Value,cells.size=m*k->Instr.fill (fun i=>some (i*k,k)) cells (ps.map fun p=>(p.1,a.eval p.2))=some ⟨xs.flatMap f⟩:=fun cells hc=>by
   have:=fill_partsA ha k ps 0 (xs.map f) [] cells hp (fun u hu=>by
    obtain ⟨y,_,rfl⟩:=List.mem_map.1 hu
    exact hf.len y) (by simp) (by simp) (by rw [hc,List.length_map,hm,Nat.zero_add])
   rw [this,flatten_map]
   rfl
  have hzr:(zeroValue e).run P w1=.ok z w1:=by simp [zeroValue,typeInfo,hj,hz]
  unfold execOp
  simp only [Instr.buildSlice,Sem.run_bind,run_underlying hu,Result.andThen_ok,sizeOf,typeInfo,program,Sem.run,hj,hj1,hne,if_false,Sem.run_pure,hmap]
  by_cases hm0:m*k=0
  ·simp only [hm0,if_true,Sem.run_bind,Sem.run_pure,Result.andThen_ok]
   rw [hfill _ (by simp [hm0])]
   simp only [newRow,newObj,Sem.run_bind,Sem.run_pure]
   rw [<-hs1]; rfl
  ·rw [if_neg hm0]
   simp only [Sem.run_bind,hzr,Result.andThen_ok,Sem.run_pure]
   rw [hfill _ (by simp)]
   simp only [newRow,newObj,Sem.run_bind,Sem.run_pure]
   rw [<-hs1]; rfl
theorem qO {b m:Nat} {ps:List (Nat × Operand)} (xs:List α) (hf:OneK k f) (hd:Nat.blt d N=true) (hs:ckOwK P t e k b=true) (hp:partsA L 0 ps=some (xs.map f)) (hm:xs.length=m) (hm2:Nat.ble (m*k) 16777216=true)
  (hk:∀ g w',Bl w' g e (xs.flatMap f)->w.grownBy w' none->w.heap.size<=g->WL P N ops Q rest ((d,.slice (some ⟨g,0,none⟩) m m) :: L) w') :
  WL P N ops Q (⟨some d,.buildSlice t m ⟨ps⟩,ty,pos,af,none⟩ :: rest) L w :=
 WL.put (R:=fun v w'=>v=.slice (some ⟨w.heap.size,0,none⟩) m m/\Bl w' w.heap.size e (xs.flatMap f)/\w.grownBy w' none) hd (Eff.litK hf hs hp hm hm2) (fun v w' ⟨hv,hb,hg⟩=>by subst hv; exact hk _ _ hb hg (Nat.le_refl _))
theorem run_append_own_srcK {w1:World} {tx:TypeId} {v:Value} {b m:Nat} {ys:List α} (hs:ckOwK P t e k b=true) (hO:OwnK k f w1 B e A c xs) (hS:Src P k tx v m (ys.flatMap f) w1) (hm:m=ys.length) (hl:(xs.length+ys.length)*b<=140737488355328) (h63:xs.length+ys.length<=maxLen) (hB:B<=w1.heap.size) (ty:TypeId) :
  ∃ A' c' w',(Builtin.append_ #[t,tx] ty #[.slice A xs.length c,v]).run P w1=.ok (.slice A' (xs++ys).length c') w'/\OwnK k f w' B e A' c' (xs++ys)/\w1.grownBy w' (blk A)/\(∀ g,blk A'=some g->blk A=some g∨w1.heap.size<=g):=by
 obtain ⟨hu,i,z,hi,hz,hi1,hib,hz1⟩:=ckOwK_spec hs
 subst hib
 subst hm
 have h63':((xs.length+ys.length:Nat):Int)<=9223372036854775807:=by simp only [maxLen] at h63; omega
 have hf:=hO.1
 have hfx:=hf.flen xs
 have hfy:=hf.flen ys
 have hge:=grownCap_ge w1 (xs.length+ys.length) c e
 have hcm:=grownCap_le_maxLen w1 (xs.length+ys.length) c e (by omega)
 have grow:c<xs.length+ys.length->∃ A' c' w',(Builtin.append_ #[t,tx] ty #[.slice A xs.length c,v]).run P w1=.ok (.slice A' (xs++ys).length c') w'/\OwnK k f w' B e A' c' (xs++ys)/\w1.grownBy w' (blk A)/\(∀ g,blk A'=some g->blk A=some g∨w1.heap.size<=g):=by
  intro hlt
  have hold:(Builtin.firstCells i.size xs.length (.slice A xs.length c)).run P w1.drew=.ok ((xs.flatMap f).toArray) w1.drew:=by
   rw [hi1]
   rcases hO.2.2 with ⟨hv,hn⟩ | ⟨g,cap,cur,hv,hb,hg,hnc,hcm',hcs,htake⟩
   ·simp only [Value.slice.injEq] at hv
    obtain ⟨rfl,_,rfl⟩:=hv
    have:xs=[]:=List.eq_nil_of_length_eq_zero hn
    subst this
    exact run_firstCells_none w1.drew k 0 0 0
   ·simp only [Value.slice.injEq] at hv
    obtain ⟨rfl,_,rfl⟩:=hv
    exact run_firstCells_some w1.drew k xs.length ⟨g,0,none⟩ xs.length c (xs.flatMap f) hfx (fun j u hj=>hO.2.cells (g:=g) rfl j u hj)
  have hr:=run_append_grow_src (P:=P) w1 t tx ty e i z hu hi hz A xs.length c (xs.flatMap f) hold v ys.length (ys.flatMap f) (by rw [hi1]; exact hS) hlt h63' (growslice_fits hlt hl)
  refine ⟨_,_,_,by rw [hr,List.length_append],⟨hf,?_⟩,?_,?_⟩
  ·refine ⟨hf.flen _,.inr ⟨w1.heap.size,_,_,by rw [List.length_append],hB,heap_alloc_new w1.drew _,by rw [List.length_append]; exact hge,hcm,?_,?_⟩⟩
   ·have:(grownCap w1 (xs.length+ys.length) c e)*k=xs.length*k+ys.length*k+(grownCap w1 (xs.length+ys.length) c e - (xs.length+ys.length))*k:=by
     rw [<-Nat.add_mul,<-Nat.add_mul]
     congr 1
     omega
    simp only [Array.size_append,List.size_toArray,List.length_append,size_zeroCells,hz1,hfx,hfy]
    omega
   ·rw [hf.flen (xs++ys) |>.symm]
    simp only [Array.toList_append,List.flatMap_append]
    rw [List.take_left' (by simp)]
  ·exact ⟨rfl,rfl,rfl,by simp,fun k hk _=>heap_alloc_old w1.drew _ hk⟩
  ·intro g hg
   simp only [blk,Option.map_some,Option.some.injEq] at hg
   exact .inr (by omega)
 by_cases hroom:xs.length+ys.length<=c
 ·rcases hO.2.2 with ⟨hv,hn⟩ | ⟨g,cap,cur,hv,hb,hg,hnc,hcm',hcs,htake⟩
  ·simp only [Value.slice.injEq] at hv
   obtain ⟨rfl,_,rfl⟩:=hv
   have hx0:xs=[]:=List.eq_nil_of_length_eq_zero hn
   have hy0:ys=[]:=List.eq_nil_of_length_eq_zero (by omega)
   subst hx0; subst hy0
   refine ⟨none,0,w1,?_,OwnK.nil hf w1 B e,jr _ _,fun g hg=>by simp [blk] at hg⟩
   have:=hS.cells
   rcases hS.kind with ⟨e',hk⟩ | hk <;> simp [Builtin.append_,run_underlying hu,run_underlying hk,sizeOf,typeInfo,hi,hi1,hS.len] <;> simp at this <;> simp [this]
  ·simp only [Value.slice.injEq] at hv
   obtain ⟨rfl,_,rfl⟩:=hv
   have hB1:Bl w1 g e cur.toList:=hg
   have hcl:cur.toList.length=c*k:=by simpa using hcs
   have hxk:xs.length*k+ys.length*k<=c*k:=by rw [<-Nat.add_mul]; exact Nat.mul_le_mul_right k hroom
   have hr:=run_append_room_src (P:=P) w1 t tx ty e i hu hi g 0 xs.length c v ys.length (ys.flatMap f) (by rw [hi1]; exact hS) hroom (fun j hj=>by
    rw [hi1,hB1.cell]
    rw [List.getElem?_eq_getElem (by omega)]
    rfl) (fun j _=>hB1.frozen _)
   have hst:=run_storeCells_at P g (xs.length*k) e (ys.flatMap f) 0 cur w1 hg (by simp at hcl; omega) hS.one
   have hst2:=run_storeCells_cells (P:=P) g (xs.length*k) (ys.flatMap f) 0 w1 (fun j hj=>by
    rw [hB1.cell]
    rw [List.getElem?_eq_getElem (by omega)]
    rfl) (fun j _=>hB1.frozen _) hS.one
   have hw:w1.setCells g (0+xs.length*i.size) (ys.flatMap f)=w1.setRow g (List.take (xs.length*k+0) cur.toList++ys.flatMap f++List.drop (xs.length*k+0+(ys.flatMap f).length) cur.toList).toArray:=by
    rw [hst] at hst2
    injection hst2 with _ h2
    rw [hi1,Nat.zero_add]
    exact h2.symm
   rw [hw] at hr
   refine ⟨_,_,_,by rw [hr,List.length_append],⟨hf,?_⟩,?_,fun g' hg'=>.inl hg'⟩
   ·refine ⟨hf.flen _,.inr ⟨g,c,_,by rw [List.length_append],hb,setRow_heap w1 g cur _ e _ hg,by rw [List.length_append]; exact hroom,hcm',?_,?_⟩⟩
    ·simp only [List.size_toArray,List.length_append,List.length_take,List.length_drop,hcl,hfy]
     omega
    ·rw [hf.flen (xs++ys) |>.symm]
     simp only [Nat.add_zero,htake,List.flatMap_append]
     rw [List.take_left' (by simp)]
   ·exact ⟨rfl,rfl,rfl,by simp,fun k _ hk=>setRow_other w1 g k _ (fun e=>hk (by simp [blk,e]))⟩
 ·exact grow (by omega)
theorem src_rdK {w1:World} {A2:Option Addr} {c2:Nat} {ys:List α} {e':TypeId} (hu:P.underlying t=some (.slice e')) (hR:RdK k f w1 A2 c2 ys):Src P k t (.slice A2 ys.length c2) ys.length (ys.flatMap f) w1:=by
 by_cases hy:ys=[]
 ·subst hy
  cases A2 with
  | none=>exact Src.ofNil w1 hu c2
  | some ad=>exact Src.ofSlice w1 hu ad 0 c2 [] (by simp) (by simp) (by simp)
 ·obtain ⟨g,o,rfl,hc⟩:=hR.cells hy
  exact Src.ofSlice w1 hu ⟨g,o,none⟩ ys.length c2 (ys.flatMap f) (hR.ok.flen ys) (fun p u hp=>by
   obtain ⟨j,x,i,rfl,hx,hi⟩:=hR.ok.fidx ys p u hp
   rw [Addr.add_mid]
   exact hc j x i u hx hi) hR.ok.mem
theorem qJ {A2:Option Addr} {c2 n2:Nat} {ys:List α} {b:Nat} (hs:ckOwK P t e k b=true) (hO:OwnK k f w B e A c xs) (hx:opv L x=some (.slice A n c)) (hn:n=xs.length) (hR:RdK k f w A2 c2 ys) (hy:opv L y=some (.slice A2 n2 c2)) (hn2:n2=ys.length) (hl:(xs.length+ys.length)*b<=140737488355328) (h63:xs.length+ys.length<=maxLen) (hB:B<=w.heap.size) :
  Eff P N w ⟨some d,.call ⟨.builtin .append,⟨[x,y]⟩,⟨[t,t]⟩⟩,ty,pos,af,none⟩ L (fun v w'=>∃ A' c',v=.slice A' (xs++ys).length c'/\OwnK k f w' B e A' c' (xs++ys)/\w.grownBy w' (blk A)/\(∀ g,blk A'=some g->blk A=some g∨w.heap.size<=g)):=fun a w1 hw ha=>by
  obtain ⟨hu,_⟩:=ckOwK_spec hs
  subst hn; subst hn2
  have hs1:w1.heap.size=w.heap.size:=by rw [hw.heap]
  obtain ⟨A',c',w',hr,h1,h2,h3⟩:=run_append_own_srcK (P:=P) (ty:=ty) hs (hO.eqv hw) (src_rdK hu (hR.eqv hw)) rfl hl h63 (by omega)
  refine ⟨_,w',?_,A',c',rfl,h1,kh hw h2,fun g hg=>by rw [<-hs1]; exact h3 g hg⟩
  unfold execOp
  simp [resolve,invoke,builtin,ha.ev hx,ha.ev hy,hr]
theorem qL {A2:Option Addr} {c2 n2:Nat} {ys:List α} {b:Nat} (hd:Nat.blt d N=true) (hs:ckOwK P t e k b=true) (hO:OwnK k f w B e A c xs) (hx:opv L x=some (.slice A n c)) (hn:n=xs.length) (hR:RdK k f w A2 c2 ys) (hy:opv L y=some (.slice A2 n2 c2)) (hn2:n2=ys.length)
  (hl:(xs.length+ys.length)*b<=140737488355328) (h63:xs.length+ys.length<=maxLen) (hB:B<=w.heap.size)
  (hk:∀ A' c' w',OwnK k f w' B e A' c' (xs++ys)->w.grownBy w' (blk A)->(∀ g,blk A'=some g->blk A=some g∨w.heap.size<=g)->WL P N ops Q rest ((d,.slice A' (xs++ys).length c') :: L) w') :
  WL P N ops Q (⟨some d,.call ⟨.builtin .append,⟨[x,y]⟩,⟨[t,t]⟩⟩,ty,pos,af,none⟩ :: rest) L w :=
 WL.put (R:=fun v w'=>∃ A' c',v=.slice A' (xs++ys).length c'/\OwnK k f w' B e A' c' (xs++ys)/\w.grownBy w' (blk A)/\(∀ g,blk A'=some g->blk A=some g∨w.heap.size<=g)) hd (qJ hs hO hx hn hR hy hn2 hl h63 hB) (fun v w' ⟨A',c',hv,h1,h2,h3⟩=>by subst hv; exact hk A' c' w' h1 h2 h3)
theorem Eff.makeCK {q:Int} {b:Nat} (hf:OneK k f) (hs:ckOwK P t e k b=true) (hx:opv L x=some (.int kk 0)) (hy:opv L y=some (.int kk' q)) (h0:0<=q) (hm:q*(b:Int)<=140737488355328) (h63:q<=140737488355328) (hB:B<=w.heap.size) :
  Eff P N w ⟨some d,.makeSlice t x y,ty,pos,af,none⟩ L (fun v w'=>v=.slice (some ⟨w.heap.size,0,none⟩) 0 q.toNat/\OwnK k f w' B e (some ⟨w.heap.size,0,none⟩) q.toNat ([]:List α)/\w.grownBy w' none):=fun a w1 hw ha=>by
  obtain ⟨hu,i,z0,hi,hz0,hi1,hib,hz1⟩:=ckOwK_spec hs
  have hs1:w1.heap.size=w.heap.size:=by rw [hw.heap]
  obtain ⟨m,rfl⟩:=Int.eq_ofNat_of_zero_le h0
  have hmb:m*b<=140737488355328:=by
   have:((m*b:Nat):Int)<=140737488355328:=by rw [Int.natCast_mul]; exact hm
   omega
  obtain ⟨w',hr,hO,hg⟩:=run_make_own (P:=P) w1 B t e i z0 k hu hi hz0 hi1 kk kk' m (by rw [hib,Nat.mul_comm]; omega) (by simp only [maxLen]; omega) (by omega)
  simp only [Int.toNat_natCast]
  refine ⟨_,w',?_,by rw [<-hs1],⟨hf,?_⟩,kh hw hg⟩
  ·unfold execOp
   simp only [ha.ev hx,ha.ev hy,Sem.run_bind,hr,Result.andThen_ok,Sem.run_pure]
  ·rw [<-hs1]
   exact hO
theorem WL.makeCK {q:Int} {b:Nat} (hf:OneK k f) (hd:Nat.blt d N=true) (hs:ckOwK P t e k b=true) (hx:opv L x=some (.int kk 0)) (hy:opv L y=some (.int kk' q)) (h0:0<=q) (hm:q*(b:Int)<=140737488355328) (h63:q<=140737488355328) (hB:B<=w.heap.size)
  (hk:∀ g w',OwnK k f w' B e (some ⟨g,0,none⟩) q.toNat ([]:List α)->w.grownBy w' none->w.heap.size<=g->WL P N ops Q rest ((d,.slice (some ⟨g,0,none⟩) 0 q.toNat) :: L) w') :
  WL P N ops Q (⟨some d,.makeSlice t x y,ty,pos,af,none⟩ :: rest) L w :=
 WL.put (R:=fun v w'=>v=.slice (some ⟨w.heap.size,0,none⟩) 0 q.toNat/\OwnK k f w' B e (some ⟨w.heap.size,0,none⟩) q.toNat ([]:List α)/\w.grownBy w' none) hd (fun a w1 hw ha=>by
  obtain ⟨hu,i,z0,hi,hz0,hi1,hib,hz1⟩:=ckOwK_spec hs
  have hs1:w1.heap.size=w.heap.size:=by rw [hw.heap]
  obtain ⟨m,rfl⟩:=Int.eq_ofNat_of_zero_le h0
  have hmb:m*b<=140737488355328:=by
   have:((m*b:Nat):Int)<=140737488355328:=by rw [Int.natCast_mul]; exact hm
   omega
  obtain ⟨w',hr,hO,hg⟩:=run_make_own (P:=P) w1 B t e i z0 k hu hi hz0 hi1 kk kk' m (by rw [hib,Nat.mul_comm]; omega) (by simp only [maxLen]; omega) (by omega)
  simp only [Int.toNat_natCast]
  refine ⟨_,w',?_,by rw [<-hs1],⟨hf,?_⟩,kh hw hg⟩
  ·unfold execOp
   simp only [ha.ev hx,ha.ev hy,Sem.run_bind,hr,Result.andThen_ok,Sem.run_pure]
  ·rw [<-hs1]
   exact hO) (fun v w' ⟨hv,h1,h2⟩=>by subst hv; exact hk _ w' h1 h2 (Nat.le_refl _))
end rules
def a32 (x:List UInt8):List Value:=[vb (x.getD 0 0),vb (x.getD 1 0),vb (x.getD 2 0),vb (x.getD 3 0),vb (x.getD 4 0),vb (x.getD 5 0),vb (x.getD 6 0),vb (x.getD 7 0),vb (x.getD 8 0),vb (x.getD 9 0),vb (x.getD 10 0),vb (x.getD 11 0),vb (x.getD 12 0),vb (x.getD 13 0),vb (x.getD 14 0),vb (x.getD 15 0),vb (x.getD 16 0),vb (x.getD 17 0),vb (x.getD 18 0),vb (x.getD 19 0),vb (x.getD 20 0),vb (x.getD 21 0),vb (x.getD 22 0),vb (x.getD 23 0),vb (x.getD 24 0),vb (x.getD 25 0),vb (x.getD 26 0),vb (x.getD 27 0),vb (x.getD 28 0),vb (x.getD 29 0),vb (x.getD 30 0),vb (x.getD 31 0)]
theorem a32_range (x:List UInt8):a32 x=(List.range 32).map fun i=>vb (x.getD i 0):=rfl
theorem a32_get (x:List UInt8) (i:Nat) (h:i<32):(a32 x)[i]? = some (vb (x.getD i 0)):=by
 rw [a32_range]; simp [h]
theorem a32_len (x:List UInt8):(a32 x).length=32:=rfl
theorem jq (x:List UInt8):∀ u∈a32 x,u.oneCell'=true:=fun u hu=>by
 rw [a32_range] at hu
 obtain ⟨i,_,rfl⟩:=List.mem_map.1 hu
 rfl
theorem a32_map (x:List UInt8) (h:x.length=32):a32 x=x.map vb:=by
 apply List.ext_getElem?
 intro i
 by_cases hi:i<32
 ·rw [a32_get x i hi]; simp [List.getD,h,hi]
 ·rw [List.getElem?_eq_none (by rw [a32_len]; omega),List.getElem?_eq_none (by simp; omega)]
theorem a32_set (x:List UInt8) (i:Nat) (b:UInt8) (hx:x.length=32):(a32 x).set i (vb b)=a32 (x.set i b):=by
 rw [a32_map x hx,a32_map _ (by simp [hx]),List.map_set]
theorem lt32 {i:Int} (h:0<=i/\i<32):i.toNat<32:=by omega
theorem a32_getO (x:List UInt8) (i:Nat) (h:i<32):(a32 x)[0+i*1]? = some (vb (x.getD i 0)):=by rw [Nat.zero_add,Nat.mul_one]; exact a32_get x i h
theorem a32_setO {x:List UInt8} {i:Nat} {b:UInt8} (hx:x.length=32):(a32 x).set (0+i*1) (vb b)=a32 (x.set i b):=by rw [Nat.zero_add,Nat.mul_one]; exact a32_set x i b hx
theorem a32_lt {x:List UInt8} {i:Nat} (h:i<32):0+i*1<(a32 x).length:=by rw [a32_len]; omega
theorem kc:List.replicate 32 (.int .u8 0)=a32 (List.replicate 32 0):=by rw [a32_map _ (by simp),List.map_replicate]; rfl
theorem all1a {ao bs:List Value} (h:∀ u∈ao,u.oneCell'=true) (k:∀ u∈bs,u.oneCell'=true):∀ u∈ao++bs,u.oneCell'=true:=fun u hu=>(List.mem_append.1 hu).elim (h u) (k u)
theorem a32_inj {x y:List UInt8} (hx:x.length=32) (hy:y.length=32) (h:a32 x=a32 y):x=y:=by
 rw [a32_map x hx,a32_map y hy] at h
 have:Function.Injective vb:=fun p q hpq=>by
  unfold vb at hpq
  injection hpq with _ h1
  exact UInt8.toNat_inj.1 (by omega)
 exact (List.map_inj_right this).1 h
section
variable {P:Program} {T:Tab} {N:Nat} {ops:Array Oper} {Q:Post} {L:jj} {w:World} {rest:List Oper} {d:Nat} {ty:TypeId} {pos:String} {af:Array Edge} {t:TypeId} {x y:Operand} {k k':IntKind} {α:Type} {f:α->Value} {B:Nat} {e:TypeId}
theorem qQ {op:Op} {gd:Option (Nat × Bool)} {R:Value->World->Prop} (hg:Wants N ops L gd) (hd:Nat.blt d N=true) (hr:Eff P N w ⟨some d,op,ty,pos,af,none⟩ L R)
  (hk:∀ v w',R v w'->WL P N ops Q rest ((d,v) :: L) w'):WL P N ops Q (⟨some d,op,ty,pos,af,gd⟩ :: rest) L w:=fun a w1 e ha =>
 wpList_step fun K hK=>by
  rw [if_pos (Wants.wanted (o:=⟨some d,op,ty,pos,af,gd⟩) hg ha)]
  obtain ⟨v,w',h,hR⟩:=hr a w1 e ha
  have h':(execOp a.eval ⟨some d,op,ty,pos,af,gd⟩).run P w1=.ok (.value v) w':=h
  unfold Oper.wp
  rw [h']
  exact hK _ _ (hk v w' hR _ w' (Eqv.refl _) (ha.put hd v))
theorem Ge.app {p p':Option Nat} {n m:Nat} (h:Ge p n) (k:∀ g,p'=some g->p=some g∨m<=g) (hm:n<=m):Ge p' n:=fun g hg=>(k g hg).elim (h g) (Nat.le_trans hm)
theorem Eff.makeZI {q:Int} {z:α} {b:Nat} (hT:T.Ok P) (hs:nk T.ow t=some (e,b)) (hz:jM P e=some [f z]) (hx:opv L x=some (.int k q)) (hy:opv L y=some (.int k' q)) (h0:0<=q) (hm:q*(b:Int)<=140737488355328) (h63:q<=140737488355328) (hB:B<=w.heap.size) :
  Eff P N w ⟨some d,.makeSlice t x y,ty,pos,af,none⟩ L (fun v w'=>v=.slice (some ⟨w.heap.size,0,none⟩) q.toNat q.toNat/\Own f w' B e (some ⟨w.heap.size,0,none⟩) q.toNat (List.replicate q.toNat z)/\w.grownBy w' none):=by
 have e1:((q.toNat:Nat):Int)=q:=Int.toNat_of_nonneg h0
 have e2:q.toNat*b<=140737488355328:=by
  have:((q.toNat*b:Nat):Int)<=140737488355328:=by rw [Int.natCast_mul,e1]; exact hm
  omega
 exact Eff.makeZ hT hs hz (by rw [e1]; exact hx) (by rw [e1]; exact hy) e2 (by omega) hB
theorem Eff.makeCI {q:Int} {b:Nat} (hT:T.Ok P) (hs:nk T.ow t=some (e,b)) (hx:opv L x=some (.int k 0)) (hy:opv L y=some (.int k' q)) (h0:0<=q) (hm:q*(b:Int)<=140737488355328) (h63:q<=140737488355328) (hB:B<=w.heap.size) :
  Eff P N w ⟨some d,.makeSlice t x y,ty,pos,af,none⟩ L (fun v w'=>v=.slice (some ⟨w.heap.size,0,none⟩) 0 q.toNat/\Own f w' B e (some ⟨w.heap.size,0,none⟩) q.toNat []/\w.grownBy w' none):=fun a w1 hw ha=>by
 obtain ⟨m,rfl⟩:=Int.eq_ofNat_of_zero_le h0
 have e2:m*b<=140737488355328:=by
  have:((m*b:Nat):Int)<=140737488355328:=by rw [Int.natCast_mul]; exact hm
  omega
 simp only [Int.toNat_natCast]
 obtain ⟨hu,i,z0,hi,hz0,hi1,hib,hz1⟩:=hT.ow hs
 have hs1:w1.heap.size=w.heap.size:=by rw [hw.heap]
 obtain ⟨w',hr,hO,hg⟩:=run_make_own (P:=P) w1 B t e i z0 1 hu hi hz0 hi1 k k' m (by rw [hib,Nat.mul_comm]; omega) (by simp only [maxLen]; omega) (by omega)
 refine ⟨_,w',?_,by rw [<-hs1],?_,kh hw hg⟩
 ·unfold execOp
  simp only [ha.ev hx,ha.ev hy,Sem.run_bind,hr,Result.andThen_ok,Sem.run_pure]
 ·unfold Own
  rw [<-hs1]
  simpa using hO
end
theorem Rd.take {α:Type} {f:α->Value} {w:World} {A:Option Addr} {c:Nat} {xs:List α} (h:Rd f w A c xs) (m:Nat):Rd f w A c (xs.take m) :=
 ⟨by have:=h.cap; simp; omega,h.max,fun hx=>by
  obtain ⟨ad,e,hc⟩:=h.cells (fun e=>hx (by rw [e]; simp))
  refine ⟨ad,e,fun j x hj=>hc j x ?_⟩
  rw [List.getElem?_take] at hj
  split at hj
  ·exact hj
  ·cases hj⟩
theorem Rd.cut2 {α:Type} {f:α->Value} {w:World} {A:Option Addr} {c n:Nat} {xs:List α} {l m:Int} (h:Rd f w A c xs) (hn:n=xs.length) (h0:0<=l) (h1:l<=m) (h2:m<=(n:Int)):Rd f w (if c=l.toNat then A else A.map (·.add l.toNat)) (c - l.toNat) ((xs.drop l.toNat).take (m.toNat - l.toNat)):=h.cut (by omega) (by omega)
theorem eqvL {a b c:World} (h:a=b) (e:Eqv b c):Eqv a c:=by rw [h]; exact e
section
variable {P:Program} {T:Tab} {N:Nat} {ops:Array Oper} {Q:Post} {L:jj} {w:World} {rest:List Oper} {d:Nat} {ty:TypeId} {pos:String} {af:Array Edge}
theorem Yld.mkf {dd:Option Tmp} {f:FuncId} {cs:List Operand} {vs:List Value} (hv:opvs L cs=some vs):Yld P N w ⟨dd,.makeFunc (.func f) ⟨[]⟩ ⟨cs⟩,ty,pos,af,none⟩ L (.func (.func f) #[] ⟨vs⟩):=fun a w1 _ ha=>by
 have hm:(⟨cs⟩:Array Operand).map a.eval=⟨vs⟩:=by rw [<-ha.evs hv]; simp
 unfold execOp
 simp only [Instr.makeFunc,hm,Sem.run_bind,Sem.run_pure,Result.andThen_ok]
 simp
end
end
 
section
open Go Go.RowKit
section
variable {N:Nat} {ops:Array Oper} {Q:Post} {L:jj} {w:World} {rest:List Oper} {d:Nat} {ty:TypeId} {pos:String} {af:Array Edge} {op:Op} {v:Value}
theorem yp (a:Nat.blt d N=true:=by exact rfl) (b:pv tab L op=some v:=by exact rfl) (h:WL Tryz.prog N ops Q rest ((d,v) :: L) w):WL Tryz.prog N ops Q (⟨some d,op,ty,pos,af,none⟩ :: rest) L w:=zg a (zc qY b) h
theorem gp {j d':Nat} {t e:Bool} (o:e=t) (a:Nat.blt d N=true:=by exact rfl) (p:(ops[j]?).bind (·.dst)=some d':=by exact rfl) (q:Nat.blt d' N=true:=by exact rfl) (r:lk L d'=some (.bool e):=by exact rfl) (b:pv tab L op=some v:=by exact rfl) (h:WL Tryz.prog N ops Q rest ((d,v) :: L) w):WL Tryz.prog N ops Q (⟨some d,op,ty,pos,af,some (j,t)⟩ :: rest) L w:=ze p q (r.trans (okb o)) a (zc qY b) h
theorem gn {j d':Nat} {t e:Bool} (o:e = !t) (a:Nat.blt d N=true:=by exact rfl) (p:(ops[j]?).bind (·.dst)=some d':=by exact rfl) (q:Nat.blt d' N=true:=by exact rfl) (r:lk L d'=some (.bool e):=by exact rfl) (h:WL Tryz.prog N ops Q rest ((d,undef) :: L) w):WL Tryz.prog N ops Q (⟨some d,op,ty,pos,af,some (j,t)⟩ :: rest) L w:=zV p q (r.trans (okb o)) a h
theorem wk {P:Program} {l:List Oper} {L':jj} (h:WL P N ops Q l L' w) (hs:Sub L L':=by repeat (first | exact qb | refine Sub.cons rfl ?_)):WL P N ops Q l L w:=WL.weaken hs h
theorem sb {L L':jj} (h:Sub L L':=by repeat (first | exact qb | refine Sub.cons rfl ?_)):Sub L L':=h
end
end
 end Go.Proofs.YtafpeckmdjplnaaGreatDoor
