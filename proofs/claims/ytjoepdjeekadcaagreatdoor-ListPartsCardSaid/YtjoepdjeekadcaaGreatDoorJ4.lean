/- Texts of this claim, joined by a program: Lq, GSa, Sent, GSb, Lw, Enc, EncD, GLv, See, LsC, LsD, Rv, GRa, Rx, GIt, LsP, NumF, Li, Ins. -/
import Derived.Test.YtjoepdjeekadcaaGreatDoorJ3
import Derived.Lib.Overlaps
import Derived.Lib.AppendZerosOnto
import Derived.Laws.IdiomCopy
import Derived.ArgAppend
import Derived.Lib.SliceRun
namespace Go.Proofs.YtjoepdjeekadcaaGreatDoor

section
open Go Go.RowKit
theorem txt_len {z:Int} (h : -100000000<z/\z<100000000):(txt z).length<=9:=by
 have:=dd_len 8 z.natAbs (by omega)
 unfold txt
 split
 ·simp
 ·split <;> simp <;> omega
theorem full_M {p:List UInt8} {K:Bool->Prop} (hp:p.length<65536) (h:K false):q8 p K:=by
 intro _
 rw [decide_eq_false (by omega)]; exact h
theorem put_M {p t:List UInt8} {K:List UInt8->Prop} (hp:p.length+t.length<=65536) (h:K (p++t)):qL p [t] K:=by
 intro _ _
 refine ⟨fun i q=>(i=0/\q=p)∨(i=1/\q=p++t),fun i _=>(1 - i).toNat,.inl ⟨rfl,rfl⟩,?_⟩
 rintro i q (⟨rfl,rfl⟩ | ⟨rfl,rfl⟩)
 ·have e:(if (65536:Int) - (q.length:Int)<(t.length:Int) then (65536:Int) - (q.length:Int) else (t.length:Int)).toNat=t.length:=by
   split <;> omega
  refine ⟨fun _=>⟨by simp,by simp only [In]; omega,?_,?_,by simp only [In]; omega,?_,by dsimp only; omega⟩,fun hn=>absurd (by simp) hn⟩
  ·simp only [Int.toNat_zero,List.getD_cons_zero]; split <;> omega
  ·simp only [Int.toNat_zero,List.getD_cons_zero,e,List.take_length]; omega
  ·simp only [Int.toNat_zero,List.getD_cons_zero,e,List.take_length]
   exact .inr ⟨by omega,by first | rfl | trivial⟩
 ·exact ⟨fun hl=>absurd hl (by simp),fun _=>h⟩
theorem text_M {z:Int} {K:List UInt8->Prop} (h:K (txt z)):M_num_Num_Text z 3 K:=⟨by decide,h⟩
theorem vrepr_int {z:Int} {K:List UInt8->Prop} (hp:(txt z).length<=65000) (h:K (txt z)):M_val_Repr (.int z) K:=by
 intro _
 refine full_M (by decide) ⟨fun e=>(by cases e),fun _=>⟨fun e=>(by cases e),fun z' e=>?_,fun e=>absurd rfl (e z)⟩⟩
 cases e
 exact text_M (put_M (by simp; omega) h)
theorem getD_get' {α:Type} {l:List α} {i:Nat} {d:α} (h:i<l.length):l.getD i d=l[i]:=by simp [List.getD,h]
def PlainC (c:UInt8):Prop:=34<c.toNat/\c.toNat<127/\c.toNat≠92
def quoT (s:List UInt8):List UInt8:=[34]++s++[34]
theorem quote_M {s:List UInt8} {K:List UInt8->Prop} (hs:∀ c∈s,PlainC c) (hl:s.length<=1000) (h:K (quoT s)):M_lex_Quote s K:=by
 refine ⟨fun b i=>0<=i/\i<=s.length/\b=[34]++s.take i.toNat,fun _ i=>((s.length:Int) - i).toNat,⟨by omega,by omega,by simp⟩,?_⟩
 rintro b i ⟨h0,h1,rfl⟩
 refine ⟨fun hi=>?_,fun hi=>?_⟩
 ·have hlt:i.toNat<s.length:=by omega
  obtain ⟨c1,c2,c3⟩:=hs s[i.toNat] (List.getElem_mem hlt)
  have e1:s.getD i.toNat 0=s[i.toNat]:=getD_get' hlt
  have e2:s.take (i+1).toNat=s.take i.toNat++[s[i.toNat]]:=by
   rw [show (i+1).toNat=i.toNat+1 by omega,List.take_add_one,List.getElem?_eq_getElem hlt]; rfl
  rw [e1]
  refine ⟨fun q=>q=[34]++s.take i.toNat++[s[i.toNat]],⟨⟨h0,by omega⟩,fun e=>absurd e (by omega),fun _=>⟨fun e=>absurd e (by omega),fun _=>⟨fun e=>?_,fun _=>⟨fun e=>?_,fun _=>⟨by simp; omega,rfl⟩⟩⟩⟩⟩,?_⟩
  ·simp only [Bool.or_eq_true,decide_eq_true_eq] at e; omega
  ·simp only [Bool.or_eq_true,decide_eq_true_eq] at e; omega
  ·rintro _ rfl
   exact ⟨by simp only [In]; omega,⟨by omega,by omega,by rw [e2,List.append_assoc]⟩,by first | omega | (dsimp only; omega)⟩
 ·have:s.take i.toNat=s:=List.take_of_length_le (by omega)
  rw [this]
  exact ⟨by simp; omega,h⟩
def comG {α:Type} (f:α->List UInt8):List α->List UInt8
 | []=>[]
 | [x]=>f x
 | x :: y :: l=>f x++[44,32]++comG f (y :: l)
theorem comG_push {α:Type} (f:α->List UInt8):∀ (l:List α) (z:α),comG f (l++[z])=comG f l++(if l=[] then [] else [44,32])++f z
 | [],z=>by simp [comG]
 | [y],z=>by simp [comG]
 | y :: x :: l,z=>by
  have:=comG_push f (x :: l) z
  rw [List.cons_append,List.cons_append,comG,<-List.cons_append,this,comG]
  simp
theorem comG_len {α:Type} {f:α->List UInt8} {b:Nat}:∀ {l:List α},(∀ z∈l,(f z).length<=b)->(comG f l).length<=(b+2)*l.length
 | [],_=>by simp [comG]
 | [z],h=>by have:=h z (by simp); simp [comG]; omega
 | z :: y :: l,h=>by
  have h1:=comG_len (l:=y :: l) fun x hx=>h x (List.mem_cons_of_mem _ hx)
  have h2:=h z (by simp)
  rw [comG]
  simp only [List.length_append,List.length_cons,List.length_nil] at h1 |-
  rw [show (b+2)*(l.length+1+1)=(b+2)*(l.length+1)+(b+2) by rw [Nat.mul_add (b+2) (l.length+1) 1,Nat.mul_one]]
  omega
def repA:PA->List UInt8
 | .int z=>txt z
 | .str s=>quoT s
def OkA:PA->Prop
 | .int z => -100000000<z/\z<100000000
 | .str s=>(∀ c∈s,PlainC c)/\s.length<=10
theorem repA_len {x:PA} (h:OkA x):(repA x).length<=12:=by
 cases x with
 | int z=>have:=txt_len h; simp only [repA]; omega
 | str s=>have:=h.2; simp [repA,quoT]; omega
theorem reprA_M {p:List UInt8} {x:PA} {deep:Int} {K:List UInt8->Prop} (hx:OkA x) (hp:p.length<=64000) (h:K (p++repA x)):jV p x.v deep K:=by
 have hl:=repA_len hx
 intro _
 refine full_M (by omega) ⟨fun e=>(by cases e),fun _=>?_⟩
 cases x with
 | int z =>
  refine ⟨fun e=>(by cases e),fun z' e=>?_,fun e=>absurd rfl (e z)⟩
  cases e
  exact text_M (put_M (by simp only [repA] at hl; omega) h)
 | str s =>
  refine ⟨fun e=>(by cases e),fun z' e=>(by cases e),fun _=>⟨fun s' e=>?_,fun e=>absurd rfl (e s)⟩⟩
  cases e
  exact quote_M hx.1 (by have:=hx.2; omega) (put_M (by simp only [repA] at hl; omega) h)
theorem itemsA_M {p:List UInt8} {l:List PA} {deep:Int} {K:List UInt8->Prop} (hl:l.length<=2000) (hp:p.length<=10000) (ht:∀ z∈l,OkA z) (h:K (p++comG repA l)):js p (l.map PA.v) deep K:=by
 intro _ _
 refine ⟨fun i q=>0<=i/\i<=l.length/\q=p++comG repA (l.take i.toNat),fun i _=>((l.length:Int) - i).toNat,⟨by omega,by omega,by simp [comG]⟩,?_⟩
 rintro i q ⟨h0,h1,rfl⟩
 have hc:=comG_len (f:=repA) (b:=12) (l:=l.take i.toNat) fun z hz=>repA_len (ht z (List.mem_of_mem_take hz))
 have hcl:(l.take i.toNat).length<=2000:=by rw [List.length_take]; omega
 rw [List.length_map]
 refine ⟨fun hi=>⟨⟨h0,by omega⟩,full_M (by simp; omega) ⟨fun e=>(by cases e),fun _=>?_⟩⟩,fun hi=>?_⟩
 ·have hlt:i.toNat<l.length:=by omega
  have e1:(l.map PA.v).getD i.toNat PV.nil=l[i.toNat].v:=by rw [getD_get' (by simpa using hlt)]; simp
  have e2:l.take (i+1).toNat=l.take i.toNat++[l[i.toNat]]:=by
   rw [show (i+1).toNat=i.toNat+1 by omega,List.take_add_one,List.getElem?_eq_getElem hlt]; rfl
  refine ⟨fun q=>q=p++(comG repA (l.take i.toNat)++(if l.take i.toNat=[] then [] else [44,32])),⟨fun hpos=>?_,fun hn=>?_⟩,?_⟩
  ·refine put_M (by simp; omega) ?_
   have:l.take i.toNat≠[]:=by
    intro e
    have:=congrArg List.length e
    rw [List.length_take,List.length_nil] at this
    omega
   rw [if_neg this,List.append_assoc]
  ·have e0:i=0:=by omega
   subst e0
   simp
  ·rintro _ rfl
   rw [e1]
   refine reprA_M (ht _ (List.getElem_mem hlt)) ?_ ⟨by simp only [In]; omega,⟨by omega,by omega,?_⟩,by dsimp only; omega⟩
   ·simp only [List.length_append]
    split <;> simp only [List.length_nil,List.length_cons] <;> omega
   ·rw [e2,comG_push]; simp
 ·have:l.take i.toNat=l:=List.take_of_length_le (by omega)
  rw [this]; exact h
def tupA (l:List PA):List UInt8:=[40]++comG repA l++(if l.length=1 then [44,41] else [41])
theorem partsA_M {p:List UInt8} {l:List PA} {deep:Int} {K:List UInt8->Prop} (hd:0<=deep/\deep<60) (hl:l.length<=50) (hp:p.length<=9000) (ht:∀ z∈l,OkA z) (h:K (p++tupA l)):jM p (.tup l) deep K:=by
 have hc:=comG_len (f:=repA) (b:=12) (l:=l) fun z hz=>repA_len (ht z hz)
 intro _
 refine ⟨fun e=>absurd e (by omega),fun _=>⟨fun e=>(by cases e),fun _=>⟨fun l' e=>?_,fun e=>absurd rfl (e l)⟩⟩⟩
 cases e
 refine put_M (by simp; omega) ⟨by simp only [In]; omega,itemsA_M (by omega) (by simp; omega) ht ?_⟩
 refine ⟨fun q=>q=p++[40]++comG repA l++(if l.length=1 then [44] else []),⟨fun e=>?_,fun e=>?_⟩,?_⟩
 ·rw [List.length_map] at e
  rw [if_pos (by omega)]
  exact put_M (by simp; omega) rfl
 ·rw [List.length_map] at e
  rw [if_neg (by omega),List.append_nil]
 ·rintro _ rfl
  refine put_M (by simp only [List.length_append]; split <;> simp <;> omega) ?_
  have:p++[40]++comG repA l++(if l.length=1 then [44] else [])++[41]=p++tupA l:=by
   unfold tupA
   split <;> simp
  rw [this]; exact h
def repV:PV->List UInt8
 | .int z=>txt z
 | .str s=>quoT s
 | .tup l=>tupA l
 | _=>[]
def OkI:PV->Prop
 | .int z=>OkA (.int z)
 | .str s=>OkA (.str s)
 | .tup l=>l.length=2/\∀ x∈l,OkA x
 | _=>False
theorem repV_len {x:PV} (h:OkI x):(repV x).length<=40:=by
 cases x with
 | int z=>have:=repA_len (x:=.int z) h; simp only [repA] at this; simp only [repV]; omega
 | str s=>have:=repA_len (x:=.str s) h; simp only [repA] at this; simp only [repV]; omega
 | tup l =>
  have hc:=comG_len (f:=repA) (b:=12) (l:=l) fun z hz=>repA_len (h.2 z hz)
  have:=h.1
  simp only [repV,tupA,List.length_append]
  split <;> simp <;> omega
 | nil=>exact h.elim
 | none=>exact h.elim
 | emp=>exact h.elim
theorem reprT_M {p:List UInt8} {x:PV} {deep:Int} {K:List UInt8->Prop} (hx:OkI x) (hd:0<=deep/\deep<60) (hp:p.length<=8000) (h:K (p++repV x)):jA p x deep K:=by
 have hl:=repV_len hx
 intro _
 refine full_M (by omega) ⟨fun e=>(by cases e),fun _=>?_⟩
 cases x with
 | int z =>
  refine ⟨fun e=>(by cases e),fun z' e=>?_,fun e=>absurd rfl (e z)⟩
  cases e
  exact text_M (put_M (by simp only [repV] at hl; omega) h)
 | str s =>
  refine ⟨fun e=>(by cases e),fun z' e=>(by cases e),fun _=>⟨fun s' e=>?_,fun e=>absurd rfl (e s)⟩⟩
  cases e
  exact quote_M hx.1 (by have:=hx.2; omega) (put_M (by simp only [repV] at hl; omega) h)
 | tup l=>exact ⟨fun e=>(by cases e),fun z' e=>(by cases e),fun _=>⟨fun s' e=>(by cases e),fun _=>partsA_M hd (by have:=hx.1; omega) (by omega) hx.2 h⟩⟩
 | nil=>exact hx.elim
 | none=>exact hx.elim
 | emp=>exact hx.elim
theorem itemsT_M {p:List UInt8} {l:List PV} {deep:Int} {K:List UInt8->Prop} (hd:0<=deep/\deep<60) (hl:l.length<=100) (hp:p.length<=1000) (ht:∀ z∈l,OkI z) (h:K (p++comG repV l)):jP p l deep K:=by
 intro _ _
 refine ⟨fun i q=>0<=i/\i<=l.length/\q=p++comG repV (l.take i.toNat),fun i _=>((l.length:Int) - i).toNat,⟨by omega,by omega,by simp [comG]⟩,?_⟩
 rintro i q ⟨h0,h1,rfl⟩
 have hc:=comG_len (f:=repV) (b:=40) (l:=l.take i.toNat) fun z hz=>repV_len (ht z (List.mem_of_mem_take hz))
 have hcl:(l.take i.toNat).length<=100:=by rw [List.length_take]; omega
 refine ⟨fun hi=>⟨⟨h0,by omega⟩,full_M (by simp; omega) ⟨fun e=>(by cases e),fun _=>?_⟩⟩,fun hi=>?_⟩
 ·have hlt:i.toNat<l.length:=by omega
  have e1:l.getD i.toNat PV.nil=l[i.toNat]:=getD_get' hlt
  have e2:l.take (i+1).toNat=l.take i.toNat++[l[i.toNat]]:=by
   rw [show (i+1).toNat=i.toNat+1 by omega,List.take_add_one,List.getElem?_eq_getElem hlt]; rfl
  refine ⟨fun q=>q=p++(comG repV (l.take i.toNat)++(if l.take i.toNat=[] then [] else [44,32])),⟨fun hpos=>?_,fun hn=>?_⟩,?_⟩
  ·refine put_M (by simp; omega) ?_
   have:l.take i.toNat≠[]:=by
    intro e
    have:=congrArg List.length e
    rw [List.length_take,List.length_nil] at this
    omega
   rw [if_neg this,List.append_assoc]
  ·have e0:i=0:=by omega
   subst e0
   simp
  ·rintro _ rfl
   rw [e1]
   refine reprT_M (ht _ (List.getElem_mem hlt)) hd ?_ ⟨by simp only [In]; omega,⟨by omega,by omega,?_⟩,by dsimp only; omega⟩
   ·simp only [List.length_append]
    split <;> simp only [List.length_nil,List.length_cons] <;> omega
   ·rw [e2,comG_push]; simp
 ·have:l.take i.toNat=l:=List.take_of_length_le (by omega)
  rw [this]; exact h
theorem txt_dig {d:Nat} (h0:0<d) (h1:d<10):txt (d:Int)=[UInt8.ofNat (48+d)]:=by
 unfold txt
 rw [if_neg (by omega),if_neg (by omega),Int.natAbs_natCast,dd_pos h0,show d / 10=0 by omega,dd_zero]
 simp only [dc,show d % 10=d by omega]
 rfl
end
 
section
open Go Go.RowKit
attribute [local irreducible] WL WC WX WQ WK WJ Yld Eff Ef0 Fn
def M_smithysee_Alike (a:Er) (b:Er) (K:Bool->Prop):Prop :=
 ((((decide (a=Er.ok)) || (decide (b=Er.ok)))=true->K ((decide (a=Er.ok)) && (decide (b=Er.ok)))) /\
 (((decide (a=Er.ok)) || (decide (b=Er.ok)))=false->(¬ (a=Er.ok/\b=Er.ok)/\((∀ p n,a≠Er.at_ p n)∨∀ p n,b≠Er.at_ p n)) /\
 K (decide (a=b))))
def jG (K:Int->Bool->Int->Bool->(List UInt8)->Prop):Prop :=
 K (0:Int) false (0:Int) false ([]:List UInt8)
def jp (code:Int) (K:Int->Bool->Int->Bool->(List UInt8)->Prop):Prop :=
 K code false (0:Int) false ([]:List UInt8)
def j5 (code:Int) (pos:Int) (K:Int->Bool->Int->Bool->(List UInt8)->Prop):Prop :=
 ((code=(0:Int)->jG (fun (a2:Int) (a0:Bool) (a4:Int) (a1:Bool) (a3:List UInt8) =>
 K a2 a0 a4 a1 a3)) /\
 (¬ (code=(0:Int))->K code true pos false ([]:List UInt8)))
def jK (a_Code:Int) (a_Placed:Bool) (a_Pos:Int) (a_Filed:Bool) (a_File:List UInt8) (b_Code:Int) (b_Placed:Bool) (b_Pos:Int) (b_Filed:Bool) (b_File:List UInt8) (K:Bool->Prop):Prop :=
 K (((((decide (a_Code=b_Code)) && (a_Placed == b_Placed)) && (decide (a_Pos=b_Pos))) && (a_Filed == b_Filed)) && (decide (a_File=b_File)))
set_option maxHeartbeats 8000000 in
theorem W_smithysee_Alike {S:List Nat} {w:World} {v_a:Value} {a:Er} {v_b:Value} {b:Er} {K:Bool->Prop} (ha:ErrR S w v_a a) (hb:ErrR S w v_b b) (H:M_smithysee_Alike a b K):Fn Tryz.prog 217 ⟨[v_a,v_b]⟩ w (fun v w'=>w=w'/\∃ (r:Bool),v=.bool r/\K r):=by
 unfold M_smithysee_Alike at H
 refine Fn.enter (by kernel_rfl) Tryz.func217 rfl Tryz.ntmps217 rfl ?_
 refine zd (zb (yp (h:=(ze (za (zd (zd (zb (yp (h:=(zf rfl (qi Tryz.underlying43 ha rfl) (yp (h:=(zX 3 (fun L' w'=>∃ q1:Bool,L'=[(10,.bool q1),(0,v_a),(1,v_b)]/\((decide (a=Er.ok)) || (decide (b=Er.ok)))=q1/\w=w') ?_ (fun hQ=>?_)))))))))))))))
 ·rintro _ _ ⟨q1,rfl,rfl,rfl⟩
  refine ze (za (zp rfl (fun b1=>?_) (fun b1=>?_)))
  ·replace H:=H.1 (b1)
   refine zd (zb (yp (h:=(zf rfl (qi Tryz.underlying43 ha rfl) (yp (h:=(zX 3 (fun L' w'=>∃ q2:Bool,L'=[(16,.bool q2)]/\((decide (a=Er.ok)) && (decide (b=Er.ok)))=q2/\w=w') ?_ (fun hQ=>?_))))))))
   ·rintro _ _ ⟨q2,rfl,rfl,rfl⟩
    exact yp (h:=(ze (za (zu (zi (zM rfl rfl ⟨rfl,(decide (a=Er.ok)) && (decide (b=Er.ok)),rfl,H⟩))))))
   ·clear H
    rcases Bool.eq_false_or_eq_true (decide (a=Er.ok)) with b2 | b2
    ·exact gp b2 (h:=(zc rfl rfl (okb b2) rfl (qi Tryz.underlying43 hb rfl) (zf rfl (zR (okb b2) rfl) (wk (hQ _ _ ⟨decide (b=Er.ok),rfl,by rw [b2] <;> rfl,rfl⟩)))))
    ·exact gn b2 (h:=(gn b2 (h:=(zf rfl (zO (okb b2) rfl) (wk (hQ _ _ ⟨false,rfl,by rw [b2] <;> rfl,rfl⟩))))))
  ·replace H:=H.2 (b1)
   refine zr (za (zd (zb (yp (h:=(yp (h:=?_)))))))
   obtain ⟨h1,H⟩:=H
   exact zf rfl (Yld.erreqA ha hb h1 rfl rfl) (yp (h:=(ze (za (zu (zM rfl rfl ⟨rfl,decide (a=b),rfl,H⟩))))))
 ·clear H
  rcases Bool.eq_false_or_eq_true (decide (a=Er.ok)) with b3 | b3
  ·exact gn b3 (h:=(gn b3 (h:=(zf rfl (zR (okb b3) rfl) (wk (hQ _ _ ⟨true,rfl,by rw [b3] <;> rfl,rfl⟩))))))
  ·exact gp b3 (h:=(zc rfl rfl (okb b3) rfl (qi Tryz.underlying43 hb rfl) (zf rfl (zO (okb b3) rfl) (wk (hQ _ _ ⟨decide (b=Er.ok),rfl,by rw [b3] <;> rfl,rfl⟩)))))
set_option maxHeartbeats 8000000 in
theorem W_smithyref_None {w:World} {K:Int->Bool->Int->Bool->(List UInt8)->Prop} (H:jG  K):Fn Tryz.prog 183 ⟨[]⟩ w (fun v w'=>w.grownBy w' none/\∃ (r_Code:Int),∃ (r_Placed:Bool),∃ (r_Pos:Int),∃ (r_Filed:Bool),∃ (r_File:List UInt8),v=.agg ⟨[.int .i64 r_Code,.bool r_Placed,.int .i64 r_Pos,.bool r_Filed,vs r_File]⟩/\K r_Code r_Placed r_Pos r_Filed r_File):=by
 unfold jG at H
 refine Fn.enter (by kernel_rfl) Tryz.func183 rfl Tryz.ntmps183 rfl ?_
 exact zd (zb (WL.alloc rfl zero142 (fun g1 w1 hB1 hg1 hl1=>ze (za (zd (zb (zf rfl (zU (us:=[.int .i64 (0:Int),.bool false,.int .i64 (0:Int),.bool false,vs ([]:List UInt8)]) zero142 places142 rfl rfl) (zS (vs:=[.int .i64 (0:Int),.bool false,.int .i64 (0:Int),.bool false,vs ([]:List UInt8)]) qB rfl rfl rfl (qF rfl (qF rfl (qF rfl (qF rfl (qF rfl qY))))) hB1 rfl rfl (fun w2 hB2 hg2=>ze (za (zu (qb qB rfl rfl rfl hB2 rfl ⟨(jk hg1 hg2 (Ge.le (Ge.box hl1) (Nat.le_refl _))),(0:Int),false,(0:Int),false,([]:List UInt8),rfl,H⟩))))))))))))
set_option maxHeartbeats 8000000 in
theorem W_smithyref_Bare {w:World} {code:Int} {K:Int->Bool->Int->Bool->(List UInt8)->Prop} (H:jp code K):Fn Tryz.prog 79 ⟨[.int .i64 code]⟩ w (fun v w'=>w.grownBy w' none/\∃ (r_Code:Int),∃ (r_Placed:Bool),∃ (r_Pos:Int),∃ (r_Filed:Bool),∃ (r_File:List UInt8),v=.agg ⟨[.int .i64 r_Code,.bool r_Placed,.int .i64 r_Pos,.bool r_Filed,vs r_File]⟩/\K r_Code r_Placed r_Pos r_Filed r_File):=by
 unfold jp at H
 refine Fn.enter (by kernel_rfl) Tryz.func79 rfl Tryz.ntmps79 rfl ?_
 exact zd (zb (WL.alloc rfl zero142 (fun g1 w1 hB1 hg1 hl1=>ze (za (zd (zb (yp (h:=(zf rfl (zU (us:=[.int .i64 code,.bool false,.int .i64 (0:Int),.bool false,vs ([]:List UInt8)]) zero142 places142 rfl rfl) (zS (vs:=[.int .i64 code,.bool false,.int .i64 (0:Int),.bool false,vs ([]:List UInt8)]) qB rfl rfl rfl (qF rfl (qF rfl (qF rfl (qF rfl (qF rfl qY))))) hB1 rfl rfl (fun w2 hB2 hg2=>ze (za (zu (qb qB rfl rfl rfl hB2 rfl ⟨(jk hg1 hg2 (Ge.le (Ge.box hl1) (Nat.le_refl _))),code,false,(0:Int),false,([]:List UInt8),rfl,H⟩))))))))))))))
set_option maxHeartbeats 8000000 in
theorem W_smithyref_Placed {w:World} {code:Int} {pos:Int} {K:Int->Bool->Int->Bool->(List UInt8)->Prop} (H:j5 code pos K):Fn Tryz.prog 203 ⟨[.int .i64 code,.int .i64 pos]⟩ w (fun v w'=>w.grownBy w' none/\∃ (r_Code:Int),∃ (r_Placed:Bool),∃ (r_Pos:Int),∃ (r_Filed:Bool),∃ (r_File:List UInt8),v=.agg ⟨[.int .i64 r_Code,.bool r_Placed,.int .i64 r_Pos,.bool r_Filed,vs r_File]⟩/\K r_Code r_Placed r_Pos r_Filed r_File):=by
 unfold j5 at H
 refine Fn.enter (by kernel_rfl) Tryz.func203 rfl Tryz.ntmps203 rfl ?_
 refine zd (zb (WL.alloc rfl zero142 (fun g1 w1 hB1 hg1 hl1=>?_)))
 have gr1:=hg1
 refine ze (za (zd (zd (zb (yp (h:=(yp (h:=(ze (za (zp rfl (fun b1=>?_) (fun b1=>?_))))))))))))
 ·replace H:=H.1 (of_decide_eq_true b1)
  refine zd (zb (zx rfl rfl (W_smithyref_None H) ?_))
  rintro _ w2 ⟨hg2,a2,a0,a4,a1,a3,rfl,H⟩
  exact zS (vs:=[.int .i64 a2,.bool a0,.int .i64 a4,.bool a1,vs a3]) qB rfl rfl rfl (qF rfl (qF rfl (qF rfl (qF rfl (qF rfl qY))))) (hB1.g0 hg2) rfl rfl (fun w3 hB2 hg3=>ze (za (zu (zi (qb qB rfl rfl rfl hB2 rfl ⟨(jk (qC gr1 hg2) hg3 (Ge.le (Ge.box hl1) (Nat.le_refl _))),a2,a0,a4,a1,a3,rfl,H⟩)))))
 ·replace H:=H.2 (of_decide_eq_false b1)
  exact zr (za (zd (zb (yp (h:=(yp (h:=(zf rfl (zU (us:=[.int .i64 code,.bool true,.int .i64 pos,.bool false,vs ([]:List UInt8)]) zero142 places142 rfl rfl) (zS (vs:=[.int .i64 code,.bool true,.int .i64 pos,.bool false,vs ([]:List UInt8)]) qB rfl rfl rfl (qF rfl (qF rfl (qF rfl (qF rfl (qF rfl qY))))) hB1 rfl rfl (fun w4 hB3 hg4=>ze (za (zu (qb qB rfl rfl rfl hB3 rfl ⟨(jk gr1 hg4 (Ge.le (Ge.box hl1) (Nat.le_refl _))),code,true,pos,false,([]:List UInt8),rfl,H⟩)))))))))))))
set_option maxHeartbeats 8000000 in
theorem W_smithyref_SameFault {w:World} {a_Code:Int} {a_Placed:Bool} {a_Pos:Int} {a_Filed:Bool} {a_File:List UInt8} {b_Code:Int} {b_Placed:Bool} {b_Pos:Int} {b_Filed:Bool} {b_File:List UInt8} {K:Bool->Prop} (H:jK a_Code a_Placed a_Pos a_Filed a_File b_Code b_Placed b_Pos b_Filed b_File K):Fn Tryz.prog 133 ⟨[.agg ⟨[.int .i64 a_Code,.bool a_Placed,.int .i64 a_Pos,.bool a_Filed,vs a_File]⟩,.agg ⟨[.int .i64 b_Code,.bool b_Placed,.int .i64 b_Pos,.bool b_Filed,vs b_File]⟩]⟩ w (fun v w'=>w.grownBy w' none/\∃ (r:Bool),v=.bool r/\K r):=by
 unfold jK at H
 refine Fn.enter (by kernel_rfl) Tryz.func133 rfl Tryz.ntmps133 rfl ?_
 refine zd (zb (qa (us:=[.int .i64 a_Code,.bool a_Placed,.int .i64 a_Pos,.bool a_Filed,vs a_File]) rfl rfl rfl (fun g1 w1 hB1 hg1 hl1=>qa (us:=[.int .i64 b_Code,.bool b_Placed,.int .i64 b_Pos,.bool b_Filed,vs b_File]) rfl rfl rfl (fun g2 w2 hB2 hg2 hl2=>?_))))
 have k1:=hB1.g0 hg2
 refine yp (h:=(ze (za (zd (zb (yp (h:=(zf rfl (zB qB k1 rfl rfl rfl) (yp (h:=(zf rfl (zB qB hB2 rfl rfl rfl) (yp (h:=(yp (h:=(zX 6 (fun L' w'=>∃ q1:Bool,L'=[(16,.bool q1),(2,.pointer (some ⟨g1,0,none⟩)),(3,.pointer (some ⟨g2,0,none⟩))]/\((decide (a_Code=b_Code)) && (a_Placed == b_Placed))=q1/\w2=w') ?_ (fun hQ=>?_)))))))))))))))))
 ·rintro _ _ ⟨q1,rfl,rfl,rfl⟩
  refine yp (h:=(zX 6 (fun L' w'=>∃ q2:Bool,L'=[(23,.bool q2),(2,.pointer (some ⟨g1,0,none⟩)),(3,.pointer (some ⟨g2,0,none⟩))]/\(((decide (a_Code=b_Code)) && (a_Placed == b_Placed)) && (decide (a_Pos=b_Pos)))=q2/\w2=w') ?_ (fun hQ=>?_)))
  ·rintro _ _ ⟨q2,rfl,rfl,rfl⟩
   refine yp (h:=(zX 6 (fun L' w'=>∃ q3:Bool,L'=[(30,.bool q3),(2,.pointer (some ⟨g1,0,none⟩)),(3,.pointer (some ⟨g2,0,none⟩))]/\((((decide (a_Code=b_Code)) && (a_Placed == b_Placed)) && (decide (a_Pos=b_Pos))) && (a_Filed == b_Filed))=q3/\w2=w') ?_ (fun hQ=>?_)))
   ·rintro _ _ ⟨q3,rfl,rfl,rfl⟩
    refine yp (h:=(zX 6 (fun L' w'=>∃ q4:Bool,L'=[(37,.bool q4)]/\(((((decide (a_Code=b_Code)) && (a_Placed == b_Placed)) && (decide (a_Pos=b_Pos))) && (a_Filed == b_Filed)) && (decide (a_File=b_File)))=q4/\w2=w') ?_ (fun hQ=>?_)))
    ·rintro _ _ ⟨q4,rfl,rfl,rfl⟩
     exact yp (h:=(ze (za (zu (zM rfl rfl ⟨(qC hg1 hg2),((((decide (a_Code=b_Code)) && (a_Placed == b_Placed)) && (decide (a_Pos=b_Pos))) && (a_Filed == b_Filed)) && (decide (a_File=b_File)),rfl,H⟩)))))
    ·clear H
     rcases Bool.eq_false_or_eq_true ((((decide (a_Code=b_Code)) && (a_Placed == b_Placed)) && (decide (a_Pos=b_Pos))) && (a_Filed == b_Filed)) with b1 | b1
     ·exact gp b1 (h:=(zc rfl rfl (okb b1) rfl (zB qB k1 rfl rfl rfl) (gp b1 (h:=(zc rfl rfl (okb b1) rfl (zB qB hB2 rfl rfl rfl) (gp b1 (h:=(zf rfl (zR (okb b1) rfl) (wk (hQ _ _ ⟨decide (a_File=b_File),rfl,by rw [b1] <;> rfl,rfl⟩))))))))))
     ·exact gn b1 (h:=(gn b1 (h:=(gn b1 (h:=(gn b1 (h:=(gn b1 (h:=(zf rfl (zO (okb b1) rfl) (wk (hQ _ _ ⟨false,rfl,by rw [b1] <;> rfl,rfl⟩))))))))))))
   ·clear H
    rcases Bool.eq_false_or_eq_true (((decide (a_Code=b_Code)) && (a_Placed == b_Placed)) && (decide (a_Pos=b_Pos))) with b2 | b2
    ·exact gp b2 (h:=(zc rfl rfl (okb b2) rfl (zB qB k1 rfl rfl rfl) (gp b2 (h:=(zc rfl rfl (okb b2) rfl (zB qB hB2 rfl rfl rfl) (zc rfl rfl (okb b2) rfl (Yld.beql Tryz.underlying4 rfl rfl) (zf rfl (zR (okb b2) rfl) (wk (hQ _ _ ⟨a_Filed == b_Filed,rfl,by rw [b2] <;> rfl,rfl⟩)))))))))
    ·exact gn b2 (h:=(gn b2 (h:=(gn b2 (h:=(gn b2 (h:=(gn b2 (h:=(zf rfl (zO (okb b2) rfl) (wk (hQ _ _ ⟨false,rfl,by rw [b2] <;> rfl,rfl⟩))))))))))))
  ·clear H
   rcases Bool.eq_false_or_eq_true ((decide (a_Code=b_Code)) && (a_Placed == b_Placed)) with b3 | b3
   ·exact gp b3 (h:=(zc rfl rfl (okb b3) rfl (zB qB k1 rfl rfl rfl) (gp b3 (h:=(zc rfl rfl (okb b3) rfl (zB qB hB2 rfl rfl rfl) (gp b3 (h:=(zf rfl (zR (okb b3) rfl) (wk (hQ _ _ ⟨decide (a_Pos=b_Pos),rfl,by rw [b3] <;> rfl,rfl⟩))))))))))
   ·exact gn b3 (h:=(gn b3 (h:=(gn b3 (h:=(gn b3 (h:=(gn b3 (h:=(zf rfl (zO (okb b3) rfl) (wk (hQ _ _ ⟨false,rfl,by rw [b3] <;> rfl,rfl⟩))))))))))))
 ·clear H
  rcases Bool.eq_false_or_eq_true (decide (a_Code=b_Code)) with b4 | b4
  ·exact gp b4 (h:=(zc rfl rfl (okb b4) rfl (zB qB k1 rfl rfl rfl) (gp b4 (h:=(zc rfl rfl (okb b4) rfl (zB qB hB2 rfl rfl rfl) (zc rfl rfl (okb b4) rfl (Yld.beql Tryz.underlying4 rfl rfl) (zf rfl (zR (okb b4) rfl) (wk (hQ _ _ ⟨a_Placed == b_Placed,rfl,by rw [b4] <;> rfl,rfl⟩)))))))))
  ·exact gn b4 (h:=(gn b4 (h:=(gn b4 (h:=(gn b4 (h:=(gn b4 (h:=(zf rfl (zO (okb b4) rfl) (wk (hQ _ _ ⟨false,rfl,by rw [b4] <;> rfl,rfl⟩))))))))))))
end
 
section
open Go Go.RowKit
attribute [local irreducible] WL WC WX WQ WK WJ Yld Eff Ef0 Fn
theorem Rd.ofBlV {w:World} {g m:Nat} {e:TypeId} {us:List Value} (h:Bl w g e us) (hm:us.length=m) (hx:m<=maxLen):Rd (fun v=>v) w (some ⟨g,0,none⟩) m us:=⟨by omega,hx,fun _=>⟨_,rfl,fun j x hj=>by
 have:=h.cell j
 rw [hj] at this
 cases j with
 | zero=>simpa [Addr.add] using this
 | succ j=>simpa [Addr.add] using this⟩⟩
def errsV (S:List Nat) (w:World) (us:List Value):Prop:=us.length=17/\∀ n,n<17->ErrR S w (us.getD n .nilIface) (.e n)
theorem sentinels_fn {S:List Nat} {w:World} (hG:GOK S w) (hS:∀ n,n<17->n∈S):Fn Tryz.prog 216 ⟨[]⟩ w fun v w'=>w.grownBy w' none/\∃ g us,v=.slice (some ⟨g,0,none⟩) 17 17/\Bl w' g 43 us/\errsV S w' us:=by
 refine Fn.enter (by kernel_rfl) Tryz.func216 rfl Tryz.ntmps216 rfl ?_
 obtain ⟨v0,hc0,hE0⟩:=hG.get 0 3 (hS 0 (by omega)) rfl rfl
 obtain ⟨v1,hc1,hE1⟩:=hG.get 1 4 (hS 1 (by omega)) rfl rfl
 obtain ⟨v2,hc2,hE2⟩:=hG.get 2 5 (hS 2 (by omega)) rfl rfl
 obtain ⟨v3,hc3,hE3⟩:=hG.get 3 0 (hS 3 (by omega)) rfl rfl
 obtain ⟨v4,hc4,hE4⟩:=hG.get 4 6 (hS 4 (by omega)) rfl rfl
 obtain ⟨v5,hc5,hE5⟩:=hG.get 5 7 (hS 5 (by omega)) rfl rfl
 obtain ⟨v6,hc6,hE6⟩:=hG.get 6 8 (hS 6 (by omega)) rfl rfl
 obtain ⟨v7,hc7,hE7⟩:=hG.get 7 1 (hS 7 (by omega)) rfl rfl
 obtain ⟨v8,hc8,hE8⟩:=hG.get 8 9 (hS 8 (by omega)) rfl rfl
 obtain ⟨v9,hc9,hE9⟩:=hG.get 9 10 (hS 9 (by omega)) rfl rfl
 obtain ⟨v10,hc10,hE10⟩:=hG.get 10 11 (hS 10 (by omega)) rfl rfl
 obtain ⟨v11,hc11,hE11⟩:=hG.get 11 12 (hS 11 (by omega)) rfl rfl
 obtain ⟨v12,hc12,hE12⟩:=hG.get 12 13 (hS 12 (by omega)) rfl rfl
 obtain ⟨v13,hc13,hE13⟩:=hG.get 13 14 (hS 13 (by omega)) rfl rfl
 obtain ⟨v14,hc14,hE14⟩:=hG.get 14 15 (hS 14 (by omega)) rfl rfl
 obtain ⟨v15,hc15,hE15⟩:=hG.get 15 16 (hS 15 (by omega)) rfl rfl
 obtain ⟨v16,hc16,hE16⟩:=hG.get 16 17 (hS 16 (by omega)) rfl rfl
 repeat (first | refine zf rfl (Yld.cell qB hc0 rfl rfl) ?_ | refine zf rfl (Yld.cell qB hc1 rfl rfl) ?_ | refine zf rfl (Yld.cell qB hc2 rfl rfl) ?_ | refine zf rfl (Yld.cell qB hc3 rfl rfl) ?_ | refine zf rfl (Yld.cell qB hc4 rfl rfl) ?_ | refine zf rfl (Yld.cell qB hc5 rfl rfl) ?_ | refine zf rfl (Yld.cell qB hc6 rfl rfl) ?_ | refine zf rfl (Yld.cell qB hc7 rfl rfl) ?_ | refine zf rfl (Yld.cell qB hc8 rfl rfl) ?_ | refine zf rfl (Yld.cell qB hc9 rfl rfl) ?_ | refine zf rfl (Yld.cell qB hc10 rfl rfl) ?_ | refine zf rfl (Yld.cell qB hc11 rfl rfl) ?_ | refine zf rfl (Yld.cell qB hc12 rfl rfl) ?_ | refine zf rfl (Yld.cell qB hc13 rfl rfl) ?_ | refine zf rfl (Yld.cell qB hc14 rfl rfl) ?_ | refine zf rfl (Yld.cell qB hc15 rfl rfl) ?_ | refine zf rfl (Yld.cell qB hc16 rfl rfl) ?_ | refine zd ?_ | refine WC.block ?_ | refine zb ?_ | refine ze ?_ | refine za ?_ | refine zr ?_ | refine zy ?_ | refine zu ?_ | refine zj ?_ | refine zi ?_ | refine zh ?_ | refine zl ?_ | refine zk ?_ | refine zn rfl ?_ | refine zz ?_ | refine zA ?_ | refine zm ?_ | refine zt ?_ | refine zq ?_ | refine zf rfl (Yld.add rfl rfl (by simp only [In]; omega)) ?_ | refine zf rfl (Yld.sub rfl rfl (by simp only [In]; omega)) ?_ | refine zf rfl (zH rfl rfl (by simp only [In]; omega)) ?_ | refine zf rfl (zv qB rfl rfl rfl rfl) ?_ | refine zf rfl (zw qB rfl rfl rfl (by simp only [In]; omega)) ?_ | refine zf rfl (zF rfl rfl (by omega) (by omega) (by simp only [In]; omega)) ?_ | refine zf rfl (zG rfl rfl (by omega) (by omega)) ?_ | refine zf rfl (zL rfl rfl (by omega)) ?_ | refine zf rfl (zJ rfl rfl (by omega)) ?_ | refine zf rfl (zg qB rfl) ?_ | refine zf rfl (zK qE rfl rfl rfl) ?_ | refine zf rfl (zE rfl rfl) ?_ | refine zf rfl (zD rfl rfl) ?_ | refine zf rfl (zo rfl rfl rfl) ?_ | refine zI rfl rfl rfl rfl ?_ | refine zc rfl rfl rfl rfl (Yld.add rfl rfl (by simp only [In]; omega)) ?_ | refine zc rfl rfl rfl rfl (Yld.sub rfl rfl (by simp only [In]; omega)) ?_ | refine zc rfl rfl rfl rfl (zH rfl rfl (by simp only [In]; omega)) ?_ | refine zc rfl rfl rfl rfl (zv qB rfl rfl rfl rfl) ?_ | refine zc rfl rfl rfl rfl (zw qB rfl rfl rfl (by simp only [In]; omega)) ?_ | refine zc rfl rfl rfl rfl (zF rfl rfl (by omega) (by omega) (by simp only [In]; omega)) ?_ | refine zc rfl rfl rfl rfl (zG rfl rfl (by omega) (by omega)) ?_ | refine zc rfl rfl rfl rfl (zL rfl rfl (by omega)) ?_ | refine zc rfl rfl rfl rfl (zJ rfl rfl (by omega)) ?_ | refine zc rfl rfl rfl rfl (zg qB rfl) ?_ | refine zc rfl rfl rfl rfl (zK qE rfl rfl rfl) ?_ | refine zc rfl rfl rfl rfl (zE rfl rfl) ?_ | refine zc rfl rfl rfl rfl (zD rfl rfl) ?_ | refine zc rfl rfl rfl rfl (zo rfl rfl rfl) ?_ | refine qq rfl rfl rfl rfl ?_)
 refine z6 qB rfl rfl rfl (qF (ErrR.one hE0) (qF (ErrR.one hE1) (qF (ErrR.one hE2) (qF (ErrR.one hE3) (qF (ErrR.one hE4) (qF (ErrR.one hE5) (qF (ErrR.one hE6) (qF (ErrR.one hE7) (qF (ErrR.one hE8) (qF (ErrR.one hE9) (qF (ErrR.one hE10) (qF (ErrR.one hE11) (qF (ErrR.one hE12) (qF (ErrR.one hE13) (qF (ErrR.one hE14) (qF (ErrR.one hE15) (qF (ErrR.one hE16) qY))))))))))))))))) rfl (by omega) (fun g w' hB hg hl=>?_)
 repeat (first | refine zd ?_ | refine WC.block ?_ | refine zb ?_ | refine ze ?_ | refine za ?_ | refine zr ?_ | refine zy ?_ | refine zu ?_ | refine zj ?_ | refine zi ?_ | refine zh ?_ | refine zl ?_ | refine zk ?_ | refine zn rfl ?_ | refine zz ?_ | refine zA ?_ | refine zm ?_ | refine zt ?_ | refine zq ?_ | refine zf rfl (Yld.add rfl rfl (by simp only [In]; omega)) ?_ | refine zf rfl (Yld.sub rfl rfl (by simp only [In]; omega)) ?_ | refine zf rfl (zH rfl rfl (by simp only [In]; omega)) ?_ | refine zf rfl (zv qB rfl rfl rfl rfl) ?_ | refine zf rfl (zw qB rfl rfl rfl (by simp only [In]; omega)) ?_ | refine zf rfl (zF rfl rfl (by omega) (by omega) (by simp only [In]; omega)) ?_ | refine zf rfl (zG rfl rfl (by omega) (by omega)) ?_ | refine zf rfl (zL rfl rfl (by omega)) ?_ | refine zf rfl (zJ rfl rfl (by omega)) ?_ | refine zf rfl (zg qB rfl) ?_ | refine zf rfl (zK qE rfl rfl rfl) ?_ | refine zf rfl (zE rfl rfl) ?_ | refine zf rfl (zD rfl rfl) ?_ | refine zf rfl (zo rfl rfl rfl) ?_ | refine zI rfl rfl rfl rfl ?_ | refine zc rfl rfl rfl rfl (Yld.add rfl rfl (by simp only [In]; omega)) ?_ | refine zc rfl rfl rfl rfl (Yld.sub rfl rfl (by simp only [In]; omega)) ?_ | refine zc rfl rfl rfl rfl (zH rfl rfl (by simp only [In]; omega)) ?_ | refine zc rfl rfl rfl rfl (zv qB rfl rfl rfl rfl) ?_ | refine zc rfl rfl rfl rfl (zw qB rfl rfl rfl (by simp only [In]; omega)) ?_ | refine zc rfl rfl rfl rfl (zF rfl rfl (by omega) (by omega) (by simp only [In]; omega)) ?_ | refine zc rfl rfl rfl rfl (zG rfl rfl (by omega) (by omega)) ?_ | refine zc rfl rfl rfl rfl (zL rfl rfl (by omega)) ?_ | refine zc rfl rfl rfl rfl (zJ rfl rfl (by omega)) ?_ | refine zc rfl rfl rfl rfl (zg qB rfl) ?_ | refine zc rfl rfl rfl rfl (zK qE rfl rfl rfl) ?_ | refine zc rfl rfl rfl rfl (zE rfl rfl) ?_ | refine zc rfl rfl rfl rfl (zD rfl rfl) ?_ | refine zc rfl rfl rfl rfl (zo rfl rfl rfl) ?_ | refine qq rfl rfl rfl rfl ?_)
 refine zM rfl rfl ⟨hg,g,_,rfl,hB,rfl,fun n hn=>?_⟩
 match n,hn with
 | 0,_=>exact hE0.grown hg
 | 1,_=>exact hE1.grown hg
 | 2,_=>exact hE2.grown hg
 | 3,_=>exact hE3.grown hg
 | 4,_=>exact hE4.grown hg
 | 5,_=>exact hE5.grown hg
 | 6,_=>exact hE6.grown hg
 | 7,_=>exact hE7.grown hg
 | 8,_=>exact hE8.grown hg
 | 9,_=>exact hE9.grown hg
 | 10,_=>exact hE10.grown hg
 | 11,_=>exact hE11.grown hg
 | 12,_=>exact hE12.grown hg
 | 13,_=>exact hE13.grown hg
 | 14,_=>exact hE14.grown hg
 | 15,_=>exact hE15.grown hg
 | 16,_=>exact hE16.grown hg
 | n+17,hn=>omega
def sentV:Er->Int
 | .ok => -1
 | .e n=>101+n
 | .at_ _ _ => -1
def jt (e:Er) (K:Int->Prop):Prop:=K (sentV e)
theorem W_smithysee_sentinel {S:List Nat} {w:World} {v:Value} {e:Er} {K:Int->Prop} (hG:GOK S w) (hS0:0∈S) (hS1:1∈S) (hS2:2∈S) (hS3:3∈S) (hS4:4∈S) (hS5:5∈S) (hS6:6∈S) (hS7:7∈S) (hS8:8∈S) (hS9:9∈S) (hS10:10∈S) (hS11:11∈S) (hS12:12∈S) (hS13:13∈S) (hS14:14∈S) (hS15:15∈S) (hS16:16∈S) (hE:ErrR S w v e) (H:jt e K):Fn Tryz.prog 202 ⟨[v]⟩ w (fun r w'=>w.grownBy w' none/\∃ n:Int,r=.int .i64 n/\K n):=by
 have hS:∀ n,n<17->n∈S:=fun n hn=>by
  match n,hn with
  | 0,_=>exact hS0
  | 1,_=>exact hS1
  | 2,_=>exact hS2
  | 3,_=>exact hS3
  | 4,_=>exact hS4
  | 5,_=>exact hS5
  | 6,_=>exact hS6
  | 7,_=>exact hS7
  | 8,_=>exact hS8
  | 9,_=>exact hS9
  | 10,_=>exact hS10
  | 11,_=>exact hS11
  | 12,_=>exact hS12
  | 13,_=>exact hS13
  | 14,_=>exact hS14
  | 15,_=>exact hS15
  | 16,_=>exact hS16
  | n+17,hn=>omega
 unfold jt at H
 refine Fn.enter (by kernel_rfl) Tryz.func202 rfl Tryz.ntmps202 rfl ?_
 repeat (first | refine zd ?_ | refine WC.block ?_ | refine zb ?_ | refine ze ?_ | refine za ?_ | refine zr ?_ | refine zy ?_ | refine zu ?_ | refine zj ?_ | refine zi ?_ | refine zh ?_ | refine zl ?_ | refine zk ?_ | refine zn rfl ?_ | refine zz ?_ | refine zA ?_ | refine zm ?_ | refine zt ?_ | refine zq ?_ | refine zf rfl (Yld.add rfl rfl (by simp only [In]; omega)) ?_ | refine zf rfl (Yld.sub rfl rfl (by simp only [In]; omega)) ?_ | refine zf rfl (zH rfl rfl (by simp only [In]; omega)) ?_ | refine zf rfl (zv qB rfl rfl rfl rfl) ?_ | refine zf rfl (zw qB rfl rfl rfl (by simp only [In]; omega)) ?_ | refine zf rfl (zF rfl rfl (by omega) (by omega) (by simp only [In]; omega)) ?_ | refine zf rfl (zG rfl rfl (by omega) (by omega)) ?_ | refine zf rfl (zL rfl rfl (by omega)) ?_ | refine zf rfl (zJ rfl rfl (by omega)) ?_ | refine zf rfl (zg qB rfl) ?_ | refine zf rfl (zK qE rfl rfl rfl) ?_ | refine zf rfl (zE rfl rfl) ?_ | refine zf rfl (zD rfl rfl) ?_ | refine zf rfl (zo rfl rfl rfl) ?_ | refine zI rfl rfl rfl rfl ?_ | refine zc rfl rfl rfl rfl (Yld.add rfl rfl (by simp only [In]; omega)) ?_ | refine zc rfl rfl rfl rfl (Yld.sub rfl rfl (by simp only [In]; omega)) ?_ | refine zc rfl rfl rfl rfl (zH rfl rfl (by simp only [In]; omega)) ?_ | refine zc rfl rfl rfl rfl (zv qB rfl rfl rfl rfl) ?_ | refine zc rfl rfl rfl rfl (zw qB rfl rfl rfl (by simp only [In]; omega)) ?_ | refine zc rfl rfl rfl rfl (zF rfl rfl (by omega) (by omega) (by simp only [In]; omega)) ?_ | refine zc rfl rfl rfl rfl (zG rfl rfl (by omega) (by omega)) ?_ | refine zc rfl rfl rfl rfl (zL rfl rfl (by omega)) ?_ | refine zc rfl rfl rfl rfl (zJ rfl rfl (by omega)) ?_ | refine zc rfl rfl rfl rfl (zg qB rfl) ?_ | refine zc rfl rfl rfl rfl (zK qE rfl rfl rfl) ?_ | refine zc rfl rfl rfl rfl (zE rfl rfl) ?_ | refine zc rfl rfl rfl rfl (zD rfl rfl) ?_ | refine zc rfl rfl rfl rfl (zo rfl rfl rfl) ?_ | refine qq rfl rfl rfl rfl ?_)
 refine zx rfl rfl (sentinels_fn hG hS) ?_
 rintro _ w1 ⟨hg1,g,us,rfl,hB,hlen,hus⟩
 have hR:=Rd.ofBlV hB hlen (by simp [maxLen])
 have hE1:=hE.grown hg1
 repeat (first | refine zd ?_ | refine WC.block ?_ | refine zb ?_ | refine ze ?_ | refine za ?_ | refine zr ?_ | refine zy ?_ | refine zu ?_ | refine zj ?_ | refine zi ?_ | refine zh ?_ | refine zl ?_ | refine zk ?_ | refine zn rfl ?_ | refine zz ?_ | refine zA ?_ | refine zm ?_ | refine zt ?_ | refine zq ?_ | refine zf rfl (Yld.add rfl rfl (by simp only [In]; omega)) ?_ | refine zf rfl (Yld.sub rfl rfl (by simp only [In]; omega)) ?_ | refine zf rfl (zH rfl rfl (by simp only [In]; omega)) ?_ | refine zf rfl (zv qB rfl rfl rfl rfl) ?_ | refine zf rfl (zw qB rfl rfl rfl (by simp only [In]; omega)) ?_ | refine zf rfl (zF rfl rfl (by omega) (by omega) (by simp only [In]; omega)) ?_ | refine zf rfl (zG rfl rfl (by omega) (by omega)) ?_ | refine zf rfl (zL rfl rfl (by omega)) ?_ | refine zf rfl (zJ rfl rfl (by omega)) ?_ | refine zf rfl (zg qB rfl) ?_ | refine zf rfl (zK qE rfl rfl rfl) ?_ | refine zf rfl (zE rfl rfl) ?_ | refine zf rfl (zD rfl rfl) ?_ | refine zf rfl (zo rfl rfl rfl) ?_ | refine zI rfl rfl rfl rfl ?_ | refine zc rfl rfl rfl rfl (Yld.add rfl rfl (by simp only [In]; omega)) ?_ | refine zc rfl rfl rfl rfl (Yld.sub rfl rfl (by simp only [In]; omega)) ?_ | refine zc rfl rfl rfl rfl (zH rfl rfl (by simp only [In]; omega)) ?_ | refine zc rfl rfl rfl rfl (zv qB rfl rfl rfl rfl) ?_ | refine zc rfl rfl rfl rfl (zw qB rfl rfl rfl (by simp only [In]; omega)) ?_ | refine zc rfl rfl rfl rfl (zF rfl rfl (by omega) (by omega) (by simp only [In]; omega)) ?_ | refine zc rfl rfl rfl rfl (zG rfl rfl (by omega) (by omega)) ?_ | refine zc rfl rfl rfl rfl (zL rfl rfl (by omega)) ?_ | refine zc rfl rfl rfl rfl (zJ rfl rfl (by omega)) ?_ | refine zc rfl rfl rfl rfl (zg qB rfl) ?_ | refine zc rfl rfl rfl rfl (zK qE rfl rfl rfl) ?_ | refine zc rfl rfl rfl rfl (zE rfl rfl) ?_ | refine zc rfl rfl rfl rfl (zD rfl rfl) ?_ | refine zc rfl rfl rfl rfl (zo rfl rfl rfl) ?_ | refine qq rfl rfl rfl rfl ?_)
 refine zZ (fun n' L' w'=>∃ i:Nat,n'=17 - i/\L'=[(4,vi i),(3,.slice (some ⟨g,0,none⟩) 17 17),(0,v)]/\i<=17/\(∀ j,j<i->e≠.e j)/\w1=w') _ _ ⟨0,rfl,rfl,by omega,fun j hj=>by omega,rfl⟩ (by repeat (first | exact z9 | refine z1 rfl ?_)) ?_
 rintro _ _ _ ⟨i,rfl,rfl,hi,hne,rfl⟩
 repeat (first | refine zd ?_ | refine WC.block ?_ | refine zb ?_ | refine ze ?_ | refine za ?_ | refine zr ?_ | refine zy ?_ | refine zu ?_ | refine zj ?_ | refine zi ?_ | refine zh ?_ | refine zl ?_ | refine zk ?_ | refine zn rfl ?_ | refine zz ?_ | refine zA ?_ | refine zm ?_ | refine zt ?_ | refine zq ?_ | refine zf rfl (Yld.add rfl rfl (by simp only [In]; omega)) ?_ | refine zf rfl (Yld.sub rfl rfl (by simp only [In]; omega)) ?_ | refine zf rfl (zH rfl rfl (by simp only [In]; omega)) ?_ | refine zf rfl (zv qB rfl rfl rfl rfl) ?_ | refine zf rfl (zw qB rfl rfl rfl (by simp only [In]; omega)) ?_ | refine zf rfl (zF rfl rfl (by omega) (by omega) (by simp only [In]; omega)) ?_ | refine zf rfl (zG rfl rfl (by omega) (by omega)) ?_ | refine zf rfl (zL rfl rfl (by omega)) ?_ | refine zf rfl (zJ rfl rfl (by omega)) ?_ | refine zf rfl (zg qB rfl) ?_ | refine zf rfl (zK qE rfl rfl rfl) ?_ | refine zf rfl (zE rfl rfl) ?_ | refine zf rfl (zD rfl rfl) ?_ | refine zf rfl (zo rfl rfl rfl) ?_ | refine zI rfl rfl rfl rfl ?_ | refine zc rfl rfl rfl rfl (Yld.add rfl rfl (by simp only [In]; omega)) ?_ | refine zc rfl rfl rfl rfl (Yld.sub rfl rfl (by simp only [In]; omega)) ?_ | refine zc rfl rfl rfl rfl (zH rfl rfl (by simp only [In]; omega)) ?_ | refine zc rfl rfl rfl rfl (zv qB rfl rfl rfl rfl) ?_ | refine zc rfl rfl rfl rfl (zw qB rfl rfl rfl (by simp only [In]; omega)) ?_ | refine zc rfl rfl rfl rfl (zF rfl rfl (by omega) (by omega) (by simp only [In]; omega)) ?_ | refine zc rfl rfl rfl rfl (zG rfl rfl (by omega) (by omega)) ?_ | refine zc rfl rfl rfl rfl (zL rfl rfl (by omega)) ?_ | refine zc rfl rfl rfl rfl (zJ rfl rfl (by omega)) ?_ | refine zc rfl rfl rfl rfl (zg qB rfl) ?_ | refine zc rfl rfl rfl rfl (zK qE rfl rfl rfl) ?_ | refine zc rfl rfl rfl rfl (zE rfl rfl) ?_ | refine zc rfl rfl rfl rfl (zD rfl rfl) ?_ | refine zc rfl rfl rfl rfl (zo rfl rfl rfl) ?_ | refine qq rfl rfl rfl rfl ?_)
 refine zp rfl (fun h=>?_) (fun h=>?_)
 ·simp only [decide_eq_true_eq] at h
  have hi':i<17:=by omega
  repeat (first | refine zf rfl (Yld.iaddrN qB hR rfl rfl hlen.symm rfl (by omega)) ?_ | refine zf rfl (zP .nilIface qB hR rfl rfl (by omega)) ?_ | refine zd ?_ | refine WC.block ?_ | refine zb ?_ | refine ze ?_ | refine za ?_ | refine zr ?_ | refine zy ?_ | refine zu ?_ | refine zj ?_ | refine zi ?_ | refine zh ?_ | refine zl ?_ | refine zk ?_ | refine zn rfl ?_ | refine zz ?_ | refine zA ?_ | refine zm ?_ | refine zt ?_ | refine zq ?_ | refine zf rfl (Yld.add rfl rfl (by simp only [In]; omega)) ?_ | refine zf rfl (Yld.sub rfl rfl (by simp only [In]; omega)) ?_ | refine zf rfl (zH rfl rfl (by simp only [In]; omega)) ?_ | refine zf rfl (zv qB rfl rfl rfl rfl) ?_ | refine zf rfl (zw qB rfl rfl rfl (by simp only [In]; omega)) ?_ | refine zf rfl (zF rfl rfl (by omega) (by omega) (by simp only [In]; omega)) ?_ | refine zf rfl (zG rfl rfl (by omega) (by omega)) ?_ | refine zf rfl (zL rfl rfl (by omega)) ?_ | refine zf rfl (zJ rfl rfl (by omega)) ?_ | refine zf rfl (zg qB rfl) ?_ | refine zf rfl (zK qE rfl rfl rfl) ?_ | refine zf rfl (zE rfl rfl) ?_ | refine zf rfl (zD rfl rfl) ?_ | refine zf rfl (zo rfl rfl rfl) ?_ | refine zI rfl rfl rfl rfl ?_ | refine zc rfl rfl rfl rfl (Yld.add rfl rfl (by simp only [In]; omega)) ?_ | refine zc rfl rfl rfl rfl (Yld.sub rfl rfl (by simp only [In]; omega)) ?_ | refine zc rfl rfl rfl rfl (zH rfl rfl (by simp only [In]; omega)) ?_ | refine zc rfl rfl rfl rfl (zv qB rfl rfl rfl rfl) ?_ | refine zc rfl rfl rfl rfl (zw qB rfl rfl rfl (by simp only [In]; omega)) ?_ | refine zc rfl rfl rfl rfl (zF rfl rfl (by omega) (by omega) (by simp only [In]; omega)) ?_ | refine zc rfl rfl rfl rfl (zG rfl rfl (by omega) (by omega)) ?_ | refine zc rfl rfl rfl rfl (zL rfl rfl (by omega)) ?_ | refine zc rfl rfl rfl rfl (zJ rfl rfl (by omega)) ?_ | refine zc rfl rfl rfl rfl (zg qB rfl) ?_ | refine zc rfl rfl rfl rfl (zK qE rfl rfl rfl) ?_ | refine zc rfl rfl rfl rfl (zE rfl rfl) ?_ | refine zc rfl rfl rfl rfl (zD rfl rfl) ?_ | refine zc rfl rfl rfl rfl (zo rfl rfl rfl) ?_ | refine qq rfl rfl rfl rfl ?_)
  refine zx rfl rfl (W_smithysee_Alike (K:=fun b=>b=decide (e=.e i)) hE1 (hus i hi') ?_) ?_
  ·unfold M_smithysee_Alike
   cases e <;> simp
  rintro _ _ ⟨rfl,b,rfl,hb⟩
  subst hb
  refine ze ?_
  repeat (first | refine zd ?_ | refine WC.block ?_ | refine zb ?_ | refine ze ?_ | refine za ?_ | refine zr ?_ | refine zy ?_ | refine zu ?_ | refine zj ?_ | refine zi ?_ | refine zh ?_ | refine zl ?_ | refine zk ?_ | refine zn rfl ?_ | refine zz ?_ | refine zA ?_ | refine zm ?_ | refine zt ?_ | refine zq ?_ | refine zf rfl (Yld.add rfl rfl (by simp only [In]; omega)) ?_ | refine zf rfl (Yld.sub rfl rfl (by simp only [In]; omega)) ?_ | refine zf rfl (zH rfl rfl (by simp only [In]; omega)) ?_ | refine zf rfl (zv qB rfl rfl rfl rfl) ?_ | refine zf rfl (zw qB rfl rfl rfl (by simp only [In]; omega)) ?_ | refine zf rfl (zF rfl rfl (by omega) (by omega) (by simp only [In]; omega)) ?_ | refine zf rfl (zG rfl rfl (by omega) (by omega)) ?_ | refine zf rfl (zL rfl rfl (by omega)) ?_ | refine zf rfl (zJ rfl rfl (by omega)) ?_ | refine zf rfl (zg qB rfl) ?_ | refine zf rfl (zK qE rfl rfl rfl) ?_ | refine zf rfl (zE rfl rfl) ?_ | refine zf rfl (zD rfl rfl) ?_ | refine zf rfl (zo rfl rfl rfl) ?_ | refine zI rfl rfl rfl rfl ?_ | refine zc rfl rfl rfl rfl (Yld.add rfl rfl (by simp only [In]; omega)) ?_ | refine zc rfl rfl rfl rfl (Yld.sub rfl rfl (by simp only [In]; omega)) ?_ | refine zc rfl rfl rfl rfl (zH rfl rfl (by simp only [In]; omega)) ?_ | refine zc rfl rfl rfl rfl (zv qB rfl rfl rfl rfl) ?_ | refine zc rfl rfl rfl rfl (zw qB rfl rfl rfl (by simp only [In]; omega)) ?_ | refine zc rfl rfl rfl rfl (zF rfl rfl (by omega) (by omega) (by simp only [In]; omega)) ?_ | refine zc rfl rfl rfl rfl (zG rfl rfl (by omega) (by omega)) ?_ | refine zc rfl rfl rfl rfl (zL rfl rfl (by omega)) ?_ | refine zc rfl rfl rfl rfl (zJ rfl rfl (by omega)) ?_ | refine zc rfl rfl rfl rfl (zg qB rfl) ?_ | refine zc rfl rfl rfl rfl (zK qE rfl rfl rfl) ?_ | refine zc rfl rfl rfl rfl (zE rfl rfl) ?_ | refine zc rfl rfl rfl rfl (zD rfl rfl) ?_ | refine zc rfl rfl rfl rfl (zo rfl rfl rfl) ?_ | refine qq rfl rfl rfl rfl ?_)
  refine zp rfl (fun h2=>?_) (fun h2=>?_)
  ·have h3:e=.e i:=of_decide_eq_true h2
   subst h3
   repeat (first | refine zd ?_ | refine WC.block ?_ | refine zb ?_ | refine ze ?_ | refine za ?_ | refine zr ?_ | refine zy ?_ | refine zu ?_ | refine zj ?_ | refine zi ?_ | refine zh ?_ | refine zl ?_ | refine zk ?_ | refine zn rfl ?_ | refine zz ?_ | refine zA ?_ | refine zm ?_ | refine zt ?_ | refine zq ?_ | refine zf rfl (Yld.add rfl rfl (by simp only [In]; omega)) ?_ | refine zf rfl (Yld.sub rfl rfl (by simp only [In]; omega)) ?_ | refine zf rfl (zH rfl rfl (by simp only [In]; omega)) ?_ | refine zf rfl (zv qB rfl rfl rfl rfl) ?_ | refine zf rfl (zw qB rfl rfl rfl (by simp only [In]; omega)) ?_ | refine zf rfl (zF rfl rfl (by omega) (by omega) (by simp only [In]; omega)) ?_ | refine zf rfl (zG rfl rfl (by omega) (by omega)) ?_ | refine zf rfl (zL rfl rfl (by omega)) ?_ | refine zf rfl (zJ rfl rfl (by omega)) ?_ | refine zf rfl (zg qB rfl) ?_ | refine zf rfl (zK qE rfl rfl rfl) ?_ | refine zf rfl (zE rfl rfl) ?_ | refine zf rfl (zD rfl rfl) ?_ | refine zf rfl (zo rfl rfl rfl) ?_ | refine zI rfl rfl rfl rfl ?_ | refine zc rfl rfl rfl rfl (Yld.add rfl rfl (by simp only [In]; omega)) ?_ | refine zc rfl rfl rfl rfl (Yld.sub rfl rfl (by simp only [In]; omega)) ?_ | refine zc rfl rfl rfl rfl (zH rfl rfl (by simp only [In]; omega)) ?_ | refine zc rfl rfl rfl rfl (zv qB rfl rfl rfl rfl) ?_ | refine zc rfl rfl rfl rfl (zw qB rfl rfl rfl (by simp only [In]; omega)) ?_ | refine zc rfl rfl rfl rfl (zF rfl rfl (by omega) (by omega) (by simp only [In]; omega)) ?_ | refine zc rfl rfl rfl rfl (zG rfl rfl (by omega) (by omega)) ?_ | refine zc rfl rfl rfl rfl (zL rfl rfl (by omega)) ?_ | refine zc rfl rfl rfl rfl (zJ rfl rfl (by omega)) ?_ | refine zc rfl rfl rfl rfl (zg qB rfl) ?_ | refine zc rfl rfl rfl rfl (zK qE rfl rfl rfl) ?_ | refine zc rfl rfl rfl rfl (zE rfl rfl) ?_ | refine zc rfl rfl rfl rfl (zD rfl rfl) ?_ | refine zc rfl rfl rfl rfl (zo rfl rfl rfl) ?_ | refine qq rfl rfl rfl rfl ?_)
   exact zM rfl rfl ⟨hg1,_,rfl,H⟩
  ·have h3:e≠.e i:=of_decide_eq_false h2
   repeat (first | refine zd ?_ | refine WC.block ?_ | refine zb ?_ | refine ze ?_ | refine za ?_ | refine zr ?_ | refine zy ?_ | refine zu ?_ | refine zj ?_ | refine zi ?_ | refine zh ?_ | refine zl ?_ | refine zk ?_ | refine zn rfl ?_ | refine zz ?_ | refine zA ?_ | refine zm ?_ | refine zt ?_ | refine zq ?_ | refine zf rfl (Yld.add rfl rfl (by simp only [In]; omega)) ?_ | refine zf rfl (Yld.sub rfl rfl (by simp only [In]; omega)) ?_ | refine zf rfl (zH rfl rfl (by simp only [In]; omega)) ?_ | refine zf rfl (zv qB rfl rfl rfl rfl) ?_ | refine zf rfl (zw qB rfl rfl rfl (by simp only [In]; omega)) ?_ | refine zf rfl (zF rfl rfl (by omega) (by omega) (by simp only [In]; omega)) ?_ | refine zf rfl (zG rfl rfl (by omega) (by omega)) ?_ | refine zf rfl (zL rfl rfl (by omega)) ?_ | refine zf rfl (zJ rfl rfl (by omega)) ?_ | refine zf rfl (zg qB rfl) ?_ | refine zf rfl (zK qE rfl rfl rfl) ?_ | refine zf rfl (zE rfl rfl) ?_ | refine zf rfl (zD rfl rfl) ?_ | refine zf rfl (zo rfl rfl rfl) ?_ | refine zI rfl rfl rfl rfl ?_ | refine zc rfl rfl rfl rfl (Yld.add rfl rfl (by simp only [In]; omega)) ?_ | refine zc rfl rfl rfl rfl (Yld.sub rfl rfl (by simp only [In]; omega)) ?_ | refine zc rfl rfl rfl rfl (zH rfl rfl (by simp only [In]; omega)) ?_ | refine zc rfl rfl rfl rfl (zv qB rfl rfl rfl rfl) ?_ | refine zc rfl rfl rfl rfl (zw qB rfl rfl rfl (by simp only [In]; omega)) ?_ | refine zc rfl rfl rfl rfl (zF rfl rfl (by omega) (by omega) (by simp only [In]; omega)) ?_ | refine zc rfl rfl rfl rfl (zG rfl rfl (by omega) (by omega)) ?_ | refine zc rfl rfl rfl rfl (zL rfl rfl (by omega)) ?_ | refine zc rfl rfl rfl rfl (zJ rfl rfl (by omega)) ?_ | refine zc rfl rfl rfl rfl (zg qB rfl) ?_ | refine zc rfl rfl rfl rfl (zK qE rfl rfl rfl) ?_ | refine zc rfl rfl rfl rfl (zE rfl rfl) ?_ | refine zc rfl rfl rfl rfl (zD rfl rfl) ?_ | refine zc rfl rfl rfl rfl (zo rfl rfl rfl) ?_ | refine qq rfl rfl rfl rfl ?_)
   refine zT _ ⟨i+1,rfl,rfl,by omega,fun j hj=>?_,rfl⟩ (by repeat (first | exact z9 | refine z1 rfl ?_)) (by omega)
   rcases Nat.lt_or_ge j i with hji | hji
   ·exact hne j hji
   ·obtain rfl:j=i:=by omega
    exact h3
 ·simp only [decide_eq_false_iff_not] at h
  repeat (first | refine zd ?_ | refine WC.block ?_ | refine zb ?_ | refine ze ?_ | refine za ?_ | refine zr ?_ | refine zy ?_ | refine zu ?_ | refine zj ?_ | refine zi ?_ | refine zh ?_ | refine zl ?_ | refine zk ?_ | refine zn rfl ?_ | refine zz ?_ | refine zA ?_ | refine zm ?_ | refine zt ?_ | refine zq ?_ | refine zf rfl (Yld.add rfl rfl (by simp only [In]; omega)) ?_ | refine zf rfl (Yld.sub rfl rfl (by simp only [In]; omega)) ?_ | refine zf rfl (zH rfl rfl (by simp only [In]; omega)) ?_ | refine zf rfl (zv qB rfl rfl rfl rfl) ?_ | refine zf rfl (zw qB rfl rfl rfl (by simp only [In]; omega)) ?_ | refine zf rfl (zF rfl rfl (by omega) (by omega) (by simp only [In]; omega)) ?_ | refine zf rfl (zG rfl rfl (by omega) (by omega)) ?_ | refine zf rfl (zL rfl rfl (by omega)) ?_ | refine zf rfl (zJ rfl rfl (by omega)) ?_ | refine zf rfl (zg qB rfl) ?_ | refine zf rfl (zK qE rfl rfl rfl) ?_ | refine zf rfl (zE rfl rfl) ?_ | refine zf rfl (zD rfl rfl) ?_ | refine zf rfl (zo rfl rfl rfl) ?_ | refine zI rfl rfl rfl rfl ?_ | refine zc rfl rfl rfl rfl (Yld.add rfl rfl (by simp only [In]; omega)) ?_ | refine zc rfl rfl rfl rfl (Yld.sub rfl rfl (by simp only [In]; omega)) ?_ | refine zc rfl rfl rfl rfl (zH rfl rfl (by simp only [In]; omega)) ?_ | refine zc rfl rfl rfl rfl (zv qB rfl rfl rfl rfl) ?_ | refine zc rfl rfl rfl rfl (zw qB rfl rfl rfl (by simp only [In]; omega)) ?_ | refine zc rfl rfl rfl rfl (zF rfl rfl (by omega) (by omega) (by simp only [In]; omega)) ?_ | refine zc rfl rfl rfl rfl (zG rfl rfl (by omega) (by omega)) ?_ | refine zc rfl rfl rfl rfl (zL rfl rfl (by omega)) ?_ | refine zc rfl rfl rfl rfl (zJ rfl rfl (by omega)) ?_ | refine zc rfl rfl rfl rfl (zg qB rfl) ?_ | refine zc rfl rfl rfl rfl (zK qE rfl rfl rfl) ?_ | refine zc rfl rfl rfl rfl (zE rfl rfl) ?_ | refine zc rfl rfl rfl rfl (zD rfl rfl) ?_ | refine zc rfl rfl rfl rfl (zo rfl rfl rfl) ?_ | refine qq rfl rfl rfl rfl ?_)
  refine zM rfl rfl ⟨hg1,_,rfl,?_⟩
  have:sentV e = -1:=by
   cases e with
   | e n =>
    by_cases hn:n<17
    ·exact absurd rfl (hne n (by omega))
    ·exact absurd (ErV.lt hE.1) hn
   | ok=>rfl
   | at_ p n=>rfl
  rw [this] at H
  exact H
end
 
section
open Go Go.RowKit
attribute [local irreducible] WL WC WX WQ WK WJ Yld Eff Ef0 Fn
def j6 (e:Er) (K:Int->Bool->Int->Bool->(List UInt8)->Prop):Prop :=
 ((∀ (pos:Int) (n:Nat),e=Er.at_ pos n->(((Er.e n)=Er.ok->jp (-1:Int) (fun (b5:Int) (a2:Bool) (c2:Int) (a6:Bool) (b6:List UInt8) =>
 K b5 a2 c2 a6 b6)) /\
 (¬ ((Er.e n)=Er.ok)->jt (Er.e n) (fun (t29:Int) =>
 j5 t29 pos (fun (b7:Int) (a3:Bool) (c3:Int) (a7:Bool) (b8:List UInt8) =>
 K b7 a3 c3 a7 b8))))) /\
 ((∀ p n,e≠Er.at_ p n)->jt e (fun (t13:Int) =>
 jp t13 (fun (a9:Int) (a0:Bool) (c0:Int) (a4:Bool) (b0:List UInt8) =>
 K a9 a0 c0 a4 b0))))
def kf (e:Er) (K:Int->Bool->Int->Bool->(List UInt8)->Prop):Prop :=
 ((e=Er.ok->jG (fun (c4:Int) (a8:Bool) (c8:Int) (b9:Bool) (c5:List UInt8) =>
 K c4 a8 c8 b9 c5)) /\
 (¬ (e=Er.ok)->j6 e (fun (b3:Int) (a1:Bool) (c1:Int) (a5:Bool) (b4:List UInt8) =>
 K b3 a1 c1 a5 b4)))
def ko (e:Er) (f_Code:Int) (f_Placed:Bool) (f_Pos:Int) (f_Filed:Bool) (f_File:List UInt8) (K:Bool->Prop):Prop :=
 kf e (fun (d1:Int) (c6:Bool) (d5:Int) (c9:Bool) (d2:List UInt8) =>
 jK d1 c6 d5 c9 d2 f_Code f_Placed f_Pos f_Filed f_File (fun (t4:Bool) =>
 K t4))
def kg (e:Er) (code:Int) (K:Bool->Prop):Prop :=
 jp code (fun (d3:Int) (c7:Bool) (d6:Int) (d0:Bool) (d4:List UInt8) =>
 ko e d3 c7 d6 d0 d4 (fun (t4:Bool) =>
 K t4))
set_option maxHeartbeats 8000000 in
theorem W_smithysee_placed {S:List Nat} {w:World} {v_e:Value} {e:Er} {K:Int->Bool->Int->Bool->(List UInt8)->Prop} (hG:GOK S w) (hS0:0∈S) (hS1:1∈S) (hS2:2∈S) (hS3:3∈S) (hS4:4∈S) (hS5:5∈S) (hS6:6∈S) (hS7:7∈S) (hS8:8∈S) (hS9:9∈S) (hS10:10∈S) (hS11:11∈S) (hS12:12∈S) (hS13:13∈S) (hS14:14∈S) (hS15:15∈S) (hS16:16∈S) (he:ErrR S w v_e e) (H:j6 e K):Fn Tryz.prog 184 ⟨[v_e]⟩ w (fun v w'=>w.grownBy w' none/\∃ (r_Code:Int),∃ (r_Placed:Bool),∃ (r_Pos:Int),∃ (r_Filed:Bool),∃ (r_File:List UInt8),v=.agg ⟨[.int .i64 r_Code,.bool r_Placed,.int .i64 r_Pos,.bool r_Filed,vs r_File]⟩/\K r_Code r_Placed r_Pos r_Filed r_File):=by
 unfold j6 at H
 refine Fn.enter (by kernel_rfl) Tryz.func184 rfl Tryz.ntmps184 rfl ?_
 refine zd (zb (WL.alloc rfl zero142 (fun g1 w1 hB1 hg1 hl1=>?_)))
 have gr1:=hg1
 refine ze (za (zd (zb (yp (h:=?_)))))
 rcases Er.atCases e with ⟨pos,n,he1⟩ | he1
 ·replace H:=H.1 pos n he1
  obtain ⟨b1,vE1,hv1,hB2,hE1⟩:=ErrR.atOut (he1 ▸ (he.grown gr1))
  refine zf rfl (Yld.assertYes Tryz.underlying298 rfl hv1) (yp (h:=(yp (h:=(yp (h:=(yp (h:=(yp (h:=(ze (za (zd (zd (zb (yp (h:=(yp (h:=(ze (za (zp rfl (fun h=>by cases h) (fun _=>zr (za (zd (zd (zb (yp (h:=(zf rfl (ql Tryz.underlying298 rfl rfl) (yp (h:=(zX 6 (fun L' w'=>∃ q1:Bool,L'=[(23,.bool q1),(2,.pointer (some ⟨g1,0,none⟩)),(3,.pointer (some ⟨b1,0,none⟩))]/\(decide ((Er.e n)=Er.ok))=q1/\w1=w') ?_ (fun hQ=>?_))))))))))))))))))))))))))))))))))
  ·rintro _ _ ⟨q1,rfl,rfl,rfl⟩
   refine ze (za (zp rfl (fun b2=>?_) (fun b2=>?_)))
   ·replace H:=H.1 (of_decide_eq_true b2)
    refine zd (zb (zx rfl rfl (W_smithyref_Bare H) ?_))
    rintro _ w2 ⟨hg2,b5,a2,c2,a6,b6,rfl,H⟩
    exact zS (vs:=[.int .i64 b5,.bool a2,.int .i64 c2,.bool a6,vs b6]) qB rfl rfl rfl (qF rfl (qF rfl (qF rfl (qF rfl (qF rfl qY))))) (hB1.g0 hg2) rfl rfl (fun w3 hB3 hg3=>ze (za (zu (zi (qb qB rfl rfl rfl hB3 rfl ⟨(jk (qC gr1 hg2) hg3 (Ge.le (Ge.box hl1) (Nat.le_refl _))),b5,a2,c2,a6,b6,rfl,H⟩)))))
   ·replace H:=H.2 (of_decide_eq_false b2)
    refine zr (za (zd (zV (fun k => !(Nat.beq k 4 || Nat.beq k 9 || Nat.beq k 10)) (LD [3,8] (fun w'=>Bl w' b1 302 [.int .i64 pos,vE1])) jg (by kernel_rfl) (fun k w' h _=>(jc h hB2)) (zC rfl rfl (fun w' hw'=>zg qB rfl) (zC rfl rfl (fun w' hw'=>zg qB rfl) (zC rfl rfl (fun w' hw'=>zg qB rfl) (zC rfl rfl (fun w' hw'=>zB qB (hw' rfl) rfl rfl rfl) (qg rfl (qS) rfl rfl (W_smithysee_sentinel (hG.grown gr1) hS0 hS1 hS2 hS3 hS4 hS5 hS6 hS7 hS8 hS9 hS10 hS11 hS12 hS13 hS14 hS15 hS16 hE1 H) (fun v w' h w2 e=>DD.keep (Bl.g0 hB2 (jj h.1 e))) ?_))))))))
    rintro _ w4 ⟨hg4,t29,rfl,H⟩
    have k3:=hE1.grown hg4
    have k4:=hB2.g0 hg4
    refine zC rfl rfl (fun w' hw'=>zg qB rfl) (zC rfl rfl (fun w' hw'=>zg qB rfl) (zC rfl rfl (fun w' hw'=>zg qB rfl) (zC rfl rfl (fun w' hw'=>zB qB (hw' rfl) rfl rfl rfl) (qg rfl (qS) rfl rfl (W_smithyref_Placed H) (fun v w' h w2 e=>DD.keep (Bl.g0 k4 (jj h.1 e))) ?_))))
    rintro _ w5 ⟨hg5,b7,a3,c3,a7,b8,rfl,H⟩
    have k6:=k4.g0 hg5
    refine qu rfl (Ef0.storeW (vs:=[.int .i64 b7,.bool a3,.int .i64 c3,.bool a7,vs b8]) qB rfl rfl rfl (qF rfl (qF rfl (qF rfl (qF rfl (qF rfl qY))))) ((hB1.g0 hg4).g0 hg5) rfl rfl) (fun w' h=>qe (by kernel_rfl)) ?_
    rintro w6 ⟨hB4,hg6⟩
    exact qd (za (zu (qb qB rfl rfl rfl hB4 rfl ⟨(jk (qC (qC gr1 hg4) hg5) hg6 (Ge.le (Ge.box hl1) (Nat.le_refl _))),b7,a3,c3,a7,b8,rfl,H⟩)))
  ·clear H
   exact zc rfl rfl (rfl) rfl (zg qB rfl) (zc rfl rfl (rfl) rfl (zg qB rfl) (zc rfl rfl (rfl) rfl (zg qB rfl) (zc rfl rfl (rfl) rfl (zB qB hB2 rfl rfl rfl) (zc rfl rfl (rfl) rfl (qi Tryz.underlying43 hE1 rfl) (zf rfl (zO (rfl) rfl) (wk (hQ _ _ ⟨decide ((Er.e n)=Er.ok),rfl,rfl,rfl⟩)))))))
 ·replace H:=H.2 he1
  refine zf rfl (Yld.assertNo Tryz.underlying298 (fun _=>by kernel_rfl) (he.grown gr1) rfl rfl (.inr he1)) (yp (h:=(yp (h:=(yp (h:=(yp (h:=(yp (h:=(ze (za (zd (zd (zb (yp (h:=(yp (h:=(ze (za (zp rfl (fun _=>zd (zb (yp (h:=(zx rfl rfl (W_smithysee_sentinel (hG.grown gr1) hS0 hS1 hS2 hS3 hS4 hS5 hS6 hS7 hS8 hS9 hS10 hS11 hS12 hS13 hS14 hS15 hS16 (he.grown gr1) H) ?_))))) (fun h=>by cases h)))))))))))))))))))))))
  rintro _ w7 ⟨hg7,t13,rfl,H⟩
  refine zx rfl rfl (W_smithyref_Bare H) ?_
  rintro _ w8 ⟨hg8,a9,a0,c0,a4,b0,rfl,H⟩
  exact zS (vs:=[.int .i64 a9,.bool a0,.int .i64 c0,.bool a4,vs b0]) qB rfl rfl rfl (qF rfl (qF rfl (qF rfl (qF rfl (qF rfl qY))))) ((hB1.g0 hg7).g0 hg8) rfl rfl (fun w9 hB5 hg9=>ze (za (zu (zi (qb qB rfl rfl rfl hB5 rfl ⟨(jk (qC (qC gr1 hg7) hg8) hg9 (Ge.le (Ge.box hl1) (Nat.le_refl _))),a9,a0,c0,a4,b0,rfl,H⟩)))))
set_option maxHeartbeats 8000000 in
theorem W_smithysee_Fault {S:List Nat} {w:World} {v_e:Value} {e:Er} {K:Int->Bool->Int->Bool->(List UInt8)->Prop} (hG:GOK S w) (hS0:0∈S) (hS1:1∈S) (hS2:2∈S) (hS3:3∈S) (hS4:4∈S) (hS5:5∈S) (hS6:6∈S) (hS7:7∈S) (hS8:8∈S) (hS9:9∈S) (hS10:10∈S) (hS11:11∈S) (hS12:12∈S) (hS13:13∈S) (hS14:14∈S) (hS15:15∈S) (hS16:16∈S) (he:ErrR S w v_e e) (H:kf e K):Fn Tryz.prog 134 ⟨[v_e]⟩ w (fun v w'=>w.grownBy w' none/\∃ (r_Code:Int),∃ (r_Placed:Bool),∃ (r_Pos:Int),∃ (r_Filed:Bool),∃ (r_File:List UInt8),v=.agg ⟨[.int .i64 r_Code,.bool r_Placed,.int .i64 r_Pos,.bool r_Filed,vs r_File]⟩/\K r_Code r_Placed r_Pos r_Filed r_File):=by
 unfold kf at H
 refine Fn.enter (by kernel_rfl) Tryz.func134 rfl Tryz.ntmps134 rfl ?_
 refine zd (zb (WL.alloc rfl zero142 (fun g1 w1 hB1 hg1 hl1=>?_)))
 have gr1:=hg1
 refine ze (za (zd (zd (zb (yp (h:=(zf rfl (qi Tryz.underlying43 (he.grown gr1) rfl) (ze (za (zp rfl (fun b1=>?_) (fun b1=>?_)))))))))))
 ·replace H:=H.1 (of_decide_eq_true b1)
  refine zd (zb (zx rfl rfl (W_smithyref_None H) ?_))
  rintro _ w2 ⟨hg2,c4,a8,c8,b9,c5,rfl,H⟩
  exact zS (vs:=[.int .i64 c4,.bool a8,.int .i64 c8,.bool b9,vs c5]) qB rfl rfl rfl (qF rfl (qF rfl (qF rfl (qF rfl (qF rfl qY))))) (hB1.g0 hg2) rfl rfl (fun w3 hB2 hg3=>ze (za (zu (zi (qb qB rfl rfl rfl hB2 rfl ⟨(jk (qC gr1 hg2) hg3 (Ge.le (Ge.box hl1) (Nat.le_refl _))),c4,a8,c8,b9,c5,rfl,H⟩)))))
 ·replace H:=H.2 (of_decide_eq_false b1)
  refine zr (za (zd (zb (yp (h:=(zf rfl (Yld.assertNo Tryz.underlying275 (fun _=>by kernel_rfl) (he.grown gr1) rfl rfl (.inl rfl)) (yp (h:=(yp (h:=(yp (h:=(yp (h:=(yp (h:=(ze (za (zd (zd (zb (yp (h:=(yp (h:=(ze (za (zp rfl (fun _=>zd (zb (yp (h:=(zx rfl rfl (W_smithysee_placed (hG.grown gr1) hS0 hS1 hS2 hS3 hS4 hS5 hS6 hS7 hS8 hS9 hS10 hS11 hS12 hS13 hS14 hS15 hS16 (he.grown gr1) H) ?_))))) (fun h=>by cases h)))))))))))))))))))))))))))))
  rintro _ w4 ⟨hg4,b3,a1,c1,a5,b4,rfl,H⟩
  exact zS (vs:=[.int .i64 b3,.bool a1,.int .i64 c1,.bool a5,vs b4]) qB rfl rfl rfl (qF rfl (qF rfl (qF rfl (qF rfl (qF rfl qY))))) (hB1.g0 hg4) rfl rfl (fun w5 hB3 hg5=>ze (za (zu (zi (qb qB rfl rfl rfl hB3 rfl ⟨(jk (qC gr1 hg4) hg5 (Ge.le (Ge.box hl1) (Nat.le_refl _))),b3,a1,c1,a5,b4,rfl,H⟩)))))
set_option maxHeartbeats 8000000 in
theorem W_smithysee_Same {S:List Nat} {w:World} {v_e:Value} {e:Er} {f_Code:Int} {f_Placed:Bool} {f_Pos:Int} {f_Filed:Bool} {f_File:List UInt8} {K:Bool->Prop} (hG:GOK S w) (hS0:0∈S) (hS1:1∈S) (hS2:2∈S) (hS3:3∈S) (hS4:4∈S) (hS5:5∈S) (hS6:6∈S) (hS7:7∈S) (hS8:8∈S) (hS9:9∈S) (hS10:10∈S) (hS11:11∈S) (hS12:12∈S) (hS13:13∈S) (hS14:14∈S) (hS15:15∈S) (hS16:16∈S) (he:ErrR S w v_e e) (H:ko e f_Code f_Placed f_Pos f_Filed f_File K):Fn Tryz.prog 78 ⟨[v_e,.agg ⟨[.int .i64 f_Code,.bool f_Placed,.int .i64 f_Pos,.bool f_Filed,vs f_File]⟩]⟩ w (fun v w'=>w.grownBy w' none/\∃ (r:Bool),v=.bool r/\K r):=by
 unfold ko at H
 refine Fn.enter (by kernel_rfl) Tryz.func78 rfl Tryz.ntmps78 rfl ?_
 refine zd (zb (qa (us:=[.int .i64 f_Code,.bool f_Placed,.int .i64 f_Pos,.bool f_Filed,vs f_File]) rfl rfl rfl (fun g1 w1 hB1 hg1 hl1=>?_)))
 have gr1:=hg1
 refine yp (h:=(ze (za (zd (zV (fun k => !(Nat.beq k 1 || Nat.beq k 3)) (LD [2] (fun w'=>Bl w' g1 142 [.int .i64 f_Code,.bool f_Placed,.int .i64 f_Pos,.bool f_Filed,vs f_File])) jg (by kernel_rfl) (fun k w' h _=>(jc h hB1)) (zC rfl rfl (fun w' hw'=>zg qB rfl) (qg rfl (qS) rfl rfl (W_smithysee_Fault (hG.grown gr1) hS0 hS1 hS2 hS3 hS4 hS5 hS6 hS7 hS8 hS9 hS10 hS11 hS12 hS13 hS14 hS15 hS16 (he.grown gr1) H) (fun v w' h w2 e=>DD.keep (Bl.g0 hB1 (jj h.1 e))) ?_)))))))
 rintro _ w2 ⟨hg2,d1,c6,d5,c9,d2,rfl,H⟩
 have k1:=hB1.g0 hg2
 refine zC rfl rfl (fun w' hw'=>z3 (vs:=[.int .i64 f_Code,.bool f_Placed,.int .i64 f_Pos,.bool f_Filed,vs f_File]) qB (hw' rfl) rfl rfl rfl rfl) (qg rfl (qS) rfl rfl (W_smithyref_SameFault H) (fun v w' h w2 e=>DD.keep (Bl.g0 k1 (jj h.1 e))) ?_)
 rintro _ w3 ⟨hg3,t4,rfl,H⟩
 have k2:=k1.g0 hg3
 exact zC rfl rfl (fun w' hw'=>zg qB rfl) (qd (za (zu (zM rfl rfl ⟨(qC (qC gr1 hg2) hg3),t4,rfl,H⟩))))
set_option maxHeartbeats 8000000 in
theorem W_smithysee_Is {S:List Nat} {w:World} {v_e:Value} {e:Er} {code:Int} {K:Bool->Prop} (hG:GOK S w) (hS0:0∈S) (hS1:1∈S) (hS2:2∈S) (hS3:3∈S) (hS4:4∈S) (hS5:5∈S) (hS6:6∈S) (hS7:7∈S) (hS8:8∈S) (hS9:9∈S) (hS10:10∈S) (hS11:11∈S) (hS12:12∈S) (hS13:13∈S) (hS14:14∈S) (hS15:15∈S) (hS16:16∈S) (he:ErrR S w v_e e) (H:kg e code K):Fn Tryz.prog 15 ⟨[v_e,.int .i64 code]⟩ w (fun v w'=>w.grownBy w' none/\∃ (r:Bool),v=.bool r/\K r):=by
 unfold kg at H
 refine Fn.enter (by kernel_rfl) Tryz.func15 rfl Tryz.ntmps15 rfl ?_
 refine zd (zb (yp (h:=(ze (za (zd (zb (yp (h:=(yp (h:=(zx rfl rfl (W_smithyref_Bare H) ?_))))))))))))
 rintro _ w1 ⟨hg1,d3,c7,d6,d0,d4,rfl,H⟩
 have gr1:=hg1
 refine zx rfl rfl (W_smithysee_Same (hG.grown gr1) hS0 hS1 hS2 hS3 hS4 hS5 hS6 hS7 hS8 hS9 hS10 hS11 hS12 hS13 hS14 hS15 hS16 (he.grown gr1) H) ?_
 rintro _ w2 ⟨hg2,t4,rfl,H⟩
 exact yp (h:=(ze (za (zu (zM rfl rfl ⟨(qC gr1 hg2),t4,rfl,H⟩)))))
end
 
section
open Go Go.RowKit
attribute [local irreducible] WL WC WX WQ WK WJ Yld Eff Ef0 Fn
def qW (n:Int) (K:PV->Prop):Prop:=(-9223372036854775808<=n/\n<=9223372036854775807)/\K (.int n)
def M_val_Tuple (l:List PV) (K:PV->Prop):Prop:=l.length<=1000000/\∃ zs:List PA,l=zs.map PA.v/\K (.tup zs)
theorem clone_MV {l:List PV} {K:List PV->Prop} (hl:l.length<=1000000) (h:K l):qM l K:=by
 unfold qM
 intro _
 exact ⟨fun e=>e ▸ h,by simp; omega,by simpa using h⟩
theorem ja {w:World} {n:Int} {K:PV->Prop} (H:qW n K):Fn Tryz.prog 33 ⟨[.int .i64 n]⟩ w (fun v w'=>w.grownBy w' none/\∃ (v_r:OV),∃ (F_r:Nat->Prop),∃ (r:PV),v=v_r.1/\RelD deV w' [(v_r,F_r)] [r]/\(∀ p:Option Nat,Lt p w.heap.size->DnD deV [(v_r,F_r)] [r] p)/\K r):=by
 obtain ⟨⟨h1,h2⟩,hK⟩:=H
 refine Fn.enter (by kernel_rfl) Tryz.func33 rfl Tryz.ntmps33 rfl ?_
 repeat (first | refine zd ?_ | refine WC.block ?_ | refine zb ?_ | refine ze ?_ | refine za ?_ | refine zr ?_ | refine zy ?_ | refine zu ?_ | refine zj ?_ | refine zi ?_ | refine zh ?_ | refine zl ?_ | refine zk ?_ | refine zn rfl ?_ | refine zz ?_ | refine zA ?_ | refine zm ?_ | refine zt ?_ | refine zq ?_ | refine zf rfl (Yld.add rfl rfl (by simp only [In]; omega)) ?_ | refine zf rfl (Yld.sub rfl rfl (by simp only [In]; omega)) ?_ | refine zf rfl (zH rfl rfl (by simp only [In]; omega)) ?_ | refine zf rfl (zv qB rfl rfl rfl rfl) ?_ | refine zf rfl (zw qB rfl rfl rfl (by simp only [In]; omega)) ?_ | refine zf rfl (zF rfl rfl (by omega) (by omega) (by simp only [In]; omega)) ?_ | refine zf rfl (zG rfl rfl (by omega) (by omega)) ?_ | refine zf rfl (zL rfl rfl (by omega)) ?_ | refine zf rfl (zJ rfl rfl (by omega)) ?_ | refine zf rfl (zg qB rfl) ?_ | refine zf rfl (zK qE rfl rfl rfl) ?_ | refine zf rfl (zE rfl rfl) ?_ | refine zf rfl (zD rfl rfl) ?_ | refine zf rfl (zo rfl rfl rfl) ?_ | refine zI rfl rfl rfl rfl ?_ | refine zc rfl rfl rfl rfl (Yld.add rfl rfl (by simp only [In]; omega)) ?_ | refine zc rfl rfl rfl rfl (Yld.sub rfl rfl (by simp only [In]; omega)) ?_ | refine zc rfl rfl rfl rfl (zH rfl rfl (by simp only [In]; omega)) ?_ | refine zc rfl rfl rfl rfl (zv qB rfl rfl rfl rfl) ?_ | refine zc rfl rfl rfl rfl (zw qB rfl rfl rfl (by simp only [In]; omega)) ?_ | refine zc rfl rfl rfl rfl (zF rfl rfl (by omega) (by omega) (by simp only [In]; omega)) ?_ | refine zc rfl rfl rfl rfl (zG rfl rfl (by omega) (by omega)) ?_ | refine zc rfl rfl rfl rfl (zL rfl rfl (by omega)) ?_ | refine zc rfl rfl rfl rfl (zJ rfl rfl (by omega)) ?_ | refine zc rfl rfl rfl rfl (zg qB rfl) ?_ | refine zc rfl rfl rfl rfl (zK qE rfl rfl rfl) ?_ | refine zc rfl rfl rfl rfl (zE rfl rfl) ?_ | refine zc rfl rfl rfl rfl (zD rfl rfl) ?_ | refine zc rfl rfl rfl rfl (zo rfl rfl rfl) ?_)
 refine zx rfl rfl (of_fn' n w h1 h2) ?_
 rintro u w1 ⟨hN,hg,hL⟩
 obtain ⟨a,b,rfl,ha,hb⟩:=hN.agg
 have hint:Fn Tryz.prog 69 ⟨[.agg ⟨[a,b]⟩]⟩ w1 fun v w'=>v=.iface 208 (.agg ⟨[a,b]⟩)/\w1.grownBy w' none:=by
  refine Fn.enter (by kernel_rfl) Tryz.func69 rfl Tryz.ntmps69 rfl ?_
  repeat (first | refine zd ?_ | refine WC.block ?_ | refine zb ?_ | refine ze ?_ | refine za ?_ | refine zr ?_ | refine zy ?_ | refine zu ?_ | refine zj ?_ | refine zi ?_ | refine zh ?_ | refine zl ?_ | refine zk ?_ | refine zn rfl ?_ | refine zz ?_ | refine zA ?_ | refine zm ?_ | refine zt ?_ | refine zq ?_ | refine zf rfl (Yld.add rfl rfl (by simp only [In]; omega)) ?_ | refine zf rfl (Yld.sub rfl rfl (by simp only [In]; omega)) ?_ | refine zf rfl (zH rfl rfl (by simp only [In]; omega)) ?_ | refine zf rfl (zv qB rfl rfl rfl rfl) ?_ | refine zf rfl (zw qB rfl rfl rfl (by simp only [In]; omega)) ?_ | refine zf rfl (zF rfl rfl (by omega) (by omega) (by simp only [In]; omega)) ?_ | refine zf rfl (zG rfl rfl (by omega) (by omega)) ?_ | refine zf rfl (zL rfl rfl (by omega)) ?_ | refine zf rfl (zJ rfl rfl (by omega)) ?_ | refine zf rfl (zg qB rfl) ?_ | refine zf rfl (zK qE rfl rfl rfl) ?_ | refine zf rfl (zE rfl rfl) ?_ | refine zf rfl (zD rfl rfl) ?_ | refine zf rfl (zo rfl rfl rfl) ?_ | refine zI rfl rfl rfl rfl ?_ | refine zc rfl rfl rfl rfl (Yld.add rfl rfl (by simp only [In]; omega)) ?_ | refine zc rfl rfl rfl rfl (Yld.sub rfl rfl (by simp only [In]; omega)) ?_ | refine zc rfl rfl rfl rfl (zH rfl rfl (by simp only [In]; omega)) ?_ | refine zc rfl rfl rfl rfl (zv qB rfl rfl rfl rfl) ?_ | refine zc rfl rfl rfl rfl (zw qB rfl rfl rfl (by simp only [In]; omega)) ?_ | refine zc rfl rfl rfl rfl (zF rfl rfl (by omega) (by omega) (by simp only [In]; omega)) ?_ | refine zc rfl rfl rfl rfl (zG rfl rfl (by omega) (by omega)) ?_ | refine zc rfl rfl rfl rfl (zL rfl rfl (by omega)) ?_ | refine zc rfl rfl rfl rfl (zJ rfl rfl (by omega)) ?_ | refine zc rfl rfl rfl rfl (zg qB rfl) ?_ | refine zc rfl rfl rfl rfl (zK qE rfl rfl rfl) ?_ | refine zc rfl rfl rfl rfl (zE rfl rfl) ?_ | refine zc rfl rfl rfl rfl (zD rfl rfl) ?_ | refine zc rfl rfl rfl rfl (zo rfl rfl rfl) ?_)
  refine qa (us:=[a,b]) rfl rfl rfl (fun g w2 hB hg hl=>?_)
  repeat (first | refine zd ?_ | refine WC.block ?_ | refine zb ?_ | refine ze ?_ | refine za ?_ | refine zr ?_ | refine zy ?_ | refine zu ?_ | refine zj ?_ | refine zi ?_ | refine zh ?_ | refine zl ?_ | refine zk ?_ | refine zn rfl ?_ | refine zz ?_ | refine zA ?_ | refine zm ?_ | refine zt ?_ | refine zq ?_ | refine zf rfl (Yld.add rfl rfl (by simp only [In]; omega)) ?_ | refine zf rfl (Yld.sub rfl rfl (by simp only [In]; omega)) ?_ | refine zf rfl (zH rfl rfl (by simp only [In]; omega)) ?_ | refine zf rfl (zv qB rfl rfl rfl rfl) ?_ | refine zf rfl (zw qB rfl rfl rfl (by simp only [In]; omega)) ?_ | refine zf rfl (zF rfl rfl (by omega) (by omega) (by simp only [In]; omega)) ?_ | refine zf rfl (zG rfl rfl (by omega) (by omega)) ?_ | refine zf rfl (zL rfl rfl (by omega)) ?_ | refine zf rfl (zJ rfl rfl (by omega)) ?_ | refine zf rfl (zg qB rfl) ?_ | refine zf rfl (zK qE rfl rfl rfl) ?_ | refine zf rfl (zE rfl rfl) ?_ | refine zf rfl (zD rfl rfl) ?_ | refine zf rfl (zo rfl rfl rfl) ?_ | refine zI rfl rfl rfl rfl ?_ | refine zc rfl rfl rfl rfl (Yld.add rfl rfl (by simp only [In]; omega)) ?_ | refine zc rfl rfl rfl rfl (Yld.sub rfl rfl (by simp only [In]; omega)) ?_ | refine zc rfl rfl rfl rfl (zH rfl rfl (by simp only [In]; omega)) ?_ | refine zc rfl rfl rfl rfl (zv qB rfl rfl rfl rfl) ?_ | refine zc rfl rfl rfl rfl (zw qB rfl rfl rfl (by simp only [In]; omega)) ?_ | refine zc rfl rfl rfl rfl (zF rfl rfl (by omega) (by omega) (by simp only [In]; omega)) ?_ | refine zc rfl rfl rfl rfl (zG rfl rfl (by omega) (by omega)) ?_ | refine zc rfl rfl rfl rfl (zL rfl rfl (by omega)) ?_ | refine zc rfl rfl rfl rfl (zJ rfl rfl (by omega)) ?_ | refine zc rfl rfl rfl rfl (zg qB rfl) ?_ | refine zc rfl rfl rfl rfl (zK qE rfl rfl rfl) ?_ | refine zc rfl rfl rfl rfl (zE rfl rfl) ?_ | refine zc rfl rfl rfl rfl (zD rfl rfl) ?_ | refine zc rfl rfl rfl rfl (zo rfl rfl rfl) ?_)
  refine zf rfl (z3 (vs:=[a,b]) qB hB rfl rfl rfl rfl) ?_
  refine zf rfl (zU (us:=[a,b]) (vs:=[(1,.agg ⟨[a,b]⟩)]) zero208 places208 rfl rfl) ?_
  refine zf rfl (qk Tryz.underlying208 rfl rfl) ?_
  repeat (first | refine zd ?_ | refine WC.block ?_ | refine zb ?_ | refine ze ?_ | refine za ?_ | refine zr ?_ | refine zy ?_ | refine zu ?_ | refine zj ?_ | refine zi ?_ | refine zh ?_ | refine zl ?_ | refine zk ?_ | refine zn rfl ?_ | refine zz ?_ | refine zA ?_ | refine zm ?_ | refine zt ?_ | refine zq ?_ | refine zf rfl (Yld.add rfl rfl (by simp only [In]; omega)) ?_ | refine zf rfl (Yld.sub rfl rfl (by simp only [In]; omega)) ?_ | refine zf rfl (zH rfl rfl (by simp only [In]; omega)) ?_ | refine zf rfl (zv qB rfl rfl rfl rfl) ?_ | refine zf rfl (zw qB rfl rfl rfl (by simp only [In]; omega)) ?_ | refine zf rfl (zF rfl rfl (by omega) (by omega) (by simp only [In]; omega)) ?_ | refine zf rfl (zG rfl rfl (by omega) (by omega)) ?_ | refine zf rfl (zL rfl rfl (by omega)) ?_ | refine zf rfl (zJ rfl rfl (by omega)) ?_ | refine zf rfl (zg qB rfl) ?_ | refine zf rfl (zK qE rfl rfl rfl) ?_ | refine zf rfl (zE rfl rfl) ?_ | refine zf rfl (zD rfl rfl) ?_ | refine zf rfl (zo rfl rfl rfl) ?_ | refine zI rfl rfl rfl rfl ?_ | refine zc rfl rfl rfl rfl (Yld.add rfl rfl (by simp only [In]; omega)) ?_ | refine zc rfl rfl rfl rfl (Yld.sub rfl rfl (by simp only [In]; omega)) ?_ | refine zc rfl rfl rfl rfl (zH rfl rfl (by simp only [In]; omega)) ?_ | refine zc rfl rfl rfl rfl (zv qB rfl rfl rfl rfl) ?_ | refine zc rfl rfl rfl rfl (zw qB rfl rfl rfl (by simp only [In]; omega)) ?_ | refine zc rfl rfl rfl rfl (zF rfl rfl (by omega) (by omega) (by simp only [In]; omega)) ?_ | refine zc rfl rfl rfl rfl (zG rfl rfl (by omega) (by omega)) ?_ | refine zc rfl rfl rfl rfl (zL rfl rfl (by omega)) ?_ | refine zc rfl rfl rfl rfl (zJ rfl rfl (by omega)) ?_ | refine zc rfl rfl rfl rfl (zg qB rfl) ?_ | refine zc rfl rfl rfl rfl (zK qE rfl rfl rfl) ?_ | refine zc rfl rfl rfl rfl (zE rfl rfl) ?_ | refine zc rfl rfl rfl rfl (zD rfl rfl) ?_ | refine zc rfl rfl rfl rfl (zo rfl rfl rfl) ?_)
  exact zM rfl rfl ⟨rfl,hg⟩
 refine zx rfl rfl hint ?_
 rintro v w2 ⟨rfl,hg2⟩
 repeat (first | refine zd ?_ | refine WC.block ?_ | refine zb ?_ | refine ze ?_ | refine za ?_ | refine zr ?_ | refine zy ?_ | refine zu ?_ | refine zj ?_ | refine zi ?_ | refine zh ?_ | refine zl ?_ | refine zk ?_ | refine zn rfl ?_ | refine zz ?_ | refine zA ?_ | refine zm ?_ | refine zt ?_ | refine zq ?_ | refine zf rfl (Yld.add rfl rfl (by simp only [In]; omega)) ?_ | refine zf rfl (Yld.sub rfl rfl (by simp only [In]; omega)) ?_ | refine zf rfl (zH rfl rfl (by simp only [In]; omega)) ?_ | refine zf rfl (zv qB rfl rfl rfl rfl) ?_ | refine zf rfl (zw qB rfl rfl rfl (by simp only [In]; omega)) ?_ | refine zf rfl (zF rfl rfl (by omega) (by omega) (by simp only [In]; omega)) ?_ | refine zf rfl (zG rfl rfl (by omega) (by omega)) ?_ | refine zf rfl (zL rfl rfl (by omega)) ?_ | refine zf rfl (zJ rfl rfl (by omega)) ?_ | refine zf rfl (zg qB rfl) ?_ | refine zf rfl (zK qE rfl rfl rfl) ?_ | refine zf rfl (zE rfl rfl) ?_ | refine zf rfl (zD rfl rfl) ?_ | refine zf rfl (zo rfl rfl rfl) ?_ | refine zI rfl rfl rfl rfl ?_ | refine zc rfl rfl rfl rfl (Yld.add rfl rfl (by simp only [In]; omega)) ?_ | refine zc rfl rfl rfl rfl (Yld.sub rfl rfl (by simp only [In]; omega)) ?_ | refine zc rfl rfl rfl rfl (zH rfl rfl (by simp only [In]; omega)) ?_ | refine zc rfl rfl rfl rfl (zv qB rfl rfl rfl rfl) ?_ | refine zc rfl rfl rfl rfl (zw qB rfl rfl rfl (by simp only [In]; omega)) ?_ | refine zc rfl rfl rfl rfl (zF rfl rfl (by omega) (by omega) (by simp only [In]; omega)) ?_ | refine zc rfl rfl rfl rfl (zG rfl rfl (by omega) (by omega)) ?_ | refine zc rfl rfl rfl rfl (zL rfl rfl (by omega)) ?_ | refine zc rfl rfl rfl rfl (zJ rfl rfl (by omega)) ?_ | refine zc rfl rfl rfl rfl (zg qB rfl) ?_ | refine zc rfl rfl rfl rfl (zK qE rfl rfl rfl) ?_ | refine zc rfl rfl rfl rfl (zE rfl rfl) ?_ | refine zc rfl rfl rfl rfl (zD rfl rfl) ?_ | refine zc rfl rfl rfl rfl (zo rfl rfl rfl) ?_)
 have hN2:=hN.grown hg2
 refine zM rfl rfl ⟨qC hg hg2,⟨.iface 208 (.agg ⟨[a,b]⟩),rfl⟩,fun q=>w.heap.size<=q/\q<w2.heap.size,.int n,rfl,RelD.cons ⟨⟨a,b,rfl,hN2,?_⟩,fun q hq=>hq.2⟩ RelD.nil,fun p hp=>DnD.cons (fun q e hq=>?_) DnD.nil,hK⟩
 ·intro neg A m c e q hq
  have:=hL neg A m c e q hq
  have:=hg2.size
  omega
 ·have:=hp q e
  omega
theorem AR.ofV {w:World} {F:Nat->Prop} {v:Value} {p:PA} (h:VR w F v p.v):AR w F v p:=by cases p <;> exact h
def M_val_Str (s:List UInt8) (K:PV->Prop):Prop:=K (.str s)
theorem W_val_Str {w:World} {s:List UInt8} {K:PV->Prop} (H:M_val_Str s K):Fn Tryz.prog 36 ⟨[vs s]⟩ w (fun v w'=>w.grownBy w' none/\∃ (v_r:OV),∃ (F_r:Nat->Prop),∃ (r:PV),v=v_r.1/\RelD deV w' [(v_r,F_r)] [r]/\(∀ p:Option Nat,Lt p w.heap.size->DnD deV [(v_r,F_r)] [r] p)/\K r):=by
 refine Fn.enter (by kernel_rfl) Tryz.func36 rfl Tryz.ntmps36 rfl ?_
 repeat (first | refine zd ?_ | refine WC.block ?_ | refine zb ?_ | refine ze ?_ | refine za ?_ | refine zr ?_ | refine zy ?_ | refine zu ?_ | refine zj ?_ | refine zi ?_ | refine zh ?_ | refine zl ?_ | refine zk ?_ | refine zn rfl ?_ | refine zz ?_ | refine zA ?_ | refine zm ?_ | refine zt ?_ | refine zq ?_ | refine zf rfl (Yld.add rfl rfl (by simp only [In]; omega)) ?_ | refine zf rfl (Yld.sub rfl rfl (by simp only [In]; omega)) ?_ | refine zf rfl (zH rfl rfl (by simp only [In]; omega)) ?_ | refine zf rfl (zv qB rfl rfl rfl rfl) ?_ | refine zf rfl (zw qB rfl rfl rfl (by simp only [In]; omega)) ?_ | refine zf rfl (zF rfl rfl (by omega) (by omega) (by simp only [In]; omega)) ?_ | refine zf rfl (zG rfl rfl (by omega) (by omega)) ?_ | refine zf rfl (zL rfl rfl (by omega)) ?_ | refine zf rfl (zJ rfl rfl (by omega)) ?_ | refine zf rfl (zg qB rfl) ?_ | refine zf rfl (zK qE rfl rfl rfl) ?_ | refine zf rfl (zE rfl rfl) ?_ | refine zf rfl (zD rfl rfl) ?_ | refine zf rfl (zo rfl rfl rfl) ?_ | refine zI rfl rfl rfl rfl ?_ | refine zc rfl rfl rfl rfl (Yld.add rfl rfl (by simp only [In]; omega)) ?_ | refine zc rfl rfl rfl rfl (Yld.sub rfl rfl (by simp only [In]; omega)) ?_ | refine zc rfl rfl rfl rfl (zH rfl rfl (by simp only [In]; omega)) ?_ | refine zc rfl rfl rfl rfl (zv qB rfl rfl rfl rfl) ?_ | refine zc rfl rfl rfl rfl (zw qB rfl rfl rfl (by simp only [In]; omega)) ?_ | refine zc rfl rfl rfl rfl (zF rfl rfl (by omega) (by omega) (by simp only [In]; omega)) ?_ | refine zc rfl rfl rfl rfl (zG rfl rfl (by omega) (by omega)) ?_ | refine zc rfl rfl rfl rfl (zL rfl rfl (by omega)) ?_ | refine zc rfl rfl rfl rfl (zJ rfl rfl (by omega)) ?_ | refine zc rfl rfl rfl rfl (zg qB rfl) ?_ | refine zc rfl rfl rfl rfl (zK qE rfl rfl rfl) ?_ | refine zc rfl rfl rfl rfl (zE rfl rfl) ?_ | refine zc rfl rfl rfl rfl (zD rfl rfl) ?_ | refine zc rfl rfl rfl rfl (zo rfl rfl rfl) ?_)
 refine zf rfl (qk Tryz.underlying169 rfl rfl) ?_
 repeat (first | refine zd ?_ | refine WC.block ?_ | refine zb ?_ | refine ze ?_ | refine za ?_ | refine zr ?_ | refine zy ?_ | refine zu ?_ | refine zj ?_ | refine zi ?_ | refine zh ?_ | refine zl ?_ | refine zk ?_ | refine zn rfl ?_ | refine zz ?_ | refine zA ?_ | refine zm ?_ | refine zt ?_ | refine zq ?_ | refine zf rfl (Yld.add rfl rfl (by simp only [In]; omega)) ?_ | refine zf rfl (Yld.sub rfl rfl (by simp only [In]; omega)) ?_ | refine zf rfl (zH rfl rfl (by simp only [In]; omega)) ?_ | refine zf rfl (zv qB rfl rfl rfl rfl) ?_ | refine zf rfl (zw qB rfl rfl rfl (by simp only [In]; omega)) ?_ | refine zf rfl (zF rfl rfl (by omega) (by omega) (by simp only [In]; omega)) ?_ | refine zf rfl (zG rfl rfl (by omega) (by omega)) ?_ | refine zf rfl (zL rfl rfl (by omega)) ?_ | refine zf rfl (zJ rfl rfl (by omega)) ?_ | refine zf rfl (zg qB rfl) ?_ | refine zf rfl (zK qE rfl rfl rfl) ?_ | refine zf rfl (zE rfl rfl) ?_ | refine zf rfl (zD rfl rfl) ?_ | refine zf rfl (zo rfl rfl rfl) ?_ | refine zI rfl rfl rfl rfl ?_ | refine zc rfl rfl rfl rfl (Yld.add rfl rfl (by simp only [In]; omega)) ?_ | refine zc rfl rfl rfl rfl (Yld.sub rfl rfl (by simp only [In]; omega)) ?_ | refine zc rfl rfl rfl rfl (zH rfl rfl (by simp only [In]; omega)) ?_ | refine zc rfl rfl rfl rfl (zv qB rfl rfl rfl rfl) ?_ | refine zc rfl rfl rfl rfl (zw qB rfl rfl rfl (by simp only [In]; omega)) ?_ | refine zc rfl rfl rfl rfl (zF rfl rfl (by omega) (by omega) (by simp only [In]; omega)) ?_ | refine zc rfl rfl rfl rfl (zG rfl rfl (by omega) (by omega)) ?_ | refine zc rfl rfl rfl rfl (zL rfl rfl (by omega)) ?_ | refine zc rfl rfl rfl rfl (zJ rfl rfl (by omega)) ?_ | refine zc rfl rfl rfl rfl (zg qB rfl) ?_ | refine zc rfl rfl rfl rfl (zK qE rfl rfl rfl) ?_ | refine zc rfl rfl rfl rfl (zE rfl rfl) ?_ | refine zc rfl rfl rfl rfl (zD rfl rfl) ?_ | refine zc rfl rfl rfl rfl (zo rfl rfl rfl) ?_)
 exact zM rfl rfl ⟨jf _ _,⟨.iface 169 (vs s),rfl⟩,noF,.str s,rfl,RelD.cons ⟨rfl,fun _ h=>h.elim⟩ RelD.nil,fun p _=>DnD.cons (fun _ _ h=>h) DnD.nil,H⟩
theorem W_val_Tuple {w:World} {l:List PV} {A_l:Option Addr} {c_l:Nat} {hs_l:List VH} {n_l:Nat} {K:PV->Prop} (hl:Rd vv w A_l c_l hs_l) (hn_l:n_l=l.length) (hr_l:RelD deV w hs_l l) (H:M_val_Tuple l K):Fn Tryz.prog 19 ⟨[.slice A_l n_l c_l]⟩ w
  (fun v w'=>w.grownBy w' none/\∃ (v_r:OV),∃ (F_r:Nat->Prop),∃ (r:PV),v=v_r.1/\RelD deV w' [(v_r,F_r)] [r]/\(∀ p:Option Nat,Lt p w.heap.size->DnD deV hs_l l p->DnD deV [(v_r,F_r)] [r] p)/\K r):=by
 obtain ⟨hlen,zs,rfl,hK⟩:=H
 refine Fn.enter (by kernel_rfl) Tryz.func19 rfl Tryz.ntmps19 rfl ?_
 repeat (first | refine zd ?_ | refine WC.block ?_ | refine zb ?_ | refine ze ?_ | refine za ?_ | refine zr ?_ | refine zy ?_ | refine zu ?_ | refine zj ?_ | refine zi ?_ | refine zh ?_ | refine zl ?_ | refine zk ?_ | refine zn rfl ?_ | refine zz ?_ | refine zA ?_ | refine zm ?_ | refine zt ?_ | refine zq ?_ | refine zf rfl (Yld.add rfl rfl (by simp only [In]; omega)) ?_ | refine zf rfl (Yld.sub rfl rfl (by simp only [In]; omega)) ?_ | refine zf rfl (zH rfl rfl (by simp only [In]; omega)) ?_ | refine zf rfl (zv qB rfl rfl rfl rfl) ?_ | refine zf rfl (zw qB rfl rfl rfl (by simp only [In]; omega)) ?_ | refine zf rfl (zF rfl rfl (by omega) (by omega) (by simp only [In]; omega)) ?_ | refine zf rfl (zG rfl rfl (by omega) (by omega)) ?_ | refine zf rfl (zL rfl rfl (by omega)) ?_ | refine zf rfl (zJ rfl rfl (by omega)) ?_ | refine zf rfl (zg qB rfl) ?_ | refine zf rfl (zK qE rfl rfl rfl) ?_ | refine zf rfl (zE rfl rfl) ?_ | refine zf rfl (zD rfl rfl) ?_ | refine zf rfl (zo rfl rfl rfl) ?_ | refine zI rfl rfl rfl rfl ?_ | refine zc rfl rfl rfl rfl (Yld.add rfl rfl (by simp only [In]; omega)) ?_ | refine zc rfl rfl rfl rfl (Yld.sub rfl rfl (by simp only [In]; omega)) ?_ | refine zc rfl rfl rfl rfl (zH rfl rfl (by simp only [In]; omega)) ?_ | refine zc rfl rfl rfl rfl (zv qB rfl rfl rfl rfl) ?_ | refine zc rfl rfl rfl rfl (zw qB rfl rfl rfl (by simp only [In]; omega)) ?_ | refine zc rfl rfl rfl rfl (zF rfl rfl (by omega) (by omega) (by simp only [In]; omega)) ?_ | refine zc rfl rfl rfl rfl (zG rfl rfl (by omega) (by omega)) ?_ | refine zc rfl rfl rfl rfl (zL rfl rfl (by omega)) ?_ | refine zc rfl rfl rfl rfl (zJ rfl rfl (by omega)) ?_ | refine zc rfl rfl rfl rfl (zg qB rfl) ?_ | refine zc rfl rfl rfl rfl (zK qE rfl rfl rfl) ?_ | refine zc rfl rfl rfl rfl (zE rfl rfl) ?_ | refine zc rfl rfl rfl rfl (zD rfl rfl) ?_ | refine zc rfl rfl rfl rfl (zo rfl rfl rfl) ?_)
 refine zx rfl rfl (qZ (K:=fun r=>r=zs.map PA.v) hl hn_l hr_l (clone_MV hlen rfl)) ?_
 rintro _ w1 ⟨hg1,r,A,c,hs,rfl,hO,hr,ho,hc,hrn⟩
 subst hrn
 refine zf rfl (zU (us:=[.slice A (zs.map PA.v).length c]) (vs:=[(1,.slice A (zs.map PA.v).length c)]) zero158 places158 rfl rfl) ?_
 refine qa (us:=[.slice A (zs.map PA.v).length c]) rfl rfl rfl (fun g w2 hB hg2 hl2=>?_)
 repeat (first | refine zd ?_ | refine WC.block ?_ | refine zb ?_ | refine ze ?_ | refine za ?_ | refine zr ?_ | refine zy ?_ | refine zu ?_ | refine zj ?_ | refine zi ?_ | refine zh ?_ | refine zl ?_ | refine zk ?_ | refine zn rfl ?_ | refine zz ?_ | refine zA ?_ | refine zm ?_ | refine zt ?_ | refine zq ?_ | refine zf rfl (Yld.add rfl rfl (by simp only [In]; omega)) ?_ | refine zf rfl (Yld.sub rfl rfl (by simp only [In]; omega)) ?_ | refine zf rfl (zH rfl rfl (by simp only [In]; omega)) ?_ | refine zf rfl (zv qB rfl rfl rfl rfl) ?_ | refine zf rfl (zw qB rfl rfl rfl (by simp only [In]; omega)) ?_ | refine zf rfl (zF rfl rfl (by omega) (by omega) (by simp only [In]; omega)) ?_ | refine zf rfl (zG rfl rfl (by omega) (by omega)) ?_ | refine zf rfl (zL rfl rfl (by omega)) ?_ | refine zf rfl (zJ rfl rfl (by omega)) ?_ | refine zf rfl (zg qB rfl) ?_ | refine zf rfl (zK qE rfl rfl rfl) ?_ | refine zf rfl (zE rfl rfl) ?_ | refine zf rfl (zD rfl rfl) ?_ | refine zf rfl (zo rfl rfl rfl) ?_ | refine zI rfl rfl rfl rfl ?_ | refine zc rfl rfl rfl rfl (Yld.add rfl rfl (by simp only [In]; omega)) ?_ | refine zc rfl rfl rfl rfl (Yld.sub rfl rfl (by simp only [In]; omega)) ?_ | refine zc rfl rfl rfl rfl (zH rfl rfl (by simp only [In]; omega)) ?_ | refine zc rfl rfl rfl rfl (zv qB rfl rfl rfl rfl) ?_ | refine zc rfl rfl rfl rfl (zw qB rfl rfl rfl (by simp only [In]; omega)) ?_ | refine zc rfl rfl rfl rfl (zF rfl rfl (by omega) (by omega) (by simp only [In]; omega)) ?_ | refine zc rfl rfl rfl rfl (zG rfl rfl (by omega) (by omega)) ?_ | refine zc rfl rfl rfl rfl (zL rfl rfl (by omega)) ?_ | refine zc rfl rfl rfl rfl (zJ rfl rfl (by omega)) ?_ | refine zc rfl rfl rfl rfl (zg qB rfl) ?_ | refine zc rfl rfl rfl rfl (zK qE rfl rfl rfl) ?_ | refine zc rfl rfl rfl rfl (zE rfl rfl) ?_ | refine zc rfl rfl rfl rfl (zD rfl rfl) ?_ | refine zc rfl rfl rfl rfl (zo rfl rfl rfl) ?_)
 refine zf rfl (qk Tryz.underlying155 rfl rfl) ?_
 repeat (first | refine zd ?_ | refine WC.block ?_ | refine zb ?_ | refine ze ?_ | refine za ?_ | refine zr ?_ | refine zy ?_ | refine zu ?_ | refine zj ?_ | refine zi ?_ | refine zh ?_ | refine zl ?_ | refine zk ?_ | refine zn rfl ?_ | refine zz ?_ | refine zA ?_ | refine zm ?_ | refine zt ?_ | refine zq ?_ | refine zf rfl (Yld.add rfl rfl (by simp only [In]; omega)) ?_ | refine zf rfl (Yld.sub rfl rfl (by simp only [In]; omega)) ?_ | refine zf rfl (zH rfl rfl (by simp only [In]; omega)) ?_ | refine zf rfl (zv qB rfl rfl rfl rfl) ?_ | refine zf rfl (zw qB rfl rfl rfl (by simp only [In]; omega)) ?_ | refine zf rfl (zF rfl rfl (by omega) (by omega) (by simp only [In]; omega)) ?_ | refine zf rfl (zG rfl rfl (by omega) (by omega)) ?_ | refine zf rfl (zL rfl rfl (by omega)) ?_ | refine zf rfl (zJ rfl rfl (by omega)) ?_ | refine zf rfl (zg qB rfl) ?_ | refine zf rfl (zK qE rfl rfl rfl) ?_ | refine zf rfl (zE rfl rfl) ?_ | refine zf rfl (zD rfl rfl) ?_ | refine zf rfl (zo rfl rfl rfl) ?_ | refine zI rfl rfl rfl rfl ?_ | refine zc rfl rfl rfl rfl (Yld.add rfl rfl (by simp only [In]; omega)) ?_ | refine zc rfl rfl rfl rfl (Yld.sub rfl rfl (by simp only [In]; omega)) ?_ | refine zc rfl rfl rfl rfl (zH rfl rfl (by simp only [In]; omega)) ?_ | refine zc rfl rfl rfl rfl (zv qB rfl rfl rfl rfl) ?_ | refine zc rfl rfl rfl rfl (zw qB rfl rfl rfl (by simp only [In]; omega)) ?_ | refine zc rfl rfl rfl rfl (zF rfl rfl (by omega) (by omega) (by simp only [In]; omega)) ?_ | refine zc rfl rfl rfl rfl (zG rfl rfl (by omega) (by omega)) ?_ | refine zc rfl rfl rfl rfl (zL rfl rfl (by omega)) ?_ | refine zc rfl rfl rfl rfl (zJ rfl rfl (by omega)) ?_ | refine zc rfl rfl rfl rfl (zg qB rfl) ?_ | refine zc rfl rfl rfl rfl (zK qE rfl rfl rfl) ?_ | refine zc rfl rfl rfl rfl (zE rfl rfl) ?_ | refine zc rfl rfl rfl rfl (zD rfl rfl) ?_ | refine zc rfl rfl rfl rfl (zo rfl rfl rfl) ?_)
 have h0:=hg1.size
 have hO2:=hO.grown hg2
 have hr2:=hr.grown hg2
 have at1:∀ h∈hs,∃ i x,hs[i]? = some h/\(zs.map PA.v)[i]? = some x:=fun h hh=>by
  obtain ⟨i,hi,rfl⟩:=List.getElem_of_mem hh
  exact ⟨i,_,List.getElem?_eq_getElem hi,List.getElem?_eq_getElem (by rw [<-hr.1]; exact hi)⟩
 refine zM rfl rfl ⟨qC hg1 hg2,⟨.iface 155 (.pointer (some ⟨g,0,none⟩)),rfl⟩,fun q=>q=g∨blk A=some q∨∃ h,h∈hs/\h.2 q,.tup zs,rfl,RelD.cons ⟨⟨g,A,c,hs,rfl,by rw [List.length_map] at hB; exact hB,hO2.rd,by rw [hr.1,List.length_map],fun q hq=>.inr (.inl hq),.inl rfl,fun i h z hh hz=>?_⟩,fun q hq=>?_⟩ RelD.nil,fun p hp hd=>DnD.cons (fun q e hq=>?_) DnD.nil,hK⟩
 ·have:=hr2.2 i h z.v hh (by rw [List.getElem?_map,hz]; rfl)
  exact AR.mono (AR.ofV this.1) fun q hq=>.inr (.inr ⟨h,List.mem_of_getElem? hh,hq⟩)
 ·rcases hq with rfl | hq | ⟨h,hh,hq⟩
  ·exact hB.lt
  ·exact (hO2.lt hq).2
  ·obtain ⟨i,x,a,b⟩:=at1 h hh; exact (hr2.2 i h x a b).2 q hq
 ·have hpq:=hp q e
  rcases hq with rfl | hq | ⟨h,hh,hq⟩
  ·omega
  ·have:=(hO.lt hq).1; omega
  ·obtain ⟨i,x,a,b⟩:=at1 h hh
   exact ho p hp hd i h x a b q e hq
end
 
section
open Go Go.RowKit
end
 
section
open Go Go.RowKit
end
 
section
open Go Go.RowKit
attribute [local irreducible] WL WC WX WQ WK WJ Yld Eff Ef0 Fn
def kc (l:List PV) (K0:Prop) (K:(List PV)->Bool->Int->Prop):Prop :=
 (l.length<=maxLen ->
 qM l (fun (t4:List PV) =>
 K t4 false (0:Int)))
def ju (l_l:List PV) (l_frozen:Bool) (l_over:Int) (K:Bool->Prop):Prop :=
 (l_l.length<=maxLen ->
 K ((!l_frozen) && (decide (l_over=(0:Int)))))
def M_pval_List_Len (l_l:List PV) (l_frozen:Bool) (l_over:Int) (K:Int->Prop):Prop :=
 (l_l.length<=maxLen ->
 K (l_l.length:Int))
def M_pval_List_Add (l_l:List PV) (l_frozen:Bool) (l_over:Int) (items:List PV) (K:(List PV)->Bool->Int->Prop):Prop :=
 (l_l.length<=maxLen ->
 (items.length<=maxLen ->
 ((l_l.length+items.length)*16<=140737488355328) /\
 K (l_l++items) l_frozen l_over))
def M_val_items_List0 (v_l:List PV) (v_frozen:Bool) (v_over:Int) (K:(List PV)->Bool->Prop):Prop :=
 (v_l.length<=maxLen ->
 qM v_l (fun (t2:List PV) =>
 K t2 true))
def je (v_l:List PV) (v_frozen:Bool) (v_over:Int) (K:(List PV)->Bool->Prop):Prop :=
 (v_l.length<=maxLen ->
 M_val_items_List0 v_l v_frozen v_over (fun (t50:List PV) (t51:Bool) =>
 K t50 t51))
def M_val_hold_List0 (v_l:List PV) (v_frozen:Bool) (v_over:Int) (by_:Int) (K:(List PV)->Bool->Int->Prop):Prop :=
 (v_l.length<=maxLen ->
 (In .i64 (v_over+by_)) /\
 K v_l v_frozen (v_over+by_))
def j1 (v_l:List PV) (v_frozen:Bool) (v_over:Int) (by_:Int) (K:(List PV)->Bool->Int->Prop):Prop :=
 (v_l.length<=maxLen ->
 M_val_hold_List0 v_l v_frozen v_over by_ (fun (v_:List PV) (v_2:Bool) (v_3:Int) =>
 K v_ v_2 v_3))
def kd (v_l:List PV) (v_frozen:Bool) (v_over:Int) (K0:Er->(List PV)->Bool->Int->Prop) (K:(List PV)->Int->Bool->Bool->Er->(List PV)->Bool->Int->Prop):Prop :=
 (v_l.length<=maxLen ->
 je v_l v_frozen v_over (fun (t180:List PV) (t181:Bool) =>
 j1 v_l v_frozen v_over (1:Int) (fun (v_:List PV) (v_2:Bool) (v_3:Int) =>
 K t180 (0:Int) false false Er.ok v_ v_2 v_3)))
def jE (o_v_l:List PV) (o_v_frozen:Bool) (o_v_over:Int) (o_l:List PV) (o_at:Int) (o_ended:Bool) (o_Paid:Bool) (K:Int->Bool->Bool->(List PV)->Bool->Int->Prop):Prop :=
 (o_v_l.length<=maxLen ->
 (o_l.length<=maxLen ->
 (((!o_ended)=true->j1 o_v_l o_v_frozen o_v_over (-1:Int) (fun (o_v_:List PV) (o_v_2:Bool) (o_v_3:Int) =>
 K o_at true o_Paid o_v_ o_v_2 o_v_3)) /\
 ((!o_ended)=false->K o_at o_ended o_Paid o_v_l o_v_frozen o_v_over))))
def kr (l_l:List PV) (l_frozen:Bool) (l_over:Int) (x:List PV) (K:Er->(List PV)->Bool->Int->Prop):Prop :=
 (l_l.length<=maxLen ->
 (x.length<=maxLen ->
 ju l_l l_frozen l_over (fun (t6:Bool) =>
 (((!t6)=true->K (Er.e 3) l_l l_frozen l_over) /\
 ((!t6)=false->M_pval_List_Len l_l l_frozen l_over (fun (t12:Int) =>
 (In .i64 ((1024:Int) - t12)) /\
 ((((1024:Int) - t12)<(x.length:Int)->K (Er.e 7) l_l l_frozen l_over) /\
 (¬ (((1024:Int) - t12)<(x.length:Int))->M_pval_List_Add l_l l_frozen l_over x (fun (l_:List PV) (l_2:Bool) (l_3:Int) =>
 K Er.ok l_ l_2 l_3)))))))))
def ka (l_l:List PV) (l_frozen:Bool) (l_over:Int) (x:PV) (K:Er->(List PV)->Bool->Int->Prop):Prop :=
 (l_l.length<=maxLen ->
 kr l_l l_frozen l_over ([x]:List PV) (fun (t4:Er) (l_:List PV) (l_2:Bool) (l_3:Int) =>
 K t4 l_ l_2 l_3))
def jW (K:Bool->Prop):Prop :=
 qW (3:Int) (fun (t8:PV) =>
 qW (1:Int) (fun (t9:PV) =>
 qW (2:Int) (fun (t10:PV) =>
 M_list_Sorted ([t8,t9,t10]:List PV) true (fun (t120:List PV) (t121:Er) =>
 ∃ J1:Bool->Prop,(((((!decide (t121=Er.ok)) || (!decide ((t120.length:Int)=(3:Int))))=true->J1 true) /\
 (((!decide (t121=Er.ok)) || (!decide ((t120.length:Int)=(3:Int))))=false->(0<=(0:Int)/\(0:Int)<(t120.length:Nat)) /\
 M_val_Repr (t120.getD 0 PV.nil) (fun (t26:List UInt8) =>
 J1 (!decide (t26=([51]:List UInt8))))))) /\
 (∀ q2:Bool,J1 q2->∃ J2:Bool->Prop,(((q2=true->J2 true) /\
 (q2=false->(0<=(2:Int)/\(2:Int)<(t120.length:Nat)) /\
 M_val_Repr (t120.getD 2 PV.nil) (fun (t33:List UInt8) =>
 J2 (!decide (t33=([49]:List UInt8))))))) /\
 (∀ q3:Bool,J2 q3->((q3=true->K false) /\
 (q3=false->qW (1:Int) (fun (t36:PV) =>
 kc ([t36]:List PV) (
 K false) (fun (a_l:List PV) (a_frozen:Bool) (a_over:Int) =>
 kd a_l a_frozen a_over (fun (t441:Er) (a_:List PV) (a_2:Bool) (a_3:Int) =>
 K false) (fun (h9:List PV) (f8:Int) (d8:Bool) (d9:Bool) (t4412:Er) (a_4:List PV) (a_5:Bool) (a_6:Int) =>
 ((¬ (t4412=Er.ok)->K false) /\
 (t4412=Er.ok->qW (2:Int) (fun (t54:PV) =>
 ka a_4 a_5 a_6 t54 (fun (g:Er) (a_7:List PV) (a_8:Bool) (a_9:Int) =>
 jE a_7 a_8 a_9 h9 f8 d8 d9 (fun (t440_:Int) (m0:Bool) (m1:Bool) (a_10:List PV) (a_11:Bool) (a_12:Int) =>
 kg g (104:Int) (fun (t59:Bool) =>
 ∃ J3:Bool->Prop,(((t59=true->qW (2:Int) (fun (t62:PV) =>
 ka a_10 a_11 a_12 t62 (fun (t63:Er) (a_13:List PV) (a_14:Bool) (a_15:Int) =>
 J3 (decide (t63=Er.ok))))) /\
 (t59=false->J3 false))) /\
 (∀ q6:Bool,J3 q6->K q6))))))))))))))))))
set_option maxHeartbeats 8000000 in
theorem W_val_NewList {w:World} {l:List PV} {A_l:Option Addr} {c_l:Nat} {l8:List VH} {n_l:Nat} {K0:Prop} {K:(List PV)->Bool->Int->Prop} (hl:Rd vv w A_l c_l l8) (n3:n_l=l.length) (m7:RelD deV w l8 l) (H:kc l K0 K):Fn Tryz.prog 29 ⟨[.slice A_l n_l c_l]⟩ w (fun v w'=>w.grownBy w' none/\((v=.pointer none/\K0 )∨(∃ (g_r:Nat),∃ (r_l:List PV),∃ (e4:Option Addr),∃ (i4:Nat),∃ (d5:List VH),∃ (r_frozen:Bool),∃ (r_over:Int),v=.pointer (some ⟨g_r,0,none⟩)/\Own vv w' w.heap.size 32 e4 i4 d5/\RelD deV w' d5 r_l/\(∀ p:Option Nat,Lt p w.heap.size->DnD deV l8 l p->DnD deV d5 r_l p)/\DnD deV d5 r_l (blk e4)/\Bl w' g_r 166 [.slice e4 r_l.length i4,.bool r_frozen,.int .i64 r_over]/\Ge (some g_r) w.heap.size/\DnD deV d5 r_l (blk e4)/\DnD deV d5 r_l (some g_r)/\Dj (blk e4) (some g_r)/\K r_l r_frozen r_over))):=by
 subst n3
 unfold kc at H
 refine Fn.enter (by kernel_rfl) Tryz.func29 rfl Tryz.ntmps29 rfl ?_
 replace H:=H (by rw [<-m7.1]; exact Nat.le_trans hl.cap hl.max)
 refine zd (zb (yp (h:=(ze (za (zd (zb (yp (h:=(zx rfl rfl (qZ hl rfl m7 H) ?_))))))))))
 rintro _ w1 ⟨hg1,t4,i9,l2,n0,rfl,ht4,i6,ho1,dj1,H⟩
 have hb1:=ht4.ge'
 have k1:=ht4.base (fun g hg=>Nat.le_trans (Nat.le_refl _) (hb1 g hg))
 have gr1:=hg1
 exact zf rfl (zU (us:=[.slice i9 t4.length l2,.bool false,.int .i64 (0:Int)]) zero166 places166 rfl rfl) (qa (us:=[.slice i9 t4.length l2,.bool false,.int .i64 (0:Int)]) rfl rfl rfl (fun g1 w2 hB1 hg2 hl1=>yp (h:=(ze (za (zu (zM rfl rfl ⟨(qC gr1 hg2),Or.inr ⟨g1,t4,i9,l2,n0,false,(0:Int),rfl,(k1.grown hg2),(i6.grown hg2),(fun p_ hp_ v0_=>have q_:=v0_; ho1 p_ (fun g_ e_=>Nat.lt_of_lt_of_le (hp_ g_ e_) (Nat.le_refl _)) (q_)),dj1,hB1,(Ge.le (Ge.box hl1) (qD gr1)),dj1,(i6.new (Ge.box hl1)),(Dj.new k1.lt' (Ge.box hl1)),H⟩⟩)))))))
set_option maxHeartbeats 8000000 in
theorem W_pval_List_Loose {w:World} {g_l:Nat} {l_l:List PV} {a0:Option Addr} {c1:Nat} {a2:List VH} {l_frozen:Bool} {l_over:Int} {c6:Nat} {K:Bool->Prop} (hl_l:Rd vv w a0 c1 a2) (c9:c6=l_l.length) (a6:RelD deV w a2 l_l) (hl:Bl w g_l 166 [.slice a0 c6 c1,.bool l_frozen,.int .i64 l_over]) (H:ju l_l l_frozen l_over K):Fn Tryz.prog 96 ⟨[.pointer (some ⟨g_l,0,none⟩)]⟩ w (fun v w'=>w=w'/\∃ (r:Bool),v=.bool r/\K r):=by
 subst c9
 unfold ju at H
 refine Fn.enter (by kernel_rfl) Tryz.func96 rfl Tryz.ntmps96 rfl ?_
 replace H:=H (by rw [<-a6.1]; exact Nat.le_trans hl_l.cap hl_l.max)
 refine zd (zb (yp (h:=(ze (za (zd (zb (yp (h:=(yp (h:=(zf rfl (zY (o:=1) (by kernel_rfl) rfl) (zf rfl (zB qB hl rfl rfl rfl) (yp (h:=(yp (h:=(zX 6 (fun L' w'=>∃ q1:Bool,L'=[(14,.bool q1)]/\((!l_frozen) && (decide (l_over=(0:Int))))=q1/\w=w') ?_ (fun hQ=>?_)))))))))))))))))))
 ·rintro _ _ ⟨q1,rfl,rfl,rfl⟩
  exact yp (h:=(ze (za (zu (zM rfl rfl ⟨rfl,(!l_frozen) && (decide (l_over=(0:Int))),rfl,H⟩)))))
 ·clear H
  rcases Bool.eq_false_or_eq_true (!l_frozen) with b1 | b1
  ·exact gp b1 (h:=(gp b1 (h:=(zc rfl rfl (okb b1) rfl (zY (o:=2) (by kernel_rfl) rfl) (zc rfl rfl (okb b1) rfl (zB qB hl rfl rfl rfl) (gp b1 (h:=(zf rfl (zR (okb b1) rfl) (wk (hQ _ _ ⟨decide (l_over=(0:Int)),rfl,by rw [b1] <;> rfl,rfl⟩))))))))))
  ·exact gn b1 (h:=(gn b1 (h:=(gn b1 (h:=(gn b1 (h:=(gn b1 (h:=(zf rfl (zO (okb b1) rfl) (wk (hQ _ _ ⟨false,rfl,by rw [b1] <;> rfl,rfl⟩))))))))))))
set_option maxHeartbeats 8000000 in
theorem W_pval_List_Len {w:World} {g_l:Nat} {l_l:List PV} {a0:Option Addr} {c1:Nat} {a2:List VH} {l_frozen:Bool} {l_over:Int} {c6:Nat} {K:Int->Prop} (hl_l:Rd vv w a0 c1 a2) (c9:c6=l_l.length) (a6:RelD deV w a2 l_l) (hl:Bl w g_l 166 [.slice a0 c6 c1,.bool l_frozen,.int .i64 l_over]) (H:M_pval_List_Len l_l l_frozen l_over K):Fn Tryz.prog 97 ⟨[.pointer (some ⟨g_l,0,none⟩)]⟩ w (fun v w'=>w=w'/\∃ (r:Int),v=.int .i64 r/\K r):=by
 subst c9
 unfold M_pval_List_Len at H
 refine Fn.enter (by kernel_rfl) Tryz.func97 rfl Tryz.ntmps97 rfl ?_
 replace H:=H (by rw [<-a6.1]; exact Nat.le_trans hl_l.cap hl_l.max)
 exact zd (zb (yp (h:=(ze (za (zd (zb (yp (h:=(yp (h:=(zf rfl (zY (o:=0) (by kernel_rfl) rfl) (zf rfl (zB qB hl rfl rfl rfl) (yp (h:=(yp (h:=(ze (za (zu (zM rfl rfl ⟨rfl,(l_l.length:Int),rfl,H⟩)))))))))))))))))))))
set_option maxHeartbeats 8000000 in
theorem W_pval_List_Add {w:World} {g_l:Nat} {l_l:List PV} {a0:Option Addr} {c1:Nat} {a2:List VH} {l_frozen:Bool} {l_over:Int} {items:List PV} {e0:Option Addr} {f2:Nat} {a8:List VH} {c6:Nat} {f5:Nat} {K:(List PV)->Bool->Int->Prop} (hl_l:Own vv w 0 32 a0 c1 a2) (c9:c6=l_l.length) (a6:RelD deV w a2 l_l) (hl:Bl w g_l 166 [.slice a0 c6 c1,.bool l_frozen,.int .i64 l_over]) (hitems:Rd vv w e0 f2 a8) (h4:f5=items.length) (c0:RelD deV w a8 items) (hdj0_1:Dj (some g_l) (blk a0)) (hap0:AllP (DnD deV a2 l_l) [(some g_l),(blk a0)]) (hap1:AllP (Dn a8 (blk e0)) [(some g_l),(blk a0)]) (hap2:AllP (DnD deV a8 items) [(some g_l),(blk a0)]) (H:M_pval_List_Add l_l l_frozen l_over items K):Fn Tryz.prog 98 ⟨[.pointer (some ⟨g_l,0,none⟩),.slice e0 f5 f2]⟩ w (fun v w'=>GrL [(some g_l),(blk a0)] w w'/\∃ (l_l2:List PV),∃ (b7:Option Addr),∃ (d2:Nat),∃ (a7:List VH),∃ (l_frozen2:Bool),∃ (l_over2:Int),v=.tuple #[]/\Bl w' g_l 166 [.slice b7 l_l2.length d2,.bool l_frozen2,.int .i64 l_over2]/\Own vv w' 0 32 b7 d2 a7/\InP [(some g_l),(blk a0)] w.heap.size (blk b7)/\RelD deV w' a7 l_l2/\(∀ p:Option Nat,Lt p w.heap.size->DnD deV a2 l_l p->DnD deV a8 items p->DnD deV a7 l_l2 p)/\Dj (some g_l) (blk b7)/\DnD deV a7 l_l2 (some g_l)/\DnD deV a7 l_l2 (blk b7)/\K l_l2 l_frozen2 l_over2):=by
 subst c9
 subst h4
 unfold M_pval_List_Add at H
 refine Fn.enter (by kernel_rfl) Tryz.func98 rfl Tryz.ntmps98 rfl ?_
 replace H:=H (by rw [<-a6.1]; exact Nat.le_trans hl_l.rd.cap hl_l.rd.max)
 replace H:=H (by rw [<-c0.1]; exact Nat.le_trans hitems.cap hitems.max)
 have hNoAt:AllP (NoAt w) [(some g_l),(blk a0)]:=(apC (NoAt.bl hl rfl) (apC (NoAt.own hl_l rfl) apN))
 refine zb (yp (h:=(yp (h:=(yp (h:=(zf rfl (zY (o:=0) (by kernel_rfl) rfl) (zf rfl (zB qB hl rfl rfl rfl) (yp (h:=?_))))))))))
 obtain ⟨h1,H⟩:=H
 have h2:((a2:List VH).length+a8.length)*16<=140737488355328:=by rw [a6.1,c0.1]; exact h1
 refine WL.append qB rfl rfl One.vv hl_l rfl a6.1.symm hitems rfl c0.1.symm h2 (applen h2) (Nat.zero_le _) (fun g6 i5 w1 hO1 hg1 hk1=>?_)
 have el1:(a2++a8).length=(l_l++items).length:=by rw [List.length_append,List.length_append,a6.1,c0.1]
 rw [el1]
 have gr1:GrL [(some g_l),(blk a0)] w w1:=GrL.mod (GrL.refl _) hg1 (InP.mem (List.Mem.tail _ (List.Mem.head _)))
 have hr1:RelD deV w1 (a2++a8) (l_l++items):=RelD.append (a6.go hg1 (hap0 _ (List.Mem.tail _ (List.Mem.head _)))) (c0.goL gr1 hap2)
 have nd1:OrD (fun p=>DnD deV a2 l_l p/\DnD deV a8 items p) deV (a2++a8) (l_l++items) w.heap.size:=OrD.append a6.1 (fun p_ hp_ q_=>q_.1) (fun p_ hp_ q_=>q_.2)
 have dj1:DnD deV (a2++a8) (l_l++items) (some g_l):=(DnD.append a6.1 (hap0 _ (List.Mem.head _)) (c0.inp hap2 (InP.mem (List.Mem.head _))))
 have dj2:DnD deV (a2++a8) (l_l++items) (blk g6):=(DnD.append a6.1 (RelD.app a6 (hap0 _ (List.Mem.tail _ (List.Mem.head _))) hk1) (RelD.app c0 (c0.inp hap2 (InP.mem (List.Mem.tail _ (List.Mem.head _)))) hk1))
 refine yp (h:=(zf rfl (zY (o:=0) (by kernel_rfl) rfl) (qm one27 rfl rfl rfl (hl.go hg1 hdj0_1) (by simp) (fun w2 hB2 hg2=>?_))))
 have hB1:Bl w2 g_l 166 [.slice g6 ((l_l++items).length) i5,.bool l_frozen,.int .i64 l_over]:=hB2
 have gr2:GrL [(some g_l),(blk a0)] w w2:=GrL.mod gr1 hg2 (InP.mem (List.Mem.head _))
 exact ze (z7 rfl ⟨gr2,(l_l++items),g6,i5,(a2++a8),l_frozen,l_over,rfl,hB1,(hO1.go hg2 (Dj.app hdj0_1.symm hl.lt' hk1)),(InP.app (InP.mem (List.Mem.tail _ (List.Mem.head _))) hk1 (Nat.le_refl _)),(hr1.go hg2 dj1),(fun p_ hp_ v0_ v1_=>nd1 p_ hp_ ⟨v0_,v1_⟩),(Dj.app hdj0_1.symm hl.lt' hk1).symm,dj1,dj2,H⟩)
set_option maxHeartbeats 8000000 in
theorem W_val_items_List0 {w:World} {g_v:Nat} {v_l:List PV} {a3:Option Addr} {c2:Nat} {a5:List VH} {v_frozen:Bool} {v_over:Int} {c7:Nat} {K:(List PV)->Bool->Prop} (hv_l:Rd vv w a3 c2 a5) (d0:c7=v_l.length) (a9:RelD deV w a5 v_l) (hv:Bl w g_v 166 [.slice a3 c7 c2,.bool v_frozen,.int .i64 v_over]) (H:M_val_items_List0 v_l v_frozen v_over K):Fn Tryz.prog 95 ⟨[.iface 61 (.pointer (some ⟨g_v,0,none⟩))]⟩ w (fun v w'=>w.grownBy w' none/\∃ (r0:List PV),∃ (e8:Option Addr),∃ (g9:Nat),∃ (d4:List VH),∃ (r1:Bool),v=.tuple #[.slice e8 r0.length g9,.bool r1]/\Own vv w' w.heap.size 32 e8 g9 d4/\RelD deV w' d4 r0/\(∀ p:Option Nat,Lt p w.heap.size->DnD deV a5 v_l p->DnD deV d4 r0 p)/\DnD deV d4 r0 (blk e8)/\K r0 r1):=by
 subst d0
 unfold M_val_items_List0 at H
 refine Fn.enter (by kernel_rfl) Tryz.func95 rfl Tryz.ntmps95 rfl ?_
 replace H:=H (by rw [<-a9.1]; exact Nat.le_trans hv_l.cap hv_l.max)
 refine zd (zb (yp (h:=(yp (h:=(ze (za (zd (zd (zb (yp (h:=(ze (za (WC.block (zd (zb (zf rfl (qP (v:=⟨.iface 61 (.pointer (some ⟨g_v,0,none⟩)),rfl⟩) Tryz.underlying61 rfl rfl rfl) (yp (h:=(yp (h:=(ze (za (zp rfl (fun _=>zd (zb (yp (h:=(ze (za (zd (zb (yp (h:=(yp (h:=(zf rfl (zY (o:=0) (by kernel_rfl) rfl) (zf rfl (zB qB hv rfl rfl rfl) (zx rfl rfl (qZ hv_l rfl a9 H) ?_))))))))))))))) (fun h=>by cases h))))))))))))))))))))))))))
 rintro _ w1 ⟨hg1,t2,n1,n2,m9,rfl,ht2,m8,ho1,dj1,H⟩
 have hb1:=ht2.ge'
 exact yp (h:=(yp (h:=(ze (za (zu (zl (zi (zQ rfl rfl rfl ⟨hg1,t2,n1,n2,m9,true,rfl,(ht2.base (fun g hg=>Nat.le_trans (Nat.le_refl _) (hb1 g hg))),m8,(fun p_ hp_ v0_=>have q_:=v0_; ho1 p_ (fun g_ e_=>Nat.lt_of_lt_of_le (hp_ g_ e_) (Nat.le_refl _)) (q_)),dj1,H⟩)))))))))
set_option maxHeartbeats 8000000 in
theorem jQ {w:World} {g_v:Nat} {v_l:List PV} {a3:Option Addr} {c2:Nat} {a5:List VH} {v_frozen:Bool} {v_over:Int} {c7:Nat} {K:(List PV)->Bool->Prop} (hv_l:Rd vv w a3 c2 a5) (d0:c7=v_l.length) (a9:RelD deV w a5 v_l) (hv:Bl w g_v 166 [.slice a3 c7 c2,.bool v_frozen,.int .i64 v_over]) (H:je v_l v_frozen v_over K):Fn Tryz.prog 39 ⟨[.iface 61 (.pointer (some ⟨g_v,0,none⟩))]⟩ w (fun v w'=>w.grownBy w' none/\∃ (r0:List PV),∃ (e8:Option Addr),∃ (g9:Nat),∃ (d4:List VH),∃ (r1:Bool),v=.tuple #[.slice e8 r0.length g9,.bool r1]/\Own vv w' w.heap.size 32 e8 g9 d4/\RelD deV w' d4 r0/\(∀ p:Option Nat,Lt p w.heap.size->DnD deV a5 v_l p->DnD deV d4 r0 p)/\DnD deV d4 r0 (blk e8)/\K r0 r1):=by
 subst d0
 unfold je at H
 refine Fn.enter (by kernel_rfl) Tryz.func39 rfl Tryz.ntmps39 rfl ?_
 replace H:=H (by rw [<-a9.1]; exact Nat.le_trans hv_l.cap hv_l.max)
 refine zd (zb (yp (h:=(yp (h:=(ze (za (zd (zb (yp (h:=(zx rfl rfl (W_val_items_List0 hv_l rfl a9 hv H) ?_))))))))))))
 rintro _ w1 ⟨hg1,t50,m4,m6,l9,t51,rfl,ht50,l7,ho1,dj1,H⟩
 have hb1:=ht50.ge'
 exact yp (h:=(yp (h:=(yp (h:=(yp (h:=(ze (za (zu (zQ rfl rfl rfl ⟨hg1,t50,m4,m6,l9,t51,rfl,(ht50.base (fun g hg=>Nat.le_trans (Nat.le_refl _) (hb1 g hg))),l7,(fun p_ hp_ v0_=>have q_:=v0_; ho1 p_ (fun g_ e_=>Nat.lt_of_lt_of_le (hp_ g_ e_) (Nat.le_refl _)) (q_)),dj1,H⟩)))))))))))
set_option maxHeartbeats 8000000 in
theorem W_val_hold_List0 {w:World} {g_v:Nat} {v_l:List PV} {a3:Option Addr} {c2:Nat} {a5:List VH} {v_frozen:Bool} {v_over:Int} {by_:Int} {c7:Nat} {K:(List PV)->Bool->Int->Prop} (hv_l:Own vv w 0 32 a3 c2 a5) (d0:c7=v_l.length) (a9:RelD deV w a5 v_l) (hv:Bl w g_v 166 [.slice a3 c7 c2,.bool v_frozen,.int .i64 v_over]) (hdj0_1:Dj (some g_v) (blk a3)) (hap0:AllP (DnD deV a5 v_l) [(some g_v),(blk a3)]) (H:M_val_hold_List0 v_l v_frozen v_over by_ K):Fn Tryz.prog 152 ⟨[.iface 61 (.pointer (some ⟨g_v,0,none⟩)),.int .i64 by_]⟩ w (fun v w'=>GrL [(some g_v),(blk a3)] w w'/\∃ (v_l2:List PV),∃ (a4:Option Addr),∃ (c4:Nat),∃ (a1:List VH),∃ (v_frozen2:Bool),∃ (v_over2:Int),v=.tuple #[]/\Bl w' g_v 166 [.slice a4 v_l2.length c4,.bool v_frozen2,.int .i64 v_over2]/\Own vv w' 0 32 a4 c4 a1/\InP [(some g_v),(blk a3)] w.heap.size (blk a4)/\RelD deV w' a1 v_l2/\(∀ p:Option Nat,Lt p w.heap.size->DnD deV a5 v_l p->DnD deV a1 v_l2 p)/\Dj (some g_v) (blk a4)/\DnD deV a1 v_l2 (some g_v)/\DnD deV a1 v_l2 (blk a4)/\K v_l2 v_frozen2 v_over2):=by
 subst d0
 unfold M_val_hold_List0 at H
 refine Fn.enter (by kernel_rfl) Tryz.func152 rfl Tryz.ntmps152 rfl ?_
 replace H:=H (by rw [<-a9.1]; exact Nat.le_trans hv_l.rd.cap hv_l.rd.max)
 have hNoAt:AllP (NoAt w) [(some g_v),(blk a3)]:=(apC (NoAt.bl hv rfl) (apC (NoAt.own hv_l rfl) apN))
 refine zd (zb (yp (h:=(ze (za (WC.block (zd (zb (zf rfl (qP (v:=⟨.iface 61 (.pointer (some ⟨g_v,0,none⟩)),rfl⟩) Tryz.underlying61 rfl rfl rfl) (yp (h:=(yp (h:=(ze (za (zp rfl (fun _=>zd (zb (yp (h:=(ze (za (zb (yp (h:=(yp (h:=(zf rfl (zY (o:=2) (by kernel_rfl) rfl) (zf rfl (zB qB hv rfl rfl rfl) (yp (h:=?_))))))))))))))) (fun h=>by cases h)))))))))))))))))
 obtain ⟨h1,H⟩:=H
 refine zf rfl (Yld.add rfl rfl h1) (yp (h:=(zf rfl (zY (o:=2) (by kernel_rfl) rfl) (qm one3 rfl rfl rfl hv (by simp) (fun w1 hB2 hg1=>?_)))))
 have hB1:Bl w1 g_v 166 [.slice a3 v_l.length c2,.bool v_frozen,.int .i64 (v_over+by_)]:=hB2
 have gr1:GrL [(some g_v),(blk a3)] w w1:=GrL.mod (GrL.refl _) hg1 (InP.mem (List.Mem.head _))
 exact ze (zh (z7 rfl ⟨gr1,v_l,a3,c2,a5,v_frozen,v_over+by_,rfl,hB1,(hv_l.go hg1 hdj0_1.symm),(InP.mem (List.Mem.tail _ (List.Mem.head _))),(a9.go hg1 (hap0 _ (List.Mem.head _))),(fun p_ hp_ v0_=>have q_:=v0_; q_),hdj0_1,(hap0 _ (List.Mem.head _)),(hap0 _ (List.Mem.tail _ (List.Mem.head _))),H⟩))
set_option maxHeartbeats 8000000 in
theorem W_val_Hold_List0 {w:World} {g_v:Nat} {v_l:List PV} {a3:Option Addr} {c2:Nat} {a5:List VH} {v_frozen:Bool} {v_over:Int} {by_:Int} {c7:Nat} {K:(List PV)->Bool->Int->Prop} (hv_l:Own vv w 0 32 a3 c2 a5) (d0:c7=v_l.length) (a9:RelD deV w a5 v_l) (hv:Bl w g_v 166 [.slice a3 c7 c2,.bool v_frozen,.int .i64 v_over]) (hdj0_1:Dj (some g_v) (blk a3)) (hap0:AllP (DnD deV a5 v_l) [(some g_v),(blk a3)]) (H:j1 v_l v_frozen v_over by_ K):Fn Tryz.prog 87 ⟨[.iface 61 (.pointer (some ⟨g_v,0,none⟩)),.int .i64 by_]⟩ w (fun v w'=>GrL [(some g_v),(blk a3)] w w'/\∃ (v_l2:List PV),∃ (a4:Option Addr),∃ (c4:Nat),∃ (a1:List VH),∃ (v_frozen2:Bool),∃ (v_over2:Int),v=.tuple #[]/\Bl w' g_v 166 [.slice a4 v_l2.length c4,.bool v_frozen2,.int .i64 v_over2]/\Own vv w' 0 32 a4 c4 a1/\InP [(some g_v),(blk a3)] w.heap.size (blk a4)/\RelD deV w' a1 v_l2/\(∀ p:Option Nat,Lt p w.heap.size->DnD deV a5 v_l p->DnD deV a1 v_l2 p)/\Dj (some g_v) (blk a4)/\DnD deV a1 v_l2 (some g_v)/\DnD deV a1 v_l2 (blk a4)/\K v_l2 v_frozen2 v_over2):=by
 subst d0
 unfold j1 at H
 refine Fn.enter (by kernel_rfl) Tryz.func87 rfl Tryz.ntmps87 rfl ?_
 replace H:=H (by rw [<-a9.1]; exact Nat.le_trans hv_l.rd.cap hv_l.rd.max)
 have hNoAt:AllP (NoAt w) [(some g_v),(blk a3)]:=(apC (NoAt.bl hv rfl) (apC (NoAt.own hv_l rfl) apN))
 refine zb (yp (h:=(yp (h:=(zx rfl rfl (W_val_hold_List0 hv_l rfl a9 hv hdj0_1 (apC (hap0 _ (List.Mem.head _)) (apC (hap0 _ (List.Mem.tail _ (List.Mem.head _))) apN)) H) ?_)))))
 rintro _ w1 ⟨hgl1,v_,g8,l3,h7,v_2,v_3,rfl,hB1,hO1,hi1,hr1,ho1,dj1,dj2,dj3,H⟩
 have hi2:InP [(some g_v),(blk a3)] w.heap.size (blk g8):=InP.trans hi1 (apC (InP.mem (List.Mem.head _)) (apC (InP.mem (List.Mem.tail _ (List.Mem.head _))) apN)) (Nat.le_refl _)
 have gr1:GrL [(some g_v),(blk a3)] w w1:=GrL.modL (GrL.refl _) hgl1 (apC (InP.mem (List.Mem.head _)) (apC (InP.mem (List.Mem.tail _ (List.Mem.head _))) apN))
 have k1:=a9.goL hgl1 (apC (hap0 _ (List.Mem.head _)) (apC (hap0 _ (List.Mem.tail _ (List.Mem.head _))) apN))
 exact ze (z7 rfl ⟨gr1,v_,g8,l3,h7,v_2,v_3,rfl,hB1,hO1,hi2,hr1,(fun p_ hp_ v0_=>have q_:=v0_; ho1 p_ (fun g_ e_=>Nat.lt_of_lt_of_le (hp_ g_ e_) (Nat.le_refl _)) (q_)),dj1,dj2,dj3,H⟩)
set_option maxHeartbeats 8000000 in
theorem W_list_Each_List0 {S:List Nat} {w:World} {g_v:Nat} {v_l:List PV} {a3:Option Addr} {c2:Nat} {a5:List VH} {v_frozen:Bool} {v_over:Int} {c7:Nat} {K0:Er->(List PV)->Bool->Int->Prop} {K:(List PV)->Int->Bool->Bool->Er->(List PV)->Bool->Int->Prop} (hv_l:Own vv w 0 32 a3 c2 a5) (d0:c7=v_l.length) (a9:RelD deV w a5 v_l) (hv:Bl w g_v 166 [.slice a3 c7 c2,.bool v_frozen,.int .i64 v_over]) (hdj0_1:Dj (some g_v) (blk a3)) (hap0:AllP (DnD deV a5 v_l) [(some g_v),(blk a3)]) (H:kd v_l v_frozen v_over K0 K):Fn Tryz.prog 30 ⟨[.iface 61 (.pointer (some ⟨g_v,0,none⟩))]⟩ w (fun v w'=>GrL [(some g_v),(blk a3)] w w'/\((∃ (v_r12:Value),∃ (r12:Er),∃ (v_l2:List PV),∃ (a4:Option Addr),∃ (c4:Nat),∃ (a1:List VH),∃ (v_frozen2:Bool),∃ (v_over2:Int),v=.tuple #[.pointer none,v_r12]/\ErrR S w' v_r12 r12/\Bl w' g_v 166 [.slice a4 v_l2.length c4,.bool v_frozen2,.int .i64 v_over2]/\Own vv w' 0 32 a4 c4 a1/\InP [(some g_v),(blk a3)] w.heap.size (blk a4)/\RelD deV w' a1 v_l2/\(∀ p:Option Nat,Lt p w.heap.size->DnD deV a5 v_l p->DnD deV a1 v_l2 p)/\Dj (some g_v) (blk a4)/\DnD deV a1 v_l2 (some g_v)/\DnD deV a1 v_l2 (blk a4)/\K0 r12 v_l2 v_frozen2 v_over2)∨(∃ (e6:Nat),∃ (e2:List PV),∃ (d1:Option Addr),∃ (h0:Nat),∃ (c5:List VH),∃ (i8:Int),∃ (e7:Bool),∃ (f7:Bool),∃ (v_r1:Value),∃ (r1:Er),∃ (v_l2:List PV),∃ (a4:Option Addr),∃ (c4:Nat),∃ (a1:List VH),∃ (v_frozen2:Bool),∃ (v_over2:Int),v=.tuple #[.pointer (some ⟨e6,0,none⟩),v_r1]/\Own vv w' w.heap.size 32 d1 h0 c5/\RelD deV w' c5 e2/\(∀ p:Option Nat,Lt p w.heap.size->DnD deV a5 v_l p->DnD deV c5 e2 p)/\DnD deV c5 e2 (blk d1)/\ErrR S w' v_r1 r1/\Bl w' e6 168 [.iface 61 (.pointer (some ⟨g_v,0,none⟩)),.slice d1 e2.length h0,.int .i64 i8,.bool e7,.bool f7]/\Ge (some e6) w.heap.size/\DnD deV c5 e2 (blk d1)/\DnD deV c5 e2 (some e6)/\Dj (blk d1) (some e6)/\Bl w' g_v 166 [.slice a4 v_l2.length c4,.bool v_frozen2,.int .i64 v_over2]/\Own vv w' 0 32 a4 c4 a1/\InP [(some g_v),(blk a3)] w.heap.size (blk a4)/\RelD deV w' a1 v_l2/\(∀ p:Option Nat,Lt p w.heap.size->DnD deV a5 v_l p->DnD deV a1 v_l2 p)/\Dj (some g_v) (blk a4)/\DnD deV a1 v_l2 (some g_v)/\DnD deV a1 v_l2 (blk a4)/\Dj (blk d1) (some g_v)/\Dj (blk d1) (blk a4)/\Dj (some e6) (some g_v)/\Dj (some e6) (blk a4)/\DnD deV c5 e2 (some g_v)/\DnD deV c5 e2 (blk a4)/\DnD deV a1 v_l2 (blk d1)/\DnD deV a1 v_l2 (some e6)/\K e2 i8 e7 f7 r1 v_l2 v_frozen2 v_over2))):=by
 subst d0
 unfold kd at H
 refine Fn.enter (by kernel_rfl) Tryz.func30 rfl Tryz.ntmps30 rfl ?_
 replace H:=H (by rw [<-a9.1]; exact Nat.le_trans hv_l.rd.cap hv_l.rd.max)
 have hNoAt:AllP (NoAt w) [(some g_v),(blk a3)]:=(apC (NoAt.bl hv rfl) (apC (NoAt.own hv_l rfl) apN))
 refine zd (zb (yp (h:=(yp (h:=(ze (za (zd (zb (yp (h:=?_)))))))))))
 have hv1:RelD deV w [(vnil,noF)] [PV.nil]:=deV_nil
 refine zf rfl (zU (us:=[.iface 61 (.pointer (some ⟨g_v,0,none⟩)),.slice none 0 0,.int .i64 (0:Int),.bool false,.bool false]) zero168 places168 rfl rfl) (qa (us:=[.iface 61 (.pointer (some ⟨g_v,0,none⟩)),.slice none 0 0,.int .i64 (0:Int),.bool false,.bool false]) rfl rfl rfl (fun g1 w1 hB1 hg1 hl1=>yp (h:=(ze (za (zd (zd (zb (yp (h:=(qo rfl rfl (fun w=>by kernel_rfl) rfl (kindL_fn (u:=.pointer (some ⟨g_v,0,none⟩))) ?_)))))))))))
 rintro _ w2 ⟨hg2,rfl⟩
 have gr2:=GrL.add0 ((GrL.of0 (ps:=[(some g_v),(blk a3)]) hg1)) hg2
 have k4:=(hv_l.grown hg1).grown hg2
 have k5:=(a9.grown hg1).grown hg2
 have k6:=(hv.g0 hg1).g0 hg2
 have k7:=hB1.g0 hg2
 refine ze (za (WC.block (zd (zd (zb (yp (h:=(yp (h:=(ze (za (zp rfl (fun _=>zr (za (zp rfl (fun _=>zb (yp (h:=(yp (h:=(zx rfl rfl (jQ k4.rd rfl k5 k6 H) ?_)))))) (fun h=>by cases h)))) (fun h=>by cases h)))))))))))))
 rintro _ w3 ⟨hg3,t180,g7,h3,i3,t181,rfl,ht180,i0,ho1,dj1,H⟩
 have hb1:=ht180.ge'
 refine yp (h:=(yp (h:=(yp (h:=(yp (h:=(yp (h:=(qm one27 rfl rfl rfl (k7.g0 hg3) (by simp) (fun w4 hB3 hg4=>?_)))))))))))
 have hB2:Bl w4 g1 168 [.iface 61 (.pointer (some ⟨g_v,0,none⟩)),.slice g7 t180.length h3,.int .i64 (0:Int),.bool false,.bool false]:=hB3
 have gr4:GrL [(some g_v),(blk a3)] w w4:=GrL.mod (GrL.add0 gr2 hg3) hg4 (InP.ge (Ge.le (Ge.box hl1) (Nat.le_refl _)))
 have k14:=(k5.grown hg3).go hg4 (a9.new (Ge.box hl1))
 have k16:=(ht180.base (fun g hg=>Nat.le_trans (GrL.sizeL gr2) (hb1 g hg))).go hg4 ((Dj.new k7.lt' hb1).symm)
 have k17:=i0.go hg4 (ho1 _ k7.lt' (a9.new (Ge.box hl1)))
 refine ze (zh (za (zd (zb (yp (h:=(zx rfl rfl (W_val_Hold_List0 ((k4.grown hg3).go hg4 (Dj.new hv_l.lt' (Ge.box hl1))) rfl k14 ((k6.g0 hg3).go hg4 (Dj.new hv.lt' (Ge.box hl1))) hdj0_1 (apC (hap0 _ (List.Mem.head _)) (apC (hap0 _ (List.Mem.tail _ (List.Mem.head _))) apN)) H) ?_)))))))
 rintro _ w5 ⟨hgl1,v_,g8,l3,h7,v_2,v_3,rfl,hB4,hO1,hi1,hr1,ho2,dj2,dj3,dj4,H⟩
 have hi2:InP [(some g_v),(blk a3)] w.heap.size (blk g8):=InP.trans hi1 (apC (InP.mem (List.Mem.head _)) (apC (InP.mem (List.Mem.tail _ (List.Mem.head _))) apN)) (GrL.sizeL gr4)
 have gr5:GrL [(some g_v),(blk a3)] w w5:=GrL.modL gr4 hgl1 (apC (InP.mem (List.Mem.head _)) (apC (InP.mem (List.Mem.tail _ (List.Mem.head _))) apN))
 have k18:=k14.goL hgl1 (apC (hap0 _ (List.Mem.head _)) (apC (hap0 _ (List.Mem.tail _ (List.Mem.head _))) apN))
 refine ze (za (zd (zb (yp (h:=(yp (h:=(yp (h:=(ze (za (zu ?_))))))))))))
 exact zQ rfl rfl rfl ⟨gr5,Or.inr ⟨g1,t180,g7,h3,i3,(0:Int),false,false,.nilIface,Er.ok,v_,g8,l3,h7,v_2,v_3,rfl,(k16.goL hgl1 (apC (Dj.new k6.lt' hb1).symm (apC (Dj.new k4.lt' hb1).symm apN))),(k17.goL hgl1 (apC (ho1 _ k6.lt' (hap0 _ (List.Mem.head _))) (apC (ho1 _ k4.lt' (hap0 _ (List.Mem.tail _ (List.Mem.head _)))) apN))),(fun p_ hp_ v0_=>have q_:=v0_; ho1 p_ (fun g_ e_=>Nat.lt_of_lt_of_le (hp_ g_ e_) (GrL.sizeL gr2)) (q_)),dj1,(ErrR.okR (S:=S) (w:=w5)),(hB2.goL hgl1 (apC (Dj.new hv.lt' (Ge.box hl1)).symm (apC (Dj.new hv_l.lt' (Ge.box hl1)).symm apN))),(Ge.le (Ge.box hl1) (Nat.le_refl _)),dj1,(ho1 _ k7.lt' (a9.new (Ge.box hl1))),(Dj.new k7.lt' hb1).symm,hB4,hO1,hi2,hr1,(fun p_ hp_ v0_=>have q_:=v0_; ho2 p_ (fun g_ e_=>Nat.lt_of_lt_of_le (hp_ g_ e_) (GrL.sizeL gr4)) (q_)),dj2,dj3,dj4,(Dj.new k6.lt' hb1).symm,(InP.dj hi1 k16.lt' (apC (Dj.new k6.lt' hb1).symm (apC (Dj.new k4.lt' hb1).symm apN))).symm,(Dj.new hv.lt' (Ge.box hl1)).symm,(InP.dj hi1 hB2.lt' (apC (Dj.new hv.lt' (Ge.box hl1)).symm (apC (Dj.new hv_l.lt' (Ge.box hl1)).symm apN))).symm,(ho1 _ k6.lt' (hap0 _ (List.Mem.head _))),(RelD.inp k17 (apC (ho1 _ k6.lt' (hap0 _ (List.Mem.head _))) (apC (ho1 _ k4.lt' (hap0 _ (List.Mem.tail _ (List.Mem.head _)))) apN)) hi1),(ho2 _ k16.lt' (k5.new hb1)),(ho2 _ hB2.lt' (a9.new (Ge.box hl1))),H⟩⟩
set_option maxHeartbeats 8000000 in
theorem W_plist_Over_End_List0 {w:World} {g_o:Nat} {b8:Nat} {o_v_l:List PV} {b0:Option Addr} {e1:Nat} {d3:List VH} {o_v_frozen:Bool} {o_v_over:Int} {o_l:List PV} {e3:Option Addr} {f3:Nat} {d7:List VH} {o_at:Int} {o_ended:Bool} {o_Paid:Bool} {f6:Nat} {i7:Nat} {K:Int->Bool->Bool->(List PV)->Bool->Int->Prop} (ho_v_l:Own vv w 0 32 b0 e1 d3) (h5:f6=o_v_l.length) (d6:RelD deV w d3 o_v_l) (ho_v:Bl w b8 166 [.slice b0 f6 e1,.bool o_v_frozen,.int .i64 o_v_over]) (ho_l:Rd vv w e3 f3 d7) (l5:i7=o_l.length) (l6:RelD deV w d7 o_l) (ho:Bl w g_o 168 [.iface 61 (.pointer (some ⟨b8,0,none⟩)),.slice e3 i7 f3,.int .i64 o_at,.bool o_ended,.bool o_Paid]) (hdj0_1:Dj (some g_o) (some b8)) (hdj0_2:Dj (some g_o) (blk b0)) (hdj1_2:Dj (some b8) (blk b0)) (hap0:AllP (DnD deV d3 o_v_l) [(some g_o),(some b8),(blk b0)]) (hap1:AllP (Dn d7 (blk e3)) [(some g_o),(some b8),(blk b0)]) (hap2:AllP (DnD deV d7 o_l) [(some g_o),(some b8),(blk b0)]) (H:jE o_v_l o_v_frozen o_v_over o_l o_at o_ended o_Paid K):Fn Tryz.prog 34 ⟨[.pointer (some ⟨g_o,0,none⟩)]⟩ w (fun v w'=>GrL [(some g_o),(some b8),(blk b0)] w w'/\∃ (o_at2:Int),∃ (o_ended2:Bool),∃ (o_Paid2:Bool),∃ (o_v_l2:List PV),∃ (c8:Option Addr),∃ (e5:Nat),∃ (c3:List VH),∃ (o_v_frozen2:Bool),∃ (o_v_over2:Int),v=.tuple #[]/\Bl w' g_o 168 [.iface 61 (.pointer (some ⟨b8,0,none⟩)),.slice e3 o_l.length f3,.int .i64 o_at2,.bool o_ended2,.bool o_Paid2]/\Bl w' b8 166 [.slice c8 o_v_l2.length e5,.bool o_v_frozen2,.int .i64 o_v_over2]/\Own vv w' 0 32 c8 e5 c3/\InP [(some g_o),(some b8),(blk b0)] w.heap.size (blk c8)/\RelD deV w' c3 o_v_l2/\(∀ p:Option Nat,Lt p w.heap.size->DnD deV d3 o_v_l p->DnD deV d7 o_l p->DnD deV c3 o_v_l2 p)/\Dj (some g_o) (some b8)/\Dj (some g_o) (blk c8)/\Dj (some b8) (blk c8)/\DnD deV c3 o_v_l2 (some g_o)/\DnD deV c3 o_v_l2 (some b8)/\DnD deV c3 o_v_l2 (blk c8)/\K o_at2 o_ended2 o_Paid2 o_v_l2 o_v_frozen2 o_v_over2):=by
 subst h5
 subst l5
 unfold jE at H
 refine Fn.enter (by kernel_rfl) Tryz.func34 rfl Tryz.ntmps34 rfl ?_
 replace H:=H (by rw [<-d6.1]; exact Nat.le_trans ho_v_l.rd.cap ho_v_l.rd.max)
 replace H:=H (by rw [<-l6.1]; exact Nat.le_trans ho_l.cap ho_l.max)
 have hNoAt:AllP (NoAt w) [(some g_o),(some b8),(blk b0)]:=(apC (NoAt.bl ho rfl) (apC (NoAt.bl ho_v rfl) (apC (NoAt.own ho_v_l rfl) apN)))
 refine zd (zb (yp (h:=(yp (h:=(yp (h:=(zf rfl (zB qB ho rfl rfl rfl) (yp (h:=(ze (za (zp rfl (fun b1=>?_) (fun b1=>?_))))))))))))))
 ·replace H:=H.1 (b1)
  refine zd (zb (yp (h:=(yp (h:=(yp (h:=(qm one4 rfl rfl rfl ho (by simp) (fun w1 hB2 hg1=>?_)))))))))
  have hB1:Bl w1 g_o 168 [.iface 61 (.pointer (some ⟨b8,0,none⟩)),.slice e3 o_l.length f3,.int .i64 o_at,.bool true,.bool o_Paid]:=hB2
  have gr1:GrL [(some g_o),(some b8),(blk b0)] w w1:=GrL.mod (GrL.refl _) hg1 (InP.mem (List.Mem.head _))
  have k2:=d6.go hg1 (hap0 _ (List.Mem.head _))
  refine ze (za (zb (yp (h:=(yp (h:=(yp (h:=(zf rfl (zB qB hB1 rfl rfl rfl) (zx rfl rfl (W_val_Hold_List0 (ho_v_l.go hg1 hdj0_2.symm) rfl k2 (ho_v.go hg1 hdj0_1.symm) hdj1_2 (apC (hap0 _ (List.Mem.tail _ (List.Mem.head _))) (apC (hap0 _ (List.Mem.tail _ (List.Mem.tail _ (List.Mem.head _)))) apN)) H) ?_))))))))))
  rintro _ w2 ⟨hgl1,o_v_,g5,l1,i2,o_v_2,o_v_3,rfl,hB3,hO1,hi1,hr1,ho1,dj1,dj2,dj3,H⟩
  have hi2:InP [(some g_o),(some b8),(blk b0)] w.heap.size (blk g5):=InP.trans hi1 (apC (InP.mem (List.Mem.tail _ (List.Mem.head _))) (apC (InP.mem (List.Mem.tail _ (List.Mem.tail _ (List.Mem.head _)))) apN)) (GrL.sizeL gr1)
  have gr2:GrL [(some g_o),(some b8),(blk b0)] w w2:=GrL.modL gr1 hgl1 (apC (InP.mem (List.Mem.tail _ (List.Mem.head _))) (apC (InP.mem (List.Mem.tail _ (List.Mem.tail _ (List.Mem.head _)))) apN))
  have k4:=k2.goL hgl1 (apC (hap0 _ (List.Mem.tail _ (List.Mem.head _))) (apC (hap0 _ (List.Mem.tail _ (List.Mem.tail _ (List.Mem.head _)))) apN))
  exact ze (z7 rfl ⟨gr2,o_at,true,o_Paid,o_v_,g5,l1,i2,o_v_2,o_v_3,rfl,(hB1.goL hgl1 (apC hdj0_1 (apC hdj0_2 apN))),hB3,hO1,hi2,hr1,(fun p_ hp_ v0_ v1_=>have q_:=And.intro v0_ v1_; ho1 p_ (fun g_ e_=>Nat.lt_of_lt_of_le (hp_ g_ e_) (GrL.sizeL gr1)) (q_.1)),hdj0_1,(InP.dj hi1 hB1.lt' (apC hdj0_1 (apC hdj0_2 apN))).symm,dj1,(ho1 _ hB1.lt' (hap0 _ (List.Mem.head _))),dj2,dj3,H⟩)
 ·replace H:=H.2 (b1)
  exact zr (z7 rfl ⟨(GrL.refl _),o_at,o_ended,o_Paid,o_v_l,b0,e1,d3,o_v_frozen,o_v_over,rfl,ho,ho_v,ho_v_l,(InP.mem (List.Mem.tail _ (List.Mem.tail _ (List.Mem.head _)))),d6,(fun p_ hp_ v0_ v1_=>have q_:=And.intro v0_ v1_; q_.1),hdj0_1,hdj0_2,hdj1_2,(hap0 _ (List.Mem.head _)),(hap0 _ (List.Mem.tail _ (List.Mem.head _))),(hap0 _ (List.Mem.tail _ (List.Mem.tail _ (List.Mem.head _)))),H⟩)
set_option maxHeartbeats 8000000 in
theorem W_list_Extend {S:List Nat} {B:Nat} {w:World} {g_l:Nat} {l_l:List PV} {a0:Option Addr} {c1:Nat} {a2:List VH} {l_frozen:Bool} {l_over:Int} {x:List PV} {A_x:Option Addr} {c_x:Nat} {h8:List VH} {c6:Nat} {n_x:Nat} {K:Er->(List PV)->Bool->Int->Prop} (hG:GB S B w) (hB:B<=w.heap.size) (hP:AllP (fun p=>Ge p B) [(some g_l),(blk a0)]) (hS3:3∈S) (hS7:7∈S) (hl_l:Own vv w 0 32 a0 c1 a2) (c9:c6=l_l.length) (a6:RelD deV w a2 l_l) (hl:Bl w g_l 166 [.slice a0 c6 c1,.bool l_frozen,.int .i64 l_over]) (hx:Rd vv w A_x c_x h8) (n4:n_x=x.length) (i1:RelD deV w h8 x) (hdj0_1:Dj (some g_l) (blk a0)) (hap0:AllP (DnD deV a2 l_l) [(some g_l),(blk a0)]) (hap1:AllP (Dn h8 (blk A_x)) [(some g_l),(blk a0)]) (hap2:AllP (DnD deV h8 x) [(some g_l),(blk a0)]) (H:kr l_l l_frozen l_over x K):Fn Tryz.prog 40 ⟨[.pointer (some ⟨g_l,0,none⟩),.slice A_x n_x c_x]⟩ w (fun v w'=>GrL [(some g_l),(blk a0)] w w'/\∃ (v_r:Value),∃ (r:Er),∃ (l_l2:List PV),∃ (b7:Option Addr),∃ (d2:Nat),∃ (a7:List VH),∃ (l_frozen2:Bool),∃ (l_over2:Int),v=v_r/\ErrR S w' v_r r/\Bl w' g_l 166 [.slice b7 l_l2.length d2,.bool l_frozen2,.int .i64 l_over2]/\Own vv w' 0 32 b7 d2 a7/\InP [(some g_l),(blk a0)] w.heap.size (blk b7)/\RelD deV w' a7 l_l2/\(∀ p:Option Nat,Lt p w.heap.size->DnD deV a2 l_l p->DnD deV h8 x p->DnD deV a7 l_l2 p)/\Dj (some g_l) (blk b7)/\DnD deV a7 l_l2 (some g_l)/\DnD deV a7 l_l2 (blk b7)/\K r l_l2 l_frozen2 l_over2):=by
 subst c9
 subst n4
 unfold kr at H
 refine Fn.enter (by kernel_rfl) Tryz.func40 rfl Tryz.ntmps40 rfl ?_
 replace H:=H (by rw [<-a6.1]; exact Nat.le_trans hl_l.rd.cap hl_l.rd.max)
 replace H:=H (by rw [<-i1.1]; exact Nat.le_trans hx.cap hx.max)
 have hNoAt:AllP (NoAt w) [(some g_l),(blk a0)]:=(apC (NoAt.bl hl rfl) (apC (NoAt.own hl_l rfl) apN))
 refine zd (zb (yp (h:=(ze (za (zd (zd (zb (yp (h:=(zx rfl rfl (W_pval_List_Loose hl_l.rd rfl a6 hl H) ?_)))))))))))
 rintro _ _ ⟨rfl,t6,rfl,H⟩
 refine yp (h:=(ze (za (zp rfl (fun b1=>?_) (fun b1=>?_)))))
 ·replace H:=H.1 (b1)
  refine zd (zb ?_)
  obtain ⟨vE1,_,hE1⟩:=GOK.get hG.ok 3 0 hS3 rfl rfl
  exact zf rfl (Yld.cell qB (ErrR.cell hE1 rfl) rfl rfl) (yp (h:=(ze (za (zu (zi (zM rfl rfl ⟨(GrL.refl _),vE1,(Er.e 3),l_l,a0,c1,a2,l_frozen,l_over,rfl,hE1,hl,hl_l,(InP.mem (List.Mem.tail _ (List.Mem.head _))),a6,(fun p_ hp_ v0_ v1_=>have q_:=And.intro v0_ v1_; q_.1),hdj0_1,(hap0 _ (List.Mem.head _)),(hap0 _ (List.Mem.tail _ (List.Mem.head _))),H⟩)))))))
 ·replace H:=H.2 (b1)
  refine zr (za (zd (zd (zb (yp (h:=(yp (h:=(yp (h:=(zx rfl rfl (W_pval_List_Len hl_l.rd rfl a6 hl H) ?_)))))))))))
  rintro _ _ ⟨rfl,t12,rfl,H⟩
  obtain ⟨h1,H⟩:=H
  refine zf rfl (Yld.sub rfl rfl h1) (yp (h:=(ze (za (zp rfl (fun b2=>?_) (fun b2=>?_))))))
  ·replace H:=H.1 (of_decide_eq_true b2)
   refine zd (zb ?_)
   obtain ⟨vE2,_,hE2⟩:=GOK.get hG.ok 7 1 hS7 rfl rfl
   exact zf rfl (Yld.cell qB (ErrR.cell hE2 rfl) rfl rfl) (yp (h:=(ze (za (zu (zi (zM rfl rfl ⟨(GrL.refl _),vE2,(Er.e 7),l_l,a0,c1,a2,l_frozen,l_over,rfl,hE2,hl,hl_l,(InP.mem (List.Mem.tail _ (List.Mem.head _))),a6,(fun p_ hp_ v0_ v1_=>have q_:=And.intro v0_ v1_; q_.1),hdj0_1,(hap0 _ (List.Mem.head _)),(hap0 _ (List.Mem.tail _ (List.Mem.head _))),H⟩)))))))
  ·replace H:=H.2 (of_decide_eq_false b2)
   refine zr (za (zd (zb (yp (h:=(yp (h:=(zx rfl rfl (W_pval_List_Add hl_l rfl a6 hl hx rfl i1 hdj0_1 (apC (hap0 _ (List.Mem.head _)) (apC (hap0 _ (List.Mem.tail _ (List.Mem.head _))) apN)) (apC (InP.dn (InP.mem (List.Mem.head _)) (fun hx_=>hx.lt' hx_) hap1) (apC (InP.dn (InP.mem (List.Mem.tail _ (List.Mem.head _))) (fun hx_=>hx.lt' hx_) hap1) apN)) (apC (i1.inp hap2 (InP.mem (List.Mem.head _))) (apC (i1.inp hap2 (InP.mem (List.Mem.tail _ (List.Mem.head _)))) apN)) H) ?_))))))))
   rintro _ w1 ⟨hgl1,l_,g3,l0,h6,l_2,l_3,rfl,hB1,hO1,hi1,hr1,ho1,dj1,dj2,dj3,H⟩
   have hi2:InP [(some g_l),(blk a0)] w.heap.size (blk g3):=InP.trans hi1 (apC (InP.mem (List.Mem.head _)) (apC (InP.mem (List.Mem.tail _ (List.Mem.head _))) apN)) (Nat.le_refl _)
   have gr1:GrL [(some g_l),(blk a0)] w w1:=GrL.modL (GrL.refl _) hgl1 (apC (InP.mem (List.Mem.head _)) (apC (InP.mem (List.Mem.tail _ (List.Mem.head _))) apN))
   have k1:=a6.goL hgl1 (apC (hap0 _ (List.Mem.head _)) (apC (hap0 _ (List.Mem.tail _ (List.Mem.head _))) apN))
   exact ze (za (zd (zb (yp (h:=(ze (za (zu (zM rfl rfl ⟨gr1,.nilIface,Er.ok,l_,g3,l0,h6,l_2,l_3,rfl,(ErrR.okR (S:=S) (w:=w1)),hB1,hO1,hi2,hr1,(fun p_ hp_ v0_ v1_=>have q_:=And.intro v0_ v1_; ho1 p_ (fun g_ e_=>Nat.lt_of_lt_of_le (hp_ g_ e_) (Nat.le_refl _)) (q_.1) (q_.2)),dj1,dj2,dj3,H⟩)))))))))
set_option maxHeartbeats 8000000 in
theorem W_list_Append {S:List Nat} {B:Nat} {w:World} {g_l:Nat} {l_l:List PV} {a0:Option Addr} {c1:Nat} {a2:List VH} {l_frozen:Bool} {l_over:Int} {v_x:OV} {F_x:Nat->Prop} {x:PV} {c6:Nat} {K:Er->(List PV)->Bool->Int->Prop} (hG:GB S B w) (hB:B<=w.heap.size) (hP:AllP (fun p=>Ge p B) [(some g_l),(blk a0)]) (hS3:3∈S) (hS7:7∈S) (hl_l:Own vv w 0 32 a0 c1 a2) (c9:c6=l_l.length) (a6:RelD deV w a2 l_l) (hl:Bl w g_l 166 [.slice a0 c6 c1,.bool l_frozen,.int .i64 l_over]) (hx:RelD deV w [(v_x,F_x)] [x]) (hdj0_1:Dj (some g_l) (blk a0)) (hap0:AllP (DnD deV a2 l_l) [(some g_l),(blk a0)]) (hap1:AllP (DnD deV [(v_x,F_x)] [x]) [(some g_l),(blk a0)]) (H:ka l_l l_frozen l_over x K):Fn Tryz.prog 32 ⟨[.pointer (some ⟨g_l,0,none⟩),v_x.1]⟩ w (fun v w'=>GrL [(some g_l),(blk a0)] w w'/\∃ (v_r:Value),∃ (r:Er),∃ (l_l2:List PV),∃ (b7:Option Addr),∃ (d2:Nat),∃ (a7:List VH),∃ (l_frozen2:Bool),∃ (l_over2:Int),v=v_r/\ErrR S w' v_r r/\Bl w' g_l 166 [.slice b7 l_l2.length d2,.bool l_frozen2,.int .i64 l_over2]/\Own vv w' 0 32 b7 d2 a7/\InP [(some g_l),(blk a0)] w.heap.size (blk b7)/\RelD deV w' a7 l_l2/\(∀ p:Option Nat,Lt p w.heap.size->DnD deV a2 l_l p->DnD deV [(v_x,F_x)] [x] p->DnD deV a7 l_l2 p)/\Dj (some g_l) (blk b7)/\DnD deV a7 l_l2 (some g_l)/\DnD deV a7 l_l2 (blk b7)/\K r l_l2 l_frozen2 l_over2):=by
 subst c9
 unfold ka at H
 refine Fn.enter (by kernel_rfl) Tryz.func32 rfl Tryz.ntmps32 rfl ?_
 replace H:=H (by rw [<-a6.1]; exact Nat.le_trans hl_l.rd.cap hl_l.rd.max)
 have hNoAt:AllP (NoAt w) [(some g_l),(blk a0)]:=(apC (NoAt.bl hl rfl) (apC (NoAt.own hl_l rfl) apN))
 refine zd (zb (yp (h:=(ze (za (zd (zb (yp (h:=(yp (h:=(z6 (us:=[v_x.1]) qB rfl rfl rfl (qF v_x.2 qY) rfl (by omega) (fun g2 w2 hB2 hg2 hl2=>?_)))))))))))))
 have hO2:Own vv w2 w.heap.size 32 (some ⟨g2,0,none⟩) 1 ([(v_x,F_x)]:List VH):=Own.ofBl hB2 (Nat.le_trans (Nat.le_refl _) hl2) (by simp [maxLen]) rfl
 have gr1:=(GrL.of0 (ps:=[(some g_l),(blk a0)]) hg2)
 have k2:=a6.grown hg2
 have hr1:RelD deV w2 ([(v_x,F_x)]:List VH) ([x]:List PV):=(RelD.cons (RelD.one (hx.goL gr1 hap1)) RelD.nil)
 have nd1:OrD (fun p=>DnD deV a2 l_l p/\DnD deV [(v_x,F_x)] [x] p) deV ([(v_x,F_x)]:List VH) ([x]:List PV) w.heap.size:=(OrD.cons (d:=deV) (fun p_ hp_ q_=>(DnD.one (q_.2))) (fun _ _ _=>DnD.nil))
 have dj1:DnD deV ([(v_x,F_x)]:List VH) ([x]:List PV) (blk a0):=(DnD.cons (d:=deV) (DnD.one (hx.inp hap1 (InP.mem (List.Mem.tail _ (List.Mem.head _))))) DnD.nil)
 have dj2:DnD deV ([(v_x,F_x)]:List VH) ([x]:List PV) (some g_l):=(DnD.cons (d:=deV) (DnD.one (hx.inp hap1 (InP.mem (List.Mem.head _)))) DnD.nil)
 have dj3:DnD deV ([(v_x,F_x)]:List VH) ([x]:List PV) (blk (some ⟨g2,0,none⟩)):=(DnD.cons (d:=deV) (DnD.one (hx.inp hap1 (InP.ge hO2.ge'))) DnD.nil)
 refine zx rfl rfl (W_list_Extend (hG.goL gr1 hP) (Nat.le_trans hB (GrL.sizeL gr1)) (apC (InP.toGe (InP.mem (List.Mem.head _)) hP hB) (apC (InP.toGe (InP.mem (List.Mem.tail _ (List.Mem.head _))) hP hB) apN)) hS3 hS7 (hl_l.grown hg2) rfl k2 (hl.g0 hg2) hO2.rd (rfl.trans hr1.1) hr1 hdj0_1 (apC (hap0 _ (List.Mem.head _)) (apC (hap0 _ (List.Mem.tail _ (List.Mem.head _))) apN)) (apC (Dn.of (Dj.new hl.lt' (Ge.box hl2)).symm) (apC (Dn.of (Dj.new hl_l.lt' (Ge.box hl2)).symm) apN)) (apC dj2 (apC dj1 apN)) H) ?_
 rintro v_t4 w3 ⟨hgl1,_,t4,l_,g3,l0,h6,l_2,l_3,rfl,ht4,hB3,hO3,hi1,hr2,ho1,dj4,dj5,dj6,H⟩
 have hi2:InP [(some g_l),(blk a0)] w.heap.size (blk g3):=InP.trans hi1 (apC (InP.mem (List.Mem.head _)) (apC (InP.mem (List.Mem.tail _ (List.Mem.head _))) apN)) (GrL.sizeL gr1)
 have gr2:GrL [(some g_l),(blk a0)] w w3:=GrL.modL gr1 hgl1 (apC (InP.mem (List.Mem.head _)) (apC (InP.mem (List.Mem.tail _ (List.Mem.head _))) apN))
 have k4:=k2.goL hgl1 (apC (hap0 _ (List.Mem.head _)) (apC (hap0 _ (List.Mem.tail _ (List.Mem.head _))) apN))
 exact yp (h:=(ze (za (zu (zM rfl rfl ⟨gr2,v_t4,t4,l_,g3,l0,h6,l_2,l_3,rfl,ht4,hB3,hO3,hi2,hr2,(fun p_ hp_ v0_ v1_=>have q_:=And.intro v0_ v1_; ho1 p_ (fun g_ e_=>Nat.lt_of_lt_of_le (hp_ g_ e_) (GrL.sizeL gr1)) (q_.1) (nd1 p_ hp_ q_)),dj4,dj5,dj6,H⟩)))))
set_option maxHeartbeats 8000000 in
theorem W_smithylaw12_first {S:List Nat} {w:World} {K:Bool->Prop} (hG:GOK S w) (hS0:0∈S) (hS1:1∈S) (hS2:2∈S) (hS3:3∈S) (hS4:4∈S) (hS5:5∈S) (hS6:6∈S) (hS7:7∈S) (hS8:8∈S) (hS9:9∈S) (hS10:10∈S) (hS11:11∈S) (hS12:12∈S) (hS13:13∈S) (hS14:14∈S) (hS15:15∈S) (hS16:16∈S) (H:jW  K):Fn Tryz.prog 27 ⟨[]⟩ w (fun v w'=>w.grownBy w' none/\∃ (r:Bool),v=.bool r/\K r):=by
 unfold jW at H
 refine Fn.enter (by kernel_rfl) Tryz.func27 rfl Tryz.ntmps27 rfl ?_
 refine zd (zb (yp (h:=(ze (za (zd (zb (zx rfl rfl (ja H) ?_))))))))
 rintro _ w1 ⟨hg1,v_t8,F_t8,t8,rfl,ht8,ho1,H⟩
 have gr1:=hg1
 refine zx rfl rfl (ja H) ?_
 rintro _ w2 ⟨hg2,v_t9,F_t9,t9,rfl,ht9,ho2,H⟩
 have gr2:=qC gr1 hg2
 refine zx rfl rfl (ja H) ?_
 rintro _ w3 ⟨hg3,v_t10,F_t10,t10,rfl,ht10,ho3,H⟩
 have gr3:=qC gr2 hg3
 have k2:=(ht8.grown hg2).grown hg3
 have k3:=ht9.grown hg3
 refine z6 (us:=[v_t8.1,v_t9.1,v_t10.1]) qB rfl rfl rfl (qF v_t8.2 (qF v_t9.2 (qF v_t10.2 qY))) rfl (by omega) (fun g2 w5 hB2 hg5 hl2=>?_)
 have hO2:Own vv w5 w.heap.size 32 (some ⟨g2,0,none⟩) 3 ([(v_t8,F_t8),(v_t9,F_t9),(v_t10,F_t10)]:List VH):=Own.ofBl hB2 (Nat.le_trans (qD gr3) hl2) (by simp [maxLen]) rfl
 have gr4:=qC gr3 hg5
 have hr1:RelD deV w5 ([(v_t8,F_t8),(v_t9,F_t9),(v_t10,F_t10)]:List VH) ([t8,t9,t10]:List PV):=(RelD.cons (RelD.one (k2.grown hg5)) (RelD.cons (RelD.one (k3.grown hg5)) (RelD.cons (RelD.one (ht10.grown hg5)) RelD.nil)))
 have nd1:NewD deV ([(v_t8,F_t8),(v_t9,F_t9),(v_t10,F_t10)]:List VH) ([t8,t9,t10]:List PV) w.heap.size:=(NewD.cons (d:=deV) (fun p_ hp_=>(DnD.one (ho1 p_ (fun g_ e_=>Nat.lt_of_lt_of_le (hp_ g_ e_) (Nat.le_refl _))))) (NewD.cons (d:=deV) (fun p_ hp_=>(DnD.one (ho2 p_ (fun g_ e_=>Nat.lt_of_lt_of_le (hp_ g_ e_) (qD gr1))))) (NewD.cons (d:=deV) (fun p_ hp_=>(DnD.one (ho3 p_ (fun g_ e_=>Nat.lt_of_lt_of_le (hp_ g_ e_) (qD gr2))))) NewD.nil)))
 have dj1:DnD deV ([(v_t8,F_t8),(v_t9,F_t9),(v_t10,F_t10)]:List VH) ([t8,t9,t10]:List PV) (blk (some ⟨g2,0,none⟩)):=(DnD.cons (d:=deV) (DnD.one (k2.new (Ge.box hl2))) (DnD.cons (d:=deV) (DnD.one (k3.new (Ge.box hl2))) (DnD.cons (d:=deV) (DnD.one (ht10.new (Ge.box hl2))) DnD.nil)))
 refine zx rfl rfl (W_list_Sorted (hG.grown gr4) hS3 hS7 hO2.rd (rfl.trans hr1.1) hr1 H) ?_
 rintro _ w6 ⟨hg6,t120,e9,f0,f4,v_t121,t121,rfl,ht120,b9,ho4,dj2,ht121,H⟩
 have hb1:=ht120.ge'
 have k7:=ht120.base (fun g hg=>Nat.le_trans (qD gr4) (hb1 g hg))
 have gr5:=qC gr4 hg6
 refine yp (h:=(yp (h:=(yp (h:=(yp (h:=(yp (h:=(ze (za (zd (zd (zb (yp (h:=(zf rfl (zW Tryz.underlying43 ht121 rfl) (yp (h:=(zX 4 (fun L' w'=>∃ q1:Bool,L'=[(21,.bool q1),(1,.slice e9 t120.length f0)]/\((!decide (t121=Er.ok)) || (!decide ((t120.length:Int)=(3:Int))))=q1/\w6=w') ?_ (fun hQ=>?_)))))))))))))))))))))
 ·rintro _ _ ⟨q1,rfl,rfl,rfl⟩
  refine yp (h:=?_)
  obtain ⟨J1,H,hJ1⟩:=H
  refine zX 6 (fun L' w'=>∃ q2:Bool,L'=[(28,.bool q2),(1,.slice e9 t120.length f0)]/\J1 q2/\w.grownBy w' none/\Own vv w' w.heap.size 32 e9 f0 f4/\RelD deV w' f4 t120) ?_ (fun hQ=>?_)
  ·clear H
   rintro _ w7 ⟨q2,rfl,H,gr6,k8,k9⟩
   replace H:=hJ1 q2 H
   refine yp (h:=?_)
   obtain ⟨J2,H,hJ2⟩:=H
   refine zX 6 (fun L' w'=>∃ q3:Bool,L'=[(35,.bool q3)]/\J2 q3/\w.grownBy w' none) ?_ (fun hQ=>?_)
   ·clear H
    rintro _ w8 ⟨q3,rfl,H,gr7⟩
    replace H:=hJ2 q3 H
    refine ze (za (zp rfl (fun b1=>?_) (fun b1=>?_)))
    ·replace H:=H.1 (b1)
     exact zd (zb (yp (h:=(ze (za (zu (zi (zM rfl rfl ⟨gr7,false,rfl,H⟩))))))))
    ·replace H:=H.2 (b1)
     refine zr (za (zd (zb (zx rfl rfl (ja H) ?_))))
     rintro _ w9 ⟨hg7,v_t36,F_t36,t36,rfl,ht36,ho5,H⟩
     have gr8:=qC gr7 hg7
     refine z6 (us:=[v_t36.1]) qB rfl rfl rfl (qF v_t36.2 qY) rfl (by omega) (fun g4 w11 hB4 hg9 hl4=>?_)
     have hO4:Own vv w11 w.heap.size 32 (some ⟨g4,0,none⟩) 1 ([(v_t36,F_t36)]:List VH):=Own.ofBl hB4 (Nat.le_trans (qD gr8) hl4) (by simp [maxLen]) rfl
     have gr9:=qC gr8 hg9
     have hr2:RelD deV w11 ([(v_t36,F_t36)]:List VH) ([t36]:List PV):=(RelD.cons (RelD.one (ht36.grown hg9)) RelD.nil)
     have nd2:NewD deV ([(v_t36,F_t36)]:List VH) ([t36]:List PV) w.heap.size:=(NewD.cons (d:=deV) (fun p_ hp_=>(DnD.one (ho5 p_ (fun g_ e_=>Nat.lt_of_lt_of_le (hp_ g_ e_) (qD gr7))))) NewD.nil)
     have dj3:DnD deV ([(v_t36,F_t36)]:List VH) ([t36]:List PV) (blk (some ⟨g4,0,none⟩)):=(DnD.cons (d:=deV) (DnD.one (ht36.new (Ge.box hl4))) DnD.nil)
     refine zx rfl rfl (W_val_NewList hO4.rd (rfl.trans hr2.1) hr2 H) ?_
     rintro v_ w12 ⟨hg_,hc_ | hc_⟩
     ·obtain ⟨rfl,H⟩:=hc_
      have hg10:=hg_
      exact yp (h:=(ze (za (zd (zd (zb (yp (h:=(zf rfl (ql Tryz.underlying61 rfl rfl) (ze (za (zp rfl (fun _=>zd (zb (yp (h:=(ze (za (zu (zi (zM rfl rfl ⟨(qC gr9 hg10),false,rfl,H⟩))))))))) (fun h=>by cases h)))))))))))))
     ·obtain ⟨g_a,a_l,o4,o9,n9,a_frozen,a_over,rfl,ha_l,f1,ho6,dj4,ha,hge1,dj5,dj6,dj7,H⟩:=hc_
      have hg11:=hg_
      have hb2:=ha_l.ge'
      have k11:=ha_l.base (fun g hg=>Nat.le_trans (qD gr9) (hb2 g hg))
      have gr11:=qC gr9 hg11
      refine yp (h:=(ze (za (zd (zd (zb (yp (h:=(zf rfl (ql Tryz.underlying61 rfl rfl) (ze (za (zp rfl (fun h=>by cases h) (fun _=>zr (za (zd (zb (yp (h:=(zf rfl (qk Tryz.underlying61 rfl rfl) (zx rfl rfl (W_list_Each_List0 (S:=S) (k11.base (fun _ _=>Nat.zero_le _)) rfl f1 ha dj7.symm (apC dj6 (apC dj5 apN)) H) ?_))))))))))))))))))))
      rintro v_ w15 ⟨hg_,hc_ | hc_⟩
      ·obtain ⟨v_t441,t441,a_,p1,p2,p0,a_2,a_3,rfl,ht441,hB5,hO5,hi1,hr3,ho7,dj8,dj9,dj10,H⟩:=hc_
       have hgl1:=hg_
       have hO6:=hO5.base (InP.toGe hi1 (apC (Ge.le hge1 (qD gr9)) (apC k11.ge' apN)) (qD gr11))
       have k12:=f1.goL hgl1 (apC dj6 (apC dj5 apN))
       refine yp (h:=(yp (h:=(yp (h:=(yp (h:=(yp (h:=(ze (za (zd (zd (zb (yp (h:=(zf rfl (ql Tryz.underlying64 rfl rfl) (yp (h:=(zX 3 (fun L' w'=>∃ q4:Bool,L'=[(52,.bool q4),(3,.pointer (some ⟨g_a,0,none⟩)),(4,.pointer none)]/\true=q4/\w15=w') ?_ (fun hQ=>?_)))))))))))))))))))))
       ·rintro _ _ ⟨q4,rfl,rfl,rfl⟩
        exact ze (za (zp rfl (fun _=>zd (zb (yp (h:=(ze (za (zu (zi (zM rfl rfl ⟨(gr_modL gr11 hgl1 (apC (Ge.le hge1 (qD gr9)) (apC k11.ge' apN))),false,rfl,H⟩))))))))) (fun h=>by cases h)))
       ·clear H
        exact zI rfl rfl (rfl) rfl (zI rfl rfl (rfl) rfl (zf rfl (zR (rfl) rfl) (wk (hQ _ _ ⟨true,rfl,rfl,rfl⟩))))
      ·obtain ⟨l4,h9,m3,m5,m2,f8,d8,d9,v_t4412,t4412,a_4,o0,o5,n5,a_5,a_6,rfl,ht440_l,f9,ho9,dj11,ht4412,ht440,hge2,dj12,dj13,dj14,hB6,hO7,hi2,hr4,ho8,dj15,dj16,dj17,dj18,dj19,dj20,dj21,dj22,dj23,dj24,dj25,H⟩:=hc_
       have hgl2:=hg_
       have hO8:=hO7.base (InP.toGe hi2 (apC (Ge.le hge1 (qD gr9)) (apC k11.ge' apN)) (qD gr11))
       have hb3:=ht440_l.ge'
       have gr13:=gr_modL gr11 hgl2 (apC (Ge.le hge1 (qD gr9)) (apC k11.ge' apN))
       have k14:=f1.goL hgl2 (apC dj6 (apC dj5 apN))
       refine yp (h:=(yp (h:=(yp (h:=(yp (h:=(yp (h:=(ze (za (zd (zd (zb (yp (h:=(zf rfl (ql Tryz.underlying64 rfl rfl) (yp (h:=(zX 3 (fun L' w'=>∃ q5:Bool,L'=[(52,.bool q5),(3,.pointer (some ⟨g_a,0,none⟩)),(4,.pointer (some ⟨l4,0,none⟩))]/\(!decide (t4412=Er.ok))=q5/\w15=w') ?_ (fun hQ=>?_)))))))))))))))))))))
       ·rintro _ _ ⟨q5,rfl,rfl,rfl⟩
        refine ze (za (zp rfl (fun b2=>?_) (fun b2=>?_)))
        ·replace H:=H.1 (jw b2)
         exact zd (zb (yp (h:=(ze (za (zu (zi (zM rfl rfl ⟨gr13,false,rfl,H⟩))))))))
        ·replace H:=H.2 (jn b2)
         refine zr (za (zd (zb (yp (h:=(zx rfl rfl (ja H) ?_))))))
         rintro _ w18 ⟨hg12,v_t54,F_t54,t54,rfl,ht54,ho10,H⟩
         have gr14:=qC gr13 hg12
         have k15:=hB6.g0 hg12
         have k16:=hO8.grown hg12
         have k17:=hr4.grown hg12
         have k18:=(ht440_l.base (fun g hg=>Nat.le_trans (qD gr11) (hb3 g hg))).grown hg12
         have k19:=ht440.g0 hg12
         have k20:=f9.grown hg12
         refine zx rfl rfl (W_list_Append (GB.grown hG gr14) (qD gr14) (apC (Ge.le hge1 (qD gr9)) (apC k16.ge' apN)) hS3 hS7 (k16.base (fun _ _=>Nat.zero_le _)) rfl k17 k15 ht54 dj15 (apC dj16 (apC dj17 apN)) (apC (ho10 _ hB6.lt') (apC (ho10 _ hO8.lt') apN)) H) ?_
         rintro v_g w19 ⟨hgl3,_,g,a_7,o1,o6,n6,a_8,a_9,rfl,hg,hB7,hO9,hi3,hr5,ho11,dj26,dj27,dj28,H⟩
         have hO10:=hO9.base (InP.toGe hi3 (apC (Ge.le hge1 (qD gr9)) (apC k16.ge' apN)) (qD gr14))
         have gr15:=gr_modL gr14 hgl3 (apC (Ge.le hge1 (qD gr9)) (apC k16.ge' apN))
         have k21:=k17.goL hgl3 (apC dj16 (apC dj17 apN))
         have k22:=k18.goL hgl3 (apC dj18 (apC dj19 apN))
         have k23:=k19.goL hgl3 (apC dj20 (apC dj21 apN))
         have k24:=k20.goL hgl3 (apC dj22 (apC dj23 apN))
         refine yp (h:=(ze (za (zd (zb (yp (h:=(zx rfl rfl (W_plist_Over_End_List0 (hO10.base (fun _ _=>Nat.zero_le _)) rfl hr5 hB7 k22.rd rfl k24 k23 dj20 (InP.dj hi3 k19.lt' (apC dj20 (apC dj21 apN))).symm dj26 (apC (ho11 _ k19.lt' dj25 (ho10 _ ht440.lt')) (apC dj27 (apC dj28 apN))) (apC (Dn.of dj14) (apC (Dn.of dj18) (apC (Dn.of (InP.dj hi3 k18.lt' (apC dj18 (apC dj19 apN))).symm) apN))) (apC dj13 (apC dj22 (apC (RelD.inp k20 (apC dj22 (apC dj23 apN)) hi3) apN))) H) ?_))))))))
         rintro _ w20 ⟨hgl4,t440_,m0,m1,a_10,o2,o7,n7,a_11,a_12,rfl,hB8,hB9,hO11,hi4,hr6,ho12,dj29,dj30,dj31,dj32,dj33,dj34,H⟩
         have hO12:=hO11.base (InP.toGe hi4 (apC (Ge.le hge2 (qD gr11)) (apC (Ge.le hge1 (qD gr9)) (apC hO10.ge' apN))) (qD gr15))
         have gr16:=gr_modL gr15 hgl4 (apC (Ge.le hge2 (qD gr11)) (apC (Ge.le hge1 (qD gr9)) (apC hO10.ge' apN)))
         have k25:=hr5.goL hgl4 (apC (ho11 _ k19.lt' dj25 (ho10 _ ht440.lt')) (apC dj27 (apC dj28 apN)))
         refine ze (za (zd (zb (yp (h:=(zx rfl rfl (W_smithysee_Is (hG.grown gr16) hS0 hS1 hS2 hS3 hS4 hS5 hS6 hS7 hS8 hS9 hS10 hS11 hS12 hS13 hS14 hS15 hS16 (ErrR.goB hg (GB.grown hG gr15) hgl4 (apC (Ge.le hge2 (qD gr11)) (apC (Ge.le hge1 (qD gr9)) (apC hO10.ge' apN))) (apC (NoAt.bl k23 rfl) (apC (NoAt.bl hB7 rfl) (apC (NoAt.own hO10 rfl) apN)))) H) ?_))))))
         rintro _ w21 ⟨hg13,t59,rfl,H⟩
         have gr17:=qC gr16 hg13
         have k27:=hB9.g0 hg13
         have k28:=hO12.grown hg13
         refine yp (h:=?_)
         obtain ⟨J3,H,hJ3⟩:=H
         refine zX 5 (fun L' w'=>∃ q6:Bool,L'=[(65,.bool q6)]/\J3 q6/\w.grownBy w' none) ?_ (fun hQ=>?_)
         ·clear H
          rintro _ w22 ⟨q6,rfl,H,gr18⟩
          replace H:=hJ3 q6 H
          exact yp (h:=(ze (za (zu (zM rfl rfl ⟨gr18,q6,rfl,H⟩)))))
         ·clear hJ3
          rcases Bool.eq_false_or_eq_true (t59) with b3 | b3
          ·replace H:=H.1 b3
           refine gp b3 (h:=(qp (qG rfl rfl (okb b3)) rfl rfl (ja H) ?_))
           rintro _ w23 ⟨hg14,v_t62,F_t62,t62,rfl,ht62,ho13,H⟩
           have gr19:=qC gr17 hg14
           have k30:=k27.g0 hg14
           have k31:=k28.grown hg14
           have k32:=(hr6.grown hg13).grown hg14
           refine qp (qG rfl rfl (okb b3)) rfl rfl (W_list_Append (GB.grown hG gr19) (qD gr19) (apC (Ge.le hge1 (qD gr9)) (apC k31.ge' apN)) hS3 hS7 (k31.base (fun _ _=>Nat.zero_le _)) rfl k32 k30 ht62 dj31 (apC dj33 (apC dj34 apN)) (apC (ho13 _ k27.lt') (apC (ho13 _ k28.lt') apN)) H) ?_
           rintro v_t63 w24 ⟨hgl5,_,t63,a_13,o3,o8,n8,a_14,a_15,rfl,ht63,hB10,hO13,hi5,hr7,ho14,dj35,dj36,dj37,H⟩
           have hO14:=hO13.base (InP.toGe hi5 (apC (Ge.le hge1 (qD gr9)) (apC k31.ge' apN)) (qD gr19))
           have k33:=k32.goL hgl5 (apC dj33 (apC dj34 apN))
           have k34:=ht62.goL hgl5 (apC (ho13 _ k27.lt') (apC (ho13 _ k28.lt') apN))
           exact zc rfl rfl (okb b3) rfl (qi Tryz.underlying43 ht63 rfl) (zf rfl (zR (okb b3) rfl) (wk (hQ _ _ ⟨decide (t63=Er.ok),rfl,H,(gr_modL gr19 hgl5 (apC (Ge.le hge1 (qD gr9)) (apC k31.ge' apN)))⟩)))
          ·replace H:=H.2 b3
           exact gn b3 (h:=(gn b3 (h:=(gn b3 (h:=(gn b3 (h:=(zf rfl (zO (okb b3) rfl) (wk (hQ _ _ ⟨false,rfl,H,gr17⟩))))))))))
       ·clear H
        exact zc rfl rfl (rfl) rfl (zg qB rfl) (zc rfl rfl (rfl) rfl (zW Tryz.underlying43 ht4412 rfl) (zf rfl (zO (rfl) rfl) (wk (hQ _ _ ⟨!decide (t4412=Er.ok),rfl,rfl,rfl⟩))))
   ·clear hJ2
    rcases Bool.eq_false_or_eq_true (q2) with b4 | b4
    ·replace H:=H.1 b4
     exact gn b4 (h:=(gn b4 (h:=(gn b4 (h:=(gn b4 (h:=(gn b4 (h:=(zf rfl (zR (okb b4) rfl) (wk (hQ _ _ ⟨true,rfl,H,gr6⟩))))))))))))
    ·replace H:=H.2 b4
     refine gp b4 (h:=?_)
     obtain ⟨h1,H⟩:=H
     refine zc rfl rfl (okb b4) rfl (zN qB k8.rd rfl rfl b9.1.symm rfl h1.1 h1.2) ?_
     obtain ⟨⟨v_el,F_el⟩,eh1,hR1⟩:=RelD.at k9 vh0 PV.nil (j:=2) (Nat.lt_of_lt_of_eq (iltN h1 b9.1.symm) k9.1)
     have hv1:RelD deV w7 [(v_el,F_el)] [t120.getD 2 PV.nil]:=RelD.cons hR1 RelD.nil
     refine zc rfl rfl (okb b4) rfl (z8 (v:=v_el.1) (zP vh0 qB k8.rd rfl rfl (iltN h1 b9.1.symm)) (congrArg vv eh1)) (qp (qG rfl rfl (okb b4)) rfl rfl (W_val_Repr hv1 H) ?_)
     rintro _ w25 ⟨hg15,t33,rfl,H⟩
     have k35:=hv1.grown hg15
     exact gp b4 (h:=(zf rfl (zO (okb b4) rfl) (wk (hQ _ _ ⟨!decide (t33=([49]:List UInt8)),rfl,H,(qC gr6 hg15)⟩))))
  ·clear hJ1
   rcases Bool.eq_false_or_eq_true ((!decide (t121=Er.ok)) || (!decide ((t120.length:Int)=(3:Int)))) with b5 | b5
   ·replace H:=H.1 b5
    exact gn b5 (h:=(gn b5 (h:=(gn b5 (h:=(gn b5 (h:=(gn b5 (h:=(zf rfl (zR (okb b5) rfl) (wk (hQ _ _ ⟨true,rfl,H,gr5,k7,b9⟩))))))))))))
   ·replace H:=H.2 b5
    refine gp b5 (h:=?_)
    obtain ⟨h2,H⟩:=H
    refine zc rfl rfl (okb b5) rfl (zN qB k7.rd rfl rfl b9.1.symm rfl h2.1 h2.2) ?_
    obtain ⟨⟨v_el2,F_el2⟩,eh2,hR2⟩:=RelD.at b9 vh0 PV.nil (j:=0) (Nat.lt_of_lt_of_eq (iltN h2 b9.1.symm) b9.1)
    have hv2:RelD deV w6 [(v_el2,F_el2)] [t120.getD 0 PV.nil]:=RelD.cons hR2 RelD.nil
    refine zc rfl rfl (okb b5) rfl (z8 (v:=v_el2.1) (zP vh0 qB k7.rd rfl rfl (iltN h2 b9.1.symm)) (congrArg vv eh2)) (qp (qG rfl rfl (okb b5)) rfl rfl (W_val_Repr hv2 H) ?_)
    rintro _ w26 ⟨hg16,t26,rfl,H⟩
    have k38:=hv2.grown hg16
    exact gp b5 (h:=(zf rfl (zO (okb b5) rfl) (wk (hQ _ _ ⟨!decide (t26=([51]:List UInt8)),rfl,H,(qC gr5 hg16),(k7.grown hg16),(b9.grown hg16)⟩))))
 ·clear H
  rcases Bool.eq_false_or_eq_true (!decide (t121=Er.ok)) with b6 | b6
  ·exact gn b6 (h:=(gn b6 (h:=(gn b6 (h:=(zf rfl (zR (okb b6) rfl) (wk (hQ _ _ ⟨true,rfl,by rw [b6] <;> rfl,rfl⟩))))))))
  ·exact gp b6 (h:=(gp b6 (h:=(gp b6 (h:=(zf rfl (zO (okb b6) rfl) (wk (hQ _ _ ⟨!decide ((t120.length:Int)=(3:Int)),rfl,by rw [b6] <;> rfl,rfl⟩))))))))
end
 
section
open Go Go.RowKit
def isB:Er->Int->Bool
 | .ok,c=>decide (0=c)
 | .e n,c=>decide (101+(n:Int)=c)
 | .at_ _ _,_=>false
theorem is_M {e:Er} {code:Int} {K:Bool->Prop} (h:K (isB e code)):kg e code K:=by
 unfold kg jp ko kf jG jK j6 jt jp j5 jG
 cases e with
 | ok=>refine ⟨fun _=>?_,fun h2=>absurd rfl h2⟩; exact (congrArg K (show isB .ok code=_ by simp [isB])).mp h
 | e n=>refine ⟨fun h2=>(by cases h2),fun _=>⟨fun p m h2=>(by cases h2),fun _=>?_⟩⟩; exact (congrArg K (show isB (.e n) code=_ by rw [Bool.eq_iff_iff]; simp [isB,sentV]; exact decide_eq_true_iff.symm)).mp h
 | at_ p n =>
  refine ⟨fun h2=>(by cases h2),fun _=>⟨fun p' m h2=>?_,fun h2=>absurd rfl (h2 p n)⟩⟩
  cases h2
  refine ⟨fun h2=>(by simp at h2),fun _=>⟨fun h2=>(by simp only [sentV] at h2; omega),fun _=>?_⟩⟩
  exact (congrArg K (show isB (.at_ p n) code=_ by simp [isB])).mp h
end
 
section
open Go Go.RowKit
theorem stable_M {t back:Bool} {data:List PV} {K:List PV->Prop} (hP:Okl t data) (hl:data.length<=40) (h:∀ d',SyM (ltP back) PV.nil data d' 0 data.length->K d') :
  qU data (data.length:Int) back false K:=by
 intro _
 refine ⟨fun a b d2=>b=a+20/\(a=0∨a=20∨a=40)/\a<=data.length/\SyO PV.nil data d2 0 data.length/\(20<=a->jo (ltP back) PV.nil d2 0 20)/\(40<=a->jo (ltP back) PV.nil d2 20 40),fun a _ _=>((data.length:Int)+20 - a).toNat,⟨by omega,.inl rfl,by omega,SyO.refl _ _ _ _,fun e=>by omega,fun e=>by omega⟩,?_⟩
 rintro a b d2 ⟨rfl,ha,h1,h2,h3,h4⟩ hlen
 have hP2:Okl t d2:=hP.perm h2.perm
 refine ⟨fun hb=>insertion_M hP2 (by omega) (by omega) (by omega) (by omega) fun d' k=>⟨by simp only [In]; omega,⟨by omega,by omega,by omega,h2.trans (k.1.wide (by omega) (by omega)),fun e=>?_,fun e=>?_⟩,by first | omega | (dsimp only; omega)⟩,fun hb=>insertion_M hP2 (by omega) (by omega) (by omega) (by omega) fun d' k=>?_⟩
 ·rcases ha with rfl | rfl | rfl
  ·exact k.2
  ·exact (h3 (by omega)).out k.1 (.inr (by omega))
  ·omega
 ·have:a=20:=by omega
  subst this; exact k.2
 ·have hP3:Okl t d':=hP2.perm k.1.perm
  have o3:=h2.trans (k.1.wide (a':=0) (b':=data.length) (by omega) (by omega))
  have hn:((data.length:Nat):Int).toNat=data.length:=by omega
  have s20:jo (ltP back) PV.nil d' 0 (min 20 data.length)/\jo (ltP back) PV.nil d' 20 data.length:=by
   rcases ha with rfl | rfl | rfl
   ·refine ⟨k.2.sub (by omega) (by omega),fun i j q1 q2 q3=>by omega⟩
   ·refine ⟨((h3 (by omega)).out k.1 (.inr (by omega))).sub (by omega) (by omega),k.2.sub (by omega) (by omega)⟩
   ·refine ⟨((h3 (by omega)).out k.1 (.inr (by omega))).sub (by omega) (by omega),((h4 (by omega)).out k.1 (.inr (by omega))).sub (by omega) (by omega)⟩
  refine ⟨fun bs d3=>(bs=20/\d3=d')∨(bs=40/\SyM (ltP back) PV.nil data d3 0 data.length),fun bs _=>(40 - bs).toNat,.inl ⟨rfl,rfl⟩,?_⟩
  rintro bs d3 (⟨rfl,rfl⟩ | ⟨rfl,h5⟩) hlen3
  ·refine ⟨fun hbs=>⟨by simp only [In]; omega,?_⟩,fun hbs=>?_⟩
   ·rw [show min 20 data.length=20 by omega] at s20
    refine ⟨fun a2 b2 d4=>(a2=0/\b2=40/\d4=d3)∨(a2=40/\b2=80/\data.length=40/\SyM (ltP back) PV.nil data d4 0 data.length),fun a2 _ _=>(40 - a2).toNat,.inl ⟨rfl,by omega,rfl⟩,?_⟩
    rintro a2 b2 d4 (⟨rfl,rfl,rfl⟩ | ⟨rfl,rfl,h40,h6⟩) hlen4
    ·refine ⟨fun hb2=>⟨by simp only [In]; omega,40,sym_M 40 (by omega) hP3 (by omega) (by omega) (by omega) (by omega) (by omega) s20.1 (s20.2.sub (by omega) (by omega)) fun d5 k5=>?_⟩,fun hb2=>?_⟩
     ·refine ⟨by simp only [In]; omega,by simp only [In]; omega,.inr ⟨rfl,by omega,by omega,?_⟩,by first | omega | (dsimp only; omega)⟩
      rw [show (40:Int).toNat=data.length by omega] at k5
      exact ⟨o3.trans k5.1,k5.2⟩
     ·refine ⟨fun xs=>SyM (ltP back) PV.nil data xs 0 data.length,⟨by simp only [In]; omega,fun hq=>?_,fun hq=>absurd (show (0:Int)+20<data.length by omega) hq⟩,fun xs hxs hlx=>⟨by simp only [In]; omega,.inr ⟨by omega,hxs⟩,by first | omega | (dsimp only; omega)⟩⟩
      refine ⟨40,sym_M 40 (by omega) hP3 (by omega) (by omega) (by omega) (by omega) (by omega) s20.1 (s20.2.sub (by omega) (by omega)) fun d5 k5=>?_⟩
      rw [hn] at k5
      exact ⟨o3.trans k5.1,k5.2⟩
    ·refine ⟨fun hb2=>by omega,fun hb2=>⟨fun xs=>SyM (ltP back) PV.nil data xs 0 data.length,⟨by simp only [In]; omega,fun hq=>by omega,fun hq=>h6⟩,fun xs hxs hlx=>⟨by simp only [In]; omega,.inr ⟨by omega,hxs⟩,by first | omega | (dsimp only; omega)⟩⟩⟩
   ·refine h _ ⟨o3,?_⟩
    rw [show min 20 data.length=data.length by omega] at s20
    exact s20.1
  ·exact ⟨fun hbs=>by omega,fun _=>h _ h5⟩
theorem sstable_M {t back:Bool} {l:List PV} {K:List PV->Prop} (hP:Okl t l) (hl:l.length<=40) (h:∀ d',SyM (ltP back) PV.nil l d' 0 l.length->K d'):qO l back false K:=fun _=>stable_M hP hl h
def wgt:PV->Int:=fun _=>1
theorem weightT_M {t:Bool} {x:PV} {most:Int} {K:Int->Prop} (hx:Okv t x) (hm:60<=most/\most<=5000) (h:K (wgt x)):M_val_weightT x most K:=by
 obtain ⟨z,rfl⟩:=hx
 refine ⟨fun l=>l=[],⟨fun e=>(by cases e),fun _=>⟨fun l e=>(by cases e),fun _=>rfl⟩⟩,?_⟩
 rintro _ rfl
 exact ⟨fun n i=>n=1/\i=0,fun _ _=>0,⟨rfl,rfl⟩,by rintro n i ⟨rfl,rfl⟩; exact ⟨fun hi=>absurd hi (by simp),fun _=>h⟩⟩
theorem wgt_le {t:Bool} {x:PV} (_h:Okv t x):1<=wgt x/\wgt x<=51:=by simp [wgt]
theorem vlight_M {t:Bool} {l:List PV} {K:Bool->Prop} (hP:Okl t l) (hl:l.length<=40) (h:K true):M_val_Light 4096 l K:=by
 intro _
 refine ⟨fun m i=>0<=i/\i<=l.length/\4096 - 51*i<=m/\m<=4096,fun _ i=>((l.length:Int) - i).toNat,⟨by omega,by omega,by omega,by omega⟩,?_⟩
 rintro m i ⟨h0,h1,h2,h3⟩
 refine ⟨fun hi=>⟨⟨h0,hi⟩,?_⟩,fun _=>h⟩
 have hx:=hP.at (i:=i.toNat) (by omega)
 have hw:=wgt_le hx
 exact weightT_M hx (by omega) ⟨by simp only [In]; omega,fun hq=>by omega,fun _=>⟨by simp only [In]; omega,⟨by omega,by omega,by omega,by omega⟩,by first | omega | (dsimp only; omega)⟩⟩
theorem cloneV_M {l:List PV} {K:List PV->Prop} (hl:l.length<=1000000) (h:K l):qM l K :=
 fun _=>⟨fun e=>e ▸ h,by simp; omega,by simpa using h⟩
theorem sorted_M {t back:Bool} {l:List PV} {K:List PV->Er->Prop} (hP:Okl t l) (hl:l.length<=40) (h:∀ d',SyM (ltP back) PV.nil l d' 0 l.length->K d' .ok):M_list_Sorted l back K:=by
 intro _
 exact vlight_M hP hl ⟨fun e=>(by cases e),fun _=>cloneV_M (by omega) (sstable_M hP hl h)⟩
theorem jo.uniq {lt:PV->PV->Bool} {l m:List PV} (h1:jo lt PV.nil l 0 l.length) (h2:jo lt PV.nil m 0 m.length) (hp:l.Perm m) (hs:∀ x∈l,∀ y∈l,lt x y=false->lt y x=false->x=y):l=m:=by
 have pw:∀ {q:List PV},jo lt PV.nil q 0 q.length->q.Pairwise fun x y=>lt y x=false:=fun {q} hq=>by
  rw [List.pairwise_iff_getElem]
  intro i j hi hj hij
  have:=hq i j (by omega) hij hj
  simpa [List.getD,hi,hj] using this
 exact List.Perm.eq_of_pairwise (le:=fun x y=>lt y x=false) (fun x y hx hy q1 q2=>hs x hx y (hp.mem_iff.2 hy) q2 q1) (pw h1) (pw h2) hp
end
 
section
open Go Go.RowKit
theorem lexB_eq:∀ {x y},lexB x y=false->lexB y x=false->x=y
 | [],[],_,_=>rfl
 | [],_ :: _,h,_=>by cases h
 | _ :: _,[],_,h=>by cases h
 | a :: l,b :: m,h1,h2=>by
  simp only [lexB,Bool.or_eq_false_iff,decide_eq_false_iff_not,Bool.and_eq_false_iff] at h1 h2
  have e:a=b:=by omega
  subst e
  rw [lexB_eq (x:=l) (y:=m) (by rcases h1.2 with h | h; exact absurd rfl h; exact h) (by rcases h2.2 with h | h; exact absurd rfl h; exact h)]
theorem ltP_eq {back t:Bool} {x y:PV} (hx:Okv t x) (hy:Okv t y) (h1:ltP back x y=false) (h2:ltP back y x=false):x=y:=by
 have e:keyQ x=keyQ y:=by
  cases back
  ·exact lexB_eq h1 h2
  ·exact lexB_eq h2 h1
 obtain ⟨a,rfl⟩:=hx
 obtain ⟨b,rfl⟩:=hy
 simp only [keyQ,List.cons.injEq,and_true] at e
 rw [e]
theorem jo.one {back t:Bool} {l m d':List PV} (hP:Okl t l) (h:SyM (ltP back) PV.nil l d' 0 l.length) (h2:jo (ltP back) PV.nil m 0 m.length) (hp:m.Perm l):d'=m:=by
 have hd:=hP.perm h.1.perm
 have hl:=h.1.len
 refine jo.uniq (by rw [hl]; exact h.2) h2 (h.1.perm.trans hp.symm) fun x hx y hy q1 q2=>ltP_eq (hd x hx) (hd y hy) q1 q2
theorem lsmall_M {n:Int} {K:PV->Prop} (h : -9223372036854775808<=n/\n<=9223372036854775807) (k:K (.int n)):qW n K:=⟨h,k⟩
theorem loose_M {l:List PV} {f:Bool} {o:Int} {K:Bool->Prop} (h:K (!f && decide (o=0))):ju l f o K:=fun _=>h
theorem append_no {l:List PV} {f:Bool} {o:Int} {x:PV} {K:Er->List PV->Bool->Int->Prop} (ho:o≠0) (h:K (.e 3) l f o):ka l f o x K :=
 fun _ _ _=>loose_M ⟨fun _=>h,fun e=>absurd e (by simp [ho])⟩
theorem append_yes {l:List PV} {x:PV} {K:Er->List PV->Bool->Int->Prop} (hl:l.length<1024) (h:K .ok (l++[x]) false 0):ka l false 0 x K :=
 fun _ _ _=>loose_M ⟨fun e=>(by cases e),fun _=>fun _=>⟨by simp only [In]; omega,fun e=>absurd e (by simp; omega),fun _=>fun _ _=>⟨by simp; omega,h⟩⟩⟩
theorem hold_M {l:List PV} {f:Bool} {o b:Int} {K:List PV->Bool->Int->Prop} (ho : -1000000<=o+b/\o+b<=1000000) (h:K l f (o+b)):j1 l f o b K :=
 fun _ _=>⟨by simp only [In]; omega,h⟩
theorem each_M {l:List PV} {f:Bool} {o:Int} {K0:Er->List PV->Bool->Int->Prop} {K:List PV->Int->Bool->Bool->Er->List PV->Bool->Int->Prop} (hl:l.length<=1000000) (ho : -100000<=o/\o<=100000) (h:K l 0 false false .ok l f (o+1)):kd l f o K0 K:=by
 exact fun _=>fun _ _=>cloneV_M hl (hold_M (by omega) h)
theorem over_end_M {l:List PV} {f:Bool} {o a:Int} {q:List PV} {p:Bool} {K:Int->Bool->Bool->List PV->Bool->Int->Prop} (ho : -100000<=o/\o<=100000) (h:K a true p l f (o + -1)):jE l f o q a false p K :=
 fun _ _=>⟨fun _=>hold_M (by omega) h,fun e=>(by cases e)⟩
theorem newlist_M {l:List PV} {K0:Prop} {K:List PV->Bool->Int->Prop} (hl:l.length<=1000000) (h:K l false 0):kc l K0 K :=
 fun _=>cloneV_M hl h
theorem txt1:txt 1=[49]:=txt_dig (d:=1) (by omega) (by omega)
theorem txt3:txt 3=[51]:=txt_dig (d:=3) (by omega) (by omega)
theorem lfirst_M {K:Bool->Prop} (h:K true):jW K:=by
 refine lsmall_M (by omega) (lsmall_M (by omega) (lsmall_M (by omega) ?_))
 have hP:Okl false [PV.int 3,PV.int 1,PV.int 2]:=fun x hx=>by
  simp only [List.mem_cons,List.not_mem_nil,or_false] at hx
  rcases hx with rfl | rfl | rfl <;> exact ⟨_,rfl⟩
 refine sorted_M hP (by simp) fun d' hd=>?_
 have e:d'=[PV.int 3,PV.int 2,PV.int 1]:=by
  refine jo.one hP hd (fun i j h1 h2 h3=>?_) (by decide)
  have h3:j<3:=h3
  have:(i=0/\j=1)∨(i=0/\j=2)∨(i=1/\j=2):=by omega
  rcases this with ⟨rfl,rfl⟩ | ⟨rfl,rfl⟩ | ⟨rfl,rfl⟩ <;> rfl
 subst e
 refine ⟨fun q=>q=false,⟨fun e=>absurd e (by simp),fun _=>⟨by simp,?_⟩⟩,?_⟩
 ·exact vrepr_int (by rw [txt3]; simp) (by rw [txt3]; rfl)
 rintro _ rfl
 refine ⟨fun q=>q=false,⟨fun e=>(by cases e),fun _=>⟨by simp,?_⟩⟩,?_⟩
 ·exact vrepr_int (by rw [txt1]; simp) (by rw [txt1]; rfl)
 rintro _ rfl
 refine ⟨fun e=>(by cases e),fun _=>lsmall_M (by omega) (newlist_M (by simp) (each_M (by simp) (by omega) ⟨fun e=>absurd rfl e,fun _=>lsmall_M (by omega) (append_no (by omega) (over_end_M (by omega) (is_M ?_)))⟩))⟩
 refine ⟨fun q=>q=true,⟨fun _=>lsmall_M (by omega) (append_yes (by simp) (by simp)),fun e=>absurd e (by decide)⟩,?_⟩
 rintro _ rfl
 exact h
end
 
section
open Go Go.RowKit
abbrev RNu:=Bool × List Int × List UInt8
inductive RO where
 | nil
 | mk (id:Nat) (items:List (Int × (Bool × List Int × List UInt8) × RO)) (order:Int) (fr:List (Int × (Bool × List Int × List UInt8) × RO)) (deep:Int)
abbrev RV:=Int × RNu × RO
def RO.isNil:RO->Bool
 | .nil=>true
 | _=>false
def RO.id:RO->Nat
 | .nil=>0
 | .mk i _ _ _ _=>i
def RO.items:RO->List RV
 | .nil=>[]
 | .mk _ l _ _ _=>l
def RO.order:RO->Int
 | .nil=>0
 | .mk _ _ o _ _=>o
def RO.fr:RO->List RV
 | .nil=>[]
 | .mk _ _ _ l _=>l
def RO.deep:RO->Int
 | .nil=>0
 | .mk _ _ _ _ d=>d
abbrev rv0:RV:=(0,(false,[],[]),.nil)
inductive RRch (s:RO):RO->Prop
 | refl:RRch s s
 | step {x:RO} {f:RV}:RRch s x->f∈x.items∨f∈x.fr->RRch s f.2.2
def RC:={ l:List Value // l.length=6/\∀ u∈l,u.oneCell'=true }
abbrev RH:=RC × (Nat->Prop)
def vr (h:RH):List Value:=h.1.1
theorem vr_ok:OneK 6 vr:=⟨by omega,fun h=>h.1.2.1,fun h=>h.1.2.2⟩
abbrev sl0:Value:=.slice none 0 0
def cellsV (k:Int) (b neg:Bool) (L:Value) (s:List UInt8) (o:Value):List Value:=[.int .i64 k,.bool b,.bool neg,L,vs s,o]
theorem cellsV_ok {k:Int} {b neg:Bool} {L:Value} {s:List UInt8} {o:Value} (hL:L.oneCell'=true) (ho:o.oneCell'=true):(cellsV k b neg L s o).length=6/\∀ u∈cellsV k b neg L s o,u.oneCell'=true :=
 ⟨rfl,qF rfl (qF rfl (qF rfl (qF hL (qF rfl (qF ho qY)))))⟩
abbrev zeroV:List Value:=cellsV 0 false false sl0 [] (.pointer none)
def rc0:RC:=⟨zeroV,cellsV_ok rfl rfl⟩
def rh0:RH:=(rc0,noF)
def objC (items:Value) (deep order:Int) (fr:Value):List Value:=[items,sl0,sl0,sl0,.bool false,.int .i64 0,vs [],.int .i64 deep,.int .i64 0]++zeroV++[.int .i64 order,fr,.bool false,sl0,.bool false,sl0,.int .i64 0,.pointer none]
def RVw (P:Value->RO->Prop) (w:World) (F:Nat->Prop) (cs:List Value) (x:RV):Prop :=
 ∃ A c o,cs=cellsV x.1 false x.2.1.1 (.slice A x.2.1.2.1.length c) x.2.1.2.2 o/\Rd vi w A c x.2.1.2.1/\(x.2.1.2.1≠[]->∀ q,blk A=some q->F q)/\P o x.2.2
def RVs (P:Value->RO->Prop) (w:World) (F:Nat->Prop) (A:Option Addr) (c:Nat) (l:List RV):Prop :=
 ∃ hs:List RH,RdK 6 vr w A c hs/\hs.length=l.length/\(∀ q,blk A=some q->F q)/\∀ (i:Nat) (h:RH) (x:RV),hs[i]? = some h->l[i]? = some x->RVw P w F h.1.1 x
def ROn:Nat->World->(Nat->Prop)->Value->RO->Prop
 | _,_,_,v,.nil=>v=.pointer none
 | 0,_,_,_,.mk ..=>False
 | n+1,w,F,v,.mk id items order fr deep=>v=.pointer (some ⟨id,0,none⟩)/\F id/\∃ Ai ci Af cf,
   Bl w id 111 (objC (.slice Ai items.length ci) deep order (.slice Af fr.length cf))/\RVs (ROn n w F) w F Ai ci items/\RVs (ROn n w F) w F Af cf fr
section
variable {w w':World} {F F':Nat->Prop} {cs:List Value} {v:Value} {ps:List (Option Nat)} {P P':Value->RO->Prop}
theorem RdK.goF {α:Type} {k:Nat} {f:α->List Value} {A:Option Addr} {c:Nat} {xs:List α} (h:RdK k f w A c xs) (hb:∀ q,blk A=some q->F q) (hg:GrL ps w w') (hd:AllP (fun p=>∀ g,p=some g->¬ F g) ps):RdK k f w' A c xs :=
 h.goL hg fun p hp _ g hg' e=>hd p hp g e (hb g hg')
theorem Rd.goN {α:Type} {f:α->Value} {A:Option Addr} {c:Nat} {xs:List α} (h:Rd f w A c xs) (hb:xs≠[]->∀ q,blk A=some q->F q) (hg:GrL ps w w') (hd:AllP (fun p=>∀ g,p=some g->¬ F g) ps):Rd f w' A c xs :=
 h.goL hg fun p hp hne g hg' e=>hd p hp g e (hb hne g hg')
theorem RVw.goL {x:RV} (h:RVw P w F cs x) (hg:GrL ps w w') (hd:AllP (fun p=>∀ g,p=some g->¬ F g) ps) (hP:∀ o y,P o y->P' o y):RVw P' w' F cs x:=by
 obtain ⟨A,c,o,h1,h2,h3,h4⟩:=h
 exact ⟨A,c,o,h1,h2.goN h3 hg hd,h3,hP _ _ h4⟩
theorem RVw.mono {x:RV} (h:RVw P w F cs x) (hF:∀ g,F g->F' g) (hP:∀ o y,P o y->P' o y):RVw P' w F' cs x:=by
 obtain ⟨A,c,o,h1,h2,h3,h4⟩:=h
 exact ⟨A,c,o,h1,h2,fun hne q hq=>hF q (h3 hne q hq),hP _ _ h4⟩
theorem RVs.goL {A:Option Addr} {c:Nat} {l:List RV} (h:RVs P w F A c l) (hg:GrL ps w w') (hd:AllP (fun p=>∀ g,p=some g->¬ F g) ps) (hP:∀ o y,P o y->P' o y):RVs P' w' F A c l:=by
 obtain ⟨hs,h1,h2,h3,h4⟩:=h
 exact ⟨hs,h1.goF h3 hg hd,h2,h3,fun i h x a b=>(h4 i h x a b).goL hg hd hP⟩
theorem RVs.mono {A:Option Addr} {c:Nat} {l:List RV} (h:RVs P w F A c l) (hF:∀ g,F g->F' g) (hP:∀ o y,P o y->P' o y):RVs P' w F' A c l:=by
 obtain ⟨hs,h1,h2,h3,h4⟩:=h
 exact ⟨hs,h1,h2,fun q hq=>hF q (h3 q hq),fun i h x a b=>(h4 i h x a b).mono hF hP⟩
theorem ROn.goL (hg:GrL ps w w') (hd:AllP (fun p=>∀ g,p=some g->¬ F g) ps):∀ {n:Nat} {v:Value} {s:RO},ROn n w F v s->ROn n w' F v s
 | n,v,.nil,h=>by cases n <;> exact h
 | 0,v,.mk ..,h=>h.elim
 | n+1,v,.mk ..,h=>by
  obtain ⟨h1,h2,Ai,ci,Af,cf,hB,hi,hf⟩:=h
  exact ⟨h1,h2,Ai,ci,Af,cf,hB.goF h2 hg hd,hi.goL hg hd (fun _ _ k=>ROn.goL hg hd k),hf.goL hg hd (fun _ _ k=>ROn.goL hg hd k)⟩
theorem ROn.mono (hF:∀ g,F g->F' g):∀ {n:Nat} {v:Value} {s:RO},ROn n w F v s->ROn n w F' v s
 | n,v,.nil,h=>by cases n <;> exact h
 | 0,v,.mk ..,h=>h.elim
 | n+1,v,.mk ..,h=>by
  obtain ⟨h1,h2,Ai,ci,Af,cf,hB,hi,hf⟩:=h
  exact ⟨h1,hF _ h2,Ai,ci,Af,cf,hB,hi.mono hF (fun _ _ k=>ROn.mono hF k),hf.mono hF (fun _ _ k=>ROn.mono hF k)⟩
theorem ROn.up:∀ {n:Nat} {v:Value} {s:RO},ROn n w F v s->ROn (n+1) w F v s
 | n,v,.nil,h=>by cases n <;> exact h
 | 0,v,.mk ..,h=>h.elim
 | n+1,v,.mk ..,h=>by
  obtain ⟨h1,h2,Ai,ci,Af,cf,hB,hi,hf⟩:=h
  exact ⟨h1,h2,Ai,ci,Af,cf,hB,hi.mono (fun _ k=>k) (fun _ _ k=>ROn.up k),hf.mono (fun _ k=>k) (fun _ _ k=>ROn.up k)⟩
theorem ROn.le {n m:Nat} {s:RO} (h:ROn n w F v s) (hm:n<=m):ROn m w F v s:=by
 induction hm with
 | refl=>exact h
 | step _ ih=>exact ih.up
theorem ROn.ptr {n:Nat} {p:RO} (h:ROn n w F v p):v=.pointer (if p.isNil then none else some ⟨p.id,0,none⟩):=by
 cases p with
 | nil=>cases n <;> exact h
 | mk=>cases n with
  | zero=>exact h.elim
  | succ n=>exact h.1
theorem RVs.mem {A:Option Addr} {c:Nat} {l:List RV} {x:RV} (h:RVs P w F A c l) (hx:x∈l):∃ cs,RVw P w F cs x:=by
 obtain ⟨hs,_,h2,_,h4⟩:=h
 obtain ⟨i,hi,rfl⟩:=List.getElem_of_mem hx
 exact ⟨_,h4 i _ _ (List.getElem?_eq_getElem (by rw [h2]; exact hi)) (List.getElem?_eq_getElem hi)⟩
theorem ROn.reach {n:Nat} {s y:RO} (h:ROn n w F v s) (k:RRch s y):∃ m u,ROn m w F u y:=by
 induction k with
 | refl=>exact ⟨n,v,h⟩
 | @step x f hx hf ih =>
  obtain ⟨m,u,hm⟩:=ih
  cases x with
  | nil=>rcases hf with hf | hf <;> cases hf
  | mk id items order fr deep =>
   cases m with
   | zero=>exact hm.elim
   | succ m =>
    obtain ⟨_,_,Ai,ci,Af,cf,_,hi,hf'⟩:=hm
    rcases hf with hf | hf
    ·obtain ⟨cs,_,_,o,_,_,_,ho⟩:=hi.mem hf
     exact ⟨m,o,ho⟩
    ·obtain ⟨cs,_,_,o,_,_,_,ho⟩:=hf'.mem hf
     exact ⟨m,o,ho⟩
end
def deO:DE VH RO where
 rel w h x:=(∃ n,ROn n w h.2 h.1.1 x)/\∀ g,h.2 g->g<w.heap.size
 dn h _ p:=∀ g,p=some g->¬ h.2 g
 goL h k a:=⟨h.1.elim fun n h=>⟨n,h.goL k a⟩,fun g hg=>Nat.lt_of_lt_of_le (h.2 g hg) k.size⟩
 new h k:=fun g e hg=>by have:=h.2 g hg; have:=k g e; omega
 app h a k:=fun g e hg=>by
  rcases k g e with h1 | h1
  ·have:=h.2 g hg; omega
  ·exact a _ h1 g rfl hg
def deR:DE RH RV where
 rel w h x:=(∃ n,RVw (ROn n w h.2) w h.2 h.1.1 x)/\∀ g,h.2 g->g<w.heap.size
 dn h _ p:=∀ g,p=some g->¬ h.2 g
 goL h k a:=⟨h.1.elim fun n h=>⟨n,h.goL k a (fun _ _ q=>q.goL k a)⟩,fun g hg=>Nat.lt_of_lt_of_le (h.2 g hg) k.size⟩
 new h k:=fun g e hg=>by have:=h.2 g hg; have:=k g e; omega
 app h a k:=fun g e hg=>by
  rcases k g e with h1 | h1
  ·have:=h.2 g hg; omega
  ·exact a _ h1 g rfl hg
section
variable {w:World} {F:Nat->Prop} {p:Option Nat}
theorem OrD.nil {H X:Type} {Q:Option Nat->Prop} {d:DE H X} {n:Nat}:OrD Q d [] [] n:=fun _ _ _=>DnD.nil
theorem deO_nil:RelD deO w [(pnil,noF)] [.nil]:=RelD.cons ⟨⟨0,rfl⟩,fun _ h=>h.elim⟩ RelD.nil
theorem deO_nilD:DnD deO [(pnil,noF)] [.nil] p:=DnD.cons (fun _ _ h=>h) DnD.nil
theorem deR_open {v:RC} {x:RV} (h:RelD deR w [(v,F)] [x]):∃ A c,∃ o:OV,v.1=cellsV x.1 false x.2.1.1 (.slice A x.2.1.2.1.length c) x.2.1.2.2 o.1/\Rd vi w A c x.2.1.2.1/\(x.2.1.2.1≠[]->∀ q,blk A=some q->F q)/\RelD deO w [(o,F)] [x.2.2]:=by
 obtain ⟨⟨n,A,c,o,h1,h2,h3,h4⟩,hF⟩:=h.one
 have ho:o.oneCell'=true:=by rw [h4.ptr]; rfl
 exact ⟨A,c,⟨o,ho⟩,h1,h2,h3,RelD.cons ⟨⟨n,h4⟩,hF⟩ RelD.nil⟩
theorem deR_pack {k:Int} {neg:Bool} {L:List Int} {s:List UInt8} {A:Option Addr} {c:Nat} {o:OV} {y:RO} {F':Nat->Prop} (hR:Rd vi w A c L) (ho:RelD deO w [(o,F)] [y]) (hF:∀ g,F g->F' g) (hA:L≠[]->∀ q,blk A=some q->F' q) (hs:∀ g,F' g->g<w.heap.size) :
  RelD deR w [(⟨cellsV k false neg (.slice A L.length c) s o.1,cellsV_ok rfl o.2⟩,F')] [(k,(neg,L,s),y)]:=by
 obtain ⟨⟨n,h⟩,_⟩:=ho.one
 exact RelD.cons ⟨⟨n,A,c,o.1,rfl,hR,hA,h.mono hF⟩,hs⟩ RelD.nil
theorem deR_openD {v:RC} {x:RV} (h:RelD deR w [(v,F)] [x]):∃ A c,∃ o:OV,v.1=cellsV x.1 false x.2.1.1 (.slice A x.2.1.2.1.length c) x.2.1.2.2 o.1/\Rd vi w A c x.2.1.2.1/\RelD deO w [(o,F)] [x.2.2] /\
  (∀ p,DnD deR [(v,F)] [x] p->Dn x.2.1.2.1 (blk A) p)/\(∀ p,DnD deR [(v,F)] [x] p->DnD deO [(o,F)] [x.2.2] p):=by
 obtain ⟨A,c,o,h1,h2,h3,h4⟩:=deR_open h
 exact ⟨A,c,o,h1,h2,h4,fun p hd hne g hg e=>hd.one g e (h3 hne g hg),fun p hd=>DnD.cons (fun g e=>hd.one g e) DnD.nil⟩
def FR (A:Option Addr) (L:List Int) (F:Nat->Prop):Nat->Prop:=fun q=>(L≠[]/\blk A=some q)∨F q
abbrev rcP (k:Int) (neg:Bool) (A:Option Addr) (c:Nat) (L:List Int) (s:List UInt8) (o:OV):RC:=⟨cellsV k false neg (.slice A L.length c) s o.1,cellsV_ok rfl o.2⟩
theorem deR_packD {k:Int} {neg:Bool} {L:List Int} {s:List UInt8} {A:Option Addr} {c:Nat} {o:OV} {y:RO} (hR:Rd vi w A c L) (ho:RelD deO w [(o,F)] [y]) :
  RelD deR w [(rcP k neg A c L s o,FR A L F)] [(k,(neg,L,s),y)]/\∀ p,Dn L (blk A) p->DnD deO [(o,F)] [y] p->DnD deR [(rcP k neg A c L s o,FR A L F)] [(k,(neg,L,s),y)] p:=by
 refine ⟨deR_pack hR ho (fun g hg=>.inr hg) (fun hne q hq=>.inl ⟨hne,hq⟩) fun g hg=>?_,fun p h1 h2=>DnD.cons (fun g e hg=>?_) DnD.nil⟩
 ·rcases hg with ⟨hne,hq⟩ | hg
  ·obtain ⟨ad,rfl,_⟩:=hR.cells hne
   exact hR.lt hne hq
  ·exact ho.one.2 g hg
 ·rcases hg with ⟨hne,hq⟩ | hg
  ·exact h1 hne g hq e
  ·exact h2.one g e hg
theorem ow26:ckOwK Tryz.prog 26 38 6 72=true:=by kernel_rfl
theorem RVw.all {hs:List RH}:∀ {xs:List RV},hs.length=xs.length->(∀ (i:Nat) (h:RH) (x:RV),hs[i]? = some h->xs[i]? = some x->∃ n,RVw (ROn n w F) w F h.1.1 x)->∃ n,∀ (i:Nat) (h:RH) (x:RV),hs[i]? = some h->xs[i]? = some x->RVw (ROn n w F) w F h.1.1 x:=by
 induction hs with
 | nil=>intro xs _ _; exact ⟨0,fun i h x hh=>by simp at hh⟩
 | cons a hs ih =>
  intro xs hl h
  cases xs with
  | nil=>simp at hl
  | cons b xs =>
   obtain ⟨n1,k1⟩:=h 0 a b rfl rfl
   obtain ⟨n2,k2⟩:=ih (xs:=xs) (by simpa using hl) (fun i h' x hh hx=>h (i+1) h' x hh hx)
   refine ⟨max n1 n2,fun i h' x hh hx=>?_⟩
   cases i with
   | zero=>cases hh; cases hx; exact k1.mono (fun _ q=>q) (fun _ _ q=>q.le (Nat.le_max_left _ _))
   | succ i=>exact (k2 i h' x hh hx).mono (fun _ q=>q) (fun _ _ q=>q.le (Nat.le_max_right _ _))
def FO (g:Nat) (Ai Af:Option Addr) (hi hf:List RH):Nat->Prop:=fun q=>q=g∨blk Ai=some q∨blk Af=some q∨(∃ h,h∈hi/\h.2 q)∨∃ h,h∈hf/\h.2 q
theorem deO_packD {g ci cf:Nat} {deep order:Int} {its fr:List RV} {Ai Af:Option Addr} {hi hf:List RH} (hB:Bl w g 111 (objC (.slice Ai its.length ci) deep order (.slice Af fr.length cf)))
  (hI:RdK 6 vr w Ai ci hi) (rI:RelD deR w hi its) (hF:RdK 6 vr w Af cf hf) (rF:RelD deR w hf fr) (lI:Lt (blk Ai) w.heap.size) (lF:Lt (blk Af) w.heap.size) :
  RelD deO w [(ovP g,FO g Ai Af hi hf)] [.mk g its order fr deep]/\∀ q,Dj (some g) q->Dj (blk Ai) q->Dj (blk Af) q->DnD deR hi its q->DnD deR hf fr q->DnD deO [(ovP g,FO g Ai Af hi hf)] [.mk g its order fr deep] q:=by
 have at':∀ {hs:List RH} {xs:List RV},RelD deR w hs xs->∀ h∈hs,∃ i x,hs[i]? = some h/\xs[i]? = some x:=fun {hs xs} r h hh=>by
  obtain ⟨i,hi,rfl⟩:=List.getElem_of_mem hh
  exact ⟨i,_,List.getElem?_eq_getElem hi,List.getElem?_eq_getElem (by rw [<-r.1]; exact hi)⟩
 obtain ⟨n1,k1⟩:=RVw.all (F:=FO g Ai Af hi hf) rI.1 (fun i h x hh hx=>by
  obtain ⟨⟨n,k⟩,_⟩:=rI.2 i h x hh hx
  have hsub:∀ q,h.2 q->FO g Ai Af hi hf q:=fun q hq=>.inr (.inr (.inr (.inl ⟨h,List.mem_of_getElem? hh,hq⟩)))
  exact ⟨n,k.mono hsub (fun _ _ q=>q.mono hsub)⟩)
 obtain ⟨n2,k2⟩:=RVw.all (F:=FO g Ai Af hi hf) rF.1 (fun i h x hh hx=>by
  obtain ⟨⟨n,k⟩,_⟩:=rF.2 i h x hh hx
  have hsub:∀ q,h.2 q->FO g Ai Af hi hf q:=fun q hq=>.inr (.inr (.inr (.inr ⟨h,List.mem_of_getElem? hh,hq⟩)))
  exact ⟨n,k.mono hsub (fun _ _ q=>q.mono hsub)⟩)
 refine ⟨RelD.cons ⟨⟨max n1 n2+1,rfl,.inl rfl,Ai,ci,Af,cf,hB,⟨hi,hI,rI.1,fun q hq=>.inr (.inl hq),fun i h x hh hx=>?_⟩,⟨hf,hF,rF.1,fun q hq=>.inr (.inr (.inl hq)),fun i h x hh hx=>?_⟩⟩,fun q hq=>?_⟩ RelD.nil,fun q d1 d2 d3 d4 d5=>DnD.cons (fun r e hq=>?_) DnD.nil⟩
 ·exact (k1 i h x hh hx).mono (fun _ q=>q) (fun _ _ q=>q.le (Nat.le_max_left _ _))
 ·exact (k2 i h x hh hx).mono (fun _ q=>q) (fun _ _ q=>q.le (Nat.le_max_right _ _))
 ·rcases hq with rfl | hq | hq | ⟨h,hh,hq⟩ | ⟨h,hh,hq⟩
  ·exact hB.lt
  ·exact lI q hq
  ·exact lF q hq
  ·obtain ⟨i,x,a,b⟩:=at' rI h hh; exact (rI.2 i h x a b).2 q hq
  ·obtain ⟨i,x,a,b⟩:=at' rF h hh; exact (rF.2 i h x a b).2 q hq
 ·subst e
  rcases hq with rfl | hq | hq | ⟨h,hh,hq⟩ | ⟨h,hh,hq⟩
  ·exact d1 _ rfl rfl
  ·exact d2 _ hq rfl
  ·exact d3 _ hq rfl
  ·obtain ⟨i,x,a,b⟩:=at' rI h hh; exact d4 i h x a b _ rfl hq
  ·obtain ⟨i,x,a,b⟩:=at' rF h hh; exact d5 i h x a b _ rfl hq
end
end
 
section
open Go Go.RowKit
attribute [local irreducible] WL WC WX WQ WK WJ Yld Eff Ef0 Fn
def ke (neg:Bool) (l:List Int) (K:Bool->(List Int)->Prop):Prop :=
 (l.length<=maxLen ->
 Lp1 (fun (n:Int) kont1=>((decide ((0:Int)<n))=true->(In .i64 (n - (1:Int)))) /\
 ((decide ((0:Int)<n))=true->(0<=n - (1:Int)/\n - (1:Int)<(l.length:Nat))) /\
 ((((decide ((0:Int)<n)) && (decide ((l.getD ((n - (1:Int)).toNat) 0)=(0:Int))))=true->(In .i64 (n - (1:Int))) /\
 kont1 (n - (1:Int))) /\
 (((decide ((0:Int)<n)) && (decide ((l.getD ((n - (1:Int)).toNat) 0)=(0:Int))))=false->(0<=(0:Int)/\(0:Int)<=n/\n<=(l.length:Nat)) /\
 K (neg && (decide ((0:Int)<n))) ((l.drop 0).take (n.toNat - 0))))) (l.length:Int))
def ku (n:Int) (K:Bool->(List Int)->Prop):Prop :=
 Lp2 (fun (l:List Int) (m:Int) kont1=>((¬ (m=(0:Int))->((10000:Int)≠0) /\
 ∃ J1:Int->Prop,((((m.tmod (10000:Int))<(0:Int)->(In .i64 (0 - (m.tmod (10000:Int)))) /\
 J1 (0 - (m.tmod (10000:Int)))) /\
 (¬ ((m.tmod (10000:Int))<(0:Int))->J1 (m.tmod (10000:Int))))) /\
 (∀ d:Int,J1 d->((l.length+(([d]:List Int)).length)*8<=140737488355328) /\
 ((10000:Int)≠0) /\
 kont1 (l++([d]:List Int)) (IntKind.wrap .i64 (m.tdiv (10000:Int))))) /\
 (m=(0:Int)->ke (decide (n<(0:Int))) l (fun (a0:Bool) (a5:List Int) =>
 K a0 a5)))) [] n
set_option maxHeartbeats 8000000 in
theorem W_smithyref9_trim {w:World} {neg:Bool} {l:List Int} {A_l:Option Addr} {c_l:Nat} {n_l:Nat} {K:Bool->(List Int)->Prop} (hl:Rd vi w A_l c_l l) (b4:n_l=l.length) (H:ke neg l K):Fn Tryz.prog 115 ⟨[.bool neg,.slice A_l n_l c_l]⟩ w (fun v w'=>w.grownBy w' none/\∃ (r_Neg:Bool),∃ (r_L:List Int),∃ (a1:Option Addr),∃ (a2:Nat),v=.agg ⟨[.bool r_Neg,.slice a1 r_L.length a2]⟩/\Rd vi w' a1 a2 r_L/\Orig (r_L≠[]) (blk a1) w.heap.size [(l≠[],blk A_l)]/\K r_Neg r_L):=by
 subst b4
 unfold ke at H
 refine Fn.enter (by kernel_rfl) Tryz.func115 rfl Tryz.ntmps115 rfl ?_
 replace H:=H (Nat.le_trans hl.cap hl.max)
 refine zd (zb (WL.alloc rfl zero35 (fun g1 w1 hB1 hg1 hl1=>?_)))
 have gr1:=hg1
 refine ze (za (zd (zb (yp (h:=(yp (h:=(yp (h:=(ze (za (zd (WC.block ?_)))))))))))))
 obtain ⟨I1,mu1,a8,HR1⟩:=H
 refine zZ (fun n' L' w'=>∃ (n:Int),n'=mu1 n/\L'=[(0,.bool neg),(1,.slice A_l l.length c_l),(4,.pointer (some ⟨g1,0,none⟩)),(5,.int .i64 n)]/\I1 n/\w1=w') _ _ ⟨(l.length:Int),rfl,rfl,a8,rfl⟩ sb ?_
 clear a8
 rintro _ _ _ ⟨n,rfl,rfl,hI1,rfl⟩
 have H:=HR1 n hI1
 refine zd (zd (zb (yp (h:=(yp (h:=(yp (h:=?_))))))))
 obtain ⟨h1,H⟩:=H
 obtain ⟨h2,H⟩:=H
 refine zX 7 (fun L' w'=>∃ q1:Bool,L'=[(17,.bool q1),(0,.bool neg),(1,.slice A_l l.length c_l),(4,.pointer (some ⟨g1,0,none⟩)),(5,.int .i64 n)]/\((decide ((0:Int)<n)) && (decide ((l.getD ((n - (1:Int)).toNat) 0)=(0:Int))))=q1/\w1=w') ?_ (fun hQ=>?_)
 ·rintro _ _ ⟨q1,rfl,rfl,rfl⟩
  refine ze (za (zp rfl (fun b1=>?_) (fun b1=>?_)))
  ·replace H:=H.1 (b1)
   refine zr (za (WC.block (zb (yp (h:=?_)))))
   obtain ⟨h3,H⟩:=H
   exact zf rfl (Yld.sub rfl rfl h3) (yp (h:=(ze (zh (zT _ ⟨n - (1:Int),rfl,rfl,H.1,rfl⟩ sb H.2)))))
  ·replace H:=H.2 (b1)
   refine zy (zj (zj (zk (za (zd (zb (yp (h:=(yp (h:=(zX 3 (fun L' w'=>∃ q2:Bool,L'=[(24,.bool q2),(1,.slice A_l l.length c_l),(4,.pointer (some ⟨g1,0,none⟩)),(5,.int .i64 n)]/\(neg && (decide ((0:Int)<n)))=q2/\w1=w') ?_ (fun hQ=>?_))))))))))))
   ·rintro _ _ ⟨q2,rfl,rfl,rfl⟩
    refine yp (h:=(yp (h:=?_)))
    obtain ⟨h4,H⟩:=H
    exact WL.cut qB (hl.grown gr1) rfl rfl rfl rfl rfl rfl h4.1 h4.2.1 h4.2.2 (fun a6 a7 hR1 hb1=>zf rfl (zU (us:=[.bool (neg && (decide ((0:Int)<n))),.slice a6 (((l.drop 0).take (n.toNat - 0)).length) a7]) zero35 places35 rfl rfl) (zS (vs:=[.bool (neg && (decide ((0:Int)<n))),.slice a6 (((l.drop 0).take (n.toNat - 0)).length) a7]) qB rfl rfl rfl (qF rfl (qF rfl qY)) hB1 rfl rfl (fun w2 hB2 hg2=>ze (za (zu (qb qB rfl rfl rfl hB2 rfl ⟨(jk gr1 hg2 (Ge.le (Ge.box hl1) (Nat.le_refl _))),neg && (decide ((0:Int)<n)),((l.drop 0).take (n.toNat - 0)),a6,a7,rfl,(hR1.go hg2 (Dn.sub (Dn.new (fun hx_=>hl.lt' hx_) (Ge.le (Ge.box hl1) (Nat.le_refl _))) ne_cut hb1)),(Orig.sub (Orig.par (List.Mem.head _)) ne_cut hb1),H⟩))))))
   ·clear H
    rcases Bool.eq_false_or_eq_true (neg) with b2 | b2
    ·exact gp b2 (h:=(gp b2 (h:=(zf rfl (zR (okb b2) rfl) (wk (hQ _ _ ⟨decide ((0:Int)<n),rfl,by rw [b2] <;> rfl,rfl⟩))))))
    ·exact gn b2 (h:=(gn b2 (h:=(zf rfl (zO (okb b2) rfl) (wk (hQ _ _ ⟨false,rfl,by rw [b2] <;> rfl,rfl⟩))))))
 ·clear H
  rcases Bool.eq_false_or_eq_true (decide ((0:Int)<n)) with b3 | b3
  ·exact gp b3 (h:=(gp b3 (h:=(zc rfl rfl (okb b3) rfl (Yld.sub rfl rfl (h1 b3)) (zc rfl rfl (okb b3) rfl (zN qB (hl.grown gr1) rfl rfl rfl rfl (h2 b3).1 (h2 b3).2) (zc rfl rfl (okb b3) rfl (zP 0 qB (hl.grown gr1) rfl rfl (iltN (h2 b3) rfl)) (gp b3 (h:=(zf rfl (zR (okb b3) rfl) (wk (hQ _ _ ⟨decide ((l.getD ((n - (1:Int)).toNat) 0)=(0:Int)),rfl,by rw [b3] <;> rfl,rfl⟩)))))))))))
  ·exact gn b3 (h:=(gn b3 (h:=(gn b3 (h:=(gn b3 (h:=(gn b3 (h:=(gn b3 (h:=(zf rfl (zO (okb b3) rfl) (wk (hQ _ _ ⟨false,rfl,by rw [b3] <;> rfl,rfl⟩))))))))))))))
set_option maxHeartbeats 8000000 in
theorem W_smithyref9_Of {w:World} {n:Int} {K:Bool->(List Int)->Prop} (H:ku n K):Fn Tryz.prog 53 ⟨[.int .i64 n]⟩ w (fun v w'=>w.grownBy w' none/\∃ (r_Neg:Bool),∃ (r_L:List Int),∃ (a1:Option Addr),∃ (a2:Nat),v=.agg ⟨[.bool r_Neg,.slice a1 r_L.length a2]⟩/\Rd vi w' a1 a2 r_L/\Orig (r_L≠[]) (blk a1) w.heap.size []/\K r_Neg r_L):=by
 unfold ku at H
 refine Fn.enter (by kernel_rfl) Tryz.func53 rfl Tryz.ntmps53 rfl ?_
 refine zd (zb (WL.alloc rfl zero35 (fun g1 w1 hB1 hg1 hl1=>ze (za (zd (zb (yp (h:=(ze (za (zd (zb (yp (h:=(yp (h:=(ze (za (zd (WC.block ?_))))))))))))))))))))
 obtain ⟨I1,mu1,a8,HR1⟩:=H
 refine zZ (fun n' L' w'=>∃ (l:List Int),∃ (A_l:Option Addr),∃ (c_l:Nat),∃ (n_l:Nat),∃ (m:Int),n'=mu1 l m/\L'=[(0,.int .i64 n),(2,.pointer (some ⟨g1,0,none⟩)),(3,.slice A_l n_l c_l),(4,.int .i64 m)]/\I1 l m/\n_l=l.length/\w.grownBy w' none/\Bl w' g1 35 [.bool false,.slice none 0 0]/\Own vi w' w.heap.size 3 A_l c_l l/\Dj (some g1) (blk A_l)) _ _ ⟨[],none,0,0,n,rfl,rfl,a8,rfl,hg1,hB1,(Own.nil vi w1 w.heap.size 3),Dj.nr⟩ sb ?_
 clear a8
 rintro _ _ w2 ⟨l,A_l,c_l,n_l,m,rfl,rfl,hI1,rfl,gr2,k1,k2,dj1⟩
 have H:=HR1 l m hI1
 refine zd (zd (zb (yp (h:=(yp (h:=(ze (za (zp rfl (fun b1=>?_) (fun b1=>?_))))))))))
 ·replace H:=H.1 (jw b1)
  refine zr (za (WC.block (zd (zb (yp (h:=?_))))))
  obtain ⟨h1,H⟩:=H
  refine zf rfl (qx rfl rfl h1) (yp (h:=(ze (za (zd ?_)))))
  obtain ⟨J1,H,hJ1⟩:=H
  refine qf (fun L' w'=>∃ (d:Int),L'=[(0,.int .i64 n),(2,.pointer (some ⟨g1,0,none⟩)),(3,.slice A_l l.length c_l),(4,.int .i64 m),(5,.int .i64 d)]/\J1 d/\w2=w') ?_ (fun hQ=>?_)
  ·clear H
   rintro _ _ ⟨d,rfl,H,rfl⟩
   replace H:=hJ1 d H
   refine za (zd (zb (yp (h:=(yp (h:=(z6 qB rfl rfl rfl (qF rfl qY) rfl (by omega) (fun g2 w3 hB2 hg2 hl2=>?_))))))))
   have hO1:Own vi w3 w.heap.size 3 (some ⟨g2,0,none⟩) 1 ([d]:List Int):=Own.ofBl hB2 (Nat.le_trans (qD gr2) hl2) (by simp [maxLen]) rfl
   have gr3:=qC gr2 hg2
   have k3:=k1.g0 hg2
   have k4:=k2.grown hg2
   obtain ⟨h2,H⟩:=H
   refine WL.append qB rfl rfl One.i k4 rfl rfl hO1.rd rfl rfl h2 (applen h2) (qD gr3) (fun a9 b0 w4 hO2 hg3 hk1=>yp (h:=(ze (za (zb (yp (h:=?_)))))))
   obtain ⟨h3,H⟩:=H
   exact zf rfl (Yld.quo' rfl rfl h3) (yp (h:=(ze (zh (zT _ ⟨l++([d]:List Int),a9,b0,(l++([d]:List Int)).length,IntKind.wrap .i64 (m.tdiv (10000:Int)),rfl,rfl,H.1,rfl,(jk gr3 hg3 k4.ge'),(k3.go hg3 dj1),hO2,(Dj.app dj1.symm k3.lt' hk1).symm⟩ sb H.2)))))
  ·clear hJ1
   refine zd (zb (yp (h:=(yp (h:=(ze (za (zp rfl (fun b2=>?_) (fun b2=>?_)))))))))
   ·replace H:=H.1 (of_decide_eq_true b2)
    refine zb (yp (h:=?_))
    obtain ⟨h4,H⟩:=H
    exact zf rfl (Yld.neg qB rfl h4) (yp (h:=(ze (WX.weaken sb (hQ _ _ ⟨0 - (m.tmod (10000:Int)),rfl,H,rfl⟩)))))
   ·replace H:=H.2 (of_decide_eq_false b2)
    exact zr (WX.weaken sb (hQ _ _ ⟨m.tmod (10000:Int),rfl,H,rfl⟩))
 ·replace H:=H.2 (jn b1)
  refine zy (zj (zj (zk (za (zd (zb (yp (h:=(yp (h:=(yp (h:=(zx rfl rfl (W_smithyref9_trim k2.rd rfl H) ?_)))))))))))))
  rintro _ w5 ⟨hg4,a0,a5,a3,a4,rfl,ht24_L,ho1,H⟩
  exact zS (vs:=[.bool a0,.slice a3 a5.length a4]) qB rfl rfl rfl (qF rfl (qF rfl qY)) (k1.g0 hg4) rfl rfl (fun w6 hB3 hg5=>ze (za (zu (qb qB rfl rfl rfl hB3 rfl ⟨(jk (qC gr2 hg4) hg5 (Ge.le (Ge.box hl1) (Nat.le_refl _))),a0,a5,a3,a4,rfl,(ht24_L.go hg5 (Orig.apart ho1 k1.lt' (orC (Dn.of dj1.symm) orN))),(Orig.trans ho1 (qD gr2) (orC (Orig.new k2.ge') orN)),H⟩))))
end
 
section
open Go Go.RowKit
attribute [local irreducible] WL WC WX WQ WK WJ Yld Eff Ef0 Fn
def jY (n:Int) (K:RV->Prop):Prop:=ku n fun s L=>K (3,(s,L,[]),.nil)
theorem Int_fn {w:World} {neg:Bool} {L:List Int} {A:Option Addr} {c:Nat} (hR:Rd vi w A c L):Fn Tryz.prog 63 ⟨[.agg ⟨[.bool neg,.slice A L.length c]⟩]⟩ w
  (fun v w'=>w.grownBy w' none/\v=.agg ⟨cellsV 3 false neg (.slice A L.length c) [] (.pointer none)⟩):=by
 refine Fn.enter (by kernel_rfl) Tryz.func63 rfl Tryz.ntmps63 rfl ?_
 refine zd ?_
 refine zb ?_
 refine qa (us:=[.bool neg,.slice A L.length c]) rfl rfl rfl (fun g1 w1 hB1 hg1 hl1=>?_)
 refine WL.alloc rfl zero38 (fun g2 w2 hB2 hg2 hl2=>?_)
 refine ze (za ?_)
 refine zd ?_
 refine zb ?_
 have gr2:=qC hg1 hg2
 refine zf rfl (z3 (vs:=[.bool neg,.slice A L.length c]) qB (hB1.g0 hg2) rfl rfl rfl rfl) ?_
 refine zf rfl (zU (us:=[.int .i64 (3:Int),.bool false,.bool neg,.slice A L.length c,vs ([]:List UInt8),.pointer none]) zero38 places38 rfl rfl) ?_
 refine zS (vs:=[.int .i64 (3:Int),.bool false,.bool neg,.slice A L.length c,vs ([]:List UInt8),.pointer none]) qB rfl rfl rfl (qF rfl (qF rfl (qF rfl (qF rfl (qF rfl (qF rfl qY)))))) hB2 rfl rfl (fun w3 hB3 hg3=>?_)
 have gr3:=jk gr2 hg3 (Ge.le (Ge.box hl2) (qD hg1))
 refine ze (za ?_)
 refine zu ?_
 exact qb qB rfl rfl rfl hB3 rfl ⟨gr3,rfl⟩
theorem W_smithyref14_Small {w:World} {n:Int} {K:RV->Prop} (H:jY n K):Fn Tryz.prog 11 ⟨[.int .i64 n]⟩ w
  (fun v w'=>w.grownBy w' none/\∃ (v_r:RC),∃ (F_r:Nat->Prop),∃ (r:RV),v=(.agg ⟨v_r.1⟩)/\RelD deR w' [(v_r,F_r)] [r]/\(∀ p:Option Nat,Lt p w.heap.size->DnD deR [(v_r,F_r)] [r] p)/\K r):=by
 refine Fn.enter (by kernel_rfl) Tryz.func11 rfl Tryz.ntmps11 rfl ?_
 refine zd ?_
 refine zb ?_
 refine WL.alloc rfl zero38 (fun g1 w1 hB1 hg1 hl1=>?_)
 refine ze (za ?_)
 refine zd ?_
 refine zb ?_
 refine zf rfl (zg qB rfl) ?_
 refine zx rfl rfl (W_smithyref9_Of H) ?_
 rintro _ w2 ⟨hg2,neg,L,A,c,rfl,hR,hO,H⟩
 have gr2:=qC hg1 hg2
 refine zx rfl rfl (Int_fn hR) ?_
 rintro _ w3 ⟨hg3,rfl⟩
 have gr3:=qC gr2 hg3
 refine zS (vs:=cellsV 3 false neg (.slice A L.length c) [] (.pointer none)) qB rfl rfl rfl (cellsV_ok rfl rfl).2 ((hB1.g0 hg2).g0 hg3) rfl rfl (fun w4 hB4 hg4=>?_)
 have gr4:=jk gr3 hg4 (Ge.box hl1)
 have hA:Dn L (blk A) (some g1):=hO.apart hB1.lt' (fun _ h=>nomatch h)
 have hp:=deR_packD (k:=(3:Int)) (neg:=neg) (s:=[]) (c:=c) ((hR.grown hg3).go hg4 hA) (deO_nil (w:=w4))
 refine ze (za ?_)
 refine zu ?_
 exact qb qB rfl rfl rfl hB4 rfl ⟨gr4,_,_,_,rfl,hp.1,fun p hlt=>hp.2 p (hO.apart (fun g e=>Nat.lt_of_lt_of_le (hlt g e) (qD hg1)) (fun _ h=>nomatch h)) deO_nilD,H⟩
end
 
section
open Go Go.RowKit
attribute [local irreducible] WL WC WX WQ WK WJ Yld Eff Ef0 Fn
def jl (n:Int) (below:Int) (K:Int->Prop):Prop :=
 (below≠0) /\
 (In .i64 ((n.tmod below)+below)) /\
 (below≠0) /\
 K (((n.tmod below)+below).tmod below)
def jO (l:List RV) (K:(List RV)->Prop):Prop :=
 (l.length<=maxLen ->
 (0<=(l.length:Int)/\(l.length:Int)*72<=140737488355328/\(l.length:Int)<=140737488355328) /\
 Lp2 (fun (out:List RV) (i:Int) kont1=>((i<(l.length:Int)->(0<=i/\i<(l.length:Nat)) /\
 ((out.length+(([l.getD i.toNat rv0]:List RV)).length)*72<=140737488355328) /\
 (In .i64 (i+(1:Int))) /\
 kont1 (out++([l.getD i.toNat rv0]:List RV)) (i+(1:Int))) /\
 (¬ (i<(l.length:Int))->K out))) ([]:List RV) (0:Int))
def jN (s:List UInt8) (K:RV->Prop):Prop :=
 K (((4:Int),(false,([]:List Int),s),RO.nil):RV)
def jZ (l:List RV) (K:RV->Prop):Prop :=
 (l.length<=maxLen ->
 jO l (fun (t4:List RV) =>
 ∀ g2:Nat,K (((6:Int),(false,([]:List Int),([]:List UInt8)),(RO.mk g2 t4 (0:Int) ([]:List RV) (0:Int))):RV)))
def j4 (n:Int) (K:PV->RV->Prop):Prop :=
 jl n (3:Int) (fun (t7:Int) =>
 (0<=t7/\t7<(3:Nat)) /\
 jl n (5:Int) (fun (t11:Int) =>
 ∃ J1:Bool->Prop,(((t11=(0:Int)->J1 (decide (t11=(0:Int)))) /\
 (¬ (t11=(0:Int))->((t11=(1:Int)->J1 (decide (t11=(1:Int)))) /\
 (¬ (t11=(1:Int))->J1 (decide (t11=(2:Int)))))))) /\
 (∀ t12:Bool,J1 t12->((t12=true->((10:Int)≠0) /\
 qW (n.tmod (10:Int)) (fun (t2:PV) =>
 ((10:Int)≠0) /\
 jY (n.tmod (10:Int)) (fun (t21:RV) =>
 K t2 t21))) /\
 (t12=false->((t11=(3:Int)->M_val_Str (([([97]:List UInt8),([98]:List UInt8),([97,98]:List UInt8)]:List (List UInt8)).getD t7.toNat []) (fun (t22:PV) =>
 jN (([([97]:List UInt8),([98]:List UInt8),([97,98]:List UInt8)]:List (List UInt8)).getD t7.toNat []) (fun (t27:RV) =>
 K t22 t27))) /\
 (¬ (t11=(3:Int))->((3:Int)≠0) /\
 qW (n.tmod (3:Int)) (fun (t30:PV) =>
 M_val_Str (([([97]:List UInt8),([98]:List UInt8),([97,98]:List UInt8)]:List (List UInt8)).getD t7.toNat []) (fun (t32:PV) =>
 M_val_Tuple ([t30,t32]:List PV) (fun (t23:PV) =>
 ((3:Int)≠0) /\
 jY (n.tmod (3:Int)) (fun (t37:RV) =>
 jN (([([97]:List UInt8),([98]:List UInt8),([97,98]:List UInt8)]:List (List UInt8)).getD t7.toNat []) (fun (t39:RV) =>
 jZ ([t37,t39]:List RV) (fun (t41:RV) =>
 K t23 t41)))))))))))))
def jX (l:List Int) (K:(List PV)->(List RV)->Prop):Prop :=
 (l.length<=maxLen ->
 Lp3 (fun (a:List PV) (b:List RV) (i:Int) kont1=>((i<(l.length:Int)->(0<=i/\i<(l.length:Nat)) /\
 j4 (l.getD i.toNat 0) (fun (t200:PV) (t201:RV) =>
 ((a.length+(([t200]:List PV)).length)*16<=140737488355328) /\
 ((b.length+(([t201]:List RV)).length)*72<=140737488355328) /\
 (In .i64 (i+(1:Int))) /\
 kont1 (a++([t200]:List PV)) (b++([t201]:List RV)) (i+(1:Int)))) /\
 (¬ (i<(l.length:Int))->K a b))) [] [] (0:Int))
set_option maxHeartbeats 8000000 in
theorem ki {w:World} {n:Int} {below:Int} {K:Int->Prop} (H:jl n below K):Fn Tryz.prog 12 ⟨[.int .i64 n,.int .i64 below]⟩ w (fun v w'=>w=w'/\∃ (r:Int),v=.int .i64 r/\K r):=by
 unfold jl at H
 refine Fn.enter (by kernel_rfl) Tryz.func12 rfl Tryz.ntmps12 rfl ?_
 refine zd (zb (yp (h:=(ze (za (zd (zb (yp (h:=(yp (h:=?_)))))))))))
 obtain ⟨h1,H⟩:=H
 refine zf rfl (qx rfl rfl h1) (yp (h:=?_))
 obtain ⟨h2,H⟩:=H
 refine zf rfl (Yld.add rfl rfl h2) (yp (h:=?_))
 obtain ⟨h3,H⟩:=H
 exact zf rfl (qx rfl rfl h3) (yp (h:=(ze (za (zu (zM rfl rfl ⟨rfl,((n.tmod below)+below).tmod below,rfl,H⟩))))))
set_option maxHeartbeats 8000000 in
theorem W_smithyref14_copied {w:World} {l:List RV} {A_l:Option Addr} {c_l:Nat} {a4:List RH} {n_l:Nat} {K:(List RV)->Prop} (hl:RdK 6 vr w A_l c_l a4) (b6:n_l=l.length) (a1:RelD deR w a4 l) (H:jO l K):Fn Tryz.prog 85 ⟨[.slice A_l n_l c_l]⟩ w (fun v w'=>w.grownBy w' none/\∃ (r:List RV),∃ (A_r:Option Addr),∃ (c_r:Nat),∃ (c0:List RH),v=.slice A_r r.length c_r/\OwnK 6 vr w' w.heap.size 38 A_r c_r c0/\RelD deR w' c0 r/\(∀ p:Option Nat,Lt p w.heap.size->DnD deR a4 l p->DnD deR c0 r p)/\DnD deR c0 r (blk A_r)/\K r):=by
 subst b6
 unfold jO at H
 refine Fn.enter (by kernel_rfl) Tryz.func85 rfl Tryz.ntmps85 rfl ?_
 replace H:=H (by rw [<-a1.1]; exact Nat.le_trans hl.cap hl.max)
 refine zd (zb (yp (h:=(ze (za (zd (zb (yp (h:=(yp (h:=?_)))))))))))
 obtain ⟨h1,H⟩:=H
 refine WL.makeCK (f:=vr) (B:=w.heap.size) vr_ok rfl ow26 rfl rfl h1.1 h1.2.1 h1.2.2 (Nat.le_refl _) (fun g1 w1 hO1 hg1 hl1=>?_)
 have hr1:RelD deR w1 ([]:List RH) ([]:List RV):=RelD.nil
 refine yp (h:=(ze (za (zd (zd (zb (yp (h:=(ze (za (WC.block ?_)))))))))))
 obtain ⟨I1,mu1,b5,HR1⟩:=H
 refine zZ (fun n' L' w'=>∃ (out:List RV),∃ (a5:Option Addr),∃ (a6:Nat),∃ (b8:Nat),∃ (a0:List RH),∃ (i:Int),n'=mu1 out i/\L'=[(0,.slice A_l l.length c_l),(3,.slice a5 b8 a6),(4,.int .i64 i)]/\I1 out i/\b8=out.length/\w.grownBy w' none/\OwnK 6 vr w' w.heap.size 38 a5 a6 a0/\RelD deR w' a0 out/\DnD deR a0 out (blk a5)/\OrD (fun p=>DnD deR a4 l p) deR a0 out w.heap.size) _ _ ⟨([]:List RV),(some ⟨g1,0,none⟩),(l.length:Int).toNat,0,([]:List RH),(0:Int),rfl,rfl,b5,(rfl.trans hr1.1),hg1,hO1,hr1,(DnD.nil (d:=deR)),(OrD.nil (d:=deR))⟩ sb ?_
 clear b5
 rintro _ _ w2 ⟨out,a5,a6,b8,a0,i,rfl,rfl,hI1,rfl,gr2,k1,k2,dj1,or1⟩
 have H:=HR1 out i hI1
 refine zd (zd (zb (yp (h:=(yp (h:=(yp (h:=(yp (h:=(ze (za (zp rfl (fun b1=>?_) (fun b1=>?_))))))))))))))
 ·replace H:=H.1 (of_decide_eq_true b1)
  refine zr (za (zd (WC.block (zb (yp (h:=(yp (h:=(yp (h:=?_))))))))))
  obtain ⟨h2,H⟩:=H
  refine zf rfl (Yld.iaddrK qB (hl.grown gr2) rfl rfl a1.1.symm rfl h2.1 h2.2) ?_
  obtain ⟨⟨v_el,F_el⟩,eh1,hR1⟩:=RelD.at (a1.grown gr2) rh0 rv0 (j:=i.toNat) (Nat.lt_of_lt_of_eq (iltN h2 a1.1.symm) (a1.grown gr2).1)
  have hv1:RelD deR w2 [(v_el,F_el)] [l.getD i.toNat rv0]:=RelD.cons hR1 RelD.nil
  refine zf rfl (z8 (v:=(.agg ⟨v_el.1⟩)) (Yld.iloadK rh0 qB (hl.grown gr2) rfl rfl (iltN h2 a1.1.symm)) (congrArg (fun h=>Value.agg ⟨vr h⟩) eh1)) (WL.litK (f:=vr) ([(v_el,F_el)]:List RH) vr_ok rfl ow26 rfl rfl rfl (fun g3 w4 hB2 hg3 hl3=>?_))
  have hO3:OwnK 6 vr w4 w.heap.size 38 (some ⟨g3,0,none⟩) 1 ([(v_el,F_el)]:List RH):=OwnK.ofBl vr_ok hB2 (Nat.le_trans (qD gr2) hl3) (by simp [maxLen]) rfl
  have gr3:=qC gr2 hg3
  have k3:=k1.grown hg3
  have k4:=k2.grown hg3
  have hr2:RelD deR w4 ([(v_el,F_el)]:List RH) ([l.getD i.toNat rv0]:List RV):=(RelD.cons (RelD.one (hv1.grown hg3)) RelD.nil)
  have nd1:OrD (fun p=>DnD deR a4 l p) deR ([(v_el,F_el)]:List RH) ([l.getD i.toNat rv0]:List RV) w.heap.size:=(OrD.cons (d:=deR) (fun p_ hp_ q_=>(DnD.one (DnD.cons (DnD.at (q_) (a1.grown gr2).1 (Nat.lt_of_lt_of_eq (iltN h2 a1.1.symm) (a1.grown gr2).1) eh1) DnD.nil))) (fun _ _ _=>DnD.nil))
  have dj2:DnD deR ([(v_el,F_el)]:List RH) ([l.getD i.toNat rv0]:List RV) (blk a5):=(DnD.cons (d:=deR) (DnD.one (DnD.cons (DnD.at (a1.new k1.ge') (a1.grown gr2).1 (Nat.lt_of_lt_of_eq (iltN h2 a1.1.symm) (a1.grown gr2).1) eh1) DnD.nil)) DnD.nil)
  have dj3:DnD deR ([(v_el,F_el)]:List RH) ([l.getD i.toNat rv0]:List RV) (blk (some ⟨g3,0,none⟩)):=(DnD.cons (d:=deR) (DnD.one (hv1.new (Ge.box hl3))) DnD.nil)
  obtain ⟨h3,H⟩:=H
  have h4:((a0:List RH).length+([(v_el,F_el)]:List RH).length)*72<=140737488355328:=by rw [k4.1,hr2.1]; exact h3
  refine WL.appendK rfl ow26 k3 rfl k2.1.symm hO3.rd rfl rfl h4 (applen h4) (qD gr3) (fun a9 c3 w5 hO4 hg4 hk1=>?_)
  have el1:(a0++([(v_el,F_el)]:List RH)).length=(out++([l.getD i.toNat rv0]:List RV)).length:=by rw [List.length_append,List.length_append,k4.1,hr2.1]
  rw [el1]
  have hr3:RelD deR w5 (a0++([(v_el,F_el)]:List RH)) (out++([l.getD i.toNat rv0]:List RV)):=RelD.append (k4.go hg4 dj1) (hr2.go hg4 dj2)
  have nd2:OrD (fun p=>DnD deR a4 l p) deR (a0++([(v_el,F_el)]:List RH)) (out++([l.getD i.toNat rv0]:List RV)) w.heap.size:=OrD.append k4.1 or1 nd1
  have dj4:DnD deR (a0++([(v_el,F_el)]:List RH)) (out++([l.getD i.toNat rv0]:List RV)) (blk (some ⟨g3,0,none⟩)):=(DnD.append k4.1 (k2.new (Ge.box hl3)) dj3)
  have dj5:DnD deR (a0++([(v_el,F_el)]:List RH)) (out++([l.getD i.toNat rv0]:List RV)) (blk a9):=(DnD.append k4.1 (RelD.app k4 dj1 hk1) (RelD.app hr2 dj2 hk1))
  refine yp (h:=(ze (zh (za (zb (yp (h:=?_)))))))
  obtain ⟨h5,H⟩:=H
  exact zf rfl (Yld.add rfl rfl h5) (yp (h:=(ze (zT _ ⟨out++([l.getD i.toNat rv0]:List RV),a9,c3,(out++([l.getD i.toNat rv0]:List RV)).length,a0++([(v_el,F_el)]:List RH),i+(1:Int),rfl,rfl,H.1,rfl,(jk gr3 hg4 k3.ge'),hO4,hr3,dj5,nd2⟩ sb H.2))))
 ·replace H:=H.2 (of_decide_eq_false b1)
  exact zy (zj (zj (zk (za (zd (zb (yp (h:=(yp (h:=(ze (za (zu (zM rfl rfl ⟨gr2,out,a5,a6,a0,rfl,k1,k2,(fun p_ hp_ v0_=>or1 p_ hp_ v0_),dj1,H⟩))))))))))))))
set_option maxHeartbeats 8000000 in
theorem W_smithyref14_Str {w:World} {s:List UInt8} {K:RV->Prop} (H:jN s K):Fn Tryz.prog 114 ⟨[vs s]⟩ w (fun v w'=>w.grownBy w' none/\∃ (v_r:RC),∃ (F_r:Nat->Prop),∃ (r:RV),v=(.agg ⟨v_r.1⟩)/\RelD deR w' [(v_r,F_r)] [r]/\(∀ p:Option Nat,Lt p w.heap.size->DnD deR [(v_r,F_r)] [r] p)/\K r):=by
 unfold jN at H
 refine Fn.enter (by kernel_rfl) Tryz.func114 rfl Tryz.ntmps114 rfl ?_
 refine zd (zb (WL.alloc rfl zero38 (fun g1 w1 hB1 hg1 hl1=>ze (za (zd (zb (yp (h:=(zf rfl (zU (us:=[.int .i64 (4:Int),.bool false,.bool false,.slice none 0 0,vs s,.pointer none]) zero38 places38 rfl rfl) (zS (vs:=[.int .i64 (4:Int),.bool false,.bool false,.slice none 0 0,vs s,.pointer none]) qB rfl rfl rfl (qF rfl (qF rfl (qF rfl (qF rfl (qF rfl (qF rfl qY)))))) hB1 rfl rfl (fun w2 hB2 hg2=>ze (za (zu ?_)))))))))))))
 have hp1:=deR_packD (k:=(4:Int)) (neg:=false) (L:=([]:List Int)) (s:=s) (A:=none) (c:=0) (o:=pnil) (F:=noF) (Own.nil vi w2 w.heap.size 3).rd deO_nil
 exact qb qB rfl rfl rfl hB2 rfl ⟨(jk hg1 hg2 (Ge.le (Ge.box hl1) (Nat.le_refl _))),(rcP (4:Int) false none 0 ([]:List Int) s pnil),(FR none ([]:List Int) noF),(((4:Int),(false,([]:List Int),s),RO.nil):RV),rfl,hp1.1,(fun p_ hp_=>hp1.2 _ (fun e_=>absurd rfl e_) deO_nilD),H⟩
set_option maxHeartbeats 8000000 in
theorem W_smithyref14_Tuple {w:World} {l:List RV} {A_l:Option Addr} {c_l:Nat} {a4:List RH} {n_l:Nat} {K:RV->Prop} (hl:RdK 6 vr w A_l c_l a4) (b6:n_l=l.length) (a1:RelD deR w a4 l) (H:jZ l K):Fn Tryz.prog 21 ⟨[.slice A_l n_l c_l]⟩ w (fun v w'=>w.grownBy w' none/\∃ (v_r:RC),∃ (F_r:Nat->Prop),∃ (r:RV),v=(.agg ⟨v_r.1⟩)/\RelD deR w' [(v_r,F_r)] [r]/\(∀ p:Option Nat,Lt p w.heap.size->DnD deR a4 l p->DnD deR [(v_r,F_r)] [r] p)/\K r):=by
 subst b6
 unfold jZ at H
 refine Fn.enter (by kernel_rfl) Tryz.func21 rfl Tryz.ntmps21 rfl ?_
 replace H:=H (by rw [<-a1.1]; exact Nat.le_trans hl.cap hl.max)
 refine zd (zb (WL.alloc rfl zero38 (fun g1 w1 hB1 hg1 hl1=>?_)))
 have gr1:=hg1
 refine ze (za (zd (zb (yp (h:=(zx rfl rfl (W_smithyref14_copied (hl.grown gr1) rfl (a1.grown gr1) H) ?_))))))
 rintro _ w2 ⟨hg2,t4,b0,c4,b7,rfl,ht4,c8,ho1,dj1,H⟩
 have hb1:=ht4.ge'
 have gr2:=qC gr1 hg2
 have k2:=hB1.g0 hg2
 refine zf rfl (zU (us:=[.slice b0 t4.length c4,.slice none 0 0,.slice none 0 0,.slice none 0 0,.bool false,.int .i64 (0:Int),vs ([]:List UInt8),.int .i64 (0:Int),.int .i64 (0:Int),.int .i64 (0:Int),.bool false,.bool false,.slice none 0 0,vs ([]:List UInt8),.pointer none,.int .i64 (0:Int),.slice none 0 0,.bool false,.slice none 0 0,.bool false,.slice none 0 0,.int .i64 (0:Int),.pointer none]) zero111 places111 rfl rfl) (qa (us:=[.slice b0 t4.length c4,.slice none 0 0,.slice none 0 0,.slice none 0 0,.bool false,.int .i64 (0:Int),vs ([]:List UInt8),.int .i64 (0:Int),.int .i64 (0:Int),.int .i64 (0:Int),.bool false,.bool false,.slice none 0 0,vs ([]:List UInt8),.pointer none,.int .i64 (0:Int),.slice none 0 0,.bool false,.slice none 0 0,.bool false,.slice none 0 0,.int .i64 (0:Int),.pointer none]) rfl rfl rfl (fun g2 w3 hB2 hg3 hl2=>zf rfl (zU (us:=[.int .i64 (6:Int),.bool false,.bool false,.slice none 0 0,vs ([]:List UInt8),.pointer (some ⟨g2,0,none⟩)]) zero38 places38 rfl rfl) (zS (vs:=[.int .i64 (6:Int),.bool false,.bool false,.slice none 0 0,vs ([]:List UInt8),.pointer (some ⟨g2,0,none⟩)]) qB rfl rfl rfl (qF rfl (qF rfl (qF rfl (qF rfl (qF rfl (qF rfl qY)))))) (k2.g0 hg3) rfl rfl (fun w4 hB3 hg4=>?_))))
 have k6:=((ht4.base (fun g hg=>Nat.le_trans (qD gr1) (hb1 g hg))).grown hg3).go hg4 ((Dj.new hB1.lt' hb1).symm)
 refine ze (za (zu ?_))
 replace H:=H g2
 have hp1:=deO_packD (g:=g2) (ci:=c4) (cf:=0) (deep:=(0:Int)) (order:=(0:Int)) (its:=t4) (fr:=([]:List RV)) (Ai:=b0) (Af:=none) (hi:=b7) (hf:=([]:List RH)) (hB2.go hg4 ((Dj.new k2.lt' (Ge.box hl2)).symm)) k6.rd ((c8.grown hg3).go hg4 (ho1 _ hB1.lt' (a1.new (Ge.le (Ge.box hl1) (Nat.le_refl _))))) (RdK.nil vr_ok w4 (Nat.zero_le _)) (RelD.nil (d:=deR) (w:=w4)) k6.lt' (fun _ e_=>nomatch e_)
 have hp2:=deR_packD (k:=(6:Int)) (neg:=false) (L:=([]:List Int)) (s:=([]:List UInt8)) (A:=none) (c:=0) (o:=(ovP g2)) (F:=(FO g2 b0 none b7 ([]:List RH))) (Own.nil vi w4 w.heap.size 3).rd hp1.1
 exact qb qB rfl rfl rfl hB3 rfl ⟨(jk (qC gr2 hg3) hg4 (Ge.le (Ge.box hl1) (Nat.le_refl _))),(rcP (6:Int) false none 0 ([]:List Int) ([]:List UInt8) (ovP g2)),(FR none ([]:List Int) (FO g2 b0 none b7 ([]:List RH))),(((6:Int),(false,([]:List Int),([]:List UInt8)),(RO.mk g2 t4 (0:Int) ([]:List RV) (0:Int))):RV),rfl,hp2.1,(fun p_ hp_ v0_=>have q_:=v0_; hp2.2 _ (fun e_=>absurd rfl e_) (hp1.2 _ (Dj.new hp_ (Ge.le (Ge.box hl2) (qD gr2))).symm (Dj.new hp_ k6.ge').symm Dj.nl (ho1 p_ (fun g_ e_=>Nat.lt_of_lt_of_le (hp_ g_ e_) (qD gr1)) (q_)) DnD.nil)),H⟩
set_option maxHeartbeats 8000000 in
theorem W_smithylaw12_item {w:World} {n:Int} {K:PV->RV->Prop} (H:j4 n K):Fn Tryz.prog 52 ⟨[.int .i64 n]⟩ w (fun v w'=>w.grownBy w' none/\∃ (v_r0:OV),∃ (F_r0:Nat->Prop),∃ (r0:PV),∃ (v_r1:RC),∃ (F_r1:Nat->Prop),∃ (r1:RV),v=.tuple #[v_r0.1,(.agg ⟨v_r1.1⟩)]/\RelD deV w' [(v_r0,F_r0)] [r0]/\(∀ p:Option Nat,Lt p w.heap.size->DnD deV [(v_r0,F_r0)] [r0] p)/\RelD deR w' [(v_r1,F_r1)] [r1]/\(∀ p:Option Nat,Lt p w.heap.size->DnD deR [(v_r1,F_r1)] [r1] p)/\K r0 r1):=by
 unfold j4 at H
 refine Fn.enter (by kernel_rfl) Tryz.func52 rfl Tryz.ntmps52 rfl ?_
 refine zd (zb ?_)
 have hv1:RelD deV w [(vnil,noF)] [PV.nil]:=deV_nil
 refine yp (h:=(WL.alloc rfl zero38 (fun g1 w1 hB1 hg1 hl1=>?_)))
 have gr1:=hg1
 refine ze (za (zd (zb (z6 qB rfl rfl rfl (qF rfl (qF rfl (qF rfl qY))) rfl (by omega) (fun g2 w2 hB2 hg2 hl2=>?_)))))
 have hO1:Own vs w2 w.heap.size 9 (some ⟨g2,0,none⟩) 3 ([([97]:List UInt8),([98]:List UInt8),([97,98]:List UInt8)]:List (List UInt8)):=Own.ofBl hB2 (Nat.le_trans (qD gr1) hl2) (by simp [maxLen]) rfl
 have gr2:=qC gr1 hg2
 have k1:=hB1.g0 hg2
 refine yp (h:=(zx rfl rfl (ki H) ?_))
 rintro _ _ ⟨rfl,t7,rfl,H⟩
 obtain ⟨h1,H⟩:=H
 refine zf rfl (zN qB hO1.rd rfl rfl rfl rfl h1.1 h1.2) (zf rfl (zP [] qB hO1.rd rfl rfl (iltN h1 rfl)) (yp (h:=(ze (za (zd (zd (zb (yp (h:=(zx rfl rfl (ki H) ?_)))))))))))
 rintro _ _ ⟨rfl,t11,rfl,H⟩
 refine ze (za (WC.block (zd ?_)))
 obtain ⟨J1,H,hJ1⟩:=H
 refine qf (fun L' w'=>∃ (t12:Bool),L'=[(0,.int .i64 n),(3,.pointer (some ⟨g1,0,none⟩)),(4,vs (([([97]:List UInt8),([98]:List UInt8),([97,98]:List UInt8)]:List (List UInt8)).getD t7.toNat [])),(11,.int .i64 t11),(12,.bool t12)]/\J1 t12/\w2=w') ?_ (fun hQ=>?_)
 ·clear H
  rintro _ _ ⟨t12,rfl,H,rfl⟩
  replace H:=hJ1 t12 H
  refine za (zp rfl (fun b1=>?_) (fun b1=>?_))
  ·replace H:=H.1 (b1)
   refine zd (zb (yp (h:=?_)))
   obtain ⟨h2,H⟩:=H
   refine zf rfl (qx rfl rfl h2) (zx rfl rfl (ja H) ?_)
   rintro _ w3 ⟨hg3,v_t2,F_t2,t2,rfl,ht2,ho1,H⟩
   have gr3:=qC gr2 hg3
   have k2:=k1.g0 hg3
   refine yp (h:=?_)
   obtain ⟨h3,H⟩:=H
   refine zf rfl (qx rfl rfl h3) (zx rfl rfl (W_smithyref14_Small H) ?_)
   rintro _ w4 ⟨hg4,v_t21,F_t21,t21,rfl,ht21,ho2,H⟩
   refine yp (h:=?_)
   obtain ⟨A_L,c_L,v_o,hc1,hR1,hO2,hd1,hd2⟩:=deR_openD ht21
   refine zS (vs:=[.int .i64 t21.1,.bool false,.bool t21.2.1.1,.slice A_L t21.2.1.2.1.length c_L,vs t21.2.1.2.2,v_o.1]) qB rfl rfl (congrArg (fun l=>some (Value.agg ⟨l⟩)) hc1) (qF rfl (qF rfl (qF rfl (qF rfl (qF rfl (qF v_o.2 qY)))))) (k2.g0 hg4) rfl rfl (fun w5 hB3 hg5=>?_)
   have k7:=hR1.go hg5 (hd1 _ (ho2 _ k2.lt'))
   have k8:=hO2.go hg5 (hd2 _ (ho2 _ k2.lt'))
   exact ze (za (zu (zl (zi (WX.rettc qB rfl rfl rfl rfl hB3 rfl ⟨(jk (qC gr3 hg4) hg5 (Ge.le (Ge.box hl1) (Nat.le_refl _))),v_t2,F_t2,t2,v_t21,F_t21,t21,(by rw [hc1]; first | done | rfl),((ht2.grown hg4).go hg5 (ho1 _ k1.lt')),(fun p_ hp_=>ho1 p_ (fun g_ e_=>Nat.lt_of_lt_of_le (hp_ g_ e_) (qD gr2))),(ht21.go hg5 (ho2 _ k2.lt')),(fun p_ hp_=>ho2 p_ (fun g_ e_=>Nat.lt_of_lt_of_le (hp_ g_ e_) (qD gr3))),H⟩)))))
  ·replace H:=H.2 (b1)
   refine zd (zb (yp (h:=(yp (h:=(ze (za (zp rfl (fun b2=>?_) (fun b2=>?_)))))))))
   ·replace H:=H.1 (of_decide_eq_true b2)
    refine zd (zb (yp (h:=(zx rfl rfl (W_val_Str H) ?_))))
    rintro _ w6 ⟨hg6,v_t22,F_t22,t22,rfl,ht22,ho3,H⟩
    have gr6:=qC gr2 hg6
    have k9:=k1.g0 hg6
    refine yp (h:=(zx rfl rfl (W_smithyref14_Str H) ?_))
    rintro _ w7 ⟨hg7,v_t27,F_t27,t27,rfl,ht27,ho4,H⟩
    refine yp (h:=?_)
    obtain ⟨c9,d1,v_o2,hc2,hR2,hO3,hd3,hd4⟩:=deR_openD ht27
    refine zS (vs:=[.int .i64 t27.1,.bool false,.bool t27.2.1.1,.slice c9 t27.2.1.2.1.length d1,vs t27.2.1.2.2,v_o2.1]) qB rfl rfl (congrArg (fun l=>some (Value.agg ⟨l⟩)) hc2) (qF rfl (qF rfl (qF rfl (qF rfl (qF rfl (qF v_o2.2 qY)))))) (k9.g0 hg7) rfl rfl (fun w8 hB4 hg8=>?_)
    have k14:=hR2.go hg8 (hd3 _ (ho4 _ k9.lt'))
    have k15:=hO3.go hg8 (hd4 _ (ho4 _ k9.lt'))
    exact ze (za (zu (zl (zi (WX.rettc qB rfl rfl rfl rfl hB4 rfl ⟨(jk (qC gr6 hg7) hg8 (Ge.le (Ge.box hl1) (Nat.le_refl _))),v_t22,F_t22,t22,v_t27,F_t27,t27,(by rw [hc2]; first | done | rfl),((ht22.grown hg7).go hg8 (ho3 _ k1.lt')),(fun p_ hp_=>ho3 p_ (fun g_ e_=>Nat.lt_of_lt_of_le (hp_ g_ e_) (qD gr2))),(ht27.go hg8 (ho4 _ k9.lt')),(fun p_ hp_=>ho4 p_ (fun g_ e_=>Nat.lt_of_lt_of_le (hp_ g_ e_) (qD gr6))),H⟩)))))
   ·replace H:=H.2 (of_decide_eq_false b2)
    refine zr (zh (za (zd (zb (yp (h:=?_))))))
    obtain ⟨h4,H⟩:=H
    refine zf rfl (qx rfl rfl h4) (zx rfl rfl (ja H) ?_)
    rintro _ w9 ⟨hg9,v_t30,F_t30,t30,rfl,ht30,ho5,H⟩
    have gr9:=qC gr2 hg9
    have k16:=k1.g0 hg9
    refine yp (h:=(zx rfl rfl (W_val_Str H) ?_))
    rintro _ w10 ⟨hg10,v_t32,F_t32,t32,rfl,ht32,ho6,H⟩
    have gr10:=qC gr9 hg10
    have k18:=ht30.grown hg10
    refine z6 (us:=[v_t30.1,v_t32.1]) qB rfl rfl rfl (qF v_t30.2 (qF v_t32.2 qY)) rfl (by omega) (fun g4 w12 hB6 hg12 hl4=>?_)
    have hO5:Own vv w12 w.heap.size 32 (some ⟨g4,0,none⟩) 2 ([(v_t30,F_t30),(v_t32,F_t32)]:List VH):=Own.ofBl hB6 (Nat.le_trans (qD gr10) hl4) (by simp [maxLen]) rfl
    have gr11:=qC gr10 hg12
    have k19:=(k16.g0 hg10).g0 hg12
    have hr1:RelD deV w12 ([(v_t30,F_t30),(v_t32,F_t32)]:List VH) ([t30,t32]:List PV):=(RelD.cons (RelD.one (k18.grown hg12)) (RelD.cons (RelD.one (ht32.grown hg12)) RelD.nil))
    have nd1:NewD deV ([(v_t30,F_t30),(v_t32,F_t32)]:List VH) ([t30,t32]:List PV) w.heap.size:=(NewD.cons (d:=deV) (fun p_ hp_=>(DnD.one (ho5 p_ (fun g_ e_=>Nat.lt_of_lt_of_le (hp_ g_ e_) (qD gr2))))) (NewD.cons (d:=deV) (fun p_ hp_=>(DnD.one (ho6 p_ (fun g_ e_=>Nat.lt_of_lt_of_le (hp_ g_ e_) (qD gr9))))) NewD.nil))
    have dj1:DnD deV ([(v_t30,F_t30),(v_t32,F_t32)]:List VH) ([t30,t32]:List PV) (some g1):=(DnD.cons (d:=deV) (DnD.one (ho5 _ k1.lt')) (DnD.cons (d:=deV) (DnD.one (ho6 _ k16.lt')) DnD.nil))
    have dj2:DnD deV ([(v_t30,F_t30),(v_t32,F_t32)]:List VH) ([t30,t32]:List PV) (blk (some ⟨g4,0,none⟩)):=(DnD.cons (d:=deV) (DnD.one (k18.new (Ge.box hl4))) (DnD.cons (d:=deV) (DnD.one (ht32.new (Ge.box hl4))) DnD.nil))
    refine zx rfl rfl (W_val_Tuple hO5.rd (rfl.trans hr1.1) hr1 H) ?_
    rintro _ w13 ⟨hg13,v_t23,F_t23,t23,rfl,ht23,ho7,H⟩
    have gr12:=qC gr11 hg13
    have k22:=k19.g0 hg13
    refine yp (h:=?_)
    obtain ⟨h5,H⟩:=H
    refine zf rfl (qx rfl rfl h5) (zx rfl rfl (W_smithyref14_Small H) ?_)
    rintro _ w14 ⟨hg14,v_t37,F_t37,t37,rfl,ht37,ho8,H⟩
    have gr13:=qC gr12 hg14
    have k23:=k22.g0 hg14
    refine yp (h:=(zx rfl rfl (W_smithyref14_Str H) ?_))
    rintro _ w15 ⟨hg15,v_t39,F_t39,t39,rfl,ht39,ho9,H⟩
    have gr14:=qC gr13 hg15
    have k27:=ht37.grown hg15
    refine WL.litK (f:=vr) ([(v_t37,F_t37),(v_t39,F_t39)]:List RH) vr_ok rfl ow26 rfl rfl rfl (fun g6 w17 hB8 hg17 hl6=>?_)
    have hO7:OwnK 6 vr w17 w.heap.size 38 (some ⟨g6,0,none⟩) 2 ([(v_t37,F_t37),(v_t39,F_t39)]:List RH):=OwnK.ofBl vr_ok hB8 (Nat.le_trans (qD gr14) hl6) (by simp [maxLen]) rfl
    have gr15:=qC gr14 hg17
    have k28:=(k23.g0 hg15).g0 hg17
    have hr2:RelD deR w17 ([(v_t37,F_t37),(v_t39,F_t39)]:List RH) ([t37,t39]:List RV):=(RelD.cons (RelD.one (k27.grown hg17)) (RelD.cons (RelD.one (ht39.grown hg17)) RelD.nil))
    have nd2:NewD deR ([(v_t37,F_t37),(v_t39,F_t39)]:List RH) ([t37,t39]:List RV) w.heap.size:=(NewD.cons (d:=deR) (fun p_ hp_=>(DnD.one (ho8 p_ (fun g_ e_=>Nat.lt_of_lt_of_le (hp_ g_ e_) (qD gr12))))) (NewD.cons (d:=deR) (fun p_ hp_=>(DnD.one (ho9 p_ (fun g_ e_=>Nat.lt_of_lt_of_le (hp_ g_ e_) (qD gr13))))) NewD.nil))
    have dj3:DnD deR ([(v_t37,F_t37),(v_t39,F_t39)]:List RH) ([t37,t39]:List RV) (some g1):=(DnD.cons (d:=deR) (DnD.one (ho8 _ k22.lt')) (DnD.cons (d:=deR) (DnD.one (ho9 _ k23.lt')) DnD.nil))
    have dj4:DnD deR ([(v_t37,F_t37),(v_t39,F_t39)]:List RH) ([t37,t39]:List RV) (blk (some ⟨g6,0,none⟩)):=(DnD.cons (d:=deR) (DnD.one (k27.new (Ge.box hl6))) (DnD.cons (d:=deR) (DnD.one (ht39.new (Ge.box hl6))) DnD.nil))
    refine zx rfl rfl (W_smithyref14_Tuple hO7.rd (rfl.trans hr2.1) hr2 H) ?_
    rintro _ w18 ⟨hg18,v_t41,F_t41,t41,rfl,ht41,ho10,H⟩
    refine yp (h:=?_)
    obtain ⟨d0,d2,v_o3,hc3,hR3,hO8,hd5,hd6⟩:=deR_openD ht41
    refine zS (vs:=[.int .i64 t41.1,.bool false,.bool t41.2.1.1,.slice d0 t41.2.1.2.1.length d2,vs t41.2.1.2.2,v_o3.1]) qB rfl rfl (congrArg (fun l=>some (Value.agg ⟨l⟩)) hc3) (qF rfl (qF rfl (qF rfl (qF rfl (qF rfl (qF v_o3.2 qY)))))) (k28.g0 hg18) rfl rfl (fun w19 hB9 hg19=>?_)
    have k36:=hR3.go hg19 (hd5 _ (ho10 _ k28.lt' dj3))
    have k37:=hO8.go hg19 (hd6 _ (ho10 _ k28.lt' dj3))
    exact ze (za (zu (WX.rettc qB rfl rfl rfl rfl hB9 rfl ⟨(jk (qC gr15 hg18) hg19 (Ge.le (Ge.box hl1) (Nat.le_refl _))),v_t23,F_t23,t23,v_t41,F_t41,t41,(by rw [hc3]; first | done | rfl),(((((ht23.grown hg14).grown hg15).grown hg17).grown hg18).go hg19 (ho7 _ k19.lt' dj1)),(fun p_ hp_=>ho7 p_ (fun g_ e_=>Nat.lt_of_lt_of_le (hp_ g_ e_) (qD gr11)) (nd1 p_ hp_)),(ht41.go hg19 (ho10 _ k28.lt' dj3)),(fun p_ hp_=>ho10 p_ (fun g_ e_=>Nat.lt_of_lt_of_le (hp_ g_ e_) (qD gr15)) (nd2 p_ hp_)),H⟩)))
 ·clear hJ1
  refine zd (zb (yp (h:=(yp (h:=(ze (za (zp rfl (fun b3=>?_) (fun b3=>?_)))))))))
  ·replace H:=H.1 (of_decide_eq_true b3)
   exact zr (WX.weaken sb (hQ _ _ ⟨decide (t11=(0:Int)),rfl,H,rfl⟩))
  ·replace H:=H.2 (of_decide_eq_false b3)
   refine zd (zb (yp (h:=(yp (h:=(ze (za (zp rfl (fun b4=>?_) (fun b4=>?_)))))))))
   ·replace H:=H.1 (of_decide_eq_true b4)
    exact zr (WX.weaken sb (hQ _ _ ⟨decide (t11=(1:Int)),rfl,H,rfl⟩))
   ·replace H:=H.2 (of_decide_eq_false b4)
    exact zb (yp (h:=(yp (h:=(ze (WX.weaken sb (hQ _ _ ⟨decide (t11=(2:Int)),rfl,H,rfl⟩)))))))
set_option maxHeartbeats 8000000 in
theorem W_smithylaw12_items {w:World} {l:List Int} {A_l:Option Addr} {c_l:Nat} {n_l:Nat} {K:(List PV)->(List RV)->Prop} (hl:Rd vi w A_l c_l l) (b6:n_l=l.length) (H:jX l K):Fn Tryz.prog 28 ⟨[.slice A_l n_l c_l]⟩ w (fun v w'=>w.grownBy w' none/\∃ (r0:List PV),∃ (c1:Option Addr),∃ (c6:Nat),∃ (a7:List VH),∃ (r1:List RV),∃ (c2:Option Addr),∃ (c7:Nat),∃ (a8:List RH),v=.tuple #[.slice c1 r0.length c6,.slice c2 r1.length c7]/\Own vv w' w.heap.size 32 c1 c6 a7/\RelD deV w' a7 r0/\(∀ p:Option Nat,Lt p w.heap.size->DnD deV a7 r0 p)/\DnD deV a7 r0 (blk c1)/\OwnK 6 vr w' w.heap.size 38 c2 c7 a8/\RelD deR w' a8 r1/\(∀ p:Option Nat,Lt p w.heap.size->DnD deR a8 r1 p)/\DnD deR a8 r1 (blk c2)/\K r0 r1):=by
 subst b6
 unfold jX at H
 refine Fn.enter (by kernel_rfl) Tryz.func28 rfl Tryz.ntmps28 rfl ?_
 replace H:=H (Nat.le_trans hl.cap hl.max)
 refine zd (zb (yp (h:=(yp (h:=(ze (za (zd (zb (yp (h:=(ze (za (zd (zb (yp (h:=(ze (za (zd (zd (zb (yp (h:=(ze (za (WC.block ?_)))))))))))))))))))))))))))
 obtain ⟨I1,mu1,b5,HR1⟩:=H
 refine zZ (fun n' L' w'=>∃ (a:List PV),∃ (A_a:Option Addr),∃ (c_a:Nat),∃ (n_a:Nat),∃ (a2:List VH),∃ (b:List RV),∃ (A_b:Option Addr),∃ (c_b:Nat),∃ (n_b:Nat),∃ (a3:List RH),∃ (i:Int),n'=mu1 a b i/\L'=[(0,.slice A_l l.length c_l),(4,.slice A_a n_a c_a),(5,.slice A_b n_b c_b),(6,.int .i64 i)]/\I1 a b i/\n_a=a.length/\n_b=b.length/\w.grownBy w' none/\Own vv w' w.heap.size 32 A_a c_a a2/\RelD deV w' a2 a/\OwnK 6 vr w' w.heap.size 38 A_b c_b a3/\RelD deR w' a3 b/\Dj (blk A_a) (blk A_b)/\DnD deV a2 a (blk A_a)/\DnD deV a2 a (blk A_b)/\DnD deR a3 b (blk A_a)/\DnD deR a3 b (blk A_b)/\NewD deV a2 a w.heap.size/\NewD deR a3 b w.heap.size) _ _ ⟨[],none,0,0,[],[],none,0,0,[],(0:Int),rfl,rfl,b5,rfl,rfl,(jf _ _),(Own.nil vv w w.heap.size 32),(RelD.nil (d:=deV) (w:=w)),(OwnK.nil vr_ok w w.heap.size 38),(RelD.nil (d:=deR) (w:=w)),Dj.nl,DnD.nil,DnD.nil,DnD.nil,DnD.nil,(NewD.nil (d:=deV)),(NewD.nil (d:=deR))⟩ sb ?_
 clear b5
 rintro _ _ w1 ⟨a,A_a,c_a,n_a,a2,b,A_b,c_b,n_b,a3,i,rfl,rfl,hI1,rfl,rfl,gr1,k1,k2,k3,k4,dj1,dj2,dj3,dj4,dj5,or1,or2⟩
 have H:=HR1 a b i hI1
 refine zd (zd (zb (yp (h:=(yp (h:=(yp (h:=(yp (h:=(ze (za (zp rfl (fun b1=>?_) (fun b1=>?_))))))))))))))
 ·replace H:=H.1 (of_decide_eq_true b1)
  refine zr (za (zd (WC.block (zd (zb (yp (h:=(yp (h:=?_)))))))))
  obtain ⟨h1,H⟩:=H
  refine zf rfl (zN qB (hl.grown gr1) rfl rfl rfl rfl h1.1 h1.2) (zf rfl (zP 0 qB (hl.grown gr1) rfl rfl (iltN h1 rfl)) (zx rfl rfl (W_smithylaw12_item H) ?_))
  rintro _ w2 ⟨hg1,v_t200,F_t200,t200,v_t201,F_t201,t201,rfl,ht200,ho1,ht201,ho2,H⟩
  have gr2:=qC gr1 hg1
  have k5:=k1.grown hg1
  have k6:=k2.grown hg1
  have k7:=k3.grown hg1
  have k8:=k4.grown hg1
  refine yp (h:=(yp (h:=(yp (h:=(WL.alloc rfl zero38 (fun g1 w3 hB1 hg2 hl1=>?_)))))))
  have k14:=ht201.grown hg2
  refine yp (h:=?_)
  obtain ⟨A_L,c_L,v_o,hc1,hR1,hO1,hd1,hd2⟩:=deR_openD k14
  refine zS (vs:=[.int .i64 t201.1,.bool false,.bool t201.2.1.1,.slice A_L t201.2.1.2.1.length c_L,vs t201.2.1.2.2,v_o.1]) qB rfl rfl (congrArg (fun l=>some (Value.agg ⟨l⟩)) hc1) (qF rfl (qF rfl (qF rfl (qF rfl (qF rfl (qF v_o.2 qY)))))) hB1 rfl rfl (fun w4 hB2 hg3=>?_)
  have gr4:=jk (qC gr2 hg2) hg3 (Ge.le (Ge.box hl1) (qD gr2))
  have k16:=(k6.grown hg2).go hg3 (k6.new (Ge.box hl1))
  have k19:=(ht200.grown hg2).go hg3 (ht200.new (Ge.box hl1))
  refine ze (za (zd (zb (yp (h:=(yp (h:=(z6 (us:=[v_t200.1]) qB rfl rfl rfl (qF v_t200.2 qY) rfl (by omega) (fun g3 w6 hB4 hg5 hl3=>?_)))))))))
  have hO3:Own vv w6 w.heap.size 32 (some ⟨g3,0,none⟩) 1 ([(v_t200,F_t200)]:List VH):=Own.ofBl hB4 (Nat.le_trans (qD gr4) hl3) (by simp [maxLen]) rfl
  have gr5:=qC gr4 hg5
  have k23:=((k5.grown hg2).go hg3 (Dj.new k5.lt' (Ge.box hl1))).grown hg5
  have k24:=k16.grown hg5
  have k25:=((k7.grown hg2).go hg3 (Dj.new k7.lt' (Ge.box hl1))).grown hg5
  have k26:=((k8.grown hg2).go hg3 (k8.new (Ge.box hl1))).grown hg5
  have k28:=(k14.go hg3 (ht201.new (Ge.box hl1))).grown hg5
  have hr1:RelD deV w6 ([(v_t200,F_t200)]:List VH) ([t200]:List PV):=(RelD.cons (RelD.one (k19.grown hg5)) RelD.nil)
  have nd1:NewD deV ([(v_t200,F_t200)]:List VH) ([t200]:List PV) w.heap.size:=(NewD.cons (d:=deV) (fun p_ hp_=>(DnD.one (ho1 p_ (fun g_ e_=>Nat.lt_of_lt_of_le (hp_ g_ e_) (qD gr1))))) NewD.nil)
  have dj6:DnD deV ([(v_t200,F_t200)]:List VH) ([t200]:List PV) (blk A_a):=(DnD.cons (d:=deV) (DnD.one (ho1 _ k1.lt')) DnD.nil)
  have dj7:DnD deV ([(v_t200,F_t200)]:List VH) ([t200]:List PV) (blk A_b):=(DnD.cons (d:=deV) (DnD.one (ho1 _ k3.lt')) DnD.nil)
  have dj8:DnD deV ([(v_t200,F_t200)]:List VH) ([t200]:List PV) (some g1):=(DnD.cons (d:=deV) (DnD.one (ht200.new (Ge.box hl1))) DnD.nil)
  have dj9:DnD deV ([(v_t200,F_t200)]:List VH) ([t200]:List PV) (blk (some ⟨g3,0,none⟩)):=(DnD.cons (d:=deV) (DnD.one (k19.new (Ge.box hl3))) DnD.nil)
  obtain ⟨h2,H⟩:=H
  have h3:((a2:List VH).length+([(v_t200,F_t200)]:List VH).length)*16<=140737488355328:=by rw [k24.1,hr1.1]; exact h2
  refine WL.append qB rfl rfl One.vv k23 rfl k2.1.symm hO3.rd rfl rfl h3 (applen h3) (qD gr5) (fun b9 d3 w7 hO4 hg6 hk1=>?_)
  have el1:(a2++([(v_t200,F_t200)]:List VH)).length=(a++([t200]:List PV)).length:=by rw [List.length_append,List.length_append,k24.1,hr1.1]
  rw [el1]
  have gr6:=jk gr5 hg6 k23.ge'
  have k34:=k26.go hg6 dj4
  have k35:=k28.go hg6 (ho2 _ k1.lt')
  have k37:=((hR1.go hg3 (hd1 _ (ht201.new (Ge.box hl1)))).grown hg5).go hg6 (hd1 _ (ho2 _ k1.lt'))
  have k38:=((hO1.go hg3 (hd2 _ (ht201.new (Ge.box hl1)))).grown hg5).go hg6 (hd2 _ (ho2 _ k1.lt'))
  have hr2:RelD deV w7 (a2++([(v_t200,F_t200)]:List VH)) (a++([t200]:List PV)):=RelD.append (k24.go hg6 dj2) (hr1.go hg6 dj6)
  have nd2:NewD deV (a2++([(v_t200,F_t200)]:List VH)) (a++([t200]:List PV)) w.heap.size:=NewD.append k24.1 or1 nd1
  have dj10:DnD deV (a2++([(v_t200,F_t200)]:List VH)) (a++([t200]:List PV)) (blk A_b):=(DnD.append k24.1 dj3 dj7)
  have dj11:DnD deV (a2++([(v_t200,F_t200)]:List VH)) (a++([t200]:List PV)) (some g1):=(DnD.append k24.1 (k6.new (Ge.box hl1)) dj8)
  have dj12:DnD deV (a2++([(v_t200,F_t200)]:List VH)) (a++([t200]:List PV)) (blk (some ⟨g3,0,none⟩)):=(DnD.append k24.1 (k16.new (Ge.box hl3)) dj9)
  have dj13:DnD deV (a2++([(v_t200,F_t200)]:List VH)) (a++([t200]:List PV)) (blk b9):=(DnD.append k24.1 (RelD.app k24 dj2 hk1) (RelD.app hr1 dj6 hk1))
  refine yp (h:=(ze (za (zb (yp (h:=(zf rfl (z8 (v:=(.agg ⟨v_t201.1⟩)) (z3 (vs:=[.int .i64 t201.1,.bool false,.bool t201.2.1.1,.slice A_L t201.2.1.2.1.length c_L,vs t201.2.1.2.2,v_o.1]) qB ((hB2.g0 hg5).go hg6 ((Dj.new k5.lt' (Ge.box hl1)).symm)) rfl rfl rfl rfl) (congrArg (fun l=>Value.agg ⟨l⟩) hc1.symm)) (WL.litK (f:=vr) ([(v_t201,F_t201)]:List RH) vr_ok rfl ow26 rfl rfl rfl (fun g5 w9 hB6 hg8 hl5=>?_)))))))))
  have hO6:OwnK 6 vr w9 w.heap.size 38 (some ⟨g5,0,none⟩) 1 ([(v_t201,F_t201)]:List RH):=OwnK.ofBl vr_ok hB6 (Nat.le_trans (qD gr6) hl5) (by simp [maxLen]) rfl
  have gr7:=qC gr6 hg8
  have k40:=(k25.go hg6 dj1.symm).grown hg8
  have k41:=k34.grown hg8
  have k43:=hO4.grown hg8
  have k44:=hr2.grown hg8
  have hr3:RelD deR w9 ([(v_t201,F_t201)]:List RH) ([t201]:List RV):=(RelD.cons (RelD.one (k35.grown hg8)) RelD.nil)
  have nd3:NewD deR ([(v_t201,F_t201)]:List RH) ([t201]:List RV) w.heap.size:=(NewD.cons (d:=deR) (fun p_ hp_=>(DnD.one (ho2 p_ (fun g_ e_=>Nat.lt_of_lt_of_le (hp_ g_ e_) (qD gr1))))) NewD.nil)
  have dj14:DnD deR ([(v_t201,F_t201)]:List RH) ([t201]:List RV) (blk A_b):=(DnD.cons (d:=deR) (DnD.one (ho2 _ k3.lt')) DnD.nil)
  have dj15:DnD deR ([(v_t201,F_t201)]:List RH) ([t201]:List RV) (blk b9):=(DnD.cons (d:=deR) (DnD.one (RelD.app k28 (ho2 _ k1.lt') hk1)) DnD.nil)
  have dj16:DnD deR ([(v_t201,F_t201)]:List RH) ([t201]:List RV) (blk (some ⟨g5,0,none⟩)):=(DnD.cons (d:=deR) (DnD.one (k35.new (Ge.box hl5))) DnD.nil)
  obtain ⟨h4,H⟩:=H
  have h5:((a3:List RH).length+([(v_t201,F_t201)]:List RH).length)*72<=140737488355328:=by rw [k41.1,hr3.1]; exact h4
  refine WL.appendK rfl ow26 k40 rfl k4.1.symm hO6.rd rfl rfl h5 (applen h5) (qD gr7) (fun c5 d4 w10 hO7 hg9 hk2=>?_)
  have el2:(a3++([(v_t201,F_t201)]:List RH)).length=(b++([t201]:List RV)).length:=by rw [List.length_append,List.length_append,k41.1,hr3.1]
  rw [el2]
  have hr4:RelD deR w10 (a3++([(v_t201,F_t201)]:List RH)) (b++([t201]:List RV)):=RelD.append (k41.go hg9 dj5) (hr3.go hg9 dj14)
  have nd4:NewD deR (a3++([(v_t201,F_t201)]:List RH)) (b++([t201]:List RV)) w.heap.size:=NewD.append k41.1 or2 nd3
  have dj17:DnD deR (a3++([(v_t201,F_t201)]:List RH)) (b++([t201]:List RV)) (blk b9):=(DnD.append k41.1 (RelD.app k26 dj4 hk1) dj15)
  have dj18:DnD deR (a3++([(v_t201,F_t201)]:List RH)) (b++([t201]:List RV)) (blk (some ⟨g5,0,none⟩)):=(DnD.append k41.1 (k34.new (Ge.box hl5)) dj16)
  have dj19:DnD deR (a3++([(v_t201,F_t201)]:List RH)) (b++([t201]:List RV)) (blk c5):=(DnD.append k41.1 (RelD.app k41 dj5 hk2) (RelD.app hr3 dj14 hk2))
  refine yp (h:=(ze (zh (za (zb (yp (h:=?_)))))))
  obtain ⟨h6,H⟩:=H
  exact zf rfl (Yld.add rfl rfl h6) (yp (h:=(ze (zT _ ⟨a++([t200]:List PV),b9,d3,(a++([t200]:List PV)).length,a2++([(v_t200,F_t200)]:List VH),b++([t201]:List RV),c5,d4,(b++([t201]:List RV)).length,a3++([(v_t201,F_t201)]:List RH),i+(1:Int),rfl,rfl,H.1,rfl,rfl,(jk gr7 hg9 k40.ge'),(k43.go hg9 (Dj.app dj1 k25.lt' hk1)),(k44.go hg9 dj10),hO7,hr4,(Dj.app (Dj.app dj1 k25.lt' hk1).symm k43.lt' hk2).symm,dj13,(RelD.app k44 dj10 hk2),dj17,dj19,nd2,nd4⟩ sb H.2))))
 ·replace H:=H.2 (of_decide_eq_false b1)
  exact zy (zj (zj (zk (za (zd (zb (yp (h:=(yp (h:=(yp (h:=(yp (h:=(ze (za (zu (zQ rfl rfl rfl ⟨gr1,a,A_a,c_a,a2,b,A_b,c_b,a3,rfl,k1,k2,or1,dj2,k3,k4,or2,dj5,H⟩))))))))))))))))))
end
 
section
open Go Go.RowKit
theorem tmodB (x:Int) {k:Int} (hk:0<k) : -k<x.tmod k/\x.tmod k<k:=by
 have h1:=Int.tmod_lt_of_pos x hk
 have h2:=Int.tmod_lt_of_pos (-x) hk
 rw [Int.neg_tmod] at h2
 omega
theorem numR (n:Int) {b:Int} (hb:0<b):0<=(n.tmod b+b).tmod b/\(n.tmod b+b).tmod b<b :=
 ⟨Int.tmod_nonneg _ (by have:=tmodB n hb; omega),Int.tmod_lt_of_pos _ hb⟩
theorem number_M {n b:Int} {K:Int->Prop} (hb:0<b/\b<=1000) (h:K ((n.tmod b+b).tmod b)):jl n b K :=
 ⟨by omega,by have:=tmodB n hb.1; simp only [In]; omega,by omega,h⟩
theorem trim0_M {neg:Bool} {l:List Int} {K:Bool->List Int->Prop} (hl:l.length<=1000) (h:∀ s L,K s L):ke neg l K:=by
 intro _
 refine ⟨fun n=>0<=n/\n<=l.length,fun n=>n.toNat,⟨by omega,by omega⟩,?_⟩
 rintro n ⟨h0,h1⟩
 refine ⟨fun e=>?_,fun e=>?_,fun e=>?_,fun _=>⟨⟨by omega,by omega,by omega⟩,h _ _⟩⟩
 ·have:=of_decide_eq_true e; simp only [In]; omega
 ·have:=of_decide_eq_true e; omega
 ·simp only [Bool.and_eq_true,decide_eq_true_eq] at e
  exact ⟨by simp only [In]; omega,⟨by omega,by omega⟩,by first | omega | (dsimp only; omega)⟩
theorem tdiv0 {n:Int} (h : -10000<n/\n<10000):n.tdiv 10000=0:=by
 rcases Int.le_total 0 n with h0 | h0
 ·exact Int.tdiv_eq_zero_of_lt h0 h.2
 ·have:=Int.tdiv_eq_zero_of_lt (a := -n) (b:=10000) (by omega) (by omega)
  rw [Int.neg_tdiv] at this
  omega
theorem of0_M {n:Int} {K:Bool->List Int->Prop} (hn : -10000<n/\n<10000) (h:∀ s L,K s L):ku n K:=by
 refine ⟨fun l m=>(l=[]/\m=n)∨(l.length=1/\m=0),fun _ m=>if m=0 then 0 else 1,.inl ⟨rfl,rfl⟩,?_⟩
 rintro l m hI
 have hl:l.length<=1:=by
  rcases hI with ⟨rfl,_⟩ | ⟨e,_⟩
  ·simp
  ·omega
 refine ⟨fun hm=>?_,fun _=>trim0_M (by omega) h⟩
 rcases hI with ⟨rfl,rfl⟩ | ⟨_,rfl⟩
 ·have hb:=tmodB m (k:=10000) (by omega)
  refine ⟨by omega,fun _=>True,⟨fun _=>⟨by simp only [In]; omega,trivial⟩,fun _=>trivial⟩,fun d _=>⟨by simp,by omega,.inr ⟨by simp,?_⟩,?_⟩⟩
  ·rw [tdiv0 hn]; rfl
  ·dsimp only
   rw [tdiv0 hn,if_neg hm]
   decide
 ·exact absurd rfl hm
theorem rsmall0_M {n:Int} {K:RV->Prop} (hn : -10000<n/\n<10000) (h:∀ r,K r):jY n K:=of0_M hn fun _ _=>h _
theorem copied0_M {l:List RV} {K:List RV->Prop} (hl:l.length<=1000) (h:∀ L,K L):jO l K:=by
 intro _
 refine ⟨⟨by omega,by omega,by omega⟩,fun o i=>0<=i/\i<=l.length/\o.length=i,fun _ i=>((l.length:Int) - i).toNat,⟨by omega,by omega,rfl⟩,?_⟩
 rintro o i ⟨h0,h1,h2⟩
 exact ⟨fun hi=>⟨⟨h0,hi⟩,by simp; omega,by simp only [In]; omega,⟨by omega,by omega,by simp; omega⟩,by first | omega | (dsimp only; omega)⟩,fun _=>h _⟩
theorem rtuple0_M {l:List RV} {K:RV->Prop} (hl:l.length<=1000) (h:∀ r,K r):jZ l K:=fun _=>copied0_M hl fun _ _=>h _
def strN (n:Int):List UInt8:=([([97]:List UInt8),([98]:List UInt8),([97,98]:List UInt8)]:List (List UInt8)).getD ((n.tmod 3+3).tmod 3).toNat []
def kindN (n:Int):Int:=(n.tmod 5+5).tmod 5
def itemP (n:Int):PV:=if kindN n=0∨kindN n=1∨kindN n=2 then .int (n.tmod 10) else if kindN n=3 then .str (strN n) else .tup [.int (n.tmod 3),.str (strN n)]
theorem item_M {n:Int} {K:PV->RV->Prop} (hn:In .i64 n) (h:∀ r,K (itemP n) r):j4 n K:=by
 have h3:=numR n (b:=3) (by omega)
 have b10:=tmodB n (k:=10) (by omega)
 have b3:=tmodB n (k:=3) (by omega)
 refine number_M (by omega) ⟨⟨h3.1,by omega⟩,number_M (by omega) ?_⟩
 change ∃ J1:Bool->Prop,((kindN n=0->_)/\_)/\_
 refine ⟨fun b=>b=decide (kindN n=0∨kindN n=1∨kindN n=2),⟨fun e=>?_,fun e0=>⟨fun e=>?_,fun e1=>?_⟩⟩,?_⟩
 ·change decide (kindN n=0)=_; simp [e]
 ·change decide (kindN n=1)=_; simp [show kindN n=1 from e]
 ·have e0:¬ kindN n=0:=e0
  have e1:¬ kindN n=1:=e1
  change decide (kindN n=2)=_; simp [e0,e1]
 rintro _ rfl
 refine ⟨fun e=>?_,fun e=>⟨fun e3=>?_,fun e3=>?_⟩⟩
 ·have e:=of_decide_eq_true e
  refine ⟨by omega,lsmall_M (by omega) ⟨by omega,rsmall0_M (by omega) fun r=>?_⟩⟩
  have:=h r
  unfold itemP at this
  rwa [if_pos e] at this
 ·have e:=of_decide_eq_false e
  have e3:kindN n=3:=e3
  have:=h ((4:Int),(false,([]:List Int),strN n),RO.nil)
  unfold itemP at this
  rw [if_neg e,if_pos e3] at this
  exact this
 ·have e:=of_decide_eq_false e
  have e3:¬ kindN n=3:=e3
  refine ⟨by omega,lsmall_M (by omega) ?_⟩
  unfold M_val_Str M_val_Tuple
  refine ⟨by simp,[.int (n.tmod 3),.str (strN n)],rfl,by omega,rsmall0_M (by omega) fun r=>?_⟩
  unfold jN
  refine rtuple0_M (by simp) fun r'=>?_
  have:=h r'
  unfold itemP at this
  rwa [if_neg e,if_neg e3] at this
theorem items_M' {l:List Int} {K:List PV->List RV->Prop} (hl:l.length<=1000) (hin:∀ x∈l,In .i64 x) (h:∀ b,K (l.map itemP) b):jX l K:=by
 intro _
 refine ⟨fun a b i=>0<=i/\i<=l.length/\a=(l.take i.toNat).map itemP/\b.length=i,fun _ _ i=>((l.length:Int) - i).toNat,⟨by omega,by omega,rfl,rfl⟩,?_⟩
 rintro a b i ⟨h0,h1,rfl,hb⟩
 refine ⟨fun hi=>?_,fun hi=>?_⟩
 ·have hlt:i.toNat<l.length:=by omega
  have e1:l.getD i.toNat 0=l[i.toNat]:=getD_get' hlt
  have e2:l.take (i+1).toNat=l.take i.toNat++[l[i.toNat]]:=by
   rw [show (i+1).toNat=i.toNat+1 by omega,List.take_add_one,List.getElem?_eq_getElem hlt]; rfl
  rw [e1]
  exact ⟨⟨h0,by omega⟩,item_M (hin _ (List.getElem_mem hlt)) fun r=>⟨by simp; omega,by simp; omega,by simp only [In]; omega,⟨by omega,by omega,by rw [e2,List.map_append]; rfl,by simp; omega⟩,by first | omega | (dsimp only; omega)⟩⟩
 ·have:l.take i.toNat=l:=List.take_of_length_le (by omega)
  rw [this]; exact h b
theorem strN_ok (n:Int):strN n=[97]∨strN n=[98]∨strN n=[97,98]:=by
 have h3:=numR n (b:=3) (by omega)
 unfold strN
 generalize (n.tmod 3+3).tmod 3=q at *
 have:q=0∨q=1∨q=2:=by omega
 rcases this with rfl | rfl | rfl <;> simp
theorem strN_okA (n:Int):OkA (.str (strN n)):=by
 rcases strN_ok n with e | e | e <;> rw [e] <;> refine ⟨fun c hc=>?_,by simp⟩ <;> simp only [List.mem_cons,List.not_mem_nil,or_false] at hc
 ·subst hc; exact ⟨by decide,by decide,by decide⟩
 ·subst hc; exact ⟨by decide,by decide,by decide⟩
 ·rcases hc with rfl | rfl <;> exact ⟨by decide,by decide,by decide⟩
theorem itemP_ok (n:Int):OkI (itemP n):=by
 have b10:=tmodB n (k:=10) (by omega)
 have b3:=tmodB n (k:=3) (by omega)
 unfold itemP
 split
 ·exact (by constructor <;> omega:OkA (.int (n.tmod 10)))
 ·split
  ·exact strN_okA n
  ·refine ⟨rfl,fun x hx=>?_⟩
   simp only [List.mem_cons,List.not_mem_nil,or_false] at hx
   rcases hx with rfl | rfl
   ·exact (by constructor <;> omega:OkA (.int (n.tmod 3)))
   ·exact strN_okA n
end
 
section
open Go Go.RowKit
attribute [local irreducible] WL WC WX WQ WK Yld Eff Ef0 Fn
end
 
section
open Go Go.RowKit
attribute [local irreducible] WL WC WX WQ WK WJ Yld Eff Ef0 Fn
section
variable {w w':World} {a b v:Value} {z:Int} {m:Nat} {p p' row:Option Nat} {ps:List (Option Nat)}
theorem Nm.one1 (h:Nm w (.agg ⟨[a,b]⟩) z m):a.oneCell'=true:=by
 obtain ⟨_,_,e,h1,_⟩:=h.agg
 injection e with e; injection e with e; injection e with e1 e
 rw [e1]; exact h1
theorem Nm.one2 (h:Nm w (.agg ⟨[a,b]⟩) z m):b.oneCell'=true:=by
 obtain ⟨_,_,e,_,h1⟩:=h.agg
 injection e with e; injection e with e; injection e with _ e; injection e with e2 _
 rw [e2]; exact h1
def NmD (v:Value) (p:Option Nat):Prop:=∀ (neg:Bool) (A:Option Addr) (c:Nat) (l:List Nat),v=.agg ⟨[.bool neg,.slice A l.length c]⟩->Dn l (blk A) p
theorem NmD.none:NmD v none:=fun _ _ _ _ _=>Dn.nr
theorem Nm.goD (h:Nm w v z m) (hg:w.grownBy w' row) (d:NmD v row):Nm w' v z m:=by
 obtain ⟨neg,A,c,l,h1,h2,h3⟩:=h
 exact ⟨neg,A,c,l,h1,h2.go hg (d _ _ _ _ h1),h3⟩
theorem Nm.goDL (h:Nm w v z m) (hg:GrL ps w w') (d:AllP (NmD v) ps):Nm w' v z m:=by
 obtain ⟨neg,A,c,l,h1,h2,h3⟩:=h
 exact ⟨neg,A,c,l,h1,h2.goL hg (fun q hq=>d q hq _ _ _ _ h1),h3⟩
theorem Nm.ltD (h:Nm w v z m) {neg:Bool} {A:Option Addr} {c:Nat} {l:List Nat} (e:v=.agg ⟨[.bool neg,.slice A l.length c]⟩) (hl:l≠[]):Lt (blk A) w.heap.size:=by
 obtain ⟨neg',A',c',l',h1,h2,_⟩:=h
 rw [e] at h1
 injection h1 with h1; injection h1 with h1; injection h1 with _ h1; injection h1 with h1 _; injection h1 with h1 h3 _
 subst h1
 refine h2.lt' fun e2=>hl (List.length_eq_zero_iff.1 ?_)
 rw [h3,e2]; rfl
theorem Nm.newD (h:Nm w v z m) (hp:Ge p w.heap.size):NmD v p:=fun _ _ _ _ e=>Dn.new (fun hl=>h.ltD e hl) hp
theorem Nm.small (h:Nm w v z m) (hz : -1000000000000000000000000000<z/\z<1000000000000000000000000000):Nm w v z 3:=by
 obtain ⟨neg,A,c,l,h1,h2,hD,hC,hl,hn,h7⟩:=h
 refine ⟨neg,A,c,l,h1,h2,hD,hC,?_,hn,h7⟩
 rcases Nat.lt_or_ge 3 l.length with h4 | h4
 ·exfalso
  have h5:=val_ge hC (by intro e; rw [e] at h4; simp at h4)
  have h6:1000000000 ^ 3<=1000000000 ^ (l.length - 1):=Nat.pow_le_pow_right (by omega) (by omega)
  have h8:(1000000000:Nat) ^ 3=1000000000000000000000000000:=by decide
  rw [h8] at h6
  cases neg <;> simp at h7 <;> omega
 ·exact h4
end
end
 
section
open Go Go.RowKit
section
variable {P:Program} {T:Tab} {N:Nat} {ops:Array Oper} {Q:Post} {L:qH} {w:World} {rest:List Oper} {d:Nat} {ty:TypeId} {pos:String} {af:Array Edge} {t e:TypeId} {x y:Operand}
theorem Yld.sl {dd:Option Tmp} {lo hi:Option Operand} {l h:Int} {A:Option Addr} {n c:Nat} (hT:T.Ok P) (hs:nk T.sl t=some (e,1)) (hx:opv L x=some (.slice A n c))
  (hl:optv L lo 0=some l) (hh:optv L hi n=some h) (h0:0<=l) (h1:l<=h) (h2:h<=c) :
  Yld P N w ⟨dd,.slice t x lo hi none,ty,pos,af,none⟩ L (.slice (if c=l.toNat then A else A.map (·.add l.toNat)) (h.toNat - l.toNat) (c - l.toNat)):=fun a w1 _ ha=>by
 obtain ⟨hu,j,hj,hj1⟩:=hT.sl hs
 have hb:=run_bounds (P:=P) (len:=n) (cap:=c) (isS:=true) ha hl hh h0 h1 h2 w1
 unfold execOp
 simp [ha.ev hx,Instr.sliceAt,run_underlying hu,Instr.slice,hb,sizeOf,typeInfo,hj,hj1]
theorem Yld.sl0 {dd:Option Tmp} {hi:Option Operand} {h:Nat} {A:Option Addr} {n c:Nat} (hT:T.Ok P) (hs:nk T.sl t=some (e,1)) (hx:opv L x=some (.slice A n c))
  (hh:optv L hi n=some (h:Int)) (h2:h<=c) :
  Yld P N w ⟨dd,.slice t x none hi none,ty,pos,af,none⟩ L (.slice A h c):=by
 have k:=Yld.sl (N:=N) (w:=w) (ty:=ty) (pos:=pos) (af:=af) (dd:=dd) (lo:=none) (hi:=hi) (l:=0) (h:=h) hT hs hx rfl hh (by omega) (by omega) (by omega)
 have e1:(if c=(0:Int).toNat then A else A.map (·.add (0:Int).toNat))=A:=by
  split
  ·rfl
  ·cases A <;> simp [Addr.add]
 rw [e1] at k
 simpa using k
theorem qA {dd:Option Tmp} {lo:Option Operand} {l g n c:Nat} (hT:T.Ok P) (hs:nk T.sl t=some (e,1)) (hx:opv L x=some (.slice (some ⟨g,0,none⟩) n c))
  (hh:optv L lo 0=some (l:Int)) (h1:l<=n) (h2:n<=c) (h3:l<c) :
  Yld P N w ⟨dd,.slice t x lo none none,ty,pos,af,none⟩ L (.slice (some ⟨g,l,none⟩) (n - l) (c - l)):=by
 have k:=Yld.sl (N:=N) (w:=w) (ty:=ty) (pos:=pos) (af:=af) (dd:=dd) (lo:=lo) (hi:=none) (l:=l) (h:=n) hT hs hx hh rfl (by omega) (by omega) (by omega)
 rw [if_neg (by omega)] at k
 simpa [Addr.add_lit] using k
theorem Yld.slG {dd:Option Tmp} {lo:Option Operand} {l g n c:Nat} (hT:T.Ok P) (hs:nk T.sl t=some (e,1)) (hx:opv L x=some (.slice (some ⟨g,0,none⟩) n c))
  (hh:optv L lo 0=some (l:Int)) (h1:l<=n) (h2:n<=c) :
  Yld P N w ⟨dd,.slice t x lo none none,ty,pos,af,none⟩ L (.slice (some (if c=l then ⟨g,0,none⟩ else ⟨g,l,none⟩)) (n - l) (c - l)):=by
 have k:=Yld.sl (N:=N) (w:=w) (ty:=ty) (pos:=pos) (af:=af) (dd:=dd) (lo:=lo) (hi:=none) (l:=l) (h:=n) hT hs hx hh rfl (by omega) (by omega) (by omega)
 by_cases hc:c=l
 ·subst hc
  simpa using k
 ·rw [if_neg hc]
  rw [if_neg (by omega)] at k
  simpa [Addr.add_lit] using k
theorem Yld.slH {dd:Option Tmp} {lo hi:Option Operand} {l h g n c:Nat} (hT:T.Ok P) (hs:nk T.sl t=some (e,1)) (hx:opv L x=some (.slice (some ⟨g,0,none⟩) n c))
  (hl:optv L lo 0=some (l:Int)) (hh:optv L hi n=some (h:Int)) (h1:l<=h) (h2:h<=c) (h3:l<c) :
  Yld P N w ⟨dd,.slice t x lo hi none,ty,pos,af,none⟩ L (.slice (some ⟨g,l,none⟩) (h - l) (c - l)):=by
 have k:=Yld.sl (N:=N) (w:=w) (ty:=ty) (pos:=pos) (af:=af) (dd:=dd) (lo:=lo) (hi:=hi) (l:=l) (h:=h) hT hs hx hl hh (by omega) (by omega) (by omega)
 rw [if_neg (by omega)] at k
 simpa [Addr.add_lit] using k
theorem run_bound3 {ac:Act} (ha:Has N L ac) {lo hi mx:Operand} {l h m:Int} {kl kh km:IntKind} {n c:Nat} (hl:opv L lo=some (.int kl l)) (hh:opv L hi=some (.int kh h)) (hm:opv L mx=some (.int km m)) (h0:0<=l) (h1:l<=h) (h2:h<=m) (h3:m<=c) (w1:World) :
  (Instr.sliceBounds true n c (some (ac.eval lo)) (some (ac.eval hi)) (some (ac.eval mx))).run P w1=.ok (l.toNat,h.toNat,m.toNat) w1:=by
 have g1:0<=h:=by omega
 have g2:0<=m:=by omega
 have g3:h<=max m 0:=by omega
 have g4:l<=max h 0:=by omega
 simp [Instr.sliceBounds,Instr.sliceBound,ha.ev hl,ha.ev hh,ha.ev hm,asIntOf,h0,g1,g2,g3,g4,h3]
theorem Yld.sl3 {dd:Option Tmp} {lo hi mx:Operand} {l h m:Int} {kl kh km:IntKind} {A:Option Addr} {n c:Nat} (hT:T.Ok P) (hs:nk T.sl t=some (e,1)) (hx:opv L x=some (.slice A n c))
  (hl:opv L lo=some (.int kl l)) (hh:opv L hi=some (.int kh h)) (hm:opv L mx=some (.int km m)) (h0:0<=l) (h1:l<=h) (h2:h<=m) (h3:m<=c) :
  Yld P N w ⟨dd,.slice t x (some lo) (some hi) (some mx),ty,pos,af,none⟩ L (.slice (if m.toNat=l.toNat then A else A.map (·.add l.toNat)) (h.toNat - l.toNat) (m.toNat - l.toNat)):=fun a w1 _ ha=>by
 obtain ⟨hu,j,hj,hj1⟩:=hT.sl hs
 have hb:=run_bound3 (P:=P) (n:=n) ha hl hh hm h0 h1 h2 h3 w1
 unfold execOp
 simp [ha.ev hx,Instr.sliceAt,run_underlying hu,Instr.slice,hb,sizeOf,typeInfo,hj,hj1]
theorem Yld.cap {dd:Option Tmp} {A:Option Addr} {n c:Nat} (hu:P.underlying t=some (.slice e)) (hx:opv L x=some (.slice A n c)) :
  Yld P N w ⟨dd,.call ⟨.builtin .cap,⟨[x]⟩,⟨[t]⟩⟩,ty,pos,af,none⟩ L (.int .i64 c):=fun a w1 _ ha=>by
 unfold execOp
 simp [ha.ev hx,resolve,invoke,builtin,Builtin.cap_,run_underlying hu,goInt]
theorem bl_setCells {g:Nat}:∀ (vs:List Value) {o:Nat} {us:List Value} {w1:World},Bl w1 g e us->o+vs.length<=us.length->Bl (w1.setCells g o vs) g e (us.take o++vs++us.drop (o+vs.length))
 | [],o,us,w1,hB,_=>by simpa [World.setCells] using hB
 | v :: r,o,us,w1,hB,hl=>by
  simp only [List.length_cons] at hl
  have h:=bl_setCells r (bl_set (o:=o) (u:=v) hB) (o:=o+1) (by rw [List.length_set]; omega)
  rw [World.setCells]
  have e1:(us.set o v).take (o+1)=us.take o++[v]:=by
   rw [List.take_set,List.take_add_one,List.getElem?_eq_getElem (by omega)]
   simp only [Option.toList_some]
   rw [List.set_append_right _ _ (by simp; omega)]
   simp [show o - min o us.length=0 by omega]
  have e2:(us.set o v).drop (o+1+r.length)=us.drop (o+(v :: r).length):=by
   rw [List.drop_set_of_lt (by omega)]
   congr 1
   simp only [List.length_cons]; omega
  rw [e1,e2] at h
  simpa using h
theorem gr_setCells {g:Nat}:∀ (vs:List Value) (o:Nat) (w1:World),w1.grownBy (w1.setCells g o vs) (some g)
 | [],_,w1=>jf _ _
 | v :: r,o,w1=>by
  rw [World.setCells]
  exact qC (gr_set w1 ⟨g,o,none⟩ v) (gr_setCells r (o+1) _)
theorem Eff.copyB {g o dl dc sl sc:Nat} {a:Addr} {us vals:List Value} {e':TypeId} (hu:P.underlying t=some (.slice e)) (hs:(P.info? e).map (·.size)=some 1) (hB:Bl w g e' us)
  (hx:opv L x=some (.slice (some ⟨g,o,none⟩) dl dc)) (hy:opv L y=some (.slice (some a) sl sc)) (hn:vals.length=Nat.min sl dl) (hsrc:∀ j v,vals[j]? = some v->w.cell? (a.add j)=some v)
  (ho:o+vals.length<=us.length) (h1:∀ v∈vals,v.oneCell'=true) :
  Eff P N w ⟨some d,.call ⟨.builtin .copy,⟨[x,y]⟩,⟨[t,t]⟩⟩,ty,pos,af,none⟩ L (fun v w'=>v=.int .i64 vals.length/\Bl w' g e' (us.take o++vals++us.drop (o+vals.length))/\w.grownBy w' (some g)):=fun a0 w1 hw ha=>by
 have hB1:=jc hw hB
 have hr:=run_copy_cells (P:=P) w1 t t ty e g o dl dc a sl sc vals hu hs hn (fun j v hj=>(hw.cell _).trans (hsrc j v hj)) (fun j hj=>by rw [hB1.cell]; simp; omega) (fun j _=>hB1.frozen _) h1
 refine ⟨_,_,?_,rfl,bl_setCells vals hB1 ho,eqv_gr hw (gr_setCells vals o w1)⟩
 unfold execOp
 simp only [ha.ev hx,ha.ev hy,resolve,invoke,builtin,Sem.run_bind,Sem.run_pure,Result.andThen_ok,List.map_toArray,List.map_cons,List.map_nil,hr]
 rfl
def ckInf (P:Program) (e:TypeId):Bool:=match P.info? e with
 | some i=>Nat.beq i.size 1 && Nat.beq i.bytes 16 && (match i.zero with
  | some .nilIface=>true
  | _=>false)
 | none=>false
theorem ckInf_ok (h:ckInf P e=true):∃ i,P.info? e=some i/\i.size=1/\i.bytes=16/\i.zero=some .nilIface:=by
 unfold ckInf at h
 split at h
 ·rename_i i hi
  simp only [Bool.and_eq_true] at h
  obtain ⟨⟨h1,h2⟩,h3⟩:=h
  refine ⟨i,hi,Nat.eq_of_beq_eq_true h1,Nat.eq_of_beq_eq_true h2,?_⟩
  split at h3
  ·assumption
  ·cases h3
 ·cases h
theorem Eff.appendZ {g k c m:Nat} {us:List Value} {e' tn:TypeId} {kn kq:IntKind} (hu:P.underlying t=some (.slice e)) (hun:P.underlying tn=some (.int kn)) (hc:ckInf P e=true) (hB:Bl w g e' us)
  (hx:opv L x=some (.slice (some ⟨g,0,none⟩) k c)) (hy:opv L y=some (.int kq (m:Int))) (hk:k<=us.length) (h0:0<m) (hg:c<k+m) (hb:(k+m)*16<=140737488355328) :
  Eff P N w ⟨some d,.call ⟨.builtin .append,⟨[x,y]⟩,⟨[t,tn]⟩⟩,ty,pos,af,none⟩ L (fun v w'=>∃ G zs,v=.slice (some ⟨w.heap.size,0,none⟩) (k+m) G/\k+m<=G/\G<=maxLen/\k+List.length zs=G/\Bl w' w.heap.size e (us.take k++zs)/\w.grownBy w' none):=fun a0 w1 hw ha=>by
 obtain ⟨i,hi,h1,h2,h3⟩:=ckInf_ok hc
 have hB1:=jc hw hB
 have hold:(Builtin.firstCells i.size k (.slice (some ⟨g,0,none⟩) k c)).run P w1.drew=.ok (us.take k).toArray w1.drew:=by
  rw [h1]
  exact run_firstCells_some w1.drew 1 k ⟨g,0,none⟩ k c (us.take k) (by rw [List.length_take]; omega) (fun j v hj=>by
   rw [List.getElem?_take] at hj
   split at hj
   ·rw [Addr.add_lit,Nat.zero_add]
    exact (hB1.cell j).trans hj
   ·cases hj)
 have hr:=Lib.run_append_grow_zeros (P:=P) w1 t tn ty e i _ kq kn hu hun hi h3 (some ⟨g,0,none⟩) k c (us.take k) hold m h0 (by omega) hg (by omega) (by rw [h2]; omega) (by rw [h2]; exact growslice_fits hg (by omega))
 have hge:=grownCap_ge w1 (k+m) c e
 have hle:=grownCap_le_maxLen w1 (k+m) c e (by unfold maxLen; omega)
 obtain ⟨zs,hzs⟩:∃ zs:List Value,(us.take k).toArray++Builtin.zeroCells (Value.nilIface).cells m++Builtin.zeroCells (Value.nilIface).cells (grownCap w1 (k+m) c e - (k+m))=⟨us.take k++zs⟩:=by
  refine ⟨(Builtin.zeroCells (Value.nilIface).cells m++Builtin.zeroCells (Value.nilIface).cells (grownCap w1 (k+m) c e - (k+m))).toList,?_⟩
  apply Array.ext'
  simp
 have hzl:k+zs.length=grownCap w1 (k+m) c e:=by
  have:=congrArg Array.size hzs
  simp only [Array.size_append,size_zeroCells,List.size_toArray,List.length_append,List.length_take] at this
  have e1:(Value.nilIface).cells.size=1:=rfl
  rw [e1] at this
  omega
 have hd:Eqv w w1.drew:=⟨hw.heap,hw.os,hw.tape,hw.output⟩
 have nb:=newBlock w1.drew hd (us.take k++zs) e
 refine ⟨_,_,?_,grownCap w1 (k+m) c e,zs,rfl,hge,hle,hzl,nb.1,nb.2⟩
 unfold execOp
 simp only [ha.ev hx,ha.ev hy,resolve,invoke,builtin,Sem.run_bind,Sem.run_pure,Result.andThen_ok,List.map_toArray,List.map_cons,List.map_nil,hr,hzs]
 rw [show w1.heap.size=w.heap.size by rw [hw.heap]]
theorem shpI {g:Nat} {us:List Value} (h:Bl w g e us):w.shape? g=some (e,us.length):=by
 unfold Bl at h
 simp [World.shape?,h]
theorem Eff.appendI {g k c m sc:Nat} {a:Addr} {us vals:List Value} {e':TypeId} (hu:P.underlying t=some (.slice e)) (hc:ckInf P e=true) (hB:Bl w g e' us)
  (hx:opv L x=some (.slice (some ⟨g,0,none⟩) k c)) (hy:opv L y=some (.slice (some a) m sc)) (hn:vals.length=m) (hsrc:∀ j v,vals[j]? = some v->w.cell? (a.add j)=some v)
  (ho:k+m<=c) (hl:us.length=c) (h1:∀ v∈vals,v.oneCell'=true) :
  Eff P N w ⟨some d,.call ⟨.builtin .append,⟨[x,y]⟩,⟨[t,t]⟩⟩,ty,pos,af,none⟩ L (fun v w'=>v=.slice (some ⟨g,0,none⟩) (k+m) c/\Bl w' g e' (us.take k++vals++us.drop (k+vals.length))/\w.grownBy w' (some g)):=fun a0 w1 hw ha=>by
 obtain ⟨i,hi,i1,i2,i3⟩:=ckInf_ok hc
 have hB1:=jc hw hB
 have hr:=run_append_room_cells (P:=P) (w:=w1) t ty e i hu hi g 0 k c a m sc vals (by rw [i1]; omega) (fun j v hj=>(hw.cell _).trans (hsrc j v hj)) h1 ho (fun j hj=>by rw [i1,hB1.cell]; simp; omega) (fun j _=>hB1.frozen _)
 rw [i1,show 0+k*1=k by omega] at hr
 refine ⟨_,_,?_,rfl,bl_setCells vals hB1 (by omega),eqv_gr hw (gr_setCells vals k w1)⟩
 unfold execOp
 simp only [ha.ev hx,ha.ev hy,resolve,invoke,builtin,Sem.run_bind,Sem.run_pure,Result.andThen_ok,List.map_toArray,List.map_cons,List.map_nil,hr]
theorem WL.clearB {g o n c:Nat} {us:List Value} {e':TypeId} {z:Value} (hu:P.underlying t=some (.slice e)) (hz:∀ w,(zeroValue e).run P w=.ok z w) (hz1:z.cells = #[z]) (h1:z.oneCell'=true) (hB:Bl w g e' us)
  (hx:opv L x=some (.slice (some ⟨g,o,none⟩) n c)) (h0:0<n) (ho:o+n<=us.length) (hk:∀ w',Bl w' g e' (us.take o++List.replicate n z++us.drop (o+n))->w.grownBy w' (some g)->WL P N ops Q rest L w') :
  WL P N ops Q (⟨none,.call ⟨.builtin .clear,⟨[x]⟩,⟨[t]⟩⟩,ty,pos,af,none⟩ :: rest) L w:=fun a w1 hw ha =>
 wpList_plain rfl fun K hK=>by
  have hB1:=jc hw hB
  have hr:=Lib.run_clear_slice (P:=P) w1 t e ty z hu hz hz1 h1 g o n c h0 (fun j hj=>by rw [hB1.cell]; simp; omega) (fun j _=>hB1.frozen _)
  have hb:=bl_setCells (List.replicate n z) hB1 (o:=o) (by simp; omega)
  rw [List.length_replicate] at hb
  unfold Oper.wp execOp
  simp only [ha.ev hx,resolve,invoke,builtin,Sem.run_bind,Sem.run_pure,Result.andThen_ok,List.map_toArray,List.map_cons,List.map_nil,hr]
  exact hK _ _ (hk _ hb (eqv_gr hw (gr_setCells _ o w1)) _ _ (Eqv.refl _) ha)
theorem Yld.ovl {dd:Option Tmp} {fn:FuncId} {fd:Func} {ts:Array TypeId} {gx gy ox oy lx cx ly cy:Nat} {us ys:List Value} {ex ey:TypeId} (hf:P.funcs[fn]? = some fd) (hn:(fd.name == "runtime.NumGoroutine")=false) (hb:fd.body.isNone=true) (hn2:Extern.findNext fd=none)
  (he:Extern.find fd=some (Extern.SlicesOverlaps.overlaps #[t,t] #[ty])) (hu:P.underlying t=some (.slice e)) (hc:ckInf P e=true) (hX:Bl w gx ex us) (hY:Bl w gy ey ys) (hne:gx≠gy) (hy0:ys≠[])
  (hx:opv L x=some (.slice (some ⟨gx,ox,none⟩) lx cx)) (hy:opv L y=some (.slice (some ⟨gy,oy,none⟩) ly cy)) :
  Yld P N w ⟨dd,.call ⟨.value (.func fn),⟨[x,y]⟩,ts⟩,ty,pos,af,none⟩ L (.bool false):=fun a w1 hw ha=>by
 obtain ⟨i,hi,h1,h2,h3⟩:=ckInf_ok hc
 have hX1:=jc hw hX
 have hY1:=jc hw hY
 have hl:ys.length≠0:=fun h=>hy0 (List.length_eq_zero_iff.1 h)
 have hr:=run_callFunc_extern hf hn hb hn2 he #[.slice (some ⟨gx,ox,none⟩) lx cx,.slice (some ⟨gy,oy,none⟩) ly cy] w1
 rw [Lib.run_overlaps_apart w1 t ty e hu 1 (fun w=>by simp [sizeOf,typeInfo,hi,h1]) ⟨gx,ox,none⟩ ⟨gy,oy,none⟩ lx cx ly cy hne ex ey us.length ys.length (shpI hX1) (shpI hY1) hl (hX1.frozen _) (hX1.frozen _)] at hr
 simp only [Result.andThen_ok] at hr
 have hm:(⟨[x,y]⟩:Array Operand).map a.eval = #[.slice (some ⟨gx,ox,none⟩) lx cx,.slice (some ⟨gy,oy,none⟩) ly cy]:=by simp [ha.ev hx,ha.ev hy]
 unfold execOp
 simp only [resolve,Act.eval,hm,Deferred.ofValue,Sem.run_bind,Sem.run_pure,Result.andThen_ok,invoke]
 simp [hr]
theorem own_bl {B c:Nat} {A:Option Addr} {hs:List VH} (hO:Own vv w B e A c hs) (hne:hs≠[]):∃ g us,A=some ⟨g,0,none⟩/\B<=g/\Bl w g e us/\us.length=c/\us.take hs.length=hs.map vv/\hs.length<=c/\c<=maxLen:=by
 unfold Own at hO
 rcases hO.2 with ⟨hv,hn⟩ | ⟨g,cap,cur,hv,hb,hg,hnc,hcm,hcs,htake⟩
 ·exact absurd (List.length_eq_zero_iff.1 hn) hne
 ·simp only [Value.slice.injEq] at hv
  obtain ⟨rfl,_,rfl⟩:=hv
  exact ⟨g,cur.toList,rfl,hb,hg,by simpa using hcs,by simpa using htake,hnc,hcm⟩
theorem bl_own {B c g:Nat} {us:List Value} {hs:List VH} (hB:Bl w g e us) (hb:B<=g) (hl:us.length=c) (ht:us.take hs.length=hs.map vv) (hn:hs.length<=c) (hm:c<=maxLen):Own vv w B e (some ⟨g,0,none⟩) c hs:=by
 unfold Own
 exact ⟨by simp,.inr ⟨g,c,⟨us⟩,rfl,hb,hB,hn,hm,by simpa using hl,by simpa using ht⟩⟩
end
theorem cellD {us:List Value} {hs:List VH} (h:us.take hs.length=hs.map vv) {k j:Nat} {v:Value} (hj:((hs.drop k).map vv)[j]? = some v):us[k+j]? = some v:=by
 rw [List.map_drop,<-h,List.getElem?_drop,List.getElem?_take] at hj
 split at hj
 ·exact hj
 ·cases hj
theorem lay3 {P zs D:List Value} {v:Value} {k:Nat} (hP:P.length=k) (U2:List Value) (h2:U2=(P++zs).take k++[v]++(P++zs).drop (k+1)):(U2.take (k+1)++D++U2.drop (k+1+D.length)).take (k+1+D.length)=P++[v]++D:=by
 rw [List.take_left' hP] at h2
 have e:U2.take (k+1)=P++[v]:=by rw [h2]; exact List.take_left' (by simp [hP])
 rw [e]
 exact List.take_left' (by simp [hP]; omega)
theorem lay4 {us D:List Value} {v:Value} {k:Nat} (hk:k+1<=us.length) (U2:List Value) (h2:U2=us.take (k+1)++D++us.drop (k+1+D.length)):(U2.take k++[v]++U2.drop (k+1)).take (k+1+D.length)=us.take k++[v]++D:=by
 have e1:U2.take k=us.take k:=by
  rw [h2,List.append_assoc,List.take_append_of_le_length (by simp; omega),List.take_take,Nat.min_eq_left (by omega)]
 have e2:U2.drop (k+1)=D++us.drop (k+1+D.length):=by
  rw [h2,List.append_assoc]
  exact List.drop_left' (by simp; omega)
 rw [e1,e2,<-List.append_assoc]
 exact List.take_left' (by simp; omega)
attribute [local irreducible] WL WC WX WQ WK WJ Yld Eff Ef0 Fn
theorem insU:Tryz.prog.underlying 27=some (.slice 32):=Tryz.underlying27
set_option maxHeartbeats 8000000 in
theorem ins_fn {w:World} {B BY k c cv gv:Nat} {A:Option Addr} {hs:List VH} {x:VH} (hO:Own vv w B 32 A c hs) (hY:Own vv w BY 32 (some ⟨gv,0,none⟩) cv [x]) (hk:k<=hs.length) (hl:hs.length<=1000000) (hne:blk A≠some gv) (hB:B<=w.heap.size) :
  Fn Tryz.prog 101 ⟨[.slice A hs.length c,.int .i64 (k:Int),.slice (some ⟨gv,0,none⟩) 1 cv]⟩ w (fun v w'=>∃ A' c',v=.slice A' (hs.take k++[x]++hs.drop k).length c'/\Own vv w' B 32 A' c' (hs.take k++[x]++hs.drop k)/\w.grownBy w' (blk A)/\∀ g,blk A'=some g->blk A=some g∨w.heap.size<=g):=by
 have hcap:=hO.rd.cap
 have hmax:=hO.rd.max
 refine Fn.enter (by kernel_rfl) Tryz.func101 rfl Tryz.ntmps101 rfl ?_
 repeat (first | refine zf rfl (Yld.sl qB rfl rfl rfl rfl (by omega) (by omega) (by omega)) ?_ | refine zd ?_ | refine zb ?_ | refine ze ?_ | refine za ?_ | refine zr ?_ | refine zf rfl (Yld.add rfl rfl (by simp only [In]; omega)) ?_ | refine zf rfl (Yld.sub rfl rfl (by simp only [In]; omega)) ?_ | refine zf rfl (zg qB rfl) ?_ | refine zu ?_ | refine zi ?_)
 refine zp rfl (fun h=>absurd h (by simp)) (fun _=>?_)
 repeat (first | refine zd ?_ | refine zb ?_ | refine ze ?_ | refine za ?_ | refine zr ?_ | refine zf rfl (Yld.add rfl rfl (by simp only [In]; omega)) ?_ | refine zf rfl (Yld.sub rfl rfl (by simp only [In]; omega)) ?_ | refine zf rfl (zg qB rfl) ?_ | refine zu ?_ | refine zi ?_)
 refine zp rfl (fun h=>?_) (fun h=>?_)
 ·have h1:=of_decide_eq_true h
  obtain rfl:k=hs.length:=by omega
  repeat (first | refine zd ?_ | refine zb ?_ | refine ze ?_ | refine za ?_ | refine zr ?_ | refine zf rfl (Yld.add rfl rfl (by simp only [In]; omega)) ?_ | refine zf rfl (Yld.sub rfl rfl (by simp only [In]; omega)) ?_ | refine zf rfl (zg qB rfl) ?_ | refine zu ?_ | refine zi ?_)
  refine WL.append qB rfl rfl One.vv hO rfl rfl hY.rd rfl rfl (by simp; omega) (by simp [maxLen]; omega) hB (fun A' c' w2 hO2 hg hk2=>?_)
  repeat (first | refine zd ?_ | refine zb ?_ | refine ze ?_ | refine za ?_ | refine zr ?_ | refine zf rfl (Yld.add rfl rfl (by simp only [In]; omega)) ?_ | refine zf rfl (Yld.sub rfl rfl (by simp only [In]; omega)) ?_ | refine zf rfl (zg qB rfl) ?_ | refine zu ?_ | refine zi ?_)
  exact zM rfl rfl ⟨A',c',by simp,by simpa using hO2,hg,hk2⟩
 ·have h1:=of_decide_eq_false h
  have hlt:k<hs.length:=by omega
  obtain ⟨g,us,rfl,hb,hBl,hul,hut,_,_⟩:=own_bl hO (fun e=>by rw [e] at hlt; simp at hlt)
  repeat (first | refine zf rfl (Yld.cap insU rfl) ?_ | refine zd ?_ | refine zb ?_ | refine ze ?_ | refine za ?_ | refine zr ?_ | refine zf rfl (Yld.add rfl rfl (by simp only [In]; omega)) ?_ | refine zf rfl (Yld.sub rfl rfl (by simp only [In]; omega)) ?_ | refine zf rfl (zg qB rfl) ?_ | refine zu ?_ | refine zi ?_)
  refine zp rfl (fun h=>?_) (fun h=>?_)
  ·
   have h2:=of_decide_eq_true h
   repeat (first | refine zf rfl (Yld.sl0 (h:=k) qB rfl rfl rfl (by omega)) ?_ | refine zd ?_ | refine zb ?_ | refine ze ?_ | refine za ?_ | refine zr ?_ | refine zf rfl (Yld.add rfl rfl (by simp only [In]; omega)) ?_ | refine zf rfl (Yld.sub rfl rfl (by simp only [In]; omega)) ?_ | refine zf rfl (zg qB rfl) ?_ | refine zu ?_ | refine zi ?_)
   refine WL.putw qS rfl (Eff.appendZ (m:=hs.length+1 - k) insU Tryz.underlying3 (by kernel_rfl) hBl rfl (congrArg (fun z=>some (Value.int .i64 z)) (by omega)) (by omega) (by omega) (by omega) (by omega)) ?_
   rintro _ w2 ⟨G,zs,rfl,hG1,hG2,hzl,hB2,hg2⟩
   obtain ⟨g2,hg2e⟩:∃ g2,g2=w.heap.size:=⟨_,rfl⟩
   rw [<-hg2e] at hB2 |-
   rw [show k+(hs.length+1 - k)=hs.length+1 by omega] at hG1 |-
   repeat (first | refine zf rfl (qA (l:=k) qB rfl rfl rfl (by omega) (by omega) (by omega)) ?_ | refine zd ?_ | refine zb ?_ | refine ze ?_ | refine za ?_ | refine zr ?_ | refine zf rfl (Yld.add rfl rfl (by simp only [In]; omega)) ?_ | refine zf rfl (Yld.sub rfl rfl (by simp only [In]; omega)) ?_ | refine zf rfl (zg qB rfl) ?_ | refine zu ?_ | refine zi ?_)
   have hY2:=hY.grown hg2
   obtain ⟨gy,uy,hye,_,hBy,_,huy,_,_⟩:=own_bl hY2 (by simp)
   obtain rfl:gv=gy:=by injection hye with e; injection e
   refine WL.putw qS rfl (Eff.copyB (vals:=[vv x]) insU (by kernel_rfl) hB2 rfl rfl (by simp [Nat.min_def]; omega) (fun j v hj=>?_) (by simp; omega) (fun v hv=>?_)) ?_
   ·obtain ⟨rfl,rfl⟩:j=0/\v=vv x:=by
     cases j with
     | zero=>simpa using hj.symm
     | succ j=>simp at hj
    rw [Addr.add_lit,hBy.cell]
    have:=congrArg (fun l=>l[0]?) huy
    simpa using this
   ·rw [List.mem_singleton.1 hv]; exact x.1.2
   rintro _ w3 ⟨rfl,hB3,hg3⟩
   repeat (first | refine zd ?_ | refine zb ?_ | refine ze ?_ | refine za ?_ | refine zr ?_ | refine zf rfl (Yld.add rfl rfl (by simp only [In]; omega)) ?_ | refine zf rfl (Yld.sub rfl rfl (by simp only [In]; omega)) ?_ | refine zf rfl (zg qB rfl) ?_ | refine zu ?_ | refine zi ?_)
   have hO3:=(hO.grown hg2).keep hg3 (fun q hq e=>by injection hq with hq; have:=hO.lt e; omega)
   obtain ⟨g',us',hge,_,hBs,hul',hut',_,_⟩:=own_bl hO3 (fun e=>by rw [e] at hlt; simp at hlt)
   obtain rfl:g=g':=by injection hge with e; injection e
   refine WC.tail 8 jg (by kernel_rfl) ?_
   repeat (first | refine z5 rfl (qA (l:=k+1) qB rfl rfl rfl (by omega) (by omega) (by omega)) ?_ | refine z5 rfl (qA (l:=k) qB rfl rfl rfl (by omega) (by omega) (by omega)) ?_ | refine z5 rfl (Yld.add rfl rfl (by simp only [In]; omega)) ?_ | refine z5 rfl (zg qB rfl) ?_)
   refine WQ.tail ?_
   have hdl:((hs.drop k).map vv).length=hs.length - k:=by simp
   refine WL.putw qS rfl (Eff.copyB (vals:=(hs.drop k).map vv) insU (by kernel_rfl) hB3 rfl rfl (by rw [hdl]; exact (Nat.min_eq_left (by omega)).symm) (fun j v hj=>by rw [Addr.add_lit,hBs.cell]; exact cellD hut' hj) (by simp; omega) (fun v hv=>by obtain ⟨y,_,rfl⟩:=List.mem_map.1 hv; exact y.1.2)) ?_
   rintro _ w4 ⟨rfl,hB4,hg4⟩
   repeat (first | refine zd ?_ | refine zb ?_ | refine ze ?_ | refine za ?_ | refine zr ?_ | refine zf rfl (Yld.add rfl rfl (by simp only [In]; omega)) ?_ | refine zf rfl (Yld.sub rfl rfl (by simp only [In]; omega)) ?_ | refine zf rfl (zg qB rfl) ?_ | refine zu ?_ | refine zi ?_)
   have hO4:=bl_own (B:=B) (hs:=hs.take k++[x]++hs.drop k) (c:=G) hB4 (by omega) (by simp; omega) (by
    have:=lay3 (P:=us.take k) (zs:=zs) (D:=(hs.drop k).map vv) (v:=vv x) (k:=k) (by simp; omega) _ rfl
    rw [hdl,show k+1+(hs.length - k)=hs.length+1 by omega] at this
    have el:(hs.take k++[x]++hs.drop k).length=hs.length+1:=by simp; omega
    rw [el,hdl]
    simp only [List.length_singleton]
    rw [show k+1+(hs.length - k)=hs.length+1 by omega,this]
    have:us.take k=(hs.take k).map vv:=by rw [List.map_take,<-hut,List.take_take,Nat.min_eq_left hk]
    rw [this]
    simp) (by simp; omega) hG2
   exact zM rfl rfl ⟨_,G,by rw [show (hs.take k++[x]++hs.drop k).length=hs.length+1 by simp; omega],hO4,gr_some (gr_new hg2 (qC hg3 hg4) (by omega)) _,fun g' e=>.inr (by have e:some g2=some g':=e; injection e with e; omega)⟩
  ·
   have h2:=of_decide_eq_false h
   repeat (first | refine zf rfl (Yld.sl0 (h:=hs.length+1) qB rfl rfl rfl (by omega)) ?_ | refine zd ?_ | refine zb ?_ | refine ze ?_ | refine za ?_ | refine zr ?_ | refine zf rfl (Yld.add rfl rfl (by simp only [In]; omega)) ?_ | refine zf rfl (Yld.sub rfl rfl (by simp only [In]; omega)) ?_ | refine zf rfl (zg qB rfl) ?_ | refine zu ?_ | refine zi ?_)
   obtain ⟨gy,uy,hye,_,hBy,_,huy,hy1,_⟩:=own_bl hY (by simp)
   obtain rfl:gv=gy:=by injection hye with e; injection e
   have hgne:gv≠g:=fun e=>hne (by rw [e]; rfl)
   repeat (first | refine zf rfl (qA (l:=k+1) qB rfl rfl rfl (by omega) (by omega) (by omega)) ?_ | refine zd ?_ | refine zb ?_ | refine ze ?_ | refine za ?_ | refine zr ?_ | refine zf rfl (Yld.add rfl rfl (by simp only [In]; omega)) ?_ | refine zf rfl (Yld.sub rfl rfl (by simp only [In]; omega)) ?_ | refine zf rfl (zg qB rfl) ?_ | refine zu ?_ | refine zi ?_)
   refine zf rfl (Yld.ovl Tryz.func159 (by kernel_rfl) (by kernel_rfl) (by kernel_rfl) (by kernel_rfl) insU (by kernel_rfl) hBy hBl hgne (fun e=>by rw [e] at hul; simp at hul; omega) rfl rfl) ?_
   repeat (first | refine zd ?_ | refine zb ?_ | refine ze ?_ | refine za ?_ | refine zr ?_ | refine zf rfl (Yld.add rfl rfl (by simp only [In]; omega)) ?_ | refine zf rfl (Yld.sub rfl rfl (by simp only [In]; omega)) ?_ | refine zf rfl (zg qB rfl) ?_ | refine zu ?_ | refine zi ?_)
   refine zp rfl (fun _=>?_) (fun h=>absurd h (by simp))
   repeat refine zd ?_
   refine WC.tail 8 jg (by kernel_rfl) ?_
   repeat (first | refine z5 rfl (qA (l:=k+1) qB rfl rfl rfl (by omega) (by omega) (by omega)) ?_ | refine z5 rfl (qA (l:=k) qB rfl rfl rfl (by omega) (by omega) (by omega)) ?_ | refine z5 rfl (Yld.add rfl rfl (by simp only [In]; omega)) ?_ | refine z5 rfl (zg qB rfl) ?_)
   refine WQ.tail ?_
   have hdl:((hs.drop k).map vv).length=hs.length - k:=by simp
   refine WL.putw qS rfl (Eff.copyB (vals:=(hs.drop k).map vv) insU (by kernel_rfl) hBl rfl rfl (by rw [hdl]; refine Eq.trans ?_ (Nat.min_eq_right (by omega)).symm; omega) (fun j v hj=>by rw [Addr.add_lit,hBl.cell]; exact cellD hut hj) (by omega) (fun v hv=>by obtain ⟨y,_,rfl⟩:=List.mem_map.1 hv; exact y.1.2)) ?_
   rintro _ w2 ⟨rfl,hB2,hg2⟩
   repeat (first | refine zf rfl (qA (l:=k) qB rfl rfl rfl (by omega) (by omega) (by omega)) ?_ | refine zd ?_ | refine zb ?_ | refine ze ?_ | refine za ?_ | refine zr ?_ | refine zf rfl (Yld.add rfl rfl (by simp only [In]; omega)) ?_ | refine zf rfl (Yld.sub rfl rfl (by simp only [In]; omega)) ?_ | refine zf rfl (zg qB rfl) ?_ | refine zu ?_ | refine zi ?_)
   have hY2:=hY.keep hg2 (fun q hq e=>hgne (by have e':some gv=some q:=e; injection hq with hq; injection e' with e'; omega))
   obtain ⟨gy,uy2,hye,_,hBy2,_,huy2,_,_⟩:=own_bl hY2 (by simp)
   obtain rfl:gv=gy:=by injection hye with e; injection e
   refine WL.putw qS rfl (Eff.copyB (vals:=[vv x]) insU (by kernel_rfl) hB2 rfl rfl (by simp [Nat.min_def]; omega) (fun j v hj=>?_) (by simp; omega) (fun v hv=>?_)) ?_
   ·obtain ⟨rfl,rfl⟩:j=0/\v=vv x:=by
     cases j with
     | zero=>simpa using hj.symm
     | succ j=>simp at hj
    rw [Addr.add_lit,hBy2.cell]
    have:=congrArg (fun l=>l[0]?) huy2
    simpa using this
   ·rw [List.mem_singleton.1 hv]; exact x.1.2
   rintro _ w3 ⟨rfl,hB3,hg3⟩
   repeat (first | refine ze ?_ | refine za ?_ | refine zd ?_ | refine zb ?_ | refine zf rfl (zg qB rfl) ?_ | refine zu ?_ | refine zi ?_)
   have hO4:=bl_own (B:=B) (hs:=hs.take k++[x]++hs.drop k) (c:=c) hB3 hb (by simp; omega) (by
    have:=lay4 (us:=us) (D:=(hs.drop k).map vv) (v:=vv x) (k:=k) (by omega) _ rfl
    rw [hdl,show k+1+(hs.length - k)=hs.length+1 by omega] at this
    have el:(hs.take k++[x]++hs.drop k).length=hs.length+1:=by simp; omega
    rw [el,hdl]
    simp only [List.length_singleton]
    rw [show k+1+(hs.length - k)=hs.length+1 by omega,this]
    have:us.take k=(hs.take k).map vv:=by rw [List.map_take,<-hut,List.take_take,Nat.min_eq_left hk]
    rw [this]
    simp) (by simp; omega) hmax
   exact zM rfl rfl ⟨_,c,by rw [show (hs.take k++[x]++hs.drop k).length=hs.length+1 by simp; omega],hO4,qC hg2 hg3,fun g' e=>.inl e⟩
set_option maxHeartbeats 8000000 in
theorem del_fn {w:World} {B k c:Nat} {j:Int} {A:Option Addr} {hs:List VH} (hO:Own vv w B 32 A c hs) (hk:k<hs.length) (hj:j=(k:Int)+1) :
  Fn Tryz.prog 104 ⟨[.slice A hs.length c,.int .i64 (k:Int),.int .i64 j]⟩ w (fun v w'=>v=.slice A (hs.take k++hs.drop (k+1)).length c/\Own vv w' B 32 A c (hs.take k++hs.drop (k+1))/\w.grownBy w' (blk A)):=by
 subst hj
 have hcap:=hO.rd.cap
 have hmax:=hO.rd.max
 obtain ⟨g,us,rfl,hb,hBl,hul,hut,_,_⟩:=own_bl hO (fun e=>by rw [e] at hk; simp at hk)
 refine Fn.enter (by kernel_rfl) Tryz.func104 rfl Tryz.ntmps104 rfl ?_
 repeat (first | refine zf rfl (Yld.sl3 qB rfl rfl rfl rfl rfl (by omega) (by omega) (by omega) (by omega)) ?_ | refine zd ?_ | refine zb ?_ | refine ze ?_ | refine za ?_ | refine zr ?_ | refine zf rfl (Yld.add rfl rfl (by simp only [In]; omega)) ?_ | refine zf rfl (Yld.sub rfl rfl (by simp only [In]; omega)) ?_ | refine zf rfl (zg qB rfl) ?_ | refine zu ?_ | refine zi ?_)
 refine zp rfl (fun h=>absurd (of_decide_eq_true h) (by omega)) (fun _=>?_)
 repeat (first | refine zd ?_ | refine zb ?_ | refine ze ?_ | refine za ?_ | refine zr ?_ | refine zf rfl (Yld.add rfl rfl (by simp only [In]; omega)) ?_ | refine zf rfl (Yld.sub rfl rfl (by simp only [In]; omega)) ?_ | refine zf rfl (zg qB rfl) ?_ | refine zu ?_ | refine zi ?_)
 refine WC.tail 6 jg (by kernel_rfl) ?_
 repeat (first | refine z5 rfl (Yld.sl0 (h:=k) qB rfl rfl rfl (by omega)) ?_ | refine z5 rfl (Yld.slG (l:=k+1) qB rfl rfl rfl (by omega) (by omega)) ?_ | refine z5 rfl (Yld.add rfl rfl (by simp only [In]; omega)) ?_ | refine z5 rfl (zg qB rfl) ?_)
 refine WQ.tail ?_
 have hdl:((hs.drop (k+1)).map vv).length=hs.length - (k+1):=by simp
 refine WL.putw qS rfl (Eff.appendI (vals:=(hs.drop (k+1)).map vv) insU (by kernel_rfl) hBl rfl rfl hdl (fun j v hj=>?_) (by omega) hul (fun v hv=>by obtain ⟨y,_,rfl⟩:=List.mem_map.1 hv; exact y.1.2)) ?_
 ·have hlt:j<((hs.drop (k+1)).map vv).length:=(List.getElem?_eq_some_iff.1 hj).1
  rw [if_neg (by omega),Addr.add_lit,hBl.cell]
  exact cellD hut hj
 rintro _ w2 ⟨rfl,hB2,hg2⟩
 have hl2:(us.take k++(hs.drop (k+1)).map vv++us.drop (k+((hs.drop (k+1)).map vv).length)).length=c:=by simp; omega
 have ht2:(us.take k++(hs.drop (k+1)).map vv++us.drop (k+((hs.drop (k+1)).map vv).length)).take (hs.length - 1)=us.take k++(hs.drop (k+1)).map vv:=List.take_left' (by simp; omega)
 generalize us.take k++(hs.drop (k+1)).map vv++us.drop (k+((hs.drop (k+1)).map vv).length)=us2 at hB2 hl2 ht2
 rw [show k+(hs.length - (k+1))=hs.length - 1 by omega]
 repeat (first | refine zd ?_ | refine zb ?_ | refine ze ?_ | refine za ?_ | refine zr ?_ | refine zf rfl (Yld.add rfl rfl (by simp only [In]; omega)) ?_ | refine zf rfl (Yld.sub rfl rfl (by simp only [In]; omega)) ?_ | refine zf rfl (zg qB rfl) ?_ | refine zu ?_ | refine zi ?_)
 repeat (first | refine zf rfl (Yld.slH (l:=hs.length - 1) (h:=hs.length) qB rfl rfl rfl rfl (by omega) (by omega) (by omega)) ?_ | refine zd ?_ | refine zb ?_ | refine ze ?_ | refine za ?_ | refine zr ?_ | refine zf rfl (Yld.add rfl rfl (by simp only [In]; omega)) ?_ | refine zf rfl (Yld.sub rfl rfl (by simp only [In]; omega)) ?_ | refine zf rfl (zg qB rfl) ?_ | refine zu ?_ | refine zi ?_)
 refine WL.clearB (z:=.nilIface) insU (fun _=>by kernel_rfl) rfl rfl hB2 rfl (by omega) (by omega) (fun w3 hB3 hg3=>?_)
 repeat (first | refine ze ?_ | refine za ?_ | refine zd ?_ | refine zb ?_ | refine zf rfl (zg qB rfl) ?_ | refine zu ?_ | refine zi ?_)
 have el:(hs.take k++hs.drop (k+1)).length=hs.length - 1:=by simp; omega
 have hO3:=bl_own (B:=B) (hs:=hs.take k++hs.drop (k+1)) (c:=c) hB3 hb (by simp; omega) (by
  rw [el,List.append_assoc,List.take_left' (by simp; omega),ht2]
  have:us.take k=(hs.take k).map vv:=by rw [List.map_take,<-hut,List.take_take,Nat.min_eq_left (by omega)]
  rw [this]
  simp) (by omega) hmax
 exact zM rfl rfl ⟨by rw [el],hO3,qC hg2 hg3⟩
theorem ins_v {w:World} {B BY n m c cv:Nat} {k:Int} {A A2:Option Addr} {hs:List VH} {x:VH} (hO:Own vv w B 32 A c hs) (hn:n=hs.length) (hY:Own vv w BY 32 A2 cv [x]) (hm:m=1) (hd:Dj (blk A2) (blk A)) (h0:0<=k) (h1:k<=hs.length) (hl:hs.length<=1000000) (hB:B<=w.heap.size) :
  Fn Tryz.prog 101 ⟨[.slice A n c,.int .i64 k,.slice A2 m cv]⟩ w (fun v w'=>∃ A' c',v=.slice A' (hs.take k.toNat++[x]++hs.drop k.toNat).length c'/\Own vv w' B 32 A' c' (hs.take k.toNat++[x]++hs.drop k.toNat)/\w.grownBy w' (blk A)/\∀ g,blk A'=some g->blk A=some g∨w.heap.size<=g):=by
 subst hn
 subst hm
 obtain ⟨k,rfl⟩:=Int.eq_ofNat_of_zero_le h0
 obtain ⟨gv,_,rfl,_⟩:=own_bl hY (by simp)
 exact ins_fn hO hY (by omega) hl (fun e=>hd gv rfl e) hB
theorem del_v {w:World} {B n c:Nat} {k j:Int} {A:Option Addr} {hs:List VH} (hO:Own vv w B 32 A c hs) (hn:n=hs.length) (h0:0<=k) (h1:k<hs.length) (hj:j=k+1) :
  Fn Tryz.prog 104 ⟨[.slice A n c,.int .i64 k,.int .i64 j]⟩ w (fun v w'=>∃ A' c',v=.slice A' (hs.take k.toNat++hs.drop (k.toNat+1)).length c'/\Own vv w' B 32 A' c' (hs.take k.toNat++hs.drop (k.toNat+1))/\w.grownBy w' (blk A)/\∀ g,blk A'=some g->blk A=some g∨w.heap.size<=g):=by
 subst hn
 obtain ⟨k,rfl⟩:=Int.eq_ofNat_of_zero_le h0
 exact (del_fn hO (by omega) hj).mono fun v w' ⟨a,b,d⟩=>⟨A,c,a,b,d,fun g e=>.inl e⟩
theorem W_num_OfD {w:World} {n:Int} {K:Int->Nat->Prop} (H:M_num_Of n K):Fn Tryz.prog 37 ⟨[.int .i64 n]⟩ w (fun v w'=>w.grownBy w' none/\∃ (a b:Value) (z:Int) (m:Nat),v=.agg ⟨[a,b]⟩/\Nm w' (.agg ⟨[a,b]⟩) z m/\a.oneCell'=true/\b.oneCell'=true/\(∀ p:Option Nat,Lt p w.heap.size->NmD (.agg ⟨[a,b]⟩) p)/\K z m) :=
 (of_fn' n w H.1 H.2.1).mono fun v w' ⟨hN,hg,hL⟩=>by
  obtain ⟨a,b,rfl,ha,hb⟩:=hN.agg
  exact ⟨hg,a,b,n,3,rfl,hN,ha,hb,fun p hp neg A c l e _ g hg' e2=>by have:=hL neg A l.length c e g hg'; have:=hp g e2; omega,H.2.2⟩
end
 end Go.Proofs.YtjoepdjeekadcaaGreatDoor
