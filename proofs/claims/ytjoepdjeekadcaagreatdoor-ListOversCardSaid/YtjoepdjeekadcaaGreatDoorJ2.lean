/- Texts of this claim, joined by a program: Map, Mut, Pool, Deep, DeepO, Num0, Num1, Num2, Num3, Num4, Dig, Pv, Num5, Num6, Num7, Num8, Num9, Num10, Num11, Ord, Num12, Num13, Num14, Rev, Num15, NumA, Ifc. -/
import Derived.Test.YtjoepdjeekadcaaGreatDoorJ1
import Derived.Maps.RangeRun
import Derived.Maps.Keyed
import Derived.Carry
import Derived.StringKeys
namespace Go.Proofs.YtjoepdjeekadcaaGreatDoor

section
open Go Go.RowKit Go.MapKept Go.ChangeMaps
open Go.Maps (Keyed)
section
variable {κ ν:Type} [DecidableEq κ]
def mget:List (κ × ν)->κ->Option ν
 | [],_=>none
 | p :: m,k=>if p.1=k then some p.2 else mget m k
def mput:List (κ × ν)->κ->ν->List (κ × ν)
 | [],k,v=>[(k,v)]
 | p :: m,k,v=>if p.1=k then (k,v) :: m else p :: mput m k v
def Uq (m:List (κ × ν)):Prop:=(m.map (·.1)).Nodup
theorem mget_none {m:List (κ × ν)} {k:κ}:mget m k=none↔∀ p∈m,p.1≠k:=by
 induction m with
 | nil=>simp [mget]
 | cons p m ih =>
  unfold mget
  split
  ·rename_i h; simp [h]
  ·rename_i h; rw [ih]; simp [h]
theorem mget_mput (m:List (κ × ν)) (k k':κ) (v:ν):mget (mput m k v) k'=if k=k' then some v else mget m k':=by
 induction m with
 | nil=>simp [mget,mput]
 | cons p m ih =>
  unfold mput
  split
  ·rename_i h
   subst h
   unfold mget
   split <;> simp_all
  ·rename_i h
   unfold mget
   rw [ih]
   split
   ·rename_i h2
    subst h2
    rw [if_neg (Ne.symm h)]
   ·rfl
theorem mget_mem {m:List (κ × ν)} {k:κ} {v:ν} (hu:Uq m):mget m k=some v↔(k,v)∈m:=by
 induction m with
 | nil=>simp [mget]
 | cons p m ih =>
  have hu':=List.nodup_cons.1 hu
  unfold mget
  split
  ·rename_i h
   subst h
   rw [Option.some.injEq,List.mem_cons]
   constructor
   ·rintro rfl; exact .inl rfl
   ·rintro (h | h)
    ·exact (congrArg Prod.snd h).symm
    ·exact absurd (List.mem_map.2 ⟨_,h,rfl⟩) hu'.1
  ·rename_i h
   rw [ih hu'.2,List.mem_cons]
   constructor
   ·exact .inr
   ·rintro (h2 | h2)
    ·exact absurd (congrArg Prod.fst h2).symm h
    ·exact h2
theorem mput_keys (m:List (κ × ν)) (k:κ) (v:ν):(mput m k v).map (·.1)=if (mget m k).isSome then m.map (·.1) else m.map (·.1)++[k]:=by
 induction m with
 | nil=>simp [mget,mput]
 | cons p m ih =>
  unfold mput mget
  split
  ·rename_i h; simp [h]
  ·rw [List.map_cons,ih,List.map_cons]
   split <;> rfl
theorem Uq.put {m:List (κ × ν)} (h:Uq m) (k:κ) (v:ν):Uq (mput m k v):=by
 unfold Uq at *
 rw [mput_keys]
 split
 ·exact h
 ·rename_i hn
  have:mget m k=none:=by simpa using hn
  rw [List.nodup_append]
  refine ⟨h,by simp,fun a ha b hb=>?_⟩
  obtain ⟨p,hp,rfl⟩:=List.mem_map.1 ha
  simp only [List.mem_cons,List.not_mem_nil,or_false] at hb
  subst hb
  exact mget_none.1 this p hp
end
structure KeyF {κ:Type} (P:Program) (k:TypeId) (fk:κ->Value) (ok:κ->Prop):Prop where
 check:∀ (w:World) (em:Bool) (x:κ),ok x->(Instr.checkKey em 10000 k (fk x)).run P w=.ok () w
 find:∀ (w:World) (x:κ),ok x->∀ es:List MapEntry,(∀ e∈es,∃ y,ok y/\e.key=fk y) ->
  ((Instr.findKey k (fk x) es).run P w=.ok none w/\∀ e∈es,e.key≠fk x)∨∃ j e,(Instr.findKey k (fk x) es).run P w=.ok (some (j,e.val)) w/\es[j]? = some e/\e.key=fk x
 stays:∀ (w:World) (x:κ),ok x->(Instr.keyThatStays (fk x) (fk x)).run P w=.ok (fk x) w
 inj:∀ x y,ok x->ok y->fk x=fk y->x=y
structure KeyW {κ:Type} (P:Program) (k:TypeId) (fk:κ->Value) (ok:κ->Prop) (w:World):Prop where
 check:∀ (em:Bool) (x:κ),ok x->(Instr.checkKey em 10000 k (fk x)).run P w=.ok () w
 find:∀ (x:κ),ok x->∀ es:List MapEntry,(∀ e∈es,∃ y,ok y/\e.key=fk y) ->
  ((Instr.findKey k (fk x) es).run P w=.ok none w/\∀ e∈es,e.key≠fk x)∨∃ j e,(Instr.findKey k (fk x) es).run P w=.ok (some (j,e.val)) w/\es[j]? = some e/\e.key=fk x
 stays:∀ (x:κ),ok x->(Instr.keyThatStays (fk x) (fk x)).run P w=.ok (fk x) w
 inj:∀ x y,ok x->ok y->fk x=fk y->x=y
theorem KeyF.at {κ:Type} {P:Program} {k:TypeId} {fk:κ->Value} {ok:κ->Prop} (K:KeyF P k fk ok) (w:World):KeyW P k fk ok w:=⟨K.check w,K.find w,K.stays w,K.inj⟩
theorem KeyF.of {κ:Type} {P:Program} {k:TypeId} {fk:κ->Value} {ok:κ->Prop} (K:Keyed P k) (key:∀ x,ok x->∃ l,keyOf P k (fk x)=some l) (inj:∀ x y,ok x->ok y->fk x=fk y->x=y):KeyF P k fk ok where
 check w em x hx:=by obtain ⟨l,hl⟩:=key x hx; exact K.check w em hl
 find w x hx es he:=by
  obtain ⟨l,hl⟩:=key x hx
  refine K.find w hl es fun e he'=>?_
  obtain ⟨y,hy,e'⟩:=he e he'
  obtain ⟨l',hl'⟩:=key y hy
  exact ⟨l',by rw [e']; exact hl'⟩
 stays w x hx:=by obtain ⟨l,hl⟩:=key x hx; exact K.stays w hl
 inj:=inj
def okS (s:List UInt8):Prop:=s.length<=maxLen
def MapB {κ ν:Type} (fk:κ->Value) (ok:κ->Prop) (fv:ν->Value) (w:World) (b:Nat) (m:List (κ × ν)):Prop :=
 ∃ es clock,w.heap[b]? = some (.map es clock)/\Stamped es clock/\es.size<=maxLen/\(∀ p∈m,ok p.1)/\es.toList.map (fun e=>(e.key,e.val))=m.map fun p=>(fk p.1,fv p.2)
section
variable {κ ν:Type} {P:Program} {k e t:TypeId} {fk:κ->Value} {ok:κ->Prop} {fv:ν->Value} {w w':World} {b:Nat} {m:List (κ × ν)} {row:Option Nat}
theorem MapB.lt (h:MapB fk ok fv w b m):b<w.heap.size:=by
 obtain ⟨es,clock,hb,_⟩:=h
 exact (Array.getElem?_eq_some_iff.1 hb).1
theorem MapB.lt' (h:MapB fk ok fv w b m):Lt (some b) w.heap.size:=Lt.box h.lt
theorem MapB.go (h:MapB fk ok fv w b m) (hg:w.grownBy w' row) (hd:Dj (some b) row):MapB fk ok fv w' b m:=by
 have hlt:=h.lt
 obtain ⟨es,clock,hb,r⟩:=h
 exact ⟨es,clock,(hg.block b hlt (fun e=>hd b rfl e.symm)).trans hb,r⟩
theorem MapB.g0 (h:MapB fk ok fv w b m) (hg:w.grownBy w' none):MapB fk ok fv w' b m:=h.go hg Dj.nr
theorem MapB.eqv (hw:Eqv w w') (h:MapB fk ok fv w b m):MapB fk ok fv w' b m:=h.g0 (jo (jH w none) hw)
theorem MapB.len (h:MapB fk ok fv w b m):m.length<=maxLen:=by
 obtain ⟨es,clock,_,_,hs,_,he⟩:=h
 have:=congrArg List.length he
 simp at this
 omega
theorem MapB.uq (h:MapB fk ok fv w b m):Uq m:=by
 obtain ⟨es,clock,_,hst,_,_,he⟩:=h
 have h1:es.toList.map (·.key)=(m.map (·.1)).map fk:=by
  have:=congrArg (List.map Prod.fst) he
  simpa [Function.comp_def] using this
 have h2:=hst.2.2
 rw [h1] at h2
 unfold Uq
 rw [List.nodup_iff_pairwise_ne,List.pairwise_map] at h2
 rw [List.nodup_iff_pairwise_ne]
 exact h2.imp fun h e=>h (by rw [e])
variable [DecidableEq κ]
theorem MapB.find {es:Array MapEntry} {w:World} (K:KeyW P k fk ok w) (hst:Uq m) (hok:∀ p∈m,ok p.1) (he:es.toList.map (fun e=>(e.key,e.val))=m.map fun p=>(fk p.1,fv p.2)) {q:κ} (hq:ok q) :
  ((Instr.findKey k (fk q) es.toList).run P w=.ok none w/\mget m q=none/\∀ x∈es.toList,x.key≠fk q)∨∃ j v e0,(Instr.findKey k (fk q) es.toList).run P w=.ok (some (j,fv v)) w/\mget m q=some v/\m[j]? = some (q,v)/\es.toList[j]? = some e0/\e0.key=fk q:=by
 have hget:∀ (j:Nat),(es.toList[j]?).map (fun e=>(e.key,e.val))=(m[j]?).map fun p=>(fk p.1,fv p.2):=fun j=>by
  have:=congrArg (fun l=>l[j]?) he
  simpa using this
 rcases K.find q hq es.toList (fun e he'=>by
  obtain ⟨j,hj,rfl⟩:=List.getElem_of_mem he'
  have h1:=hget j
  rw [List.getElem?_eq_getElem hj] at h1
  simp only [Option.map_some] at h1
  obtain ⟨p,hp,hpe⟩:=Option.map_eq_some_iff.1 h1.symm
  exact ⟨p.1,hok p (List.mem_of_getElem? hp),(congrArg Prod.fst hpe).symm⟩) with ⟨h1,h2⟩ | ⟨j,e0,h1,h2,h3⟩
 ·refine .inl ⟨h1,mget_none.2 fun p hp hpq=>?_,h2⟩
  obtain ⟨j,hj,rfl⟩:=List.getElem_of_mem hp
  have h4:=hget j
  rw [List.getElem?_eq_getElem hj] at h4
  simp only [Option.map_some] at h4
  obtain ⟨x,hx,hxe⟩:=Option.map_eq_some_iff.1 h4
  have h5:x.key=fk m[j].1:=congrArg Prod.fst hxe
  exact h2 x (List.mem_of_getElem? hx) (by rw [h5,hpq])
 ·have h4:=hget j
  rw [h2] at h4
  simp only [Option.map_some] at h4
  obtain ⟨p,hp,hpe⟩:=Option.map_eq_some_iff.1 h4.symm
  have hpq:p.1=q:=K.inj _ _ (hok p (List.mem_of_getElem? hp)) hq ((congrArg Prod.fst hpe).trans h3)
  have hpv:fv p.2=e0.val:=congrArg Prod.snd hpe
  refine .inr ⟨j,p.2,e0,by rw [hpv]; exact h1,(mget_mem hst).2 (by rw [<-hpq]; exact List.mem_of_getElem? hp),by rw [hp,<-hpq],h2,h3⟩
variable {N:Nat} {L:qO} {ty:TypeId} {pos:String} {af:Array Edge} {dd:Option Tmp} {x y u:Operand}
end
end
 
section
open Go Go.RowKit
structure GrL (ps:List (Option Nat)) (w w':World):Prop where
 os:w'.os=w.os
 tape:w'.tape=w.tape
 output:w'.output=w.output
 size:w.heap.size<=w'.heap.size
 block:∀ i,i<w.heap.size->(∀ p,List.Mem p ps->p≠some i)->w'.heap[i]? = w.heap[i]?
def AllP (Q:Option Nat->Prop) (ps:List (Option Nat)):Prop:=∀ p,List.Mem p ps->Q p
theorem apN {Q:Option Nat->Prop}:AllP Q []:=fun _ h=>by cases h
theorem apC {Q:Option Nat->Prop} {p:Option Nat} {ps:List (Option Nat)} (h:Q p) (t:AllP Q ps):AllP Q (p :: ps):=fun x hx=>by
 cases hx with
 | head=>exact h
 | tail _ hx=>exact t x hx
def InP (ps:List (Option Nat)) (n:Nat) (p:Option Nat):Prop:=∀ g,p=some g->n<=g∨List.Mem (some g) ps
section
variable {ps qs:List (Option Nat)} {p p' q row:Option Nat} {n m:Nat} {a b c w w':World}
theorem InP.ge (h:Ge p n):InP ps n p:=fun g hg=>.inl (h g hg)
theorem InP.mem (h:List.Mem p ps):InP ps n p:=fun _ hg=>.inr (hg ▸ h)
theorem InP.none:InP ps n none:=fun _ h=>by cases h
theorem InP.app (h:InP ps n p) (k:∀ g,p'=some g->p=some g∨m<=g) (hm:n<=m):InP ps n p':=fun g hg=>by
 rcases k g hg with h1 | h1
 ·exact h g h1
 ·exact .inl (Nat.le_trans hm h1)
theorem InP.trans (h:InP qs m p) (k:AllP (InP ps n) qs) (hm:n<=m):InP ps n p:=fun g hg=>by
 rcases h g hg with h1 | h1
 ·exact .inl (Nat.le_trans hm h1)
 ·exact k _ h1 g rfl
theorem InP.toGe (h:InP qs m p) (k:AllP (fun q=>Ge q n) qs) (hm:n<=m):Ge p n:=fun g hg=>by
 rcases h g hg with h1 | h1
 ·exact Nat.le_trans hm h1
 ·exact k _ h1 g rfl
theorem InP.dj (h:InP qs m p) (hq:Lt q m) (k:AllP (Dj q) qs):Dj p q:=fun g hg hqg=>by
 rcases h g hg with h1 | h1
 ·have:=hq g hqg; omega
 ·exact k _ h1 g hqg rfl
theorem InP.dn {α:Type} {xs:List α} (h:InP qs m p) (hq:xs≠[]->Lt q m) (k:AllP (Dn xs q) qs):Dn xs q p:=fun hx g hqg hg=>by
 rcases h g hg with h1 | h1
 ·have:=hq hx g hqg; omega
 ·exact k _ h1 hx g hqg rfl
theorem GrL.refl (w:World):GrL ps w w:=⟨rfl,rfl,rfl,Nat.le_refl _,fun _ _ _=>rfl⟩
theorem GrL.of0 (h:w.grownBy w' none):GrL ps w w':=⟨h.os,h.tape,h.output,h.size,fun i hi _=>h.block i hi (by simp)⟩
theorem GrL.of1 (h:w.grownBy w' row):GrL [row] w w':=⟨h.os,h.tape,h.output,h.size,fun i hi k=>h.block i hi fun e=>k row (List.Mem.head _) e.symm⟩
theorem GrL.toL (h:GrL [] w w'):w.grownBy w' none:=⟨h.os,h.tape,h.output,h.size,fun i hi _=>h.block i hi fun _ hp=>by cases hp⟩
theorem GrL.trans (h:GrL ps a b) (k:GrL ps b c):GrL ps a c :=
 ⟨k.os.trans h.os,k.tape.trans h.tape,k.output.trans h.output,Nat.le_trans h.size k.size,fun i hi hp=>(k.block i (Nat.lt_of_lt_of_le hi h.size) hp).trans (h.block i hi hp)⟩
theorem GrL.modL (h:GrL ps a b) (k:GrL qs b c) (hi:AllP (InP ps a.heap.size) qs):GrL ps a c :=
 ⟨k.os.trans h.os,k.tape.trans h.tape,k.output.trans h.output,Nat.le_trans h.size k.size,fun i hl hp=>(k.block i (Nat.lt_of_lt_of_le hl h.size) fun q hq e=>by
  rcases hi q hq i e with h1 | h1
  ·omega
  ·exact hp _ h1 rfl).trans (h.block i hl hp)⟩
theorem GrL.mod (h:GrL ps a b) (k:b.grownBy c row) (hi:InP ps a.heap.size row):GrL ps a c:=h.modL (GrL.of1 k) (apC hi apN)
theorem GrL.add0 (h:GrL ps a b) (k:b.grownBy c none):GrL ps a c:=h.trans (GrL.of0 k)
theorem qN (h:a.grownBy b none) (k:GrL qs b c) (hi:AllP (fun q=>Ge q a.heap.size) qs):a.grownBy c none :=
 (GrL.modL (ps:=[]) (GrL.of0 h) k fun q hq=>InP.ge (hi q hq)).toL
theorem GrL.eqv (h:GrL ps a b) (k:Eqv b c):GrL ps a c:=h.add0 (jo (jH b none) k)
theorem GrL.sizeL (h:GrL ps a b):a.heap.size<=b.heap.size:=h.size
theorem GrL.cell (h:GrL ps w w') {ad:Addr} {v:Value} (hc:w.cell? ad=some v) (hp:∀ p,List.Mem p ps->p≠some ad.block):w'.cell? ad=some v:=by
 have hlt:=World.block_lt_of_cell? w _ hc
 have:=h.block ad.block hlt hp
 unfold World.cell? at hc |-
 rw [this]; exact hc
variable {α:Type} {f:α->Value} {A:Option Addr} {B cc g k:Nat} {xs:List α} {e:TypeId} {us:List Value} {fk:α->List Value}
theorem Bl.goL (h:Bl w g e us) (hg:GrL ps w w') (hd:AllP (Dj (some g)) ps):Bl w' g e us:=(hg.block g h.lt fun p hp e=>hd p hp g rfl e).trans h
theorem Rd.goL (h:Rd f w A cc xs) (hg:GrL ps w w') (hd:AllP (Dn xs (blk A)) ps):Rd f w' A cc xs :=
 ⟨h.cap,h.max,fun hx=>by
  obtain ⟨ad,rfl,hc⟩:=h.cells hx
  refine ⟨ad,rfl,fun j x hj=>hg.cell (hc j x hj) fun p hp e=>?_⟩
  rw [addr_block] at e
  exact hd p hp hx ad.block rfl e⟩
theorem RdK.goL (h:RdK k fk w A cc xs) (hg:GrL ps w w') (hd:AllP (Dn xs (blk A)) ps):RdK k fk w' A cc xs :=
 ⟨h.ok,h.cap,h.max,fun hx=>by
  obtain ⟨g',o,rfl,hc⟩:=h.cells hx
  refine ⟨g',o,rfl,fun j x i u hj hi=>hg.cell (hc j x i u hj hi) fun p hp e=>?_⟩
  exact hd p hp hx g' rfl e⟩
theorem Own.goL (h:Own f w B e A cc xs) (hg:GrL ps w w') (hd:AllP (Dj (blk A)) ps):Own f w' B e A cc xs:=by
 have hlt:=h.lt'
 unfold Own at h |-
 refine ⟨h.1,?_⟩
 rcases h.2 with h2 | ⟨g,cap,cur,hv,hb,hg',r⟩
 ·exact .inl h2
 ·refine .inr ⟨g,cap,cur,hv,hb,?_,r⟩
  simp only [Value.slice.injEq] at hv
  obtain ⟨rfl,_⟩:=hv
  exact (hg.block g (hlt g rfl) fun p hp e=>hd p hp g rfl e).trans hg'
theorem OwnK.goL (h:OwnK k fk w B e A cc xs) (hg:GrL ps w w') (hd:AllP (Dj (blk A)) ps):OwnK k fk w' B e A cc xs:=by
 have hlt:=h.lt'
 refine ⟨h.1,h.2.1,?_⟩
 rcases h.2.2 with h2 | ⟨g,cap,cur,hv,hb,hg',r⟩
 ·exact .inl h2
 ·refine .inr ⟨g,cap,cur,hv,hb,?_,r⟩
  simp only [Value.slice.injEq] at hv
  obtain ⟨rfl,_⟩:=hv
  exact (hg.block g (hlt g rfl) fun p hp e=>hd p hp g rfl e).trans hg'
theorem MapB.goL {κ ν:Type} {mk:κ->Value} {ok:κ->Prop} {fv:ν->Value} {mm:List (κ × ν)} (h:MapB mk ok fv w g mm) (hg:GrL ps w w') (hd:AllP (Dj (some g)) ps):MapB mk ok fv w' g mm:=by
 have hlt:=h.lt
 obtain ⟨es,clock,hb,r⟩:=h
 exact ⟨es,clock,(hg.block g hlt (fun p hp e=>hd p hp g rfl e)).trans hb,r⟩
variable {S:List Nat}
def GB (S:List Nat) (B:Nat) (w:World):Prop:=∃ W,GOK S W/\W.heap.size<=B/\Below W.heap.size W w
theorem GB.ok (h:GB S B w):GOK S w:=by
 obtain ⟨W,h1,_,h3⟩:=h
 exact h1.grown (gr_below h3 none)
theorem GB.of (h:GOK S w):GB S w.heap.size w:=⟨w,h,Nat.le_refl _,Below.refl _ _⟩
theorem belowL {W:World} {n:Nat} (h3:Below n W w) (hn:n<=B) (hg:GrL ps w w') (hp:AllP (fun p=>Ge p B) ps) (hW:n<=W.heap.size):Below n W w':=by
 refine ⟨hg.os.trans h3.os,hg.tape.trans h3.tape,hg.output.trans h3.output,Nat.le_trans h3.size hg.size,fun i hi=>?_⟩
 refine (hg.block i (Nat.lt_of_lt_of_le (Nat.lt_of_lt_of_le hi hW) h3.size) fun p hm e=>?_).trans (h3.block i hi)
 have:=hp p hm i e
 omega
theorem GB.goL (h:GB S B w) (hg:GrL ps w w') (hp:AllP (fun p=>Ge p B) ps):GB S B w':=by
 obtain ⟨W,h1,h2,h3⟩:=h
 exact ⟨W,h1,h2,belowL h3 h2 hg hp (Nat.le_refl _)⟩
theorem GB.g0 (h:GB S B w) (hg:w.grownBy w' none):GB S B w':=h.goL (ps:=[]) (GrL.of0 hg) apN
theorem GB.mono {B':Nat} (h:GB S B w) (hB:B<=B'):GB S B' w:=by
 obtain ⟨W,h1,h2,h3⟩:=h
 exact ⟨W,h1,Nat.le_trans h2 hB,h3⟩
theorem GB.grown {W:World} (h:GOK S W) (hg:W.grownBy w none):GB S W.heap.size w:=⟨W,h,Nat.le_refl _,below_gr hg⟩
def NoAt (w:World) (p:Option Nat):Prop:=∀ g us,p=some g->¬ Bl w g 302 us
theorem NoAt.bl (h:Bl w g e us) (ht:Nat.beq e 302=false):NoAt w (some g):=fun g' us' hg' hB=>by
 cases hg'
 exact Bl.ne h hB (Nat.ne_of_beq_eq_false ht) rfl
theorem NoAt.own (h:Own f w B e A cc xs) (ht:Nat.beq e 302=false):NoAt w (blk A):=fun g' us' hg' hB=>by
 rcases h.2 with ⟨hv,_⟩ | ⟨g,cap,cur,hv,_,hb,_⟩
 ·simp only [Value.slice.injEq] at hv
  obtain ⟨rfl,_⟩:=hv
  cases hg'
 ·simp only [Value.slice.injEq] at hv
  obtain ⟨rfl,_⟩:=hv
  cases hg'
  exact Bl.ne (us:=cur.toList) hb hB (Nat.ne_of_beq_eq_false ht) rfl
theorem NoAt.map {κ ν:Type} {mk:κ->Value} {ok:κ->Prop} {fv:ν->Value} {mm:List (κ × ν)} (h:MapB mk ok fv w g mm):NoAt w (some g):=fun g' us' hg' hB=>by
 cases hg'
 obtain ⟨es,clock,hb,_⟩:=h
 unfold Bl at hB
 rw [hb] at hB
 cases hB
theorem ErrR.goB {v:Value} {er:Er} (h:ErrR S w v er) (hG:GB S B w) (hg:GrL ps w w') (hp:AllP (fun p=>Ge p B) ps) (hn:AllP (NoAt w) ps):ErrR S w' v er:=by
 have key:∀ {v:Value} {n:Nat},ErV w v n->n∈S->ErV w' v n:=fun {v n} hv hS=>by
  obtain ⟨W,h1,h2,h3⟩:=hG
  obtain ⟨u,hu⟩:=h1.er n hS hv.lt
  rw [ErV.uniq hv (hu.grown (gr_below h3 none))]
  exact hu.grown (gr_below (belowL h3 h2 hg hp (Nat.le_refl _)) none)
 cases er with
 | ok=>exact h
 | e n=>exact ⟨key h.1 h.2,h.2⟩
 | at_ pos n =>
  obtain ⟨b,u,k1,k2,k3,k4⟩:=h
  exact ⟨b,u,k1,k2.goL hg fun p hm g' hg' hpe=>by cases hg'; exact hn p hm _ _ hpe k2,key k3 k4,k4⟩
end
end
 
section
open Go Go.RowKit
section
variable {κ ν μ:Type} [DecidableEq κ]
def mmap (g:ν->μ) (m:List (κ × ν)):List (κ × μ):=m.map fun p=>(p.1,g p.2)
theorem mput_mmap (g:ν->μ) (k:κ) (v:ν):∀ m:List (κ × ν),mput (mmap g m) k (g v)=mmap g (mput m k v)
 | []=>rfl
 | p :: m=>by
  show (if p.1=k then (k,g v) :: mmap g m else (p.1,g p.2) :: mput (mmap g m) k (g v))=mmap g (if p.1=k then (k,v) :: m else p :: mput m k v)
  split
  ·rfl
  ·rw [mput_mmap g k v m]; rfl
theorem mget_keys:∀ {a:List (κ × ν)} {b:List (κ × μ)},a.map (·.1)=b.map (·.1)->∀ k,(mget a k).isSome=(mget b k).isSome
 | [],[],_,_=>rfl
 | [],_ :: _,h,_=>by simp at h
 | _ :: _,[],h,_=>by simp at h
 | p :: a,r :: b,h,k=>by
  simp only [List.map_cons,List.cons.injEq] at h
  unfold mget
  rw [h.1]
  split
  ·rfl
  ·exact mget_keys h.2 k
end
def Lp9 {A0 A1 A2 A3 A4 A5 A6 A7 A8:Type} (b:A0->A1->A2->A3->A4->A5->A6->A7->A8->(A0->A1->A2->A3->A4->A5->A6->A7->A8->Prop)->Prop) (x0:A0) (x1:A1) (x2:A2) (x3:A3) (x4:A4) (x5:A5) (x6:A6) (x7:A7) (x8:A8):Prop:=∃ (I:A0->A1->A2->A3->A4->A5->A6->A7->A8->Prop) (mu:A0->A1->A2->A3->A4->A5->A6->A7->A8->Nat),I x0 x1 x2 x3 x4 x5 x6 x7 x8/\∀ x0 x1 x2 x3 x4 x5 x6 x7 x8,I x0 x1 x2 x3 x4 x5 x6 x7 x8->b x0 x1 x2 x3 x4 x5 x6 x7 x8 fun y0 y1 y2 y3 y4 y5 y6 y7 y8=>I y0 y1 y2 y3 y4 y5 y6 y7 y8/\mu y0 y1 y2 y3 y4 y5 y6 y7 y8<mu x0 x1 x2 x3 x4 x5 x6 x7 x8
abbrev PH:=Nat × Option Nat
def vP (o:Option PH):Value:=.pointer (o.map fun h=>⟨h.1,0,none⟩)
section
variable {ps:List (Option Nat)} {Q:Option Nat->Prop} {n m:Nat} {F qs:List (Option Nat)} {q row:Option Nat} {w:World}
theorem InA.mem (h:∀ p,List.Mem p F->List.Mem p ps):AllP (InP ps n) F:=fun p hp=>InP.mem (h p hp)
theorem InA.ge (h:AllP (fun p=>Ge p n) F):AllP (InP ps n) F:=fun p hp=>InP.ge (h p hp)
theorem InA.trans (h:AllP (InP qs m) F) (k:AllP (InP ps n) qs) (hm:n<=m):AllP (InP ps n) F:=fun p hp=>(h p hp).trans k hm
theorem InA.toGe (h:AllP (InP qs m) F) (k:AllP (fun q=>Ge q n) qs) (hm:n<=m):AllP (fun q=>Ge q n) F:=fun p hp=>(h p hp).toGe k hm
theorem InA.dj (h:AllP (InP qs m) F) (hq:Lt q m) (k:AllP (Dj q) qs):AllP (Dj q) F:=fun p hp=>((h p hp).dj hq k).symm
theorem InA.dn {α:Type} {xs:List α} (h:AllP (InP qs m) F) (hq:xs≠[]->Lt q m) (k:AllP (Dn xs q) qs):AllP (Dn xs q) F:=fun p hp=>(h p hp).dn hq k
end
def FP (m:Nat) (hs:List (List UInt8 × PH)) (q0:Option (List UInt8)):List (Option Nat):=some m :: (hs.filter fun h=>decide (some h.1≠q0)).flatMap fun h=>[some h.2.1,h.2.2]
structure PE (X:Type) where
 rel:World->PH->X->Prop
 goL:∀ {w w':World} {h:PH} {x:X} {ps:List (Option Nat)},rel w h x->GrL ps w w'->AllP (Dj (some h.1)) ps->AllP (Dj h.2) ps->rel w' h x
 lt:∀ {w:World} {h:PH} {x:X},rel w h x->Lt (some h.1) w.heap.size/\Lt h.2 w.heap.size
 isc:Nat->Bool
 sc:X->Nat->Value
 hsc:∀ {w:World} {h:PH} {x:X} {o:Nat},isc o=true->rel w h x->w.cell? ⟨h.1,o,none⟩=some (sc x o)
 noat:∀ {w:World} {h:PH} {x:X},rel w h x->NoAt w (some h.1)/\NoAt w h.2
structure jz {X:Type} (d:PE X) (w:World) (m:Nat) (hs:List (List UInt8 × PH)) (fs:List (List UInt8 × X)) (q0:Option (List UInt8)):Prop where
 map:MapB vs okS vP w m (mmap some hs)
 keys:hs.map (·.1)=fs.map (·.1)
 rel:∀ q h x,mget hs q=some h->mget fs q=some x->some q≠q0->d.rel w h x
 dm:∀ q h,mget hs q=some h->some q≠q0->Dj (some m) (some h.1)/\Dj (some m) h.2
 dd:∀ q q' h h',q≠q'->mget hs q=some h->mget hs q'=some h'->some q≠q0->some q'≠q0->Dj (some h.1) (some h'.1)/\Dj (some h.1) h'.2/\Dj h.2 (some h'.1)/\Dj h.2 h'.2
section
variable {X:Type} {d:PE X} {w w':World} {m:Nat} {hs:List (List UInt8 × PH)} {fs:List (List UInt8 × X)} {q0:Option (List UInt8)} {Q:Option Nat->Prop} {ps:List (Option Nat)} {row p:Option Nat} {q:List UInt8} {x x':X} {b:Nat} {r r':Option Nat}
theorem jz.uq (h:jz d w m hs fs q0):Uq hs:=by
 have:=h.map.uq
 unfold Uq mmap at *
 rw [List.map_map] at this
 exact this
theorem jz.some_iff (h:jz d w m hs fs q0) (q:List UInt8):(mget hs q).isSome=(mget fs q).isSome:=mget_keys h.keys q
theorem allFP (hu:Uq hs):AllP Q (FP m hs q0)↔Q (some m)/\∀ q h,mget hs q=some h->some q≠q0->Q (some h.1)/\Q h.2:=by
 constructor
 ·intro h
  refine ⟨h _ (List.Mem.head _),fun q k hk hq=>?_⟩
  have hm:=(mget_mem hu).1 hk
  have hf:(q,k)∈hs.filter fun h=>decide (some h.1≠q0):=List.mem_filter.2 ⟨hm,by simpa using hq⟩
  exact ⟨h _ (List.Mem.tail _ (List.mem_flatMap.2 ⟨_,hf,by simp⟩)),h _ (List.Mem.tail _ (List.mem_flatMap.2 ⟨_,hf,by simp⟩))⟩
 ·rintro ⟨h1,h2⟩ p hp
  cases hp with
  | head=>exact h1
  | tail _ hp =>
   obtain ⟨k,hk,hp⟩:=List.mem_flatMap.1 hp
   obtain ⟨hm,hq⟩:=List.mem_filter.1 hk
   have h3:=h2 k.1 k.2 ((mget_mem hu).2 hm) (by simpa using hq)
   simp only [List.mem_cons,List.not_mem_nil,or_false] at hp
   rcases hp with rfl | rfl
   ·exact h3.1
   ·exact h3.2
theorem jz.goL (h:jz d w m hs fs q0) (hg:GrL ps w w') (hd:AllP (fun r=>AllP (Dj r) (FP m hs q0)) ps):jz d w' m hs fs q0 :=
 ⟨h.map.goL hg fun p hp=>(((allFP h.uq).1 (hd p hp)).1).symm,h.keys,fun q k x hk hx hq=>d.goL (h.rel q k x hk hx hq) hg (fun p hp=>((((allFP h.uq).1 (hd p hp)).2 q k hk hq).1).symm) (fun p hp=>((((allFP h.uq).1 (hd p hp)).2 q k hk hq).2).symm),h.dm,h.dd⟩
theorem jz.go (h:jz d w m hs fs q0) (hg:w.grownBy w' row) (hd:AllP (Dj row) (FP m hs q0)):jz d w' m hs fs q0:=h.goL (GrL.of1 hg) (apC hd apN)
theorem jz.g0 (h:jz d w m hs fs q0) (hg:w.grownBy w' none):jz d w' m hs fs q0:=h.goL (ps:=[]) (GrL.of0 hg) apN
theorem jz.eqv (hw:Eqv w w') (h:jz d w m hs fs q0):jz d w' m hs fs q0:=h.g0 (jo (jH w none) hw)
theorem jz.lts (h:jz d w m hs fs q0) (hf:(∀ q,(mget hs q).isSome=(mget fs q).isSome)):AllP (fun p=>Lt p w.heap.size) (FP m hs q0):=(allFP h.uq).2 ⟨h.map.lt',fun q k hk hq=>by
 have h1:=hf q
 rw [hk,Option.isSome_some] at h1
 obtain ⟨x,hx⟩:=Option.isSome_iff_exists.1 h1.symm
 exact d.lt (h.rel q k x hk hx hq)⟩
theorem jz.lt' (h:jz d w m hs fs q0):AllP (fun p=>Lt p w.heap.size) (FP m hs q0):=h.lts h.some_iff
theorem jz.new (h:jz d w m hs fs q0) (hp:Ge p w.heap.size):AllP (Dj p) (FP m hs q0):=fun r hr=>(Dj.new (h.lt' r hr) hp).symm
theorem jz.inp (h:jz d w m hs fs q0) (hp:InP ps w.heap.size p) (hd:AllP (fun r=>AllP (Dj r) (FP m hs q0)) ps):AllP (Dj p) (FP m hs q0):=fun r hr=>InP.dj hp (h.lt' r hr) (fun s hs'=>(hd s hs' r hr).symm)
theorem jz.app {p':Option Nat} (h:jz d w m hs fs q0) (k:AllP (Dj p) (FP m hs q0)) (hk:∀ g,p'=some g->p=some g∨w.heap.size<=g):AllP (Dj p') (FP m hs q0):=fun r hr=>Dj.app (k r hr) (h.lt' r hr) hk
theorem jz.open (h:jz d w m hs fs none) (hx:mget fs q=some x):∃ b r,mget hs q=some (b,r)/\d.rel w (b,r) x/\jz d w m hs fs (some q)/\AllP (Dj (some b)) (FP m hs (some q))/\AllP (Dj r) (FP m hs (some q)):=by
 have h1:=h.some_iff q
 rw [hx,Option.isSome_some] at h1
 obtain ⟨⟨b,r⟩,hk⟩:=Option.isSome_iff_exists.1 h1
 have hm:=h.dm q _ hk (by simp)
 refine ⟨b,r,hk,h.rel q _ x hk hx (by simp),⟨h.map,h.keys,fun q' k y hk' hy _=>h.rel q' k y hk' hy (by simp),fun q' k hk' _=>h.dm q' k hk' (by simp),fun q' q2 k k2 hne hk' hk2 _ _=>h.dd q' q2 k k2 hne hk' hk2 (by simp) (by simp)⟩,?_,?_⟩
 ·refine (allFP h.uq).2 ⟨hm.1.symm,fun q' k hk' hq'=>?_⟩
  have:=h.dd q q' _ k (fun e=>hq' (by rw [e])) hk hk' (by simp) (by simp)
  exact ⟨this.1,this.2.1⟩
 ·refine (allFP h.uq).2 ⟨hm.2.symm,fun q' k hk' hq'=>?_⟩
  have:=h.dd q q' _ k (fun e=>hq' (by rw [e])) hk hk' (by simp) (by simp)
  exact ⟨this.2.2.1,this.2.2.2⟩
theorem jz.sub (h:jz d w m hs fs q0) (k:AllP Q (FP m hs none)):AllP Q (FP m hs (some q)):=(allFP h.uq).2 ⟨((allFP h.uq).1 k).1,fun q' k' hk' _=>((allFP h.uq).1 k).2 q' k' hk' (by simp)⟩
theorem jz.at1 (h:jz d w m hs fs q0) (hk:mget hs q=some (b,r)) (k:AllP Q (FP m hs none)):Q (some b):=(((allFP h.uq).1 k).2 q _ hk (by simp)).1
theorem jz.back (h:jz d w m hs fs (some q)) (hk:mget hs q=some (b,r)) (hx:mget fs q=some x) (hr:d.rel w (b,r) x) (h1:AllP (Dj (some b)) (FP m hs (some q))) (h2:AllP (Dj r) (FP m hs (some q))):jz d w m hs fs none:=by
 have hu:=h.uq
 have h1':=(allFP hu).1 h1
 have h2':=(allFP hu).1 h2
 refine ⟨h.map,h.keys,fun q' k y hk' hy _=>?_,fun q' k hk' _=>?_,fun q1 q2 k1 k2 hne hk1 hk2 _ _=>?_⟩
 ·by_cases e:q'=q
  ·subst e; rw [hk] at hk'; rw [hx] at hy; cases hk'; cases hy; exact hr
  ·exact h.rel q' k y hk' hy (fun e2=>e (Option.some.inj e2))
 ·by_cases e:q'=q
  ·subst e; rw [hk] at hk'; cases hk'; exact ⟨h1'.1.symm,h2'.1.symm⟩
  ·exact h.dm q' k hk' (fun e2=>e (Option.some.inj e2))
 ·by_cases e1:q1=q
  ·subst e1
   rw [hk] at hk1; cases hk1
   have e2:some q2≠some q1:=fun e=>hne (Option.some.inj e).symm
   have a:=h1'.2 q2 k2 hk2 e2
   have c:=h2'.2 q2 k2 hk2 e2
   exact ⟨a.1,a.2,c.1,c.2⟩
  ·by_cases e2:q2=q
   ·subst e2
    rw [hk] at hk2; cases hk2
    have e3:some q1≠some q2:=fun e=>hne (Option.some.inj e)
    have a:=h1'.2 q1 k1 hk1 e3
    have c:=h2'.2 q1 k1 hk1 e3
    exact ⟨a.1.symm,c.1.symm,a.2.symm,c.2.symm⟩
   ·exact h.dd q1 q2 k1 k2 hne hk1 hk2 (fun e=>e1 (Option.some.inj e)) (fun e=>e2 (Option.some.inj e))
theorem jz.put (h:jz d w m hs fs none) (hM:MapB vs okS vP w' m (mput (mmap some hs) q (some (b,r)))) (hg:w.grownBy w' (some m)) (hr:d.rel w (b,r) x) (h1:AllP (Dj (some b)) (FP m hs none)) (h2:AllP (Dj r) (FP m hs none)):jz d w' m (mput hs q (b,r)) (mput fs q x) none:=by
 have hu:=h.uq
 have h1':=(allFP hu).1 h1
 have h2':=(allFP hu).1 h2
 have old:∀ {q' k},mget (mput hs q (b,r)) q'=some k->(q'=q/\k=(b,r))∨(q'≠q/\mget hs q'=some k):=fun {q' k} e=>by
  rw [mget_mput] at e
  split at e
  ·rename_i e2; simp only [Option.some.injEq] at e; exact .inl ⟨e2.symm,e.symm⟩
  ·rename_i e2; exact .inr ⟨fun e3=>e2 e3.symm,e⟩
 have hkeys:(mput hs q (b,r)).map (·.1)=(mput fs q x).map (·.1):=by
  rw [mput_keys,mput_keys,h.some_iff q,h.keys]
 rw [mput_mmap] at hM
 refine ⟨hM,hkeys,?_,?_,?_⟩
 ·intro q' k x0 hk' hx _
  rw [mget_mput] at hx
  rcases old hk' with ⟨rfl,rfl⟩ | ⟨hq',hk'⟩
  ·rw [if_pos rfl] at hx
   cases hx
   exact d.goL hr (GrL.of1 hg) (apC h1'.1 apN) (apC h2'.1 apN)
  ·rw [if_neg (fun e=>hq' e.symm)] at hx
   have hm:=h.dm q' k hk' (by simp)
   exact d.goL (h.rel q' k x0 hk' hx (by simp)) (GrL.of1 hg) (apC hm.1.symm apN) (apC hm.2.symm apN)
 ·intro q' k hk' _
  rcases old hk' with ⟨rfl,rfl⟩ | ⟨hq',hk'⟩
  ·exact ⟨h1'.1.symm,h2'.1.symm⟩
  ·exact h.dm q' k hk' (by simp)
 ·intro q1 q2 k1 k2 hne hk1 hk2 _ _
  rcases old hk1 with ⟨rfl,rfl⟩ | ⟨hq1,hj1⟩ <;> rcases old hk2 with ⟨rfl,rfl⟩ | ⟨hq2,hj2⟩
  ·exact absurd rfl hne
  ·have a:=h1'.2 q2 k2 hj2 (by simp)
   have c:=h2'.2 q2 k2 hj2 (by simp)
   exact ⟨a.1,a.2,c.1,c.2⟩
  ·have a:=h1'.2 q1 k1 hj1 (by simp)
   have c:=h2'.2 q1 k1 hj1 (by simp)
   exact ⟨a.1.symm,c.1.symm,a.2.symm,c.2.symm⟩
  ·exact h.dd q1 q2 k1 k2 hne hj1 hj2 (by simp) (by simp)
theorem jz.empty (d:PE X) (h:MapB vs okS vP w m ([]:List (List UInt8 × Option PH))):jz d w m [] [] none:=⟨h,rfl,fun q k x hk=>by simp [mget] at hk,fun q k hk=>by simp [mget] at hk,fun q q' k k' _ hk=>by simp [mget] at hk⟩
theorem FP.nil (h:Q (some m)):AllP Q (FP m [] q0):=by
 unfold FP
 exact apC h apN
variable {P:Program} {N:Nat} {L:qO} {ty t t' k e:TypeId} {pos:String} {af:Array Edge} {dd:Option Tmp} {y z u:Operand}
end
end
 
section
open Go Go.RowKit
structure Hdr where
 A:Option Addr
 n:Nat
 c:Nat
def hd0:Hdr:=⟨none,0,0⟩
def vh (h:Hdr):Value:=.slice h.A h.n h.c
theorem One.h:One vh:=fun _=>rfl
structure DE (H X:Type) where
 rel:World->H->X->Prop
 dn:H->X->Option Nat->Prop
 goL:∀ {w w':World} {h:H} {x:X} {ps:List (Option Nat)},rel w h x->GrL ps w w'->AllP (dn h x) ps->rel w' h x
 new:∀ {w:World} {h:H} {x:X} {p:Option Nat},rel w h x->Ge p w.heap.size->dn h x p
 app:∀ {w:World} {h:H} {x:X} {ps:List (Option Nat)} {p:Option Nat},rel w h x->AllP (dn h x) ps->InP ps w.heap.size p->dn h x p
def DE.sl {α:Type} (f:α->Value):DE Hdr (List α) where
 rel w h x:=h.n=x.length/\Rd f w h.A h.c x
 dn h x p:=Dn x (blk h.A) p
 goL h k a:=⟨h.1,h.2.goL k a⟩
 new h k:=Dn.new (fun hx=>h.2.lt' hx) k
 app h a k:=InP.dn k (fun hx=>h.2.lt' hx) a
def RelD {H X:Type} (d:DE H X) (w:World) (hs:List H) (xs:List X):Prop:=hs.length=xs.length/\∀ (i:Nat) (h:H) (x:X),hs[i]? = some h->xs[i]? = some x->d.rel w h x
def DnD {H X:Type} (d:DE H X) (hs:List H) (xs:List X) (p:Option Nat):Prop:=∀ (i:Nat) (h:H) (x:X),hs[i]? = some h->xs[i]? = some x->d.dn h x p
section
variable {H X:Type} {d:DE H X} {w w':World} {hs hs':List H} {xs xs':List X} {ps:List (Option Nat)} {p:Option Nat} {i:Nat} {h:H} {x:X} {row:Option Nat}
theorem RelD.goL (k:RelD d w hs xs) (hg:GrL ps w w') (a:AllP (DnD d hs xs) ps):RelD d w' hs xs:=⟨k.1,fun i h x hh hx=>d.goL (k.2 i h x hh hx) hg fun p hp=>a p hp i h x hh hx⟩
theorem RelD.go (k:RelD d w hs xs) (hg:w.grownBy w' row) (a:DnD d hs xs row):RelD d w' hs xs:=k.goL (GrL.of1 hg) (apC a apN)
theorem RelD.grown (k:RelD d w hs xs) (hg:w.grownBy w' none):RelD d w' hs xs:=k.goL (ps:=[]) (GrL.of0 hg) apN
theorem RelD.new (k:RelD d w hs xs) (hp:Ge p w.heap.size):DnD d hs xs p:=fun i h x hh hx=>d.new (k.2 i h x hh hx) hp
theorem RelD.inp (k:RelD d w hs xs) (a:AllP (DnD d hs xs) ps) (hp:InP ps w.heap.size p):DnD d hs xs p:=fun i h x hh hx=>d.app (k.2 i h x hh hx) (fun q hq=>a q hq i h x hh hx) hp
theorem RelD.app {p':Option Nat} (k:RelD d w hs xs) (a:DnD d hs xs p) (hk:∀ g,p'=some g->p=some g∨w.heap.size<=g):DnD d hs xs p':=fun i h x hh hx=>d.app (k.2 i h x hh hx) (ps:=[p]) (apC (a i h x hh hx) apN) (InP.app (ps:=[p]) (InP.mem (List.Mem.head _)) hk (Nat.le_refl _))
theorem RelD.nil:RelD d w [] []:=⟨rfl,fun i h x hh=>by simp at hh⟩
theorem DnD.nil:DnD d [] [] p:=fun i h x hh=>by simp at hh
theorem DnD.none (k:RelD d w hs xs):DnD d hs xs none:=k.new Ge.none
theorem RelD.cons (k:d.rel w h x) (t:RelD d w hs xs):RelD d w (h :: hs) (x :: xs):=⟨by simp [t.1],fun i h' x' hh hx=>by
 cases i with
 | zero=>simp only [List.getElem?_cons_zero,Option.some.injEq] at hh hx; subst hh; subst hx; exact k
 | succ i=>exact t.2 i h' x' (by simpa using hh) (by simpa using hx)⟩
theorem DnD.cons (k:d.dn h x p) (t:DnD d hs xs p):DnD d (h :: hs) (x :: xs) p:=fun i h' x' hh hx=>by
 cases i with
 | zero=>simp only [List.getElem?_cons_zero,Option.some.injEq] at hh hx; subst hh; subst hx; exact k
 | succ i=>exact t i h' x' (by simpa using hh) (by simpa using hx)
theorem RelD.append (k:RelD d w hs xs) (t:RelD d w hs' xs'):RelD d w (hs++hs') (xs++xs'):=⟨by simp [k.1,t.1],fun i h x hh hx=>by
 by_cases hi:i<hs.length
 ·rw [List.getElem?_append_left hi] at hh
  rw [List.getElem?_append_left (by rw [<-k.1]; exact hi)] at hx
  exact k.2 i h x hh hx
 ·rw [List.getElem?_append_right (by omega)] at hh
  rw [List.getElem?_append_right (by rw [<-k.1]; omega),<-k.1] at hx
  exact t.2 _ h x hh hx⟩
theorem DnD.append (hl:hs.length=xs.length) (k:DnD d hs xs p) (t:DnD d hs' xs' p):DnD d (hs++hs') (xs++xs') p:=fun i h x hh hx=>by
 by_cases hi:i<hs.length
 ·rw [List.getElem?_append_left hi] at hh
  rw [List.getElem?_append_left (by rw [<-hl]; exact hi)] at hx
  exact k i h x hh hx
 ·rw [List.getElem?_append_right (by omega)] at hh
  rw [List.getElem?_append_right (by rw [<-hl]; omega),<-hl] at hx
  exact t _ h x hh hx
theorem RelD.set (k:RelD d w hs xs) (t:d.rel w h x) (j:Nat):RelD d w (hs.set j h) (xs.set j x):=⟨by simp [k.1],fun i h' x' hh hx=>by
 rw [List.getElem?_set] at hh hx
 by_cases hj:j=i
 ·subst hj
  rw [if_pos rfl] at hh hx
  split at hh
  ·split at hx
   ·simp only [Option.some.injEq] at hh hx
    subst hh; subst hx; exact t
   ·cases hx
  ·cases hh
 ·rw [if_neg hj] at hh hx
  exact k.2 i h' x' hh hx⟩
theorem DnD.set (k:DnD d hs xs p) (t:d.dn h x p) (j:Nat):DnD d (hs.set j h) (xs.set j x) p:=fun i h' x' hh hx=>by
 rw [List.getElem?_set] at hh hx
 by_cases hj:j=i
 ·subst hj
  rw [if_pos rfl] at hh hx
  split at hh
  ·split at hx
   ·simp only [Option.some.injEq] at hh hx
    subst hh; subst hx; exact t
   ·cases hx
  ·cases hh
 ·rw [if_neg hj] at hh hx
  exact k i h' x' hh hx
def NewD (d:DE H X) (hs:List H) (xs:List X) (n:Nat):Prop:=∀ p:Option Nat,(∀ g,p=some g->g<n)->DnD d hs xs p
theorem NewD.nil {n:Nat}:NewD d [] [] n:=fun _ _=>DnD.nil
theorem NewD.append {n:Nat} (hl:hs.length=xs.length) (a:NewD d hs xs n) (b:NewD d hs' xs' n):NewD d (hs++hs') (xs++xs') n:=fun p hp=>DnD.append hl (a p hp) (b p hp)
theorem NewD.cons {n:Nat} (a:∀ p:Option Nat,(∀ g,p=some g->g<n)->d.dn h x p) (b:NewD d hs xs n):NewD d (h :: hs) (x :: xs) n:=fun p hp=>DnD.cons (a p hp) (b p hp)
theorem NewD.le {n m:Nat} (a:NewD d hs xs n) (h:m<=n):NewD d hs xs m:=fun p hp=>a p fun g e=>Nat.lt_of_lt_of_le (hp g e) h
theorem RelD.drop (k:RelD d w hs xs) (n:Nat):RelD d w (hs.drop n) (xs.drop n):=⟨by simp [k.1],fun i h x hh hx=>k.2 (n+i) h x (by simpa [List.getElem?_drop] using hh) (by simpa [List.getElem?_drop] using hx)⟩
theorem DnD.drop (k:DnD d hs xs p) (n:Nat):DnD d (hs.drop n) (xs.drop n) p:=fun i h x hh hx=>k (n+i) h x (by simpa [List.getElem?_drop] using hh) (by simpa [List.getElem?_drop] using hx)
theorem RelD.take (k:RelD d w hs xs) (n:Nat):RelD d w (hs.take n) (xs.take n):=⟨by simp [k.1],fun i h x hh hx=>by
 rw [List.getElem?_take] at hh hx
 split at hh
 ·rw [if_pos (by assumption)] at hx; exact k.2 i h x hh hx
 ·cases hh⟩
theorem DnD.take (k:DnD d hs xs p) (n:Nat):DnD d (hs.take n) (xs.take n) p:=fun i h x hh hx=>by
 rw [List.getElem?_take] at hh hx
 split at hh
 ·rw [if_pos (by assumption)] at hx; exact k i h x hh hx
 ·cases hh
theorem RelD.at (k:RelD d w hs xs) (dh:H) (dx:X) {j:Nat} (hj:j<xs.length):∃ h,hs.getD j dh=h/\d.rel w h (xs.getD j dx):=by
 have hj2:j<hs.length:=by rw [k.1]; exact hj
 refine ⟨_,rfl,k.2 j _ _ ?_ ?_⟩
 ·simp [List.getD,hj2]
 ·simp [List.getD,hj]
theorem DnD.at (k:DnD d hs xs p) (hl:hs.length=xs.length) {dh:H} {dx:X} {j:Nat} (hj:j<xs.length) {h:H} (hh:hs.getD j dh=h):d.dn h (xs.getD j dx) p:=by
 have hj2:j<hs.length:=by rw [hl]; exact hj
 subst hh
 exact k j _ _ (by simp [List.getD,hj2]) (by simp [List.getD,hj])
end
section
variable {P:Program} {N:Nat} {L:qO} {w:World} {o:Oper} {u v:Value}
theorem zR (h:Yld P N w o L u) (e:u=v):Yld P N w o L v:=e ▸ h
end
section
variable {P:Program} {N:Nat} {L:qO} {w:World}
theorem WX.rettc {T:Tab} {fn:Func} {R:Value->World->Prop} {s s2 g m:Nat} {t e:TypeId} {us:List Value} {v2:Value} (hT:T.Ok P) (hr:fn.results = #[.tmp s2,.cell s t]) (h2:lk L s2=some v2) (hs:nk T.agg t=some m) (hv:lk L s=some (.pointer (some ⟨g,0,none⟩))) (hB:Bl w g e us) (hm:us.length=m)
  (hR:R (.tuple #[v2,.agg ⟨us⟩]) w):WX N (RetPost P fn R) .ret L w:=fun a w1 hw ha=>by
 obtain ⟨⟨de,hu,hrow⟩,j,hj,hj1⟩:=hT.agg hs
 have hrow':de.isRow=true:=by cases de <;> simp_all [isRow]
 have hl:=run_loadVar_mid (P:=P) w1 g 0 t us de (fun p v hv'=>by rw [hw.cell,hB.cell,<-hv',Nat.zero_add]) hu hrow' (by simp [hj,hj1,hm])
 have hp:=ha.get s _ hv
 have hp2:=ha.get s2 _ h2
 refine ⟨ha.defers,.tuple #[v2,.agg ⟨us⟩],?_,_,w,rfl,hw,hR⟩
 have hp':a.tmps[s]?.getD undef=.pointer (some ⟨g,0,none⟩):=by simpa using hp
 have hp2':a.tmps[s2]?.getD undef=v2:=by simpa using hp2
 simp [results,hr,hp',hp2',asAddr,hl]
end
end
 
section
open Go Go.RowKit
abbrev Hd:=Option Addr × Nat
def hz:Hd:=(none,0)
def hA (hs:List Hd) (j:Nat):Option Addr:=(hs.getD j hz).1
def hC (hs:List Hd) (j:Nat):Nat:=(hs.getD j hz).2
def hv {α:Type} (y:List α × Hd):Value:=.slice y.2.1 y.1.length y.2.2
def FPd (A:Option Addr) (hs:List Hd) (q0:Option Nat):List (Option Nat):=blk A :: ((List.range hs.length).filter fun j=>decide (some j≠q0)).map fun j=>blk (hA hs j)
structure jI {α:Type} (f:α->Value) (w:World) (B:Nat) (e e':TypeId) (A:Option Addr) (c:Nat) (hs:List Hd) (xs:List (List α)) (q0:Option Nat):Prop where
 out:Own hv w B e A c (xs.zip hs)
 len:hs.length=xs.length
 inn:∀ j,j<xs.length->some j≠q0->Own f w B e' (hA hs j) (hC hs j) (xs.getD j [])
 dm:∀ j,j<xs.length->some j≠q0->Dj (blk A) (blk (hA hs j))
 dd:∀ i j,i≠j->i<xs.length->j<xs.length->some i≠q0->some j≠q0->Dj (blk (hA hs i)) (blk (hA hs j))
section
variable {α:Type} {f:α->Value} {w w':World} {B n:Nat} {e e':TypeId} {A A':Option Addr} {c c':Nat} {hs:List Hd} {xs:List (List α)} {ys:List α} {q0:Option Nat} {Q:Option Nat->Prop} {ps:List (Option Nat)} {row p:Option Nat} {j:Nat}
theorem allFPd:AllP Q (FPd A hs q0)↔Q (blk A)/\∀ j,j<hs.length->some j≠q0->Q (blk (hA hs j)):=by
 constructor
 ·intro h
  exact ⟨h _ (List.Mem.head _),fun j hj hq=>h _ (List.Mem.tail _ (List.mem_map.2 ⟨j,List.mem_filter.2 ⟨List.mem_range.2 hj,by simpa using hq⟩,rfl⟩))⟩
 ·rintro ⟨h1,h2⟩ p hp
  cases hp with
  | head=>exact h1
  | tail _ hp =>
   obtain ⟨j,hj,rfl⟩:=List.mem_map.1 hp
   obtain ⟨hm,hq⟩:=List.mem_filter.1 hj
   exact h2 j (List.mem_range.1 hm) (by simpa using hq)
theorem jI.goL (h:jI f w B e e' A c hs xs q0) (hg:GrL ps w w') (hd:AllP (fun r=>AllP (Dj r) (FPd A hs q0)) ps):jI f w' B e e' A c hs xs q0 :=
 ⟨h.out.goL hg fun p hp=>((allFPd.1 (hd p hp)).1).symm,h.len,fun j hj hq=>(h.inn j hj hq).goL hg fun p hp=>((allFPd.1 (hd p hp)).2 j (by rw [h.len]; exact hj) hq).symm,h.dm,h.dd⟩
theorem jI.go (h:jI f w B e e' A c hs xs q0) (hg:w.grownBy w' row) (hd:AllP (Dj row) (FPd A hs q0)):jI f w' B e e' A c hs xs q0:=h.goL (GrL.of1 hg) (apC hd apN)
theorem jI.g0 (h:jI f w B e e' A c hs xs q0) (hg:w.grownBy w' none):jI f w' B e e' A c hs xs q0:=h.goL (ps:=[]) (GrL.of0 hg) apN
theorem jI.eqv (hw:Eqv w w') (h:jI f w B e e' A c hs xs q0):jI f w' B e e' A c hs xs q0:=h.g0 (jo (jH w none) hw)
theorem jI.lt' (h:jI f w B e e' A c hs xs q0):AllP (fun p=>Lt p w.heap.size) (FPd A hs q0):=allFPd.2 ⟨h.out.lt',fun j hj hq=>(h.inn j (by rw [<-h.len]; exact hj) hq).lt'⟩
theorem jI.ge' (h:jI f w B e e' A c hs xs q0):AllP (fun p=>Ge p B) (FPd A hs q0):=allFPd.2 ⟨h.out.ge',fun j hj hq=>(h.inn j (by rw [<-h.len]; exact hj) hq).ge'⟩
theorem jI.new (h:jI f w B e e' A c hs xs q0) (hp:Ge p w.heap.size):AllP (Dj p) (FPd A hs q0):=fun r hr=>(Dj.new (h.lt' r hr) hp).symm
theorem jI.inp (h:jI f w B e e' A c hs xs q0) (hp:InP ps w.heap.size p) (hd:AllP (fun r=>AllP (Dj r) (FPd A hs q0)) ps):AllP (Dj p) (FPd A hs q0):=fun r hr=>InP.dj hp (h.lt' r hr) (fun s hs'=>(hd s hs' r hr).symm)
theorem jI.app {p':Option Nat} (h:jI f w B e e' A c hs xs q0) (k:AllP (Dj p) (FPd A hs q0)) (hk:∀ g,p'=some g->p=some g∨w.heap.size<=g):AllP (Dj p') (FPd A hs q0):=fun r hr=>Dj.app (k r hr) (h.lt' r hr) hk
theorem jI.rd (h:jI f w B e e' A c hs xs none) (hj:j<xs.length):Rd f w (hA hs j) (hC hs j) (xs.getD j []):=(h.inn j hj (by simp)).rd
theorem jI.open (h:jI f w B e e' A c hs xs none) (hj:j<xs.length):Own f w B e' (hA hs j) (hC hs j) (xs.getD j [])/\jI f w B e e' A c hs xs (some j)/\AllP (Dj (blk (hA hs j))) (FPd A hs (some j)):=by
 refine ⟨h.inn j hj (by simp),⟨h.out,h.len,fun i hi _=>h.inn i hi (by simp),fun i hi _=>h.dm i hi (by simp),fun i k hik hi hk _ _=>h.dd i k hik hi hk (by simp) (by simp)⟩,allFPd.2 ⟨(h.dm j hj (by simp)).symm,fun i hi hq=>?_⟩⟩
 exact h.dd j i (fun e=>hq (by rw [e])) hj (by rw [<-h.len]; exact hi) (by simp) (by simp)
theorem FPd.sub (k:AllP Q (FPd A hs none)):AllP Q (FPd A hs (some j)):=allFPd.2 ⟨(allFPd.1 k).1,fun i hi _=>(allFPd.1 k).2 i hi (by simp)⟩
theorem FPd.at (hl:j<hs.length) (k:AllP Q (FPd A hs none)):Q (blk (hA hs j)):=(allFPd.1 k).2 j hl (by simp)
theorem jI.at (h:jI f w B e e' A c hs xs q0) (hj:j<xs.length) (k:AllP Q (FPd A hs none)):Q (blk (hA hs j)):=FPd.at (by rw [h.len]; exact hj) k
theorem jI.sub (h:jI f w B e e' A c hs xs none) (j:Nat):jI f w B e e' A c hs xs (some j):=⟨h.out,h.len,fun i hi _=>h.inn i hi (by simp),fun i hi _=>h.dm i hi (by simp),fun i k hik hi hk _ _=>h.dd i k hik hi hk (by simp) (by simp)⟩
theorem jI.back (h:jI f w B e e' A c hs xs (some j)) (hE:Own f w B e' (hA hs j) (hC hs j) (xs.getD j [])) (hd:AllP (Dj (blk (hA hs j))) (FPd A hs (some j))):jI f w B e e' A c hs xs none:=by
 have hd':=allFPd.1 hd
 refine ⟨h.out,h.len,fun i hi _=>?_,fun i hi _=>?_,fun i k hik hi hk _ _=>?_⟩
 ·by_cases e:i=j
  ·subst e; exact hE
  ·exact h.inn i hi (fun e2=>e (Option.some.inj e2))
 ·by_cases e:i=j
  ·subst e; exact hd'.1.symm
  ·exact h.dm i hi (fun e2=>e (Option.some.inj e2))
 ·by_cases e:i=j
  ·subst e
   exact hd'.2 k (by rw [h.len]; exact hk) (fun e2=>hik (Option.some.inj e2).symm)
  ·by_cases e2:k=j
   ·subst e2
    exact (hd'.2 i (by rw [h.len]; exact hi) (fun e3=>hik (Option.some.inj e3))).symm
   ·exact h.dd i k hik hi hk (fun e3=>e (Option.some.inj e3)) (fun e3=>e2 (Option.some.inj e3))
variable {P:Program} {N:Nat} {L:qO} {ty t:TypeId} {pos:String} {af:Array Edge} {dd:Option Tmp} {x y:Operand} {T:Tab}
end
section
variable {P:Program} {N:Nat} {ops:Array Oper} {fl:Nat->Bool} {D:Nat->World->Prop} {Q:Post} {L:qO} {w:World} {k d:Nat} {ty:TypeId} {pos:String} {af:Array Edge} {rest:List Oper}
theorem WJ.callv {R:Value->World->Prop} {g:FuncId} {x:Operand} {ao:List Operand} {ts:Array TypeId} {vs cs:List Value} (hf:fl k=false) (hd:Nat.blt d N=true) (hx:opv L x=some (.func (.func g) #[] ⟨cs⟩)) (hv:opvs L ao=some vs) (hc:Fn P g ⟨vs++cs⟩ w R) (hD:∀ v w',R v w'->∀ w2,Eqv w' w2->DD .any ops fl D k w2)
  (hk:∀ v w',R v w'->WJ P N ops fl D Q rest (k+1) ((d,v) :: L) w'):WJ P N ops fl D Q (⟨some d,.call ⟨.value x,⟨ao⟩,ts⟩,ty,pos,af,none⟩ :: rest) k L w:=fun a w1 e ha=>by
 unfold wpJ
 rw [hf]
 show sRun _ _ _ _ _ _ _
 unfold sRun
 rw [if_pos (Wants.wanted (o:=⟨some d,.call ⟨.value x,⟨ao⟩,ts⟩,ty,pos,af,none⟩) (L:=L) (N:=N) (ops:=ops) jF ha),run_callv ha hc.1 hx hv]
 refine (hc.2 w1 e).mono ?_
 rintro en w' ⟨v,w0,rfl,h0,hR⟩
 exact ⟨v,rfl,hD v w0 hR w' h0,hk v w0 hR _ w' h0 (ha.put hd v)⟩
end
end
 section
open Go Go.RowKit
attribute [local irreducible] WL WC WX WQ Yld Eff Fn
def val:List Nat->Nat
 | []=>0
 | x :: xs=>x+1000000000*val xs
theorem val_app:∀ a b:List Nat,val (a++b)=val a+1000000000 ^ a.length*val b
 | [],b=>by simp [val]
 | x :: a,b=>by
  have:=val_app a b
  simp only [List.cons_append,val,this,List.length_cons]
  grind
theorem val_one (d:Nat):val [d]=d:=rfl
theorem val_push (a:List Nat) (d:Nat):val (a++[d])=val a+1000000000 ^ a.length*d:=by rw [val_app,val_one]
theorem take_push (l:List Nat) (k:Nat) (h:k<l.length):l.take (k+1)=l.take k++[l.getD k 0]:=by
 rw [List.take_succ_eq_append_getElem h]; simp [List.getD,h]
theorem val_take (l:List Nat) (k:Nat):val (l.take (k+1))=val (l.take k)+1000000000 ^ k*l.getD k 0:=by
 rcases Nat.lt_or_ge k l.length with h | h
 ·rw [take_push l k h,val_push,List.length_take,Nat.min_eq_left (by omega)]
 ·have e:l.getD k 0=0:=by simp [List.getD,List.getElem?_eq_none h]
  rw [List.take_of_length_le (by omega),List.take_of_length_le h,e]
  omega
def Dg (l:List Nat):Prop:=∀ i:Nat,l.getD i 0<1000000000
theorem Dg.nil:Dg []:=fun i=>by simp
theorem Dg.push {l:List Nat} (h:Dg l) {d:Nat} (hd:d<1000000000):Dg (l++[d]):=fun i=>by
 rcases Nat.lt_trichotomy i l.length with h1 | h1 | h1
 ·have:=h i
  simpa [List.getD,List.getElem?_append,h1] using this
 ·subst h1; simpa [List.getD] using hd
 ·have e:(l++[d]).getD i 0=0:=by simp only [List.getD]; rw [List.getElem?_eq_none (by simp; omega)]; rfl
  omega
theorem Dg.take {l:List Nat} (h:Dg l) (k:Nat):Dg (l.take k):=fun i=>by
 rcases Nat.lt_or_ge i k with h1 | h1
 ·have:=h i
  simpa [List.getD,List.getElem?_take,h1] using this
 ·have e:(l.take k).getD i 0=0:=by simp only [List.getD]; rw [List.getElem?_eq_none (by simp; omega)]; rfl
  omega
theorem val_lt {l:List Nat} (h:Dg l):∀ k,val (l.take k)<1000000000 ^ k
 | 0=>by simp [val]
 | k+1=>by
  have h1:=val_lt h k
  have h2:=h k
  rw [val_take,Nat.pow_succ]
  generalize 1000000000 ^ k=p at *
  generalize l.getD k 0=d at *
  have:p*d<=p*999999999:=Nat.mul_le_mul_left _ (by omega)
  omega
theorem val_lt' {l:List Nat} (h:Dg l):val l<1000000000 ^ l.length:=by
 have:=val_lt h l.length
 rwa [List.take_of_length_le (Nat.le_refl _)] at this
def Can (l:List Nat):Prop:=l≠[]->l.getD (l.length - 1) 0≠0
theorem val_ge {l:List Nat} (h:Can l) (hl:l≠[]):1000000000 ^ (l.length - 1)<=val l:=by
 have h1:=h hl
 have hp:0<l.length:=List.length_pos_iff.mpr hl
 have e:=val_take l (l.length - 1)
 rw [show l.length - 1+1=l.length by omega,List.take_of_length_le (Nat.le_refl _)] at e
 rw [e]
 generalize 1000000000 ^ (l.length - 1)=p at *
 generalize l.getD (l.length - 1) 0=d at *
 have:p*1<=p*d:=Nat.mul_le_mul_left _ (by omega)
 omega
theorem val_zero {l:List Nat} (h:Can l):val l=0↔l=[]:=by
 constructor
 ·intro e
  rcases Classical.em (l=[]) with h1 | h1
  ·exact h1
  ·have:=val_ge h h1
   have:0<1000000000 ^ (l.length - 1):=Nat.pow_pos (by omega)
   omega
 ·intro e; subst e; rfl
structure Nm (w:World) (v:Value) (z:Int) (m:Nat):Prop where
 at_:∃ (neg:Bool) (A:Option Addr) (c:Nat) (l:List Nat),v=.agg ⟨[.bool neg,.slice A l.length c]⟩/\Rd vd w A c l/\Dg l/\Can l/\l.length<=m/\(neg=true->l≠[])/\z=bif neg then -(val l:Int) else (val l:Int)
theorem Nm.grown {w w':World} {v:Value} {z:Int} {m:Nat} (h:Nm w v z m) (hg:w.grownBy w' none):Nm w' v z m:=by
 obtain ⟨neg,A,c,l,h1,h2,h3⟩:=h
 exact ⟨neg,A,c,l,h1,h2.grown hg,h3⟩
theorem Nm.mono {w:World} {v:Value} {z:Int} {m m':Nat} (h:Nm w v z m) (hm:m<=m'):Nm w v z m':=by
 obtain ⟨neg,A,c,l,h1,h2,h3,h4,h5,h6⟩:=h
 exact ⟨neg,A,c,l,h1,h2,h3,h4,by omega,h6⟩
theorem made_end {w w':World} {g:Nat} {neg:Bool} {A:Option Addr} {c:Nat} {l j:List Nat} (hR:Rd vd w A c j) (hg:w.grownBy w' (some g)) (hA:blk A≠some g∨j=[]) (hD:Dg j) (hC:Can j) (hj:j.length<=l.length) (hv:val j=val l) :
  Nm w' (.agg ⟨[.bool (bif neg then decide ((0:Int)<(j.length:Int)) else false),.slice A j.length c]⟩) (bif neg then -(val l:Int) else (val l:Int)) l.length:=by
 refine ⟨_,A,c,j,rfl,hR.keep' hg (fun hne q hq e=>?_),hD,hC,hj,fun h=>?_,?_⟩
 ·injection hq with hq
  subst hq
  rcases hA with hA | hA
  ·exact hA e
  ·exact hne hA
 ·cases neg
  ·cases h
  ·intro e; subst e; simp at h
 ·rw [<-hv]
  cases neg
  ·rfl
  ·rcases Classical.em (j=[]) with e | e
   ·subst e; rfl
   ·have:0<j.length:=List.length_pos_iff.mpr e
    simp [this]
def Lies (v:Value) (p:Nat->Prop):Prop:=∀ neg A n c,v=.agg ⟨[.bool neg,.slice A n c]⟩->∀ g,blk A=some g->p g
theorem Lies.mk {neg:Bool} {A:Option Addr} {n c:Nat} {p:Nat->Prop} (h:∀ g,blk A=some g->p g):Lies (.agg ⟨[.bool neg,.slice A n c]⟩) p:=fun neg' A' n' c' e=>by
 simp only [Value.agg.injEq,Array.mk.injEq,List.cons.injEq,Value.slice.injEq] at e
 obtain ⟨_,⟨rfl,_⟩,_⟩:=e
 exact h
theorem made_fn' (neg:Bool) (A:Option Addr) (c:Nat) (l:List Nat) (w:World) (hR:Rd vd w A c l) (hD:Dg l) (hl:l.length<=1000000) :
  Fn Tryz.prog 89 ⟨[.bool neg,.slice A l.length c]⟩ w fun v w'=>Nm w' v (bif neg then -(val l:Int) else (val l:Int)) l.length/\w.grownBy w' none/\Lies v (fun q=>blk A=some q):=by
 refine Fn.enter (by kernel_rfl) Tryz.func89 rfl Tryz.ntmps89 rfl ?_
 repeat (first | refine zd ?_ | refine WC.block ?_ | refine zb ?_ | refine ze ?_ | refine za ?_ | refine zo ?_ | refine zy ?_ | refine zt ?_ | refine zk ?_ | refine zf ?_ | refine zi ?_ | refine zj ?_ | refine zl ?_ | refine zq rfl ?_ | refine zI ?_ | refine zJ ?_ | refine zn ?_ | refine zu ?_ | refine zr ?_ | refine zg rfl (Yld.sub rfl rfl (by simp only [In]; omega)) ?_ | refine zg rfl (zh qD rfl) ?_ | refine zg rfl (zp rfl rfl rfl) ?_ | refine zG rfl rfl rfl rfl ?_ | refine zc rfl rfl rfl rfl (Yld.sub rfl rfl (by simp only [In]; omega)) ?_ | refine zc rfl rfl rfl rfl (zh qD rfl) ?_)
 refine WL.alloc rfl zero75 (fun g w1 hB1 hg1 hl1=>?_)
 repeat (first | refine zd ?_ | refine WC.block ?_ | refine zb ?_ | refine ze ?_ | refine za ?_ | refine zo ?_ | refine zy ?_ | refine zt ?_ | refine zk ?_ | refine zf ?_ | refine zi ?_ | refine zj ?_ | refine zl ?_ | refine zq rfl ?_ | refine zI ?_ | refine zJ ?_ | refine zn ?_ | refine zu ?_ | refine zr ?_ | refine zg rfl (Yld.sub rfl rfl (by simp only [In]; omega)) ?_ | refine zg rfl (zh qD rfl) ?_ | refine zg rfl (zp rfl rfl rfl) ?_ | refine zG rfl rfl rfl rfl ?_ | refine zc rfl rfl rfl rfl (Yld.sub rfl rfl (by simp only [In]; omega)) ?_ | refine zc rfl rfl rfl rfl (zh qD rfl) ?_)
 refine WC.loop3 (fun j _ _=>j.length) (fun j A' c'=>[(1,.slice A' j.length c'),(0,.bool neg),(4,.pointer (some ⟨g,0,none⟩))])
  (fun j A' c' w2=>Dg j/\j.length<=l.length/\val j=val l/\Rd vd w1 A' c' j/\(blk A'≠some g∨j=[])/\(∀ q,blk A'=some q->blk A=some q)/\w2=w1) l A c ⟨hD,by simp,rfl,hR.grown hg1,?_,fun _ e=>e,rfl⟩ (by repeat (first | exact qg | refine qb rfl ?_)) (fun j A' c' w2 ⟨hDj,hk,hv,hR2,hgA,hbA,hw2⟩=>?_)
 ·rcases Classical.em (l=[]) with e | e
  ·exact .inr e
  ·exact .inl fun q=>by have:=hR.lt e q; omega
 subst hw2
 repeat (first | refine zd ?_ | refine WC.block ?_ | refine zb ?_ | refine ze ?_ | refine za ?_ | refine zo ?_ | refine zy ?_ | refine zt ?_ | refine zk ?_ | refine zf ?_ | refine zi ?_ | refine zj ?_ | refine zl ?_ | refine zq rfl ?_ | refine zI ?_ | refine zJ ?_ | refine zn ?_ | refine zu ?_ | refine zr ?_ | refine zg rfl (Yld.sub rfl rfl (by simp only [In]; omega)) ?_ | refine zg rfl (zh qD rfl) ?_ | refine zg rfl (zp rfl rfl rfl) ?_ | refine zG rfl rfl rfl rfl ?_ | refine zc rfl rfl rfl rfl (Yld.sub rfl rfl (by simp only [In]; omega)) ?_ | refine zc rfl rfl rfl rfl (zh qD rfl) ?_)
 generalize hb:decide ((0:Int)<(j.length:Int))=b
 cases b
 ·simp only [decide_eq_false_iff_not] at hb
  obtain rfl:j=[]:=List.length_eq_zero_iff.mp (by omega)
  have hCj:Can []:=fun h=>absurd rfl h
  repeat (first | refine zd ?_ | refine WC.block ?_ | refine zb ?_ | refine ze ?_ | refine za ?_ | refine zo ?_ | refine zy ?_ | refine zt ?_ | refine zk ?_ | refine zf ?_ | refine zi ?_ | refine zj ?_ | refine zl ?_ | refine zq rfl ?_ | refine zI ?_ | refine zJ ?_ | refine zn ?_ | refine zu ?_ | refine zr ?_ | refine zg rfl (Yld.sub rfl rfl (by simp only [In]; omega)) ?_ | refine zg rfl (zh qD rfl) ?_ | refine zg rfl (zp rfl rfl rfl) ?_ | refine zG rfl rfl rfl rfl ?_ | refine zc rfl rfl rfl rfl (Yld.sub rfl rfl (by simp only [In]; omega)) ?_ | refine zc rfl rfl rfl rfl (zh qD rfl) ?_)
  refine zm rfl (fun h=>by cases h) (fun _=>?_)
  repeat (first | refine zd ?_ | refine WC.block ?_ | refine zb ?_ | refine ze ?_ | refine za ?_ | refine zo ?_ | refine zy ?_ | refine zt ?_ | refine zk ?_ | refine zf ?_ | refine zi ?_ | refine zj ?_ | refine zl ?_ | refine zq rfl ?_ | refine zI ?_ | refine zJ ?_ | refine zn ?_ | refine zu ?_ | refine zr ?_ | refine zg rfl (Yld.sub rfl rfl (by simp only [In]; omega)) ?_ | refine zg rfl (zh qD rfl) ?_ | refine zg rfl (zp rfl rfl rfl) ?_ | refine zG rfl rfl rfl rfl ?_ | refine zc rfl rfl rfl rfl (Yld.sub rfl rfl (by simp only [In]; omega)) ?_ | refine zc rfl rfl rfl rfl (zh qD rfl) ?_)
  cases neg
  ·repeat (first | refine zd ?_ | refine WC.block ?_ | refine zb ?_ | refine ze ?_ | refine za ?_ | refine zo ?_ | refine zy ?_ | refine zt ?_ | refine zk ?_ | refine zf ?_ | refine zi ?_ | refine zj ?_ | refine zl ?_ | refine zq rfl ?_ | refine zI ?_ | refine zJ ?_ | refine zn ?_ | refine zu ?_ | refine zr ?_ | refine zg rfl (Yld.sub rfl rfl (by simp only [In]; omega)) ?_ | refine zg rfl (zh qD rfl) ?_ | refine zg rfl (zp rfl rfl rfl) ?_ | refine zG rfl rfl rfl rfl ?_ | refine zc rfl rfl rfl rfl (Yld.sub rfl rfl (by simp only [In]; omega)) ?_ | refine zc rfl rfl rfl rfl (zh qD rfl) ?_)
   refine zg rfl (z6 (us:=[.bool (bif false then decide ((0:Int)<(([]:List Nat).length:Int)) else false),.slice A' ([]:List Nat).length c']) zero75 places75 rfl rfl) ?_
   refine zZ (vs:=[.bool (bif false then decide ((0:Int)<(([]:List Nat).length:Int)) else false),.slice A' ([]:List Nat).length c']) qD rfl rfl rfl (by intro u hu; simp at hu; rcases hu with rfl | rfl <;> rfl) hB1 rfl rfl (fun w3 hB3 hg3=>?_)
   repeat (first | refine zd ?_ | refine WC.block ?_ | refine zb ?_ | refine ze ?_ | refine za ?_ | refine zo ?_ | refine zy ?_ | refine zt ?_ | refine zk ?_ | refine zf ?_ | refine zi ?_ | refine zj ?_ | refine zl ?_ | refine zq rfl ?_ | refine zI ?_ | refine zJ ?_ | refine zn ?_ | refine zu ?_ | refine zr ?_ | refine zg rfl (Yld.sub rfl rfl (by simp only [In]; omega)) ?_ | refine zg rfl (zh qD rfl) ?_ | refine zg rfl (zp rfl rfl rfl) ?_ | refine zG rfl rfl rfl rfl ?_ | refine zc rfl rfl rfl rfl (Yld.sub rfl rfl (by simp only [In]; omega)) ?_ | refine zc rfl rfl rfl rfl (zh qD rfl) ?_)
   exact qi qD rfl rfl rfl hB3 rfl ⟨made_end hR2 hg3 hgA hDj hCj (by first | exact hk | simp) hv,gr_new hg1 hg3 hl1,Lies.mk hbA⟩
  ·repeat (first | refine zd ?_ | refine WC.block ?_ | refine zb ?_ | refine ze ?_ | refine za ?_ | refine zo ?_ | refine zy ?_ | refine zt ?_ | refine zk ?_ | refine zf ?_ | refine zi ?_ | refine zj ?_ | refine zl ?_ | refine zq rfl ?_ | refine zI ?_ | refine zJ ?_ | refine zn ?_ | refine zu ?_ | refine zr ?_ | refine zg rfl (Yld.sub rfl rfl (by simp only [In]; omega)) ?_ | refine zg rfl (zh qD rfl) ?_ | refine zg rfl (zp rfl rfl rfl) ?_ | refine zG rfl rfl rfl rfl ?_ | refine zc rfl rfl rfl rfl (Yld.sub rfl rfl (by simp only [In]; omega)) ?_ | refine zc rfl rfl rfl rfl (zh qD rfl) ?_)
   refine zg rfl (z6 (us:=[.bool (bif true then decide ((0:Int)<(([]:List Nat).length:Int)) else false),.slice A' ([]:List Nat).length c']) zero75 places75 rfl rfl) ?_
   refine zZ (vs:=[.bool (bif true then decide ((0:Int)<(([]:List Nat).length:Int)) else false),.slice A' ([]:List Nat).length c']) qD rfl rfl rfl (by intro u hu; simp at hu; rcases hu with rfl | rfl <;> rfl) hB1 rfl rfl (fun w3 hB3 hg3=>?_)
   repeat (first | refine zd ?_ | refine WC.block ?_ | refine zb ?_ | refine ze ?_ | refine za ?_ | refine zo ?_ | refine zy ?_ | refine zt ?_ | refine zk ?_ | refine zf ?_ | refine zi ?_ | refine zj ?_ | refine zl ?_ | refine zq rfl ?_ | refine zI ?_ | refine zJ ?_ | refine zn ?_ | refine zu ?_ | refine zr ?_ | refine zg rfl (Yld.sub rfl rfl (by simp only [In]; omega)) ?_ | refine zg rfl (zh qD rfl) ?_ | refine zg rfl (zp rfl rfl rfl) ?_ | refine zG rfl rfl rfl rfl ?_ | refine zc rfl rfl rfl rfl (Yld.sub rfl rfl (by simp only [In]; omega)) ?_ | refine zc rfl rfl rfl rfl (zh qD rfl) ?_)
   exact qi qD rfl rfl rfl hB3 rfl ⟨made_end hR2 hg3 hgA hDj hCj (by first | exact hk | simp) hv,gr_new hg1 hg3 hl1,Lies.mk hbA⟩
 ·simp only [decide_eq_true_eq] at hb
  repeat (first | refine zc rfl rfl rfl rfl (qy qD hR2 rfl rfl rfl rfl (by omega) (by omega)) ?_ | refine zc rfl rfl rfl rfl (zM 0 qD hR2 rfl rfl (by omega)) ?_ | refine zd ?_ | refine WC.block ?_ | refine zb ?_ | refine ze ?_ | refine za ?_ | refine zo ?_ | refine zy ?_ | refine zt ?_ | refine zk ?_ | refine zf ?_ | refine zi ?_ | refine zj ?_ | refine zl ?_ | refine zq rfl ?_ | refine zI ?_ | refine zJ ?_ | refine zn ?_ | refine zu ?_ | refine zr ?_ | refine zg rfl (Yld.sub rfl rfl (by simp only [In]; omega)) ?_ | refine zg rfl (zh qD rfl) ?_ | refine zg rfl (zp rfl rfl rfl) ?_ | refine zG rfl rfl rfl rfl ?_ | refine zc rfl rfl rfl rfl (Yld.sub rfl rfl (by simp only [In]; omega)) ?_ | refine zc rfl rfl rfl rfl (zh qD rfl) ?_)
  have hjt:((j.length:Int) - 1).toNat=j.length - 1:=by omega
  rw [hjt]
  refine zm rfl (fun h=>?_) (fun h=>?_)
  ·simp only [cond_true,decide_eq_true_eq] at h
   repeat (first | refine zd ?_ | refine WC.block ?_ | refine zb ?_ | refine ze ?_ | refine za ?_ | refine zo ?_ | refine zy ?_ | refine zt ?_ | refine zk ?_ | refine zf ?_ | refine zi ?_ | refine zj ?_ | refine zl ?_ | refine zq rfl ?_ | refine zI ?_ | refine zJ ?_ | refine zn ?_ | refine zu ?_ | refine zr ?_ | refine zg rfl (Yld.sub rfl rfl (by simp only [In]; omega)) ?_ | refine zg rfl (zh qD rfl) ?_ | refine zg rfl (zp rfl rfl rfl) ?_ | refine zG rfl rfl rfl rfl ?_ | refine zc rfl rfl rfl rfl (Yld.sub rfl rfl (by simp only [In]; omega)) ?_ | refine zc rfl rfl rfl rfl (zh qD rfl) ?_)
   refine WL.cut qD hR2 rfl rfl rfl rfl rfl rfl (by omega) (by omega) (by omega) (fun A2 c2 hR3 hb3=>?_)
   have he:(j.drop (0:Int).toNat).take (((j.length:Int) - 1).toNat - (0:Int).toNat)=j.take (j.length - 1):=by rw [hjt]; simp
   rw [he] at hR3 |-
   repeat (first | refine zd ?_ | refine WC.block ?_ | refine zb ?_ | refine ze ?_ | refine za ?_ | refine zo ?_ | refine zy ?_ | refine zt ?_ | refine zk ?_ | refine zf ?_ | refine zi ?_ | refine zj ?_ | refine zl ?_ | refine zq rfl ?_ | refine zI ?_ | refine zJ ?_ | refine zn ?_ | refine zu ?_ | refine zr ?_ | refine zg rfl (Yld.sub rfl rfl (by simp only [In]; omega)) ?_ | refine zg rfl (zh qD rfl) ?_ | refine zg rfl (zp rfl rfl rfl) ?_ | refine zG rfl rfl rfl rfl ?_ | refine zc rfl rfl rfl rfl (Yld.sub rfl rfl (by simp only [In]; omega)) ?_ | refine zc rfl rfl rfl rfl (zh qD rfl) ?_)
   refine WX.round3 (j.take (j.length - 1)) A2 c2 ⟨hDj.take _,by rw [List.length_take]; omega,?_,hR3,?_,fun q e=>hbA q (hb3 q e),rfl⟩ (by rw [List.length_take]; omega) (by repeat (first | exact qg | refine qb rfl ?_))
   ·have e:=val_take j (j.length - 1)
    rw [show j.length - 1+1=j.length by omega,List.take_of_length_le (Nat.le_refl _),show j.getD (j.length - 1) 0=0 by omega] at e
    omega
   ·rcases hgA with h1 | h1
    ·exact .inl fun q=>h1 (hb3 _ q)
    ·subst h1; simp at hb
  ·simp only [cond_true,decide_eq_false_iff_not] at h
   have hCj:Can j:=fun _ e=>h (by rw [e]; rfl)
   repeat (first | refine zd ?_ | refine WC.block ?_ | refine zb ?_ | refine ze ?_ | refine za ?_ | refine zo ?_ | refine zy ?_ | refine zt ?_ | refine zk ?_ | refine zf ?_ | refine zi ?_ | refine zj ?_ | refine zl ?_ | refine zq rfl ?_ | refine zI ?_ | refine zJ ?_ | refine zn ?_ | refine zu ?_ | refine zr ?_ | refine zg rfl (Yld.sub rfl rfl (by simp only [In]; omega)) ?_ | refine zg rfl (zh qD rfl) ?_ | refine zg rfl (zp rfl rfl rfl) ?_ | refine zG rfl rfl rfl rfl ?_ | refine zc rfl rfl rfl rfl (Yld.sub rfl rfl (by simp only [In]; omega)) ?_ | refine zc rfl rfl rfl rfl (zh qD rfl) ?_)
   cases neg
   ·repeat (first | refine zd ?_ | refine WC.block ?_ | refine zb ?_ | refine ze ?_ | refine za ?_ | refine zo ?_ | refine zy ?_ | refine zt ?_ | refine zk ?_ | refine zf ?_ | refine zi ?_ | refine zj ?_ | refine zl ?_ | refine zq rfl ?_ | refine zI ?_ | refine zJ ?_ | refine zn ?_ | refine zu ?_ | refine zr ?_ | refine zg rfl (Yld.sub rfl rfl (by simp only [In]; omega)) ?_ | refine zg rfl (zh qD rfl) ?_ | refine zg rfl (zp rfl rfl rfl) ?_ | refine zG rfl rfl rfl rfl ?_ | refine zc rfl rfl rfl rfl (Yld.sub rfl rfl (by simp only [In]; omega)) ?_ | refine zc rfl rfl rfl rfl (zh qD rfl) ?_)
    refine zg rfl (z6 (us:=[.bool (bif false then decide ((0:Int)<(j.length:Int)) else false),.slice A' j.length c']) zero75 places75 rfl rfl) ?_
    refine zZ (vs:=[.bool (bif false then decide ((0:Int)<(j.length:Int)) else false),.slice A' j.length c']) qD rfl rfl rfl (by intro u hu; simp at hu; rcases hu with rfl | rfl <;> rfl) hB1 rfl rfl (fun w3 hB3 hg3=>?_)
    repeat (first | refine zd ?_ | refine WC.block ?_ | refine zb ?_ | refine ze ?_ | refine za ?_ | refine zo ?_ | refine zy ?_ | refine zt ?_ | refine zk ?_ | refine zf ?_ | refine zi ?_ | refine zj ?_ | refine zl ?_ | refine zq rfl ?_ | refine zI ?_ | refine zJ ?_ | refine zn ?_ | refine zu ?_ | refine zr ?_ | refine zg rfl (Yld.sub rfl rfl (by simp only [In]; omega)) ?_ | refine zg rfl (zh qD rfl) ?_ | refine zg rfl (zp rfl rfl rfl) ?_ | refine zG rfl rfl rfl rfl ?_ | refine zc rfl rfl rfl rfl (Yld.sub rfl rfl (by simp only [In]; omega)) ?_ | refine zc rfl rfl rfl rfl (zh qD rfl) ?_)
    exact qi qD rfl rfl rfl hB3 rfl ⟨made_end hR2 hg3 hgA hDj hCj (by first | exact hk | simp) hv,gr_new hg1 hg3 hl1,Lies.mk hbA⟩
   ·repeat (first | refine zd ?_ | refine WC.block ?_ | refine zb ?_ | refine ze ?_ | refine za ?_ | refine zo ?_ | refine zy ?_ | refine zt ?_ | refine zk ?_ | refine zf ?_ | refine zi ?_ | refine zj ?_ | refine zl ?_ | refine zq rfl ?_ | refine zI ?_ | refine zJ ?_ | refine zn ?_ | refine zu ?_ | refine zr ?_ | refine zg rfl (Yld.sub rfl rfl (by simp only [In]; omega)) ?_ | refine zg rfl (zh qD rfl) ?_ | refine zg rfl (zp rfl rfl rfl) ?_ | refine zG rfl rfl rfl rfl ?_ | refine zc rfl rfl rfl rfl (Yld.sub rfl rfl (by simp only [In]; omega)) ?_ | refine zc rfl rfl rfl rfl (zh qD rfl) ?_)
    refine zg rfl (z6 (us:=[.bool (bif true then decide ((0:Int)<(j.length:Int)) else false),.slice A' j.length c']) zero75 places75 rfl rfl) ?_
    refine zZ (vs:=[.bool (bif true then decide ((0:Int)<(j.length:Int)) else false),.slice A' j.length c']) qD rfl rfl rfl (by intro u hu; simp at hu; rcases hu with rfl | rfl <;> rfl) hB1 rfl rfl (fun w3 hB3 hg3=>?_)
    repeat (first | refine zd ?_ | refine WC.block ?_ | refine zb ?_ | refine ze ?_ | refine za ?_ | refine zo ?_ | refine zy ?_ | refine zt ?_ | refine zk ?_ | refine zf ?_ | refine zi ?_ | refine zj ?_ | refine zl ?_ | refine zq rfl ?_ | refine zI ?_ | refine zJ ?_ | refine zn ?_ | refine zu ?_ | refine zr ?_ | refine zg rfl (Yld.sub rfl rfl (by simp only [In]; omega)) ?_ | refine zg rfl (zh qD rfl) ?_ | refine zg rfl (zp rfl rfl rfl) ?_ | refine zG rfl rfl rfl rfl ?_ | refine zc rfl rfl rfl rfl (Yld.sub rfl rfl (by simp only [In]; omega)) ?_ | refine zc rfl rfl rfl rfl (zh qD rfl) ?_)
    exact qi qD rfl rfl rfl hB3 rfl ⟨made_end hR2 hg3 hgA hDj hCj (by first | exact hk | simp) hv,gr_new hg1 hg3 hl1,Lies.mk hbA⟩
end
 section
open Go Go.RowKit
attribute [local irreducible] WL WC WX WQ Yld Eff Fn
theorem Rd.ofBl' {α:Type} {f:α->Value} {w:World} {g:Nat} {e:TypeId} {xs:List α} {m:Nat} (h:Bl w g e (xs.map f)) (hm:xs.length<=m) (h63:m<=maxLen):Rd f w (some ⟨g,0,none⟩) m xs :=
 ⟨hm,h63,fun _=>⟨_,rfl,fun j x hj=>by rw [Addr.add_mid,Nat.zero_add,h.cell]; simp [hj]⟩⟩
end
 section
open Go Go.RowKit
attribute [local irreducible] WL WC WX WQ Yld Eff Fn
theorem sign_fn (n:Int) (w:World):Fn Tryz.prog 163 ⟨[vi n]⟩ w fun v w'=>v=vi (if n<0 then -1 else if 0<n then 1 else 0)/\w'=w:=by
 refine Fn.enter (by kernel_rfl) Tryz.func163 rfl Tryz.ntmps163 rfl ?_
 repeat (first | refine zd ?_ | refine WC.block ?_ | refine zb ?_ | refine ze ?_ | refine za ?_ | refine zo ?_ | refine zy ?_ | refine zt ?_ | refine zk ?_ | refine zf ?_ | refine zi ?_ | refine zj ?_ | refine zl ?_ | refine zq rfl ?_ | refine zI ?_ | refine zJ ?_ | refine zn ?_ | refine zu ?_ | refine zr ?_ | refine zg rfl (Yld.add rfl rfl (by simp only [In]; omega)) ?_ | refine zg rfl (Yld.sub rfl rfl (by simp only [In]; omega)) ?_ | refine zg rfl (zN rfl rfl (by simp only [In]; omega)) ?_ | refine zg rfl (zv qD rfl rfl rfl rfl) ?_ | refine zg rfl (zw qD rfl rfl rfl (by simp only [In]; omega)) ?_ | refine zg rfl (zE rfl rfl (by omega) (by omega) (by simp only [In]; omega)) ?_ | refine zg rfl (zF rfl rfl (by omega) (by omega)) ?_ | refine zg rfl (zP rfl rfl (by omega)) ?_ | refine zg rfl (zL rfl rfl (by omega)) ?_ | refine zg rfl (zh qD rfl) ?_ | refine zg rfl (zO qI rfl rfl rfl) ?_ | refine zg rfl (zH rfl rfl) ?_ | refine zg rfl (zC rfl rfl) ?_ | refine zg rfl (zp rfl rfl rfl) ?_ | refine zG rfl rfl rfl rfl ?_ | refine zc rfl rfl rfl rfl (Yld.add rfl rfl (by simp only [In]; omega)) ?_ | refine zc rfl rfl rfl rfl (Yld.sub rfl rfl (by simp only [In]; omega)) ?_ | refine zc rfl rfl rfl rfl (zN rfl rfl (by simp only [In]; omega)) ?_ | refine zc rfl rfl rfl rfl (zv qD rfl rfl rfl rfl) ?_ | refine zc rfl rfl rfl rfl (zw qD rfl rfl rfl (by simp only [In]; omega)) ?_ | refine zc rfl rfl rfl rfl (zE rfl rfl (by omega) (by omega) (by simp only [In]; omega)) ?_ | refine zc rfl rfl rfl rfl (zF rfl rfl (by omega) (by omega)) ?_ | refine zc rfl rfl rfl rfl (zP rfl rfl (by omega)) ?_ | refine zc rfl rfl rfl rfl (zL rfl rfl (by omega)) ?_ | refine zc rfl rfl rfl rfl (zh qD rfl) ?_ | refine zc rfl rfl rfl rfl (zO qI rfl rfl rfl) ?_ | refine zc rfl rfl rfl rfl (zH rfl rfl) ?_ | refine zc rfl rfl rfl rfl (zC rfl rfl) ?_ | refine zc rfl rfl rfl rfl (zp rfl rfl rfl) ?_)
 refine zm rfl (fun h=>?_) (fun h=>?_)
 ·simp only [decide_eq_true_eq] at h
  repeat (first | refine zd ?_ | refine WC.block ?_ | refine zb ?_ | refine ze ?_ | refine za ?_ | refine zo ?_ | refine zy ?_ | refine zt ?_ | refine zk ?_ | refine zf ?_ | refine zi ?_ | refine zj ?_ | refine zl ?_ | refine zq rfl ?_ | refine zI ?_ | refine zJ ?_ | refine zn ?_ | refine zu ?_ | refine zr ?_ | refine zg rfl (Yld.add rfl rfl (by simp only [In]; omega)) ?_ | refine zg rfl (Yld.sub rfl rfl (by simp only [In]; omega)) ?_ | refine zg rfl (zN rfl rfl (by simp only [In]; omega)) ?_ | refine zg rfl (zv qD rfl rfl rfl rfl) ?_ | refine zg rfl (zw qD rfl rfl rfl (by simp only [In]; omega)) ?_ | refine zg rfl (zE rfl rfl (by omega) (by omega) (by simp only [In]; omega)) ?_ | refine zg rfl (zF rfl rfl (by omega) (by omega)) ?_ | refine zg rfl (zP rfl rfl (by omega)) ?_ | refine zg rfl (zL rfl rfl (by omega)) ?_ | refine zg rfl (zh qD rfl) ?_ | refine zg rfl (zO qI rfl rfl rfl) ?_ | refine zg rfl (zH rfl rfl) ?_ | refine zg rfl (zC rfl rfl) ?_ | refine zg rfl (zp rfl rfl rfl) ?_ | refine zG rfl rfl rfl rfl ?_ | refine zc rfl rfl rfl rfl (Yld.add rfl rfl (by simp only [In]; omega)) ?_ | refine zc rfl rfl rfl rfl (Yld.sub rfl rfl (by simp only [In]; omega)) ?_ | refine zc rfl rfl rfl rfl (zN rfl rfl (by simp only [In]; omega)) ?_ | refine zc rfl rfl rfl rfl (zv qD rfl rfl rfl rfl) ?_ | refine zc rfl rfl rfl rfl (zw qD rfl rfl rfl (by simp only [In]; omega)) ?_ | refine zc rfl rfl rfl rfl (zE rfl rfl (by omega) (by omega) (by simp only [In]; omega)) ?_ | refine zc rfl rfl rfl rfl (zF rfl rfl (by omega) (by omega)) ?_ | refine zc rfl rfl rfl rfl (zP rfl rfl (by omega)) ?_ | refine zc rfl rfl rfl rfl (zL rfl rfl (by omega)) ?_ | refine zc rfl rfl rfl rfl (zh qD rfl) ?_ | refine zc rfl rfl rfl rfl (zO qI rfl rfl rfl) ?_ | refine zc rfl rfl rfl rfl (zH rfl rfl) ?_ | refine zc rfl rfl rfl rfl (zC rfl rfl) ?_ | refine zc rfl rfl rfl rfl (zp rfl rfl rfl) ?_)
  exact zD rfl rfl ⟨by rw [if_pos h]; rfl,rfl⟩
 ·simp only [decide_eq_false_iff_not] at h
  repeat (first | refine zd ?_ | refine WC.block ?_ | refine zb ?_ | refine ze ?_ | refine za ?_ | refine zo ?_ | refine zy ?_ | refine zt ?_ | refine zk ?_ | refine zf ?_ | refine zi ?_ | refine zj ?_ | refine zl ?_ | refine zq rfl ?_ | refine zI ?_ | refine zJ ?_ | refine zn ?_ | refine zu ?_ | refine zr ?_ | refine zg rfl (Yld.add rfl rfl (by simp only [In]; omega)) ?_ | refine zg rfl (Yld.sub rfl rfl (by simp only [In]; omega)) ?_ | refine zg rfl (zN rfl rfl (by simp only [In]; omega)) ?_ | refine zg rfl (zv qD rfl rfl rfl rfl) ?_ | refine zg rfl (zw qD rfl rfl rfl (by simp only [In]; omega)) ?_ | refine zg rfl (zE rfl rfl (by omega) (by omega) (by simp only [In]; omega)) ?_ | refine zg rfl (zF rfl rfl (by omega) (by omega)) ?_ | refine zg rfl (zP rfl rfl (by omega)) ?_ | refine zg rfl (zL rfl rfl (by omega)) ?_ | refine zg rfl (zh qD rfl) ?_ | refine zg rfl (zO qI rfl rfl rfl) ?_ | refine zg rfl (zH rfl rfl) ?_ | refine zg rfl (zC rfl rfl) ?_ | refine zg rfl (zp rfl rfl rfl) ?_ | refine zG rfl rfl rfl rfl ?_ | refine zc rfl rfl rfl rfl (Yld.add rfl rfl (by simp only [In]; omega)) ?_ | refine zc rfl rfl rfl rfl (Yld.sub rfl rfl (by simp only [In]; omega)) ?_ | refine zc rfl rfl rfl rfl (zN rfl rfl (by simp only [In]; omega)) ?_ | refine zc rfl rfl rfl rfl (zv qD rfl rfl rfl rfl) ?_ | refine zc rfl rfl rfl rfl (zw qD rfl rfl rfl (by simp only [In]; omega)) ?_ | refine zc rfl rfl rfl rfl (zE rfl rfl (by omega) (by omega) (by simp only [In]; omega)) ?_ | refine zc rfl rfl rfl rfl (zF rfl rfl (by omega) (by omega)) ?_ | refine zc rfl rfl rfl rfl (zP rfl rfl (by omega)) ?_ | refine zc rfl rfl rfl rfl (zL rfl rfl (by omega)) ?_ | refine zc rfl rfl rfl rfl (zh qD rfl) ?_ | refine zc rfl rfl rfl rfl (zO qI rfl rfl rfl) ?_ | refine zc rfl rfl rfl rfl (zH rfl rfl) ?_ | refine zc rfl rfl rfl rfl (zC rfl rfl) ?_ | refine zc rfl rfl rfl rfl (zp rfl rfl rfl) ?_)
  refine zm rfl (fun h2=>?_) (fun h2=>?_)
  ·simp only [decide_eq_true_eq] at h2
   repeat (first | refine zd ?_ | refine WC.block ?_ | refine zb ?_ | refine ze ?_ | refine za ?_ | refine zo ?_ | refine zy ?_ | refine zt ?_ | refine zk ?_ | refine zf ?_ | refine zi ?_ | refine zj ?_ | refine zl ?_ | refine zq rfl ?_ | refine zI ?_ | refine zJ ?_ | refine zn ?_ | refine zu ?_ | refine zr ?_ | refine zg rfl (Yld.add rfl rfl (by simp only [In]; omega)) ?_ | refine zg rfl (Yld.sub rfl rfl (by simp only [In]; omega)) ?_ | refine zg rfl (zN rfl rfl (by simp only [In]; omega)) ?_ | refine zg rfl (zv qD rfl rfl rfl rfl) ?_ | refine zg rfl (zw qD rfl rfl rfl (by simp only [In]; omega)) ?_ | refine zg rfl (zE rfl rfl (by omega) (by omega) (by simp only [In]; omega)) ?_ | refine zg rfl (zF rfl rfl (by omega) (by omega)) ?_ | refine zg rfl (zP rfl rfl (by omega)) ?_ | refine zg rfl (zL rfl rfl (by omega)) ?_ | refine zg rfl (zh qD rfl) ?_ | refine zg rfl (zO qI rfl rfl rfl) ?_ | refine zg rfl (zH rfl rfl) ?_ | refine zg rfl (zC rfl rfl) ?_ | refine zg rfl (zp rfl rfl rfl) ?_ | refine zG rfl rfl rfl rfl ?_ | refine zc rfl rfl rfl rfl (Yld.add rfl rfl (by simp only [In]; omega)) ?_ | refine zc rfl rfl rfl rfl (Yld.sub rfl rfl (by simp only [In]; omega)) ?_ | refine zc rfl rfl rfl rfl (zN rfl rfl (by simp only [In]; omega)) ?_ | refine zc rfl rfl rfl rfl (zv qD rfl rfl rfl rfl) ?_ | refine zc rfl rfl rfl rfl (zw qD rfl rfl rfl (by simp only [In]; omega)) ?_ | refine zc rfl rfl rfl rfl (zE rfl rfl (by omega) (by omega) (by simp only [In]; omega)) ?_ | refine zc rfl rfl rfl rfl (zF rfl rfl (by omega) (by omega)) ?_ | refine zc rfl rfl rfl rfl (zP rfl rfl (by omega)) ?_ | refine zc rfl rfl rfl rfl (zL rfl rfl (by omega)) ?_ | refine zc rfl rfl rfl rfl (zh qD rfl) ?_ | refine zc rfl rfl rfl rfl (zO qI rfl rfl rfl) ?_ | refine zc rfl rfl rfl rfl (zH rfl rfl) ?_ | refine zc rfl rfl rfl rfl (zC rfl rfl) ?_ | refine zc rfl rfl rfl rfl (zp rfl rfl rfl) ?_)
   exact zD rfl rfl ⟨by rw [if_neg h,if_pos h2]; rfl,rfl⟩
  ·simp only [decide_eq_false_iff_not] at h2
   repeat (first | refine zd ?_ | refine WC.block ?_ | refine zb ?_ | refine ze ?_ | refine za ?_ | refine zo ?_ | refine zy ?_ | refine zt ?_ | refine zk ?_ | refine zf ?_ | refine zi ?_ | refine zj ?_ | refine zl ?_ | refine zq rfl ?_ | refine zI ?_ | refine zJ ?_ | refine zn ?_ | refine zu ?_ | refine zr ?_ | refine zg rfl (Yld.add rfl rfl (by simp only [In]; omega)) ?_ | refine zg rfl (Yld.sub rfl rfl (by simp only [In]; omega)) ?_ | refine zg rfl (zN rfl rfl (by simp only [In]; omega)) ?_ | refine zg rfl (zv qD rfl rfl rfl rfl) ?_ | refine zg rfl (zw qD rfl rfl rfl (by simp only [In]; omega)) ?_ | refine zg rfl (zE rfl rfl (by omega) (by omega) (by simp only [In]; omega)) ?_ | refine zg rfl (zF rfl rfl (by omega) (by omega)) ?_ | refine zg rfl (zP rfl rfl (by omega)) ?_ | refine zg rfl (zL rfl rfl (by omega)) ?_ | refine zg rfl (zh qD rfl) ?_ | refine zg rfl (zO qI rfl rfl rfl) ?_ | refine zg rfl (zH rfl rfl) ?_ | refine zg rfl (zC rfl rfl) ?_ | refine zg rfl (zp rfl rfl rfl) ?_ | refine zG rfl rfl rfl rfl ?_ | refine zc rfl rfl rfl rfl (Yld.add rfl rfl (by simp only [In]; omega)) ?_ | refine zc rfl rfl rfl rfl (Yld.sub rfl rfl (by simp only [In]; omega)) ?_ | refine zc rfl rfl rfl rfl (zN rfl rfl (by simp only [In]; omega)) ?_ | refine zc rfl rfl rfl rfl (zv qD rfl rfl rfl rfl) ?_ | refine zc rfl rfl rfl rfl (zw qD rfl rfl rfl (by simp only [In]; omega)) ?_ | refine zc rfl rfl rfl rfl (zE rfl rfl (by omega) (by omega) (by simp only [In]; omega)) ?_ | refine zc rfl rfl rfl rfl (zF rfl rfl (by omega) (by omega)) ?_ | refine zc rfl rfl rfl rfl (zP rfl rfl (by omega)) ?_ | refine zc rfl rfl rfl rfl (zL rfl rfl (by omega)) ?_ | refine zc rfl rfl rfl rfl (zh qD rfl) ?_ | refine zc rfl rfl rfl rfl (zO qI rfl rfl rfl) ?_ | refine zc rfl rfl rfl rfl (zH rfl rfl) ?_ | refine zc rfl rfl rfl rfl (zC rfl rfl) ?_ | refine zc rfl rfl rfl rfl (zp rfl rfl rfl) ?_)
   exact zD rfl rfl ⟨by rw [if_neg h,if_neg h2]; rfl,rfl⟩
end
 section
open Go Go.RowKit
attribute [local irreducible] WL WC WX WQ Yld Eff Fn
def Tells (n:Int) (x y:Nat):Prop:=(n<0/\x<y)∨(n=0/\x=y)∨(0<n/\y<x)
theorem val_lt_len {la lb:List Nat} (hDa:Dg la) (hCb:Can lb) (h:la.length<lb.length):val la<val lb:=by
 have h1:=val_lt' hDa
 have h2:=val_ge hCb (by intro e; subst e; simp at h)
 have h3:1000000000 ^ la.length<=1000000000 ^ (lb.length - 1):=Nat.pow_le_pow_right (by omega) (by omega)
 omega
theorem take_less {la lb:List Nat} (hDa:Dg la) (j:Nat) (h:la.getD j 0<lb.getD j 0):val (la.take (j+1))<val (lb.take (j+1)):=by
 have h1:=val_lt hDa j
 rw [val_take,val_take]
 generalize 1000000000 ^ j=p at *
 generalize la.getD j 0=a at *
 generalize lb.getD j 0=b at *
 have:p*(a+1)<=p*b:=Nat.mul_le_mul_left _ h
 rw [Nat.mul_add] at this
 omega
theorem cmp_fn (A:Option Addr) (c:Nat) (la:List Nat) (B:Option Addr) (cb:Nat) (lb:List Nat) (w:World) (hA:Rd vd w A c la) (hB:Rd vd w B cb lb) (hDa:Dg la) (hDb:Dg lb) (hCa:Can la) (hCb:Can lb) (hla:la.length<=1000000) (hlb:lb.length<=1000000) :
  Fn Tryz.prog 164 ⟨[.slice A la.length c,.slice B lb.length cb]⟩ w fun v w'=>(∃ n,v=vi n/\Tells n (val la) (val lb))/\w'=w:=by
 refine Fn.enter (by kernel_rfl) Tryz.func164 rfl Tryz.ntmps164 rfl ?_
 repeat (first | refine zd ?_ | refine WC.block ?_ | refine zb ?_ | refine ze ?_ | refine za ?_ | refine zo ?_ | refine zy ?_ | refine zt ?_ | refine zk ?_ | refine zf ?_ | refine zi ?_ | refine zj ?_ | refine zl ?_ | refine zq rfl ?_ | refine zI ?_ | refine zJ ?_ | refine zn ?_ | refine zu ?_ | refine zr ?_ | refine zg rfl (Yld.add rfl rfl (by simp only [In]; omega)) ?_ | refine zg rfl (Yld.sub rfl rfl (by simp only [In]; omega)) ?_ | refine zg rfl (zN rfl rfl (by simp only [In]; omega)) ?_ | refine zg rfl (zv qD rfl rfl rfl rfl) ?_ | refine zg rfl (zw qD rfl rfl rfl (by simp only [In]; omega)) ?_ | refine zg rfl (zE rfl rfl (by omega) (by omega) (by simp only [In]; omega)) ?_ | refine zg rfl (zF rfl rfl (by omega) (by omega)) ?_ | refine zg rfl (zP rfl rfl (by omega)) ?_ | refine zg rfl (zL rfl rfl (by omega)) ?_ | refine zg rfl (zh qD rfl) ?_ | refine zg rfl (zO qI rfl rfl rfl) ?_ | refine zg rfl (zH rfl rfl) ?_ | refine zg rfl (zC rfl rfl) ?_ | refine zg rfl (zp rfl rfl rfl) ?_ | refine zG rfl rfl rfl rfl ?_ | refine zc rfl rfl rfl rfl (Yld.add rfl rfl (by simp only [In]; omega)) ?_ | refine zc rfl rfl rfl rfl (Yld.sub rfl rfl (by simp only [In]; omega)) ?_ | refine zc rfl rfl rfl rfl (zN rfl rfl (by simp only [In]; omega)) ?_ | refine zc rfl rfl rfl rfl (zv qD rfl rfl rfl rfl) ?_ | refine zc rfl rfl rfl rfl (zw qD rfl rfl rfl (by simp only [In]; omega)) ?_ | refine zc rfl rfl rfl rfl (zE rfl rfl (by omega) (by omega) (by simp only [In]; omega)) ?_ | refine zc rfl rfl rfl rfl (zF rfl rfl (by omega) (by omega)) ?_ | refine zc rfl rfl rfl rfl (zP rfl rfl (by omega)) ?_ | refine zc rfl rfl rfl rfl (zL rfl rfl (by omega)) ?_ | refine zc rfl rfl rfl rfl (zh qD rfl) ?_ | refine zc rfl rfl rfl rfl (zO qI rfl rfl rfl) ?_ | refine zc rfl rfl rfl rfl (zH rfl rfl) ?_ | refine zc rfl rfl rfl rfl (zC rfl rfl) ?_ | refine zc rfl rfl rfl rfl (zp rfl rfl rfl) ?_)
 refine zm rfl (fun h=>?_) (fun h=>?_)
 ·simp only [Bool.not_eq_true',decide_eq_false_iff_not] at h
  repeat (first | refine zd ?_ | refine WC.block ?_ | refine zb ?_ | refine ze ?_ | refine za ?_ | refine zo ?_ | refine zy ?_ | refine zt ?_ | refine zk ?_ | refine zf ?_ | refine zi ?_ | refine zj ?_ | refine zl ?_ | refine zq rfl ?_ | refine zI ?_ | refine zJ ?_ | refine zn ?_ | refine zu ?_ | refine zr ?_ | refine zg rfl (Yld.add rfl rfl (by simp only [In]; omega)) ?_ | refine zg rfl (Yld.sub rfl rfl (by simp only [In]; omega)) ?_ | refine zg rfl (zN rfl rfl (by simp only [In]; omega)) ?_ | refine zg rfl (zv qD rfl rfl rfl rfl) ?_ | refine zg rfl (zw qD rfl rfl rfl (by simp only [In]; omega)) ?_ | refine zg rfl (zE rfl rfl (by omega) (by omega) (by simp only [In]; omega)) ?_ | refine zg rfl (zF rfl rfl (by omega) (by omega)) ?_ | refine zg rfl (zP rfl rfl (by omega)) ?_ | refine zg rfl (zL rfl rfl (by omega)) ?_ | refine zg rfl (zh qD rfl) ?_ | refine zg rfl (zO qI rfl rfl rfl) ?_ | refine zg rfl (zH rfl rfl) ?_ | refine zg rfl (zC rfl rfl) ?_ | refine zg rfl (zp rfl rfl rfl) ?_ | refine zG rfl rfl rfl rfl ?_ | refine zc rfl rfl rfl rfl (Yld.add rfl rfl (by simp only [In]; omega)) ?_ | refine zc rfl rfl rfl rfl (Yld.sub rfl rfl (by simp only [In]; omega)) ?_ | refine zc rfl rfl rfl rfl (zN rfl rfl (by simp only [In]; omega)) ?_ | refine zc rfl rfl rfl rfl (zv qD rfl rfl rfl rfl) ?_ | refine zc rfl rfl rfl rfl (zw qD rfl rfl rfl (by simp only [In]; omega)) ?_ | refine zc rfl rfl rfl rfl (zE rfl rfl (by omega) (by omega) (by simp only [In]; omega)) ?_ | refine zc rfl rfl rfl rfl (zF rfl rfl (by omega) (by omega)) ?_ | refine zc rfl rfl rfl rfl (zP rfl rfl (by omega)) ?_ | refine zc rfl rfl rfl rfl (zL rfl rfl (by omega)) ?_ | refine zc rfl rfl rfl rfl (zh qD rfl) ?_ | refine zc rfl rfl rfl rfl (zO qI rfl rfl rfl) ?_ | refine zc rfl rfl rfl rfl (zH rfl rfl) ?_ | refine zc rfl rfl rfl rfl (zC rfl rfl) ?_ | refine zc rfl rfl rfl rfl (zp rfl rfl rfl) ?_)
  refine zD rfl rfl ⟨⟨_,rfl,?_⟩,rfl⟩
  rcases Nat.lt_or_ge la.length lb.length with h1 | h1
  ·exact .inl ⟨by omega,val_lt_len hDa hCb h1⟩
  ·exact .inr (.inr ⟨by omega,val_lt_len hDb hCa (by omega)⟩)
 simp only [Bool.not_eq_false',decide_eq_true_eq] at h
 have hll:la.length=lb.length:=by omega
 repeat (first | refine zd ?_ | refine WC.block ?_ | refine zb ?_ | refine ze ?_ | refine za ?_ | refine zo ?_ | refine zy ?_ | refine zt ?_ | refine zk ?_ | refine zf ?_ | refine zi ?_ | refine zj ?_ | refine zl ?_ | refine zq rfl ?_ | refine zI ?_ | refine zJ ?_ | refine zn ?_ | refine zu ?_ | refine zr ?_ | refine zg rfl (Yld.add rfl rfl (by simp only [In]; omega)) ?_ | refine zg rfl (Yld.sub rfl rfl (by simp only [In]; omega)) ?_ | refine zg rfl (zN rfl rfl (by simp only [In]; omega)) ?_ | refine zg rfl (zv qD rfl rfl rfl rfl) ?_ | refine zg rfl (zw qD rfl rfl rfl (by simp only [In]; omega)) ?_ | refine zg rfl (zE rfl rfl (by omega) (by omega) (by simp only [In]; omega)) ?_ | refine zg rfl (zF rfl rfl (by omega) (by omega)) ?_ | refine zg rfl (zP rfl rfl (by omega)) ?_ | refine zg rfl (zL rfl rfl (by omega)) ?_ | refine zg rfl (zh qD rfl) ?_ | refine zg rfl (zO qI rfl rfl rfl) ?_ | refine zg rfl (zH rfl rfl) ?_ | refine zg rfl (zC rfl rfl) ?_ | refine zg rfl (zp rfl rfl rfl) ?_ | refine zG rfl rfl rfl rfl ?_ | refine zc rfl rfl rfl rfl (Yld.add rfl rfl (by simp only [In]; omega)) ?_ | refine zc rfl rfl rfl rfl (Yld.sub rfl rfl (by simp only [In]; omega)) ?_ | refine zc rfl rfl rfl rfl (zN rfl rfl (by simp only [In]; omega)) ?_ | refine zc rfl rfl rfl rfl (zv qD rfl rfl rfl rfl) ?_ | refine zc rfl rfl rfl rfl (zw qD rfl rfl rfl (by simp only [In]; omega)) ?_ | refine zc rfl rfl rfl rfl (zE rfl rfl (by omega) (by omega) (by simp only [In]; omega)) ?_ | refine zc rfl rfl rfl rfl (zF rfl rfl (by omega) (by omega)) ?_ | refine zc rfl rfl rfl rfl (zP rfl rfl (by omega)) ?_ | refine zc rfl rfl rfl rfl (zL rfl rfl (by omega)) ?_ | refine zc rfl rfl rfl rfl (zh qD rfl) ?_ | refine zc rfl rfl rfl rfl (zO qI rfl rfl rfl) ?_ | refine zc rfl rfl rfl rfl (zH rfl rfl) ?_ | refine zc rfl rfl rfl rfl (zC rfl rfl) ?_ | refine zc rfl rfl rfl rfl (zp rfl rfl rfl) ?_)
 refine WC.loop (S:=Nat) (fun j=>j) (fun j=>[(5,.int .i64 ((j:Int) - 1)),(0,.slice A la.length c),(1,.slice B lb.length cb)])
  (fun j w2=>j<=la.length/\val la+val (lb.take j)=val lb+val (la.take j)/\w2=w) la.length ⟨by omega,by rw [List.take_of_length_le (Nat.le_refl _),List.take_of_length_le (by omega)]; omega,rfl⟩ (by repeat (first | exact qg | refine qb rfl ?_)) (fun j w2 ⟨hj,hv,hw2⟩=>?_)
 subst hw2
 repeat (first | refine zd ?_ | refine WC.block ?_ | refine zb ?_ | refine ze ?_ | refine za ?_ | refine zo ?_ | refine zy ?_ | refine zt ?_ | refine zk ?_ | refine zf ?_ | refine zi ?_ | refine zj ?_ | refine zl ?_ | refine zq rfl ?_ | refine zI ?_ | refine zJ ?_ | refine zn ?_ | refine zu ?_ | refine zr ?_ | refine zg rfl (Yld.add rfl rfl (by simp only [In]; omega)) ?_ | refine zg rfl (Yld.sub rfl rfl (by simp only [In]; omega)) ?_ | refine zg rfl (zN rfl rfl (by simp only [In]; omega)) ?_ | refine zg rfl (zv qD rfl rfl rfl rfl) ?_ | refine zg rfl (zw qD rfl rfl rfl (by simp only [In]; omega)) ?_ | refine zg rfl (zE rfl rfl (by omega) (by omega) (by simp only [In]; omega)) ?_ | refine zg rfl (zF rfl rfl (by omega) (by omega)) ?_ | refine zg rfl (zP rfl rfl (by omega)) ?_ | refine zg rfl (zL rfl rfl (by omega)) ?_ | refine zg rfl (zh qD rfl) ?_ | refine zg rfl (zO qI rfl rfl rfl) ?_ | refine zg rfl (zH rfl rfl) ?_ | refine zg rfl (zC rfl rfl) ?_ | refine zg rfl (zp rfl rfl rfl) ?_ | refine zG rfl rfl rfl rfl ?_ | refine zc rfl rfl rfl rfl (Yld.add rfl rfl (by simp only [In]; omega)) ?_ | refine zc rfl rfl rfl rfl (Yld.sub rfl rfl (by simp only [In]; omega)) ?_ | refine zc rfl rfl rfl rfl (zN rfl rfl (by simp only [In]; omega)) ?_ | refine zc rfl rfl rfl rfl (zv qD rfl rfl rfl rfl) ?_ | refine zc rfl rfl rfl rfl (zw qD rfl rfl rfl (by simp only [In]; omega)) ?_ | refine zc rfl rfl rfl rfl (zE rfl rfl (by omega) (by omega) (by simp only [In]; omega)) ?_ | refine zc rfl rfl rfl rfl (zF rfl rfl (by omega) (by omega)) ?_ | refine zc rfl rfl rfl rfl (zP rfl rfl (by omega)) ?_ | refine zc rfl rfl rfl rfl (zL rfl rfl (by omega)) ?_ | refine zc rfl rfl rfl rfl (zh qD rfl) ?_ | refine zc rfl rfl rfl rfl (zO qI rfl rfl rfl) ?_ | refine zc rfl rfl rfl rfl (zH rfl rfl) ?_ | refine zc rfl rfl rfl rfl (zC rfl rfl) ?_ | refine zc rfl rfl rfl rfl (zp rfl rfl rfl) ?_)
 refine zm rfl (fun h=>?_) (fun h=>?_)
 ·simp only [decide_eq_true_eq] at h
  obtain ⟨i,rfl⟩:∃ i,j=i+1:=⟨j - 1,by omega⟩
  have hjt:(((i+1:Nat):Int) - 1).toNat=i:=by omega
  have hda:=hDa i
  have hdb:=hDb i
  repeat (first | refine zd ?_ | refine WC.block ?_ | refine zb ?_ | refine ze ?_ | refine za ?_ | refine zo ?_ | refine zy ?_ | refine zt ?_ | refine zk ?_ | refine zf ?_ | refine zi ?_ | refine zj ?_ | refine zl ?_ | refine zq rfl ?_ | refine zI ?_ | refine zJ ?_ | refine zn ?_ | refine zu ?_ | refine zr ?_ | refine zg rfl (Yld.add rfl rfl (by simp only [In]; omega)) ?_ | refine zg rfl (Yld.sub rfl rfl (by simp only [In]; omega)) ?_ | refine zg rfl (zN rfl rfl (by simp only [In]; omega)) ?_ | refine zg rfl (zv qD rfl rfl rfl rfl) ?_ | refine zg rfl (zw qD rfl rfl rfl (by simp only [In]; omega)) ?_ | refine zg rfl (zE rfl rfl (by omega) (by omega) (by simp only [In]; omega)) ?_ | refine zg rfl (zF rfl rfl (by omega) (by omega)) ?_ | refine zg rfl (zP rfl rfl (by omega)) ?_ | refine zg rfl (zL rfl rfl (by omega)) ?_ | refine zg rfl (zh qD rfl) ?_ | refine zg rfl (zO qI rfl rfl rfl) ?_ | refine zg rfl (zH rfl rfl) ?_ | refine zg rfl (zC rfl rfl) ?_ | refine zg rfl (zp rfl rfl rfl) ?_ | refine zG rfl rfl rfl rfl ?_ | refine zc rfl rfl rfl rfl (Yld.add rfl rfl (by simp only [In]; omega)) ?_ | refine zc rfl rfl rfl rfl (Yld.sub rfl rfl (by simp only [In]; omega)) ?_ | refine zc rfl rfl rfl rfl (zN rfl rfl (by simp only [In]; omega)) ?_ | refine zc rfl rfl rfl rfl (zv qD rfl rfl rfl rfl) ?_ | refine zc rfl rfl rfl rfl (zw qD rfl rfl rfl (by simp only [In]; omega)) ?_ | refine zc rfl rfl rfl rfl (zE rfl rfl (by omega) (by omega) (by simp only [In]; omega)) ?_ | refine zc rfl rfl rfl rfl (zF rfl rfl (by omega) (by omega)) ?_ | refine zc rfl rfl rfl rfl (zP rfl rfl (by omega)) ?_ | refine zc rfl rfl rfl rfl (zL rfl rfl (by omega)) ?_ | refine zc rfl rfl rfl rfl (zh qD rfl) ?_ | refine zc rfl rfl rfl rfl (zO qI rfl rfl rfl) ?_ | refine zc rfl rfl rfl rfl (zH rfl rfl) ?_ | refine zc rfl rfl rfl rfl (zC rfl rfl) ?_ | refine zc rfl rfl rfl rfl (zp rfl rfl rfl) ?_)
  refine qq jx (by kernel_rfl) ?_
  repeat (first | refine qc rfl (qy qD hA rfl rfl rfl rfl (by omega) (by omega)) ?_ | refine qc rfl (qy qD hB rfl rfl rfl rfl (by omega) (by omega)) ?_ | refine qc rfl (zM 0 qD hA rfl rfl (by omega)) ?_ | refine qc rfl (zM 0 qD hB rfl rfl (by omega)) ?_ | refine qc rfl (Yld.add rfl rfl (by simp only [In]; omega)) ?_ | refine qc rfl (Yld.sub rfl rfl (by simp only [In]; omega)) ?_ | refine qc rfl (zN rfl rfl (by simp only [In]; omega)) ?_ | refine qc rfl (zv qD rfl rfl rfl rfl) ?_ | refine qc rfl (zw qD rfl rfl rfl (by simp only [In]; omega)) ?_ | refine qc rfl (zE rfl rfl (by omega) (by omega) (by simp only [In]; omega)) ?_ | refine qc rfl (zF rfl rfl (by omega) (by omega)) ?_ | refine qc rfl (zP rfl rfl (by omega)) ?_ | refine qc rfl (zL rfl rfl (by omega)) ?_ | refine qc rfl (zh qD rfl) ?_ | refine qc rfl (zO qI rfl rfl rfl) ?_ | refine qc rfl (zH rfl rfl) ?_ | refine qc rfl (zC rfl rfl) ?_ | refine qc rfl (zp rfl rfl rfl) ?_ | refine WQ.gno rfl rfl rfl rfl ?_ | refine qa rfl rfl rfl rfl (Yld.add rfl rfl (by simp only [In]; omega)) ?_ | refine qa rfl rfl rfl rfl (Yld.sub rfl rfl (by simp only [In]; omega)) ?_ | refine qa rfl rfl rfl rfl (zN rfl rfl (by simp only [In]; omega)) ?_ | refine qa rfl rfl rfl rfl (zv qD rfl rfl rfl rfl) ?_ | refine qa rfl rfl rfl rfl (zw qD rfl rfl rfl (by simp only [In]; omega)) ?_ | refine qa rfl rfl rfl rfl (zE rfl rfl (by omega) (by omega) (by simp only [In]; omega)) ?_ | refine qa rfl rfl rfl rfl (zF rfl rfl (by omega) (by omega)) ?_ | refine qa rfl rfl rfl rfl (zP rfl rfl (by omega)) ?_ | refine qa rfl rfl rfl rfl (zL rfl rfl (by omega)) ?_ | refine qa rfl rfl rfl rfl (zh qD rfl) ?_ | refine qa rfl rfl rfl rfl (zO qI rfl rfl rfl) ?_ | refine qa rfl rfl rfl rfl (zH rfl rfl) ?_ | refine qa rfl rfl rfl rfl (zC rfl rfl) ?_ | refine qa rfl rfl rfl rfl (zp rfl rfl rfl) ?_)
  refine qC ?_
  rw [hjt]
  repeat (first | refine zd ?_ | refine WC.block ?_ | refine zb ?_ | refine ze ?_ | refine za ?_ | refine zo ?_ | refine zy ?_ | refine zt ?_ | refine zk ?_ | refine zf ?_ | refine zi ?_ | refine zj ?_ | refine zl ?_ | refine zq rfl ?_ | refine zI ?_ | refine zJ ?_ | refine zn ?_ | refine zu ?_ | refine zr ?_ | refine zg rfl (Yld.add rfl rfl (by simp only [In]; omega)) ?_ | refine zg rfl (Yld.sub rfl rfl (by simp only [In]; omega)) ?_ | refine zg rfl (zN rfl rfl (by simp only [In]; omega)) ?_ | refine zg rfl (zv qD rfl rfl rfl rfl) ?_ | refine zg rfl (zw qD rfl rfl rfl (by simp only [In]; omega)) ?_ | refine zg rfl (zE rfl rfl (by omega) (by omega) (by simp only [In]; omega)) ?_ | refine zg rfl (zF rfl rfl (by omega) (by omega)) ?_ | refine zg rfl (zP rfl rfl (by omega)) ?_ | refine zg rfl (zL rfl rfl (by omega)) ?_ | refine zg rfl (zh qD rfl) ?_ | refine zg rfl (zO qI rfl rfl rfl) ?_ | refine zg rfl (zH rfl rfl) ?_ | refine zg rfl (zC rfl rfl) ?_ | refine zg rfl (zp rfl rfl rfl) ?_ | refine zG rfl rfl rfl rfl ?_ | refine zc rfl rfl rfl rfl (Yld.add rfl rfl (by simp only [In]; omega)) ?_ | refine zc rfl rfl rfl rfl (Yld.sub rfl rfl (by simp only [In]; omega)) ?_ | refine zc rfl rfl rfl rfl (zN rfl rfl (by simp only [In]; omega)) ?_ | refine zc rfl rfl rfl rfl (zv qD rfl rfl rfl rfl) ?_ | refine zc rfl rfl rfl rfl (zw qD rfl rfl rfl (by simp only [In]; omega)) ?_ | refine zc rfl rfl rfl rfl (zE rfl rfl (by omega) (by omega) (by simp only [In]; omega)) ?_ | refine zc rfl rfl rfl rfl (zF rfl rfl (by omega) (by omega)) ?_ | refine zc rfl rfl rfl rfl (zP rfl rfl (by omega)) ?_ | refine zc rfl rfl rfl rfl (zL rfl rfl (by omega)) ?_ | refine zc rfl rfl rfl rfl (zh qD rfl) ?_ | refine zc rfl rfl rfl rfl (zO qI rfl rfl rfl) ?_ | refine zc rfl rfl rfl rfl (zH rfl rfl) ?_ | refine zc rfl rfl rfl rfl (zC rfl rfl) ?_ | refine zc rfl rfl rfl rfl (zp rfl rfl rfl) ?_)
  refine zm rfl (fun h=>?_) (fun h=>?_)
  ·simp only [Bool.not_eq_true',decide_eq_false_iff_not] at h
   repeat (first | refine zd ?_ | refine WC.block ?_ | refine zb ?_ | refine ze ?_ | refine za ?_ | refine zo ?_ | refine zy ?_ | refine zt ?_ | refine zk ?_ | refine zf ?_ | refine zi ?_ | refine zj ?_ | refine zl ?_ | refine zq rfl ?_ | refine zI ?_ | refine zJ ?_ | refine zn ?_ | refine zu ?_ | refine zr ?_ | refine zg rfl (Yld.add rfl rfl (by simp only [In]; omega)) ?_ | refine zg rfl (Yld.sub rfl rfl (by simp only [In]; omega)) ?_ | refine zg rfl (zN rfl rfl (by simp only [In]; omega)) ?_ | refine zg rfl (zv qD rfl rfl rfl rfl) ?_ | refine zg rfl (zw qD rfl rfl rfl (by simp only [In]; omega)) ?_ | refine zg rfl (zE rfl rfl (by omega) (by omega) (by simp only [In]; omega)) ?_ | refine zg rfl (zF rfl rfl (by omega) (by omega)) ?_ | refine zg rfl (zP rfl rfl (by omega)) ?_ | refine zg rfl (zL rfl rfl (by omega)) ?_ | refine zg rfl (zh qD rfl) ?_ | refine zg rfl (zO qI rfl rfl rfl) ?_ | refine zg rfl (zH rfl rfl) ?_ | refine zg rfl (zC rfl rfl) ?_ | refine zg rfl (zp rfl rfl rfl) ?_ | refine zG rfl rfl rfl rfl ?_ | refine zc rfl rfl rfl rfl (Yld.add rfl rfl (by simp only [In]; omega)) ?_ | refine zc rfl rfl rfl rfl (Yld.sub rfl rfl (by simp only [In]; omega)) ?_ | refine zc rfl rfl rfl rfl (zN rfl rfl (by simp only [In]; omega)) ?_ | refine zc rfl rfl rfl rfl (zv qD rfl rfl rfl rfl) ?_ | refine zc rfl rfl rfl rfl (zw qD rfl rfl rfl (by simp only [In]; omega)) ?_ | refine zc rfl rfl rfl rfl (zE rfl rfl (by omega) (by omega) (by simp only [In]; omega)) ?_ | refine zc rfl rfl rfl rfl (zF rfl rfl (by omega) (by omega)) ?_ | refine zc rfl rfl rfl rfl (zP rfl rfl (by omega)) ?_ | refine zc rfl rfl rfl rfl (zL rfl rfl (by omega)) ?_ | refine zc rfl rfl rfl rfl (zh qD rfl) ?_ | refine zc rfl rfl rfl rfl (zO qI rfl rfl rfl) ?_ | refine zc rfl rfl rfl rfl (zH rfl rfl) ?_ | refine zc rfl rfl rfl rfl (zC rfl rfl) ?_ | refine zc rfl rfl rfl rfl (zp rfl rfl rfl) ?_)
   refine qq jx (by kernel_rfl) ?_
   have hda2:la.getD (((i+1:Nat):Int) - 1).toNat 0<1000000000:=by rw [hjt]; exact hda
   have hdb2:lb.getD (((i+1:Nat):Int) - 1).toNat 0<1000000000:=by rw [hjt]; exact hdb
   repeat (first | refine qc rfl (qy qD hA rfl rfl rfl rfl (by omega) (by omega)) ?_ | refine qc rfl (qy qD hB rfl rfl rfl rfl (by omega) (by omega)) ?_ | refine qc rfl (zM 0 qD hA rfl rfl (by omega)) ?_ | refine qc rfl (zM 0 qD hB rfl rfl (by omega)) ?_ | refine qc rfl (Yld.add rfl rfl (by simp only [In]; omega)) ?_ | refine qc rfl (Yld.sub rfl rfl (by simp only [In]; omega)) ?_ | refine qc rfl (zN rfl rfl (by simp only [In]; omega)) ?_ | refine qc rfl (zv qD rfl rfl rfl rfl) ?_ | refine qc rfl (zw qD rfl rfl rfl (by simp only [In]; omega)) ?_ | refine qc rfl (zE rfl rfl (by omega) (by omega) (by simp only [In]; omega)) ?_ | refine qc rfl (zF rfl rfl (by omega) (by omega)) ?_ | refine qc rfl (zP rfl rfl (by omega)) ?_ | refine qc rfl (zL rfl rfl (by omega)) ?_ | refine qc rfl (zh qD rfl) ?_ | refine qc rfl (zO qI rfl rfl rfl) ?_ | refine qc rfl (zH rfl rfl) ?_ | refine qc rfl (zC rfl rfl) ?_ | refine qc rfl (zp rfl rfl rfl) ?_ | refine WQ.gno rfl rfl rfl rfl ?_ | refine qa rfl rfl rfl rfl (Yld.add rfl rfl (by simp only [In]; omega)) ?_ | refine qa rfl rfl rfl rfl (Yld.sub rfl rfl (by simp only [In]; omega)) ?_ | refine qa rfl rfl rfl rfl (zN rfl rfl (by simp only [In]; omega)) ?_ | refine qa rfl rfl rfl rfl (zv qD rfl rfl rfl rfl) ?_ | refine qa rfl rfl rfl rfl (zw qD rfl rfl rfl (by simp only [In]; omega)) ?_ | refine qa rfl rfl rfl rfl (zE rfl rfl (by omega) (by omega) (by simp only [In]; omega)) ?_ | refine qa rfl rfl rfl rfl (zF rfl rfl (by omega) (by omega)) ?_ | refine qa rfl rfl rfl rfl (zP rfl rfl (by omega)) ?_ | refine qa rfl rfl rfl rfl (zL rfl rfl (by omega)) ?_ | refine qa rfl rfl rfl rfl (zh qD rfl) ?_ | refine qa rfl rfl rfl rfl (zO qI rfl rfl rfl) ?_ | refine qa rfl rfl rfl rfl (zH rfl rfl) ?_ | refine qa rfl rfl rfl rfl (zC rfl rfl) ?_ | refine qa rfl rfl rfl rfl (zp rfl rfl rfl) ?_)
   refine qC ?_
   rw [hjt]
   repeat (first | refine zd ?_ | refine WC.block ?_ | refine zb ?_ | refine ze ?_ | refine za ?_ | refine zo ?_ | refine zy ?_ | refine zt ?_ | refine zk ?_ | refine zf ?_ | refine zi ?_ | refine zj ?_ | refine zl ?_ | refine zq rfl ?_ | refine zI ?_ | refine zJ ?_ | refine zn ?_ | refine zu ?_ | refine zr ?_ | refine zg rfl (Yld.add rfl rfl (by simp only [In]; omega)) ?_ | refine zg rfl (Yld.sub rfl rfl (by simp only [In]; omega)) ?_ | refine zg rfl (zN rfl rfl (by simp only [In]; omega)) ?_ | refine zg rfl (zv qD rfl rfl rfl rfl) ?_ | refine zg rfl (zw qD rfl rfl rfl (by simp only [In]; omega)) ?_ | refine zg rfl (zE rfl rfl (by omega) (by omega) (by simp only [In]; omega)) ?_ | refine zg rfl (zF rfl rfl (by omega) (by omega)) ?_ | refine zg rfl (zP rfl rfl (by omega)) ?_ | refine zg rfl (zL rfl rfl (by omega)) ?_ | refine zg rfl (zh qD rfl) ?_ | refine zg rfl (zO qI rfl rfl rfl) ?_ | refine zg rfl (zH rfl rfl) ?_ | refine zg rfl (zC rfl rfl) ?_ | refine zg rfl (zp rfl rfl rfl) ?_ | refine zG rfl rfl rfl rfl ?_ | refine zc rfl rfl rfl rfl (Yld.add rfl rfl (by simp only [In]; omega)) ?_ | refine zc rfl rfl rfl rfl (Yld.sub rfl rfl (by simp only [In]; omega)) ?_ | refine zc rfl rfl rfl rfl (zN rfl rfl (by simp only [In]; omega)) ?_ | refine zc rfl rfl rfl rfl (zv qD rfl rfl rfl rfl) ?_ | refine zc rfl rfl rfl rfl (zw qD rfl rfl rfl (by simp only [In]; omega)) ?_ | refine zc rfl rfl rfl rfl (zE rfl rfl (by omega) (by omega) (by simp only [In]; omega)) ?_ | refine zc rfl rfl rfl rfl (zF rfl rfl (by omega) (by omega)) ?_ | refine zc rfl rfl rfl rfl (zP rfl rfl (by omega)) ?_ | refine zc rfl rfl rfl rfl (zL rfl rfl (by omega)) ?_ | refine zc rfl rfl rfl rfl (zh qD rfl) ?_ | refine zc rfl rfl rfl rfl (zO qI rfl rfl rfl) ?_ | refine zc rfl rfl rfl rfl (zH rfl rfl) ?_ | refine zc rfl rfl rfl rfl (zC rfl rfl) ?_ | refine zc rfl rfl rfl rfl (zp rfl rfl rfl) ?_)
   refine zD rfl rfl ⟨⟨_,rfl,?_⟩,rfl⟩
   rcases Nat.lt_or_ge (la.getD i 0) (lb.getD i 0) with h1 | h1
   ·have:=take_less hDa i h1
    exact .inl ⟨by omega,by omega⟩
   ·have:=take_less (la:=lb) (lb:=la) hDb i (by omega)
    exact .inr (.inr ⟨by omega,by omega⟩)
  ·simp only [Bool.not_eq_false',decide_eq_true_eq] at h
   repeat (first | refine zd ?_ | refine WC.block ?_ | refine zb ?_ | refine ze ?_ | refine za ?_ | refine zo ?_ | refine zy ?_ | refine zt ?_ | refine zk ?_ | refine zf ?_ | refine zi ?_ | refine zj ?_ | refine zl ?_ | refine zq rfl ?_ | refine zI ?_ | refine zJ ?_ | refine zn ?_ | refine zu ?_ | refine zr ?_ | refine zg rfl (Yld.add rfl rfl (by simp only [In]; omega)) ?_ | refine zg rfl (Yld.sub rfl rfl (by simp only [In]; omega)) ?_ | refine zg rfl (zN rfl rfl (by simp only [In]; omega)) ?_ | refine zg rfl (zv qD rfl rfl rfl rfl) ?_ | refine zg rfl (zw qD rfl rfl rfl (by simp only [In]; omega)) ?_ | refine zg rfl (zE rfl rfl (by omega) (by omega) (by simp only [In]; omega)) ?_ | refine zg rfl (zF rfl rfl (by omega) (by omega)) ?_ | refine zg rfl (zP rfl rfl (by omega)) ?_ | refine zg rfl (zL rfl rfl (by omega)) ?_ | refine zg rfl (zh qD rfl) ?_ | refine zg rfl (zO qI rfl rfl rfl) ?_ | refine zg rfl (zH rfl rfl) ?_ | refine zg rfl (zC rfl rfl) ?_ | refine zg rfl (zp rfl rfl rfl) ?_ | refine zG rfl rfl rfl rfl ?_ | refine zc rfl rfl rfl rfl (Yld.add rfl rfl (by simp only [In]; omega)) ?_ | refine zc rfl rfl rfl rfl (Yld.sub rfl rfl (by simp only [In]; omega)) ?_ | refine zc rfl rfl rfl rfl (zN rfl rfl (by simp only [In]; omega)) ?_ | refine zc rfl rfl rfl rfl (zv qD rfl rfl rfl rfl) ?_ | refine zc rfl rfl rfl rfl (zw qD rfl rfl rfl (by simp only [In]; omega)) ?_ | refine zc rfl rfl rfl rfl (zE rfl rfl (by omega) (by omega) (by simp only [In]; omega)) ?_ | refine zc rfl rfl rfl rfl (zF rfl rfl (by omega) (by omega)) ?_ | refine zc rfl rfl rfl rfl (zP rfl rfl (by omega)) ?_ | refine zc rfl rfl rfl rfl (zL rfl rfl (by omega)) ?_ | refine zc rfl rfl rfl rfl (zh qD rfl) ?_ | refine zc rfl rfl rfl rfl (zO qI rfl rfl rfl) ?_ | refine zc rfl rfl rfl rfl (zH rfl rfl) ?_ | refine zc rfl rfl rfl rfl (zC rfl rfl) ?_ | refine zc rfl rfl rfl rfl (zp rfl rfl rfl) ?_)
   have hsl:((i+1:Nat):Int) - 1 - 1=(i:Int) - 1:=by omega
   rw [hsl]
   refine WX.round i ⟨by omega,?_,rfl⟩ (by omega) (by repeat (first | exact qg | refine qb rfl ?_))
   have h1:=val_take la i
   have h2:=val_take lb i
   have h3:la.getD i 0=lb.getD i 0:=by omega
   rw [h3] at h1
   omega
 ·simp only [decide_eq_false_iff_not] at h
  obtain rfl:j=0:=by omega
  repeat (first | refine zd ?_ | refine WC.block ?_ | refine zb ?_ | refine ze ?_ | refine za ?_ | refine zo ?_ | refine zy ?_ | refine zt ?_ | refine zk ?_ | refine zf ?_ | refine zi ?_ | refine zj ?_ | refine zl ?_ | refine zq rfl ?_ | refine zI ?_ | refine zJ ?_ | refine zn ?_ | refine zu ?_ | refine zr ?_ | refine zg rfl (Yld.add rfl rfl (by simp only [In]; omega)) ?_ | refine zg rfl (Yld.sub rfl rfl (by simp only [In]; omega)) ?_ | refine zg rfl (zN rfl rfl (by simp only [In]; omega)) ?_ | refine zg rfl (zv qD rfl rfl rfl rfl) ?_ | refine zg rfl (zw qD rfl rfl rfl (by simp only [In]; omega)) ?_ | refine zg rfl (zE rfl rfl (by omega) (by omega) (by simp only [In]; omega)) ?_ | refine zg rfl (zF rfl rfl (by omega) (by omega)) ?_ | refine zg rfl (zP rfl rfl (by omega)) ?_ | refine zg rfl (zL rfl rfl (by omega)) ?_ | refine zg rfl (zh qD rfl) ?_ | refine zg rfl (zO qI rfl rfl rfl) ?_ | refine zg rfl (zH rfl rfl) ?_ | refine zg rfl (zC rfl rfl) ?_ | refine zg rfl (zp rfl rfl rfl) ?_ | refine zG rfl rfl rfl rfl ?_ | refine zc rfl rfl rfl rfl (Yld.add rfl rfl (by simp only [In]; omega)) ?_ | refine zc rfl rfl rfl rfl (Yld.sub rfl rfl (by simp only [In]; omega)) ?_ | refine zc rfl rfl rfl rfl (zN rfl rfl (by simp only [In]; omega)) ?_ | refine zc rfl rfl rfl rfl (zv qD rfl rfl rfl rfl) ?_ | refine zc rfl rfl rfl rfl (zw qD rfl rfl rfl (by simp only [In]; omega)) ?_ | refine zc rfl rfl rfl rfl (zE rfl rfl (by omega) (by omega) (by simp only [In]; omega)) ?_ | refine zc rfl rfl rfl rfl (zF rfl rfl (by omega) (by omega)) ?_ | refine zc rfl rfl rfl rfl (zP rfl rfl (by omega)) ?_ | refine zc rfl rfl rfl rfl (zL rfl rfl (by omega)) ?_ | refine zc rfl rfl rfl rfl (zh qD rfl) ?_ | refine zc rfl rfl rfl rfl (zO qI rfl rfl rfl) ?_ | refine zc rfl rfl rfl rfl (zH rfl rfl) ?_ | refine zc rfl rfl rfl rfl (zC rfl rfl) ?_ | refine zc rfl rfl rfl rfl (zp rfl rfl rfl) ?_)
  refine zD rfl rfl ⟨⟨0,rfl,.inr (.inl ⟨rfl,?_⟩)⟩,rfl⟩
  simpa [val] using hv
end
 section
open Go Go.RowKit
attribute [local irreducible] WL WC WX WQ Yld Eff Fn
theorem Rd.apart {α:Type} {f:α->Value} {w:World} {A:Option Addr} {c g:Nat} {e:TypeId} {xs:List α} {us:List Value} (h:Rd f w A c xs) (hB:Bl w g e us) (hn:∀ u∈us,∀ x,u≠f x) (hx:xs≠[]):blk A≠some g:=by
 intro e1
 obtain ⟨ad,rfl,hc⟩:=h.cells hx
 obtain ⟨x,l,rfl⟩:=List.exists_cons_of_ne_nil hx
 have h0:=hc 0 x rfl
 have hb:(ad.add 0).block=g:=by rw [addr_block]; simpa [blk] using e1
 unfold World.cell? at h0
 unfold Bl at hB
 rw [hb,hB] at h0
 simp only at h0
 split at h0
 ·cases h0
 ·have h1:us[(ad.add 0).off]? = some (f x):=by simpa using h0
  exact hn _ (List.mem_of_getElem? h1) x rfl
theorem Nm.stored {w w':World} {g:Nat} {e:TypeId} {us:List Value} {v:Value} {z:Int} {m:Nat} (h:Nm w v z m) (hB:Bl w g e us) (hn:∀ u∈us,∀ x,u≠vd x) (hg:w.grownBy w' (some g)):Nm w' v z m:=by
 obtain ⟨neg,A,c,l,h1,h2,h3⟩:=h
 exact ⟨neg,A,c,l,h1,h2.keep' hg (fun hne q hq=>by injection hq with hq; subst hq; exact h2.apart hB hn hne),h3⟩
theorem Nm.agg {w:World} {v:Value} {z:Int} {m:Nat} (h:Nm w v z m):∃ a b,v=.agg ⟨[a,b]⟩/\a.oneCell'=true/\b.oneCell'=true:=by
 obtain ⟨neg,A,c,l,h1,_⟩:=h
 exact ⟨_,_,h1,rfl,rfl⟩
theorem zero_no:∀ u∈[Value.bool false,Value.slice none 0 0],∀ x,u≠vd x:=by
 intro u hu x
 simp only [List.mem_cons,List.not_mem_nil,or_false] at hu
 rcases hu with rfl | rfl <;> intro e <;> cases e
end
 
section
open Go Go.RowKit
def dc (n:Nat):UInt8:=UInt8.ofNat (48+n % 10)
theorem dc_toNat (n:Nat):(dc n).toNat=48+n % 10:=by unfold dc; simp; omega
def pd:Nat->Nat->List UInt8
 | 0,_=>[]
 | k+1,n=>dc n :: pd k (n / 10)
def dd (n:Nat):List UInt8:=if h:n=0 then [] else dc n :: dd (n / 10)
 decreasing_by omega
theorem dd_zero:dd 0=[]:=by rw [dd]; simp
theorem dd_pos {n:Nat} (h:0<n):dd n=dc n :: dd (n / 10):=by rw [dd]; simp [Nat.ne_of_gt h]
theorem pd_dd:∀ (k x y:Nat),x<10 ^ k->0<y->dd (x+10 ^ k*y)=pd k x++dd y
 | 0,x,y,hx,_=>by
  have:x=0:=by simpa using hx
  subst this; simp [pd]
 | k+1,x,y,hx,hy=>by
  have hp:0<10 ^ k:=Nat.pow_pos (by omega)
  have h1:0<x+10 ^ (k+1)*y:=by
   have:0<10 ^ (k+1)*y:=Nat.mul_pos (Nat.pow_pos (by omega)) hy
   omega
  have e:10 ^ (k+1)*y=10*(10 ^ k*y):=by rw [Nat.pow_succ]; grind
  rw [dd_pos h1,e]
  have h2:(x+10*(10 ^ k*y)) / 10=x / 10+10 ^ k*y:=by omega
  have h3:dc (x+10*(10 ^ k*y))=dc x:=by unfold dc; congr 2; omega
  rw [h2,h3,pd_dd k (x / 10) y (by rw [Nat.pow_succ] at hx; omega) hy]
  rfl
def rest (k v y:Nat):List UInt8:=if y=0 then dd v else pd (9 - k) v++dd y
theorem rest_start (x y:Nat) (hx:x<1000000000):dd (x+1000000000*y)=rest 0 x y:=by
 unfold rest
 split
 ·rename_i h; subst h; simp
 ·exact pd_dd 9 x y (by omega) (by omega)
theorem rest_step (k v y:Nat) (hk:k<9) (h:0<v∨0<y):rest k v y=dc v :: rest (k+1) (v / 10) y:=by
 unfold rest
 split
 ·exact dd_pos (by omega)
 ·rw [show 9 - k=(9 - (k+1))+1 by omega]; rfl
theorem rest_end (k v y:Nat) (hk:k<=9) (hv:v<10 ^ (9 - k)) (h:¬ (k<9/\(0<v∨0<y))):rest k v y=dd y:=by
 unfold rest
 rcases Nat.lt_or_ge k 9 with h9 | h9
 ·have:v=0/\y=0:=by omega
  rw [this.1,this.2]; simp
 ·obtain rfl:k=9:=by omega
  have:v=0:=by simpa using hv
  subst this
  split
  ·rename_i h; rw [h]
  ·simp [pd]
theorem drop_cons' (l:List Nat) (i:Nat) (h:i<l.length):val (l.drop i)=l.getD i 0+1000000000*val (l.drop (i+1)):=by
 rw [List.drop_eq_getElem_cons h]; simp [List.getD,h,val]
theorem drop_pos {l:List Nat} (hC:Can l) (i:Nat):i<l.length↔0<val (l.drop i):=by
 constructor
 ·intro h
  have hne:l.drop i≠[]:=by intro e; have:=congrArg List.length e; simp at this; omega
  have hC2:Can (l.drop i):=fun _=>by
   have h1:=hC (by intro e; subst e; simp at h)
   rw [List.length_drop]
   have:(l.drop i).getD (l.length - i - 1) 0=l.getD (l.length - 1) 0:=by
    simp only [List.getD,List.getElem?_drop]; congr 2; omega
   rw [this]; exact h1
  have:=(val_zero hC2)
  rcases Nat.eq_zero_or_pos (val (l.drop i)) with e | e
  ·exact absurd (this.mp e) hne
  ·exact e
 ·intro h
  rcases Nat.lt_or_ge i l.length with h1 | h1
  ·exact h1
  ·rw [List.drop_eq_nil_of_le h1] at h; simp [val] at h
def txt (x:Int):List UInt8:=if x=0 then [48] else (if x<0 then [45] else [])++(dd x.natAbs).reverse
theorem dd_len:∀ (m n:Nat),n<10 ^ m->(dd n).length<=m
 | 0,n,h=>by
  have:n=0:=by simpa using h
  subst this; simp [dd_zero]
 | m+1,n,h=>by
  rcases Nat.eq_zero_or_pos n with e | e
  ·subst e; simp [dd_zero]
  ·rw [dd_pos e]
   have:=dd_len m (n / 10) (by rw [Nat.pow_succ] at h; omega)
   simp; omega
end
 
section
open Go Go.RowKit
inductive PA where
 | int (z:Int)
 | str (s:List UInt8)
 deriving DecidableEq,Inhabited
inductive PV where
 | nil
 | none
 | int (z:Int)
 | str (s:List UInt8)
 | emp
 | tup (l:List PA)
 deriving DecidableEq,Inhabited
def PA.v:PA->PV
 | .int z=>.int z
 | .str s=>.str s
inductive PS where
 | nil
 | mk (id:Nat) (order:Int) (own:List PV) (fr:List PS) (deep:Int) (empty:Bool)
def PS.isNil:PS->Bool
 | .nil=>true
 | _=>false
def PS.id:PS->Nat
 | .nil=>0
 | .mk i _ _ _ _ _=>i
def PS.order:PS->Int
 | .nil=>0
 | .mk _ o _ _ _ _=>o
def PS.own:PS->List PV
 | .nil=>[]
 | .mk _ _ l _ _ _=>l
def PS.fr:PS->List PS
 | .nil=>[]
 | .mk _ _ _ l _ _=>l
def PS.deep:PS->Int
 | .nil=>0
 | .mk _ _ _ _ d _=>d
def PS.empty:PS->Bool
 | .nil=>true
 | .mk _ _ _ _ _ e=>e
inductive Reach (s:PS):PS->Prop
 | refl:Reach s s
 | step {x f:PS}:Reach s x->f∈x.fr->Reach s f
def keyP:PV->List UInt8
 | .int z=>73 :: (txt z++[59])
 | _=>[]
def OV:={ v:Value // v.oneCell'=true }
abbrev VH:=OV × (Nat->Prop)
def vv (h:VH):Value:=h.1.1
theorem One.vv:One vv:=fun h=>h.1.2
abbrev vnil:OV:=⟨.nilIface,rfl⟩
abbrev pnil:OV:=⟨.pointer none,rfl⟩
abbrev noF:Nat->Prop:=fun _=>False
def vh0:VH:=(vnil,noF)
def AI (w:World) (F:Nat->Prop) (v:Value) (z:Int):Prop:=∃ a b,v=.iface 208 (.agg ⟨[a,b]⟩)/\Nm w (.agg ⟨[a,b]⟩) z 3/\Lies (.agg ⟨[a,b]⟩) F
def AR (w:World) (F:Nat->Prop) (v:Value):PA->Prop
 | .int z=>AI w F v z
 | .str s=>v=.iface 169 (vs s)
def VR (w:World) (F:Nat->Prop) (v:Value):PV->Prop
 | .nil=>v=.nilIface
 | .none=>v=.iface 221 (.agg ⟨[]⟩)
 | .int z=>AI w F v z
 | .str s=>v=.iface 169 (vs s)
 | .emp=>∃ g A c,v=.iface 61 (.pointer (some ⟨g,0,none⟩))/\Bl w g 166 [.slice A 0 c,.bool false,.int .i64 0]/\c<=maxLen/\F g
 | .tup l=>∃ g A c,∃ hs:List VH,v=.iface 155 (.pointer (some ⟨g,0,none⟩))/\Bl w g 158 [.slice A l.length c]/\Rd vv w A c hs/\hs.length=l.length/\(∀ q,blk A=some q->F q)/\F g/\∀ (i:Nat) (h:VH) (z:PA),hs[i]? = some h->l[i]? = some z->AR w F h.1.1 z
def SRn:Nat->World->(Nat->Prop)->Value->PS->Prop
 | _,_,_,v,.nil=>v=.pointer none
 | 0,_,_,_,.mk ..=>False
 | n+1,w,F,v,.mk id order own fr deep empty=>v=.pointer (some ⟨id,0,none⟩)/\F id/\∃ Ao co Ak ck Af cf,∃ ho hf:List VH,
   Bl w id 126 [.int .i64 order,.slice Ao own.length co,.slice Ak own.length ck,.slice Af fr.length cf,.int .i64 deep,.bool empty] /\
   Rd vv w Ao co ho/\ho.length=own.length/\(∀ q,blk Ao=some q->F q)/\(∀ (i:Nat) (h:VH) (x:PV),ho[i]? = some h->own[i]? = some x->∃ z,x=.int z/\AI w F h.1.1 z) /\
   Rd vs w Ak ck (own.map keyP)/\(∀ q,blk Ak=some q->F q) /\
   Rd vv w Af cf hf/\hf.length=fr.length/\(∀ q,blk Af=some q->F q)/\(∀ (i:Nat) (h:VH) (x:PS),hf[i]? = some h->fr[i]? = some x->x≠.nil/\SRn n w F h.1.1 x)
section
variable {w w':World} {F F':Nat->Prop} {v:Value} {ps:List (Option Nat)}
theorem Rd.goF {α:Type} {f:α->Value} {A:Option Addr} {c:Nat} {xs:List α} (h:Rd f w A c xs) (hb:∀ q,blk A=some q->F q) (hg:GrL ps w w') (hd:AllP (fun p=>∀ g,p=some g->¬ F g) ps):Rd f w' A c xs :=
 h.goL hg fun p hp _ g hg' e=>hd p hp g e (hb g hg')
theorem Bl.goF {g:Nat} {e:TypeId} {us:List Value} (h:Bl w g e us) (hb:F g) (hg:GrL ps w w') (hd:AllP (fun p=>∀ g,p=some g->¬ F g) ps):Bl w' g e us :=
 h.goL hg fun p hp q hq e=>by cases hq; exact hd p hp g e hb
theorem AI.goL {z:Int} (h:AI w F v z) (hg:GrL ps w w') (hd:AllP (fun p=>∀ g,p=some g->¬ F g) ps):AI w' F v z:=by
 obtain ⟨a,b,rfl,hN,hL⟩:=h
 refine ⟨a,b,rfl,?_,hL⟩
 obtain ⟨neg,A,c,l,h1,h2,h3⟩:=hN
 exact ⟨neg,A,c,l,h1,h2.goF (fun q hq=>hL _ _ _ _ h1 q hq) hg hd,h3⟩
theorem AI.mono {z:Int} (h:AI w F v z) (hF:∀ g,F g->F' g):AI w F' v z:=by
 obtain ⟨a,b,rfl,hN,hL⟩:=h
 exact ⟨a,b,rfl,hN,fun _ _ _ _ e g hg=>hF g (hL _ _ _ _ e g hg)⟩
theorem AR.goL {p:PA} (h:AR w F v p) (hg:GrL ps w w') (hd:AllP (fun p=>∀ g,p=some g->¬ F g) ps):AR w' F v p:=by
 cases p with
 | int z=>exact AI.goL h hg hd
 | str s=>exact h
theorem AR.mono {p:PA} (h:AR w F v p) (hF:∀ g,F g->F' g):AR w F' v p:=by
 cases p with
 | int z=>exact AI.mono h hF
 | str s=>exact h
theorem AR.vr {p:PA} (h:AR w F v p):VR w F v p.v:=by cases p <;> exact h
theorem VR.goL {p:PV} (h:VR w F v p) (hg:GrL ps w w') (hd:AllP (fun p=>∀ g,p=some g->¬ F g) ps):VR w' F v p:=by
 cases p with
 | nil=>exact h
 | none=>exact h
 | int z=>exact AI.goL h hg hd
 | str s=>exact h
 | emp=>obtain ⟨g,A,c,h1,h2,h3,h4⟩:=h; exact ⟨g,A,c,h1,h2.goF h4 hg hd,h3,h4⟩
 | tup l =>
  obtain ⟨g,A,c,hs,h1,h2,h3,h4,h5,h6,h7⟩:=h
  exact ⟨g,A,c,hs,h1,h2.goF h6 hg hd,h3.goF h5 hg hd,h4,h5,h6,fun i h z hh hz=>(h7 i h z hh hz).goL hg hd⟩
theorem VR.mono {p:PV} (h:VR w F v p) (hF:∀ g,F g->F' g):VR w F' v p:=by
 cases p with
 | nil=>exact h
 | none=>exact h
 | int z=>exact AI.mono h hF
 | str s=>exact h
 | emp=>obtain ⟨g,A,c,h1,h2,h3,h4⟩:=h; exact ⟨g,A,c,h1,h2,h3,hF g h4⟩
 | tup l =>
  obtain ⟨g,A,c,hs,h1,h2,h3,h4,h5,h6,h7⟩:=h
  exact ⟨g,A,c,hs,h1,h2,h3,h4,fun q hq=>hF q (h5 q hq),hF g h6,fun i h z hh hz=>(h7 i h z hh hz).mono hF⟩
theorem SRn.goL:∀ {n:Nat} {v:Value} {p:PS},SRn n w F v p->GrL ps w w'->AllP (fun p=>∀ g,p=some g->¬ F g) ps->SRn n w' F v p
 | n,v,.nil,h,_,_=>by cases n <;> exact h
 | 0,v,.mk ..,h,_,_=>h.elim
 | n+1,v,.mk ..,h,hg,hd=>by
  obtain ⟨h1,h2,Ao,co,Ak,ck,Af,cf,ho,hf,hB,o1,o2,o3,o4,k1,k2,f1,f2,f3,f4⟩:=h
  exact ⟨h1,h2,Ao,co,Ak,ck,Af,cf,ho,hf,hB.goF h2 hg hd,o1.goF o3 hg hd,o2,o3,fun i h x hh hx=>by obtain ⟨z,e,k⟩:=o4 i h x hh hx; exact ⟨z,e,k.goL hg hd⟩,
   k1.goF k2 hg hd,k2,f1.goF f3 hg hd,f2,f3,fun i h x hh hx=>⟨(f4 i h x hh hx).1,SRn.goL (f4 i h x hh hx).2 hg hd⟩⟩
theorem SRn.mono (hF:∀ g,F g->F' g):∀ {n:Nat} {v:Value} {p:PS},SRn n w F v p->SRn n w F' v p
 | n,v,.nil,h=>by cases n <;> exact h
 | 0,v,.mk ..,h=>h.elim
 | n+1,v,.mk ..,h=>by
  obtain ⟨h1,h2,Ao,co,Ak,ck,Af,cf,ho,hf,hB,o1,o2,o3,o4,k1,k2,f1,f2,f3,f4⟩:=h
  exact ⟨h1,hF _ h2,Ao,co,Ak,ck,Af,cf,ho,hf,hB,o1,o2,fun q hq=>hF q (o3 q hq),fun i h x hh hx=>by obtain ⟨z,e,k⟩:=o4 i h x hh hx; exact ⟨z,e,k.mono hF⟩,
   k1,fun q hq=>hF q (k2 q hq),f1,f2,fun q hq=>hF q (f3 q hq),fun i h x hh hx=>⟨(f4 i h x hh hx).1,SRn.mono hF (f4 i h x hh hx).2⟩⟩
theorem SRn.up:∀ {n:Nat} {v:Value} {p:PS},SRn n w F v p->SRn (n+1) w F v p
 | n,v,.nil,h=>by cases n <;> exact h
 | 0,v,.mk ..,h=>h.elim
 | n+1,v,.mk ..,h=>by
  obtain ⟨h1,h2,Ao,co,Ak,ck,Af,cf,ho,hf,hB,o1,o2,o3,o4,k1,k2,f1,f2,f3,f4⟩:=h
  exact ⟨h1,h2,Ao,co,Ak,ck,Af,cf,ho,hf,hB,o1,o2,o3,o4,k1,k2,f1,f2,f3,fun i h x hh hx=>⟨(f4 i h x hh hx).1,SRn.up (f4 i h x hh hx).2⟩⟩
theorem SRn.le {n m:Nat} {p:PS} (h:SRn n w F v p) (hm:n<=m):SRn m w F v p:=by
 induction hm with
 | refl=>exact h
 | step _ ih=>exact ih.up
end
def deV:DE VH PV where
 rel w h x:=VR w h.2 h.1.1 x/\∀ g,h.2 g->g<w.heap.size
 dn h _ p:=∀ g,p=some g->¬ h.2 g
 goL h k a:=⟨h.1.goL k a,fun g hg=>Nat.lt_of_lt_of_le (h.2 g hg) k.size⟩
 new h k:=fun g e hg=>by have:=h.2 g hg; have:=k g e; omega
 app h a k:=fun g e hg=>by
  rcases k g e with h1 | h1
  ·have:=h.2 g hg; omega
  ·exact a _ h1 g rfl hg
def deS:DE VH PS where
 rel w h x:=(∃ n,SRn n w h.2 h.1.1 x)/\∀ g,h.2 g->g<w.heap.size
 dn h _ p:=∀ g,p=some g->¬ h.2 g
 goL h k a:=⟨h.1.elim fun n h=>⟨n,h.goL k a⟩,fun g hg=>Nat.lt_of_lt_of_le (h.2 g hg) k.size⟩
 new h k:=fun g e hg=>by have:=h.2 g hg; have:=k g e; omega
 app h a k:=fun g e hg=>by
  rcases k g e with h1 | h1
  ·have:=h.2 g hg; omega
  ·exact a _ h1 g rfl hg
section
variable {H X:Type} {d:DE H X} {w:World} {h:H} {x:X} {p:Option Nat} {F:Nat->Prop} {v:Value}
theorem RelD.nilx {w:World} {hs:List H} {xs:List X} (k:RelD d w hs xs) (e:hs=[]):xs=[]:=by
 subst e
 exact List.length_eq_zero_iff.1 k.1.symm
theorem RelD.one (k:RelD d w [h] [x]):d.rel w h x:=k.2 0 h x rfl rfl
theorem DnD.one (k:DnD d [h] [x] p):d.dn h x p:=k 0 h x rfl rfl
theorem deV_nil:RelD deV w [(vnil,noF)] [.nil]:=RelD.cons ⟨rfl,fun _ h=>h.elim⟩ RelD.nil
theorem deV_nilD:DnD deV [(vnil,noF)] [.nil] p:=DnD.cons (fun _ _ h=>h) DnD.nil
theorem VR.one {p:PV} (h:VR w F v p):v.oneCell'=true:=by
 cases p with
 | nil=>rw [h]; rfl
 | none=>rw [h]; rfl
 | int z=>obtain ⟨a,b,rfl,_⟩:=h; rfl
 | str s=>rw [show v=_ from h]; rfl
 | emp=>obtain ⟨g,A,c,rfl,_⟩:=h; rfl
 | tup l=>obtain ⟨g,A,c,hs,rfl,_⟩:=h; rfl
theorem SRn.ptr {n:Nat} {p:PS} (h:SRn n w F v p):v=.pointer (if p.isNil then none else some ⟨p.id,0,none⟩):=by
 cases p with
 | nil=>cases n <;> exact h
 | mk=>cases n with
  | zero=>exact h.elim
  | succ n=>exact h.1
theorem SRn.reach {n:Nat} {s y:PS} (h:SRn n w F v s) (k:Reach s y):y≠.nil->∃ m u,SRn m w F u y:=by
 have key:s=.nil∨∃ m u,SRn m w F u y:=by
  induction k with
  | refl=>exact .inr ⟨n,v,h⟩
  | @step x f hx hf ih =>
   rcases ih with e | ⟨m,u,hm⟩
   ·exact .inl e
   ·cases x with
    | nil=>simp [PS.fr] at hf
    | mk id o own fr d e =>
     cases m with
     | zero=>exact hm.elim
     | succ m =>
      obtain ⟨_,_,Ao,co,Ak,ck,Af,cf,ho,hq,_,_,_,_,_,_,_,_,f2,_,f4⟩:=hm
      obtain ⟨j,hj,rfl⟩:=List.getElem_of_mem hf
      exact .inr ⟨m,_,(f4 j _ _ (List.getElem?_eq_getElem (by rw [f2]; exact hj)) (List.getElem?_eq_getElem hj)).2⟩
 intro hn
 rcases key with e | h'
 ·subst e
  exfalso
  have:∀ y,Reach PS.nil y->y=.nil:=fun y k=>by
   induction k with
   | refl=>rfl
   | step _ hf ih=>subst ih; simp [PS.fr] at hf
  exact hn (this y k)
 ·exact h'
end
section
variable {P:Program} {N:Nat} {L:qO} {w:World} {ty:TypeId} {pos:String} {af:Array Edge} {dd:Option Tmp} {t t' e:TypeId} {x y:Operand} {v:OV} {F:Nat->Prop} {s:PS}
end
def tyP:PV->Option TypeId
 | .nil=>Option.none
 | .none=>some 221
 | .int _=>some 208
 | .str _=>some 169
 | .emp=>some 61
 | .tup _=>some 155
def tys:List TypeId:=[221,208,169,61,155]
theorem VR.ty {w:World} {F:Nat->Prop} {v:Value} {p:PV} (h:VR w F v p):(tyP p=Option.none/\v=.nilIface)∨∃ t u,tyP p=some t/\t∈tys/\v=.iface t u:=by
 cases p with
 | nil=>exact .inl ⟨rfl,h⟩
 | none=>exact .inr ⟨_,_,rfl,by simp [tys],h⟩
 | int z=>obtain ⟨a,b,h,_⟩:=h; exact .inr ⟨_,_,rfl,by simp [tys],h⟩
 | str s=>exact .inr ⟨_,_,rfl,by simp [tys],h⟩
 | emp=>obtain ⟨g,A,c,h,_⟩:=h; exact .inr ⟨_,_,rfl,by simp [tys],h⟩
 | tup l=>obtain ⟨g,A,c,hs,h,_⟩:=h; exact .inr ⟨_,_,rfl,by simp [tys],h⟩
def notIface:TypeDesc->Bool
 | .interface _=>false
 | _=>true
theorem tyP_no {ta:TypeId} (h:(tys.all fun t => !Nat.beq t ta)=true) (p:PV):tyP p≠some ta:=fun e=>by
 simp only [tys,List.all_cons,List.all_nil,Bool.and_true,Bool.and_eq_true,Bool.not_eq_true'] at h
 obtain ⟨h1,h2,h3,h4,h5⟩:=h
 cases p <;> simp only [tyP,Option.some.injEq,reduceCtorEq] at e
 ·exact Nat.ne_of_beq_eq_false h1 e
 ·exact Nat.ne_of_beq_eq_false h2 e
 ·exact Nat.ne_of_beq_eq_false h3 e
 ·exact Nat.ne_of_beq_eq_false h4 e
 ·exact Nat.ne_of_beq_eq_false h5 e
theorem tyP_none {p:PV} (h:p≠.none):tyP p≠some 221:=fun e=>by
 cases p <;> first | (exact h rfl) | (simp only [tyP,Option.some.injEq,reduceCtorEq] at e; try exact absurd e (by decide))
theorem tyP_int {p:PV} (h:∀ z,p≠.int z):tyP p≠some 208:=fun e=>by
 cases p <;> first | (exact h _ rfl) | (simp only [tyP,Option.some.injEq,reduceCtorEq] at e; try exact absurd e (by decide))
theorem tyP_str {p:PV} (h:∀ z,p≠.str z):tyP p≠some 169:=fun e=>by
 cases p <;> first | (exact h _ rfl) | (simp only [tyP,Option.some.injEq,reduceCtorEq] at e; try exact absurd e (by decide))
theorem tyP_emp {p:PV} (h:p≠.emp):tyP p≠some 61:=fun e=>by
 cases p <;> first | (exact h rfl) | (simp only [tyP,Option.some.injEq,reduceCtorEq] at e; try exact absurd e (by decide))
theorem tyP_tup {p:PV} (h:∀ l,p≠.tup l):tyP p≠some 155:=fun e=>by
 cases p <;> first | (exact h _ rfl) | (simp only [tyP,Option.some.injEq,reduceCtorEq] at e; try exact absurd e (by decide))
theorem PV.intCases (p:PV):(∃ z,p=.int z)∨∀ z,p≠.int z:=by
 cases p with
 | int z=>exact .inl ⟨z,rfl⟩
 | _=>exact .inr fun z h=>by cases h
theorem PV.strCases (p:PV):(∃ z,p=.str z)∨∀ z,p≠.str z:=by
 cases p with
 | str z=>exact .inl ⟨z,rfl⟩
 | _=>exact .inr fun z h=>by cases h
theorem PV.tupCases (p:PV):(∃ l,p=.tup l)∨∀ l,p≠.tup l:=by
 cases p with
 | tup l=>exact .inl ⟨l,rfl⟩
 | _=>exact .inr fun z h=>by cases h
theorem PV.empCases (p:PV):p=.emp∨p≠.emp:=by
 cases p with
 | emp=>exact .inl rfl
 | _=>exact .inr fun h=>by cases h
section
variable {P:Program} {N:Nat} {L:qO} {w w0:World} {ty:TypeId} {pos:String} {af:Array Edge} {dd:Option Tmp} {t ta:TypeId} {x:Operand} {v:OV} {F:Nat->Prop} {p:PV} {d:TypeDesc} {z u:Value}
theorem qV (hu:P.underlying ta=some d) (hd:notIface d=true) (hz:∀ w,(zeroValue ta).run P w=.ok z w) (h:RelD deV w0 [(v,F)] [p]) (hx:opv L x=some v.1) (hn:tyP p≠some ta) :
  Yld P N w ⟨dd,.typeAssert x t ta true,ty,pos,af,none⟩ L (.tuple #[z,.bool false]):=fun a w1 _ ha=>by
 have hx':=ha.ev hx
 rcases h.one.1.ty with ⟨h1,h2⟩ | ⟨t',u,h1,_,h2⟩
 ·replace h2:v.1=.nilIface:=h2
  rw [h2] at hx'
  simp only [execOp,Instr.typeAssert,Sem.run_bind,run_underlying hu,hx',Result.andThen_ok]
  cases d <;> first | (simp [notIface] at hd; done) | simp [hz]
 ·have hne:t'≠ta:=fun e=>hn (by rw [h1,e])
  replace h2:v.1=.iface t' u:=h2
  rw [h2] at hx'
  simp only [execOp,Instr.typeAssert,Sem.run_bind,run_underlying hu,hx',Result.andThen_ok]
  cases d <;> first | (simp [notIface] at hd; done) | simp [hz,hne]
theorem jf (hu:P.underlying ta=some d) (hd:notIface d=true) (hx:opv L x=some v.1) (hv:v.1=.iface ta u):Yld P N w ⟨dd,.typeAssert x t ta true,ty,pos,af,none⟩ L (.tuple #[u,.bool true]):=fun a w1 _ ha=>by
 have hx':=ha.ev hx
 rw [hv] at hx'
 simp only [execOp,Instr.typeAssert,Sem.run_bind,run_underlying hu,hx',Result.andThen_ok]
 cases d <;> first | (simp [notIface] at hd; done) | simp
def lacks1 (want:Array (String × TypeId)) (got:Array Method):Bool := !(want.toList.filter fun (x:String × TypeId) => !got.any fun m=>m.name == x.1 && m.sig == x.2).isEmpty
def lacksM (P:Program) (want:Array (String × TypeId)):Bool:=tys.all fun t=>match P.info? t with
 | some i=>lacks1 want i.methods
 | none=>false
theorem least_some:∀ {l:List String},l≠[]->(Instr.least l).isSome=true
 | [],h=>absurd rfl h
 | _ :: _,_=>rfl
theorem lacks1_ok {want:Array (String × TypeId)} {got:Array Method} (h:lacks1 want got=true):(Instr.missingMethod want got).isSome=true:=by
 unfold lacks1 at h
 simp only [Bool.not_eq_true',List.isEmpty_eq_false_iff] at h
 unfold Instr.missingMethod
 simp only [List.partition_eq_filter_filter]
 generalize hm:(want.toList.filter fun (x:String × TypeId) => !got.any fun m=>m.name == x.1 && m.sig == x.2)=M at h
 obtain ⟨x,M',rfl⟩:=List.exists_cons_of_ne_nil h
 have key:∀ (q:String->Bool) (f:String->String) (l:List String),l≠[]->(Instr.least (l.filter fun a => !q a) <|> Instr.least ((l.filter q).map f)).isSome=true:=fun q f l hl=>by
  by_cases h1:(l.filter fun a => !q a)=[]
  ·have h2:l.filter q≠[]:=fun h2=>by
    obtain ⟨y,l',rfl⟩:=List.exists_cons_of_ne_nil hl
    rw [List.filter_eq_nil_iff] at h1 h2
    have:=h1 y (by simp); have:=h2 y (by simp)
    simp_all
   have:=least_some (l:=(l.filter q).map f) (by simpa using h2)
   cases hq:Instr.least (l.filter fun a => !q a) with
   | some=>rfl
   | none=>simpa [HOrElse.hOrElse,OrElse.orElse,Option.orElse] using this
  ·have:=least_some h1
   cases hq:Instr.least (l.filter fun a => !q a) with
   | some=>rfl
   | none=>rw [hq] at this; cases this
 exact key (fun a=>a.contains '.') (fun id=>(id.splitOn ".").getLastD id) _ (by simp)
theorem assertNoI {want:Array (String × TypeId)} (hu:P.underlying ta=some (.interface want)) (hz:∀ w,(zeroValue ta).run P w=.ok z w) (hm:lacksM P want=true) (h:RelD deV w0 [(v,F)] [p]) (hx:opv L x=some v.1) :
  Yld P N w ⟨dd,.typeAssert x t ta true,ty,pos,af,none⟩ L (.tuple #[z,.bool false]):=fun a w1 _ ha=>by
 have hx':=ha.ev hx
 rcases h.one.1.ty with ⟨h1,h2⟩ | ⟨t',u,h1,ht,h2⟩
 ·replace h2:v.1=.nilIface:=h2
  rw [h2] at hx'
  simp [execOp,Instr.typeAssert,run_underlying hu,hx',hz]
 ·replace h2:v.1=.iface t' u:=h2
  rw [h2] at hx'
  have:=List.all_eq_true.1 hm t' ht
  split at this
  ·rename_i i hi
   replace this:=lacks1_ok this
   cases hq:Instr.missingMethod want i.methods with
   | none=>rw [hq] at this; cases this
   | some m=>simp [execOp,Instr.typeAssert,run_underlying hu,hx',typeInfo,hi,hq,hz]
  ·cases this
end
section
variable {w:World} {v:OV} {F:Nat->Prop} {p:PV} {s:PS}
theorem VR.intOut {n:Int} (h:RelD deV w [(v,F)] [p]) (hp:p=.int n):∃ a b,v.1=.iface 208 (.agg ⟨[a,b]⟩)/\Nm w (.agg ⟨[a,b]⟩) n 3/\a.oneCell'=true/\b.oneCell'=true/\Lies (.agg ⟨[a,b]⟩) F:=by
 subst hp
 obtain ⟨a,b,h1,h2,hL⟩:=h.one.1
 obtain ⟨a',b',e,ha,hb⟩:=h2.agg
 injection e with e; injection e with e; injection e with e1 e; injection e with e2
 subst e1; subst e2
 exact ⟨a,b,h1,h2,ha,hb,hL⟩
theorem Nm.goV {w w':World} {F:Nat->Prop} {a:Value} {z:Int} {m:Nat} {ps:List (Option Nat)} (h:Nm w a z m) (hL:Lies a F) (hg:GrL ps w w') (hd:AllP (fun p=>∀ g,p=some g->¬ F g) ps):Nm w' a z m:=by
 obtain ⟨neg,A,c,l,h1,h2,h3⟩:=h
 exact ⟨neg,A,c,l,h1,h2.goF (fun q hq=>hL _ _ _ _ h1 q hq) hg hd,h3⟩
theorem VR.strOut {s:List UInt8} (h:RelD deV w [(v,F)] [p]) (hp:p=.str s):v.1=.iface 169 (vs s):=by
 subst hp
 exact h.one.1
theorem VR.empOut (h:RelD deV w [(v,F)] [p]) (hp:p=.emp):∃ g A c,v.1=.iface 61 (.pointer (some ⟨g,0,none⟩))/\Bl w g 166 [.slice A ([]:List PV).length c,.bool false,.int .i64 0]/\Rd vv w A c []/\RelD deV w [] []/\∀ q,DnD deV [(v,F)] [p] q->Dj (some g) q:=by
 subst hp
 obtain ⟨g,A,c,h1,h2,h3,h4⟩:=h.one.1
 exact ⟨g,A,c,h1,h2,Rd.nil _ _ h3,RelD.nil,fun q hq g' e e2=>by cases e; exact hq.one g e2 h4⟩
theorem Rd.frm {w:World} {A:Option Addr} {c:Nat} {hs:List VH} (F:Nat->Prop) (h:Rd vv w A c hs):Rd vv w A c (hs.map fun h=>((h.1,F):VH)) :=
 ⟨by simpa using h.cap,h.max,fun hx=>by
  obtain ⟨ad,e,k⟩:=h.cells (fun e=>hx (by rw [e]; rfl))
  refine ⟨ad,e,fun j x hj=>?_⟩
  rw [List.getElem?_map] at hj
  obtain ⟨y,hy,rfl⟩:=Option.map_eq_some_iff.1 hj
  exact k j y hy⟩
theorem RelD.frm {X:Type} {d:DE VH X} {hs:List VH} {xs:List X} (hl:hs.length=xs.length) (k:∀ (i:Nat) (h:VH) (x:X),hs[i]? = some h->xs[i]? = some x->d.rel w (h.1,F) x):RelD d w (hs.map fun h=>((h.1,F):VH)) xs :=
 ⟨by simpa using hl,fun i h x hh hx=>by
  rw [List.getElem?_map] at hh
  obtain ⟨y,hy,rfl⟩:=Option.map_eq_some_iff.1 hh
  exact k i y x hy hx⟩
theorem VR.tupOut {l:List PA} (h:RelD deV w [(v,F)] [p]) (hp:p=.tup l):∃ g A c,∃ hs:List VH,v.1=.iface 155 (.pointer (some ⟨g,0,none⟩))/\Bl w g 158 [.slice A (l.map PA.v).length c]/\Rd vv w A c hs/\RelD deV w hs (l.map PA.v) /\
  (∀ q,DnD deV [(v,F)] [p] q->Dj (some g) q)/\(∀ q,DnD deV [(v,F)] [p] q->Dn hs (blk A) q)/\(∀ q,DnD deV [(v,F)] [p] q->DnD deV hs (l.map PA.v) q):=by
 subst hp
 obtain ⟨⟨g,A,c,hs,h1,h2,h3,h4,h5,h6,h7⟩,hF⟩:=h.one
 refine ⟨g,A,c,hs.map fun h=>((h.1,F):VH),h1,by rw [List.length_map]; exact h2,h3.frm F,RelD.frm (d:=deV) (by rw [List.length_map]; exact h4) (fun i h x hh hx=>?_),fun q hq g' e e2=>?_,fun q hq _ g' e e2=>hq.one g' e2 (h5 g' e),fun q hq i h x hh hx=>?_⟩
 ·rw [List.getElem?_map] at hx
  obtain ⟨z,hz,rfl⟩:=Option.map_eq_some_iff.1 hx
  exact ⟨AR.vr (h7 i h z hh hz),hF⟩
 ·cases e; exact hq.one g e2 h6
 ·rw [List.getElem?_map] at hh
  obtain ⟨y,hy,rfl⟩:=Option.map_eq_some_iff.1 hh
  exact hq.one
theorem SR.out (h:RelD deS w [(v,F)] [s]) (hs:s≠.nil):∃ Ao co Ak ck Af cf,∃ ho hf:List VH,v.1=.pointer (some ⟨s.id,0,none⟩) /\
  Bl w s.id 126 [.int .i64 s.order,.slice Ao s.own.length co,.slice Ak (s.own.map keyP).length ck,.slice Af s.fr.length cf,.int .i64 s.deep,.bool s.empty] /\
  Rd vv w Ao co ho/\RelD deV w ho s.own/\Rd vs w Ak ck (s.own.map keyP)/\Rd vv w Af cf hf/\RelD deS w hf s.fr /\
  (∀ q,DnD deS [(v,F)] [s] q->Dj (some s.id) q)/\(∀ q,DnD deS [(v,F)] [s] q->Dn ho (blk Ao) q)/\(∀ q,DnD deS [(v,F)] [s] q->DnD deV ho s.own q) /\
  (∀ q,DnD deS [(v,F)] [s] q->Dn (s.own.map keyP) (blk Ak) q)/\(∀ q,DnD deS [(v,F)] [s] q->Dn hf (blk Af) q)/\(∀ q,DnD deS [(v,F)] [s] q->DnD deS hf s.fr q):=by
 cases s with
 | nil=>exact absurd rfl hs
 | mk id order own fr deep empty =>
  obtain ⟨⟨n,h⟩,hF⟩:=h.one
  cases n with
  | zero=>exact h.elim
  | succ n =>
   obtain ⟨h1,h2,Ao,co,Ak,ck,Af,cf,ho,hf,hB,o1,o2,o3,o4,k1,k2,f1,f2,f3,f4⟩:=h
   refine ⟨Ao,co,Ak,ck,Af,cf,ho.map fun h=>((h.1,F):VH),hf.map fun h=>((h.1,F):VH),h1,by simpa [PS.own,PS.fr,PS.id,PS.order,PS.deep,PS.empty] using hB,o1.frm F,RelD.frm (d:=deV) o2 (fun i h x hh hx=>?_),k1,f1.frm F,RelD.frm (d:=deS) f2 (fun i h x hh hx=>⟨⟨n,(f4 i h x hh hx).2⟩,hF⟩),
    fun q hq g' e e2=>?_,fun q hq _ g' e e2=>hq.one g' e2 (o3 g' e),fun q hq i h x hh hx=>?_,fun q hq _ g' e e2=>hq.one g' e2 (k2 g' e),fun q hq _ g' e e2=>hq.one g' e2 (f3 g' e),fun q hq i h x hh hx=>?_⟩
   ·obtain ⟨z,rfl,hz⟩:=o4 i h x hh hx
    exact ⟨hz,hF⟩
   ·cases e; exact hq.one _ e2 h2
   ·rw [List.getElem?_map] at hh
    obtain ⟨y,hy,rfl⟩:=Option.map_eq_some_iff.1 hh
    exact hq.one
   ·rw [List.getElem?_map] at hh
    obtain ⟨y,hy,rfl⟩:=Option.map_eq_some_iff.1 hh
    exact hq.one
end
def ckFa (P:Program) (t:TypeId) (f o:Nat):Bool:=match P.underlying t with
 | some (.struct fs)=>(match fs[f]? with
  | some fd=>Nat.beq fd.offset o && (match P.info? fd.type with
   | some i => !Nat.beq i.size 0
   | none=>false)
  | none=>false)
 | _=>false
theorem z9 {P:Program} {N:Nat} {L:qO} {w:World} {ty:TypeId} {pos:String} {af:Array Edge} {dd:Option Tmp} {t:TypeId} {x:Operand} {f o b p:Nat} (hc:ckFa P t f o=true) (hx:opv L x=some (.pointer (some ⟨b,p,none⟩))):Yld P N w ⟨dd,.fieldAddr t x f,ty,pos,af,none⟩ L (.pointer (some ⟨b,p+o,none⟩)):=fun a w1 _ ha=>by
 unfold ckFa at hc
 split at hc
 ·rename_i fs hu
  split at hc
  ·rename_i fd hfd
   simp only [Bool.and_eq_true] at hc
   obtain ⟨h1,h2⟩:=hc
   have h1:=Nat.eq_of_beq_eq_true h1
   subst h1
   split at h2
   ·rename_i i hi
    simp only [Bool.not_eq_true'] at h2
    have h2:=Nat.ne_of_beq_eq_false h2
    unfold execOp
    simp [ha.ev hx,Instr.fieldAt,run_underlying hu,hfd,Instr.sureAddr,fieldPlace,sizeOf,typeInfo,hi,h2,Addr.add_mid]
   ·cases h2
  ·cases hc
 ·cases hc
abbrev ovP (g:Nat):OV:=⟨.pointer (some ⟨g,0,none⟩),rfl⟩
def OrD {H X:Type} (Q:Option Nat->Prop) (d:DE H X) (hs:List H) (xs:List X) (n:Nat):Prop:=∀ p:Option Nat,(∀ g,p=some g->g<n)->Q p->DnD d hs xs p
section
variable {H X:Type} {d:DE H X} {hs hs':List H} {xs xs':List X} {h:H} {x:X} {n:Nat} {Q:Option Nat->Prop}
theorem OrD.append (hl:hs.length=xs.length) (a:OrD Q d hs xs n) (b:OrD Q d hs' xs' n):OrD Q d (hs++hs') (xs++xs') n:=fun p hp q=>DnD.append hl (a p hp q) (b p hp q)
theorem OrD.cons (a:∀ p:Option Nat,(∀ g,p=some g->g<n)->Q p->d.dn h x p) (b:OrD Q d hs xs n):OrD Q d (h :: hs) (x :: xs) n:=fun p hp q=>DnD.cons (a p hp q) (b p hp q)
end
theorem SRn.all {w:World} {F:Nat->Prop}:∀ {hf:List VH} {fr:List PS},hf.length=fr.length->(∀ (i:Nat) (h:VH) (x:PS),hf[i]? = some h->fr[i]? = some x->∃ n,SRn n w F h.1.1 x)->∃ n,∀ (i:Nat) (h:VH) (x:PS),hf[i]? = some h->fr[i]? = some x->SRn n w F h.1.1 x
 | [],_,_,_=>⟨0,fun i h x hh=>by simp at hh⟩
 | h :: hf,[],hl,_=>by simp at hl
 | h :: hf,x :: fr,hl,k=>by
  obtain ⟨n,hn⟩:=SRn.all (hf:=hf) (fr:=fr) (by simpa using hl) (fun i h x hh hx=>k (i+1) h x (by simpa using hh) (by simpa using hx))
  obtain ⟨m,hm⟩:=k 0 h x rfl rfl
  refine ⟨max n m,fun i h' x' hh hx=>?_⟩
  cases i with
  | zero=>simp only [List.getElem?_cons_zero,Option.some.injEq] at hh hx; subst hh; subst hx; exact hm.le (Nat.le_max_right _ _)
  | succ i=>exact (hn i h' x' (by simpa using hh) (by simpa using hx)).le (Nat.le_max_left _ _)
end
 section
open Go Go.RowKit
attribute [local irreducible] WL WC WX WQ WK Yld Eff Ef0 Fn
end
 section
open Go Go.RowKit
attribute [local irreducible] WL WC WX WQ WK Yld Eff Ef0 Fn
end
 section
open Go Go.RowKit
attribute [local irreducible] WL WC WX WQ WK Yld Eff Ef0 Fn
theorem val_pos {l:List Nat} (hC:Can l) (h:l≠[]):0<val l:=by
 have:=(val_zero hC).mp
 rcases Nat.eq_zero_or_pos (val l) with e | e
 ·exact absurd (this e) h
 ·exact e
theorem tells_sign {n:Int} {x y:Nat} (ht:Tells n x y):(if n<0 then (-1:Int) else if n > 0 then 1 else 0)=if (x:Int)<(y:Int) then -1 else if (y:Int)<(x:Int) then 1 else 0:=by
 rcases ht with h | h | h <;> (repeat' split) <;> omega
theorem tells_sign' {n:Int} {x y:Nat} (ht:Tells n y x):(if n<0 then (-1:Int) else if n > 0 then 1 else 0)=if -(x:Int) < -(y:Int) then -1 else if -(y:Int) < -(x:Int) then 1 else 0:=by
 rcases ht with h | h | h <;> (repeat' split) <;> omega
set_option maxHeartbeats 1000000 in
theorem ncmp_fn (va vb_:Value) (x y:Int) (m:Nat) (w:World) (ha:Nm w va x m) (hb:Nm w vb_ y m) (hm:m<=900000):Fn Tryz.prog 105 ⟨[va,vb_]⟩ w fun r w'=>r=vi (if x<y then -1 else if y<x then 1 else 0)/\w.grownBy w' none:=by
 obtain ⟨na,A,c,la,rfl,hA,hDa,hCa,hla,hna,rfl⟩:=ha
 obtain ⟨nb,B,cb,lb,rfl,hB,hDb,hCb,hlb,hnb,rfl⟩:=hb
 refine Fn.enter (by kernel_rfl) Tryz.func105 rfl Tryz.ntmps105 rfl ?_
 repeat (first | refine zd ?_ | refine WC.block ?_ | refine zb ?_ | refine ze ?_ | refine za ?_ | refine zo ?_ | refine zy ?_ | refine zt ?_ | refine zk ?_ | refine zf ?_ | refine zi ?_ | refine zj ?_ | refine zl ?_ | refine zq rfl ?_ | refine zI ?_ | refine zJ ?_ | refine zn ?_ | refine zu ?_ | refine zr ?_ | refine zg rfl (zh qD rfl) ?_ | refine zg rfl (zp rfl rfl rfl) ?_ | refine zG rfl rfl rfl rfl ?_ | refine zc rfl rfl rfl rfl (zh qD rfl) ?_)
 refine qn (us:=[.bool na,.slice A la.length c]) rfl rfl rfl (fun g1 w1 hB1 hg1 hl1=>?_)
 repeat (first | refine zd ?_ | refine WC.block ?_ | refine zb ?_ | refine ze ?_ | refine za ?_ | refine zo ?_ | refine zy ?_ | refine zt ?_ | refine zk ?_ | refine zf ?_ | refine zi ?_ | refine zj ?_ | refine zl ?_ | refine zq rfl ?_ | refine zI ?_ | refine zJ ?_ | refine zn ?_ | refine zu ?_ | refine zr ?_ | refine zg rfl (zh qD rfl) ?_ | refine zg rfl (zp rfl rfl rfl) ?_ | refine zG rfl rfl rfl rfl ?_ | refine zc rfl rfl rfl rfl (zh qD rfl) ?_)
 refine qn (us:=[.bool nb,.slice B lb.length cb]) rfl rfl rfl (fun g2 w2 hB2 hg2 hl2=>?_)
 have hB12:=hB1.keep hg2 (by simp)
 have hg12:=qG hg1 hg2
 have hA2:=hA.grown hg12
 have hB22:=hB.grown hg12
 have hbt:=Tryz.underlying4
 cases na <;> cases nb
 ·repeat (first | refine zg rfl (zz qD hB12 rfl rfl rfl) ?_ | refine zg rfl (zz qD hB2 rfl rfl rfl) ?_ | refine zg rfl (ql hbt rfl rfl) ?_ | refine zc rfl rfl rfl rfl (zz qD hB12 rfl rfl rfl) ?_ | refine zd ?_ | refine WC.block ?_ | refine zb ?_ | refine ze ?_ | refine za ?_ | refine zo ?_ | refine zy ?_ | refine zt ?_ | refine zk ?_ | refine zf ?_ | refine zi ?_ | refine zj ?_ | refine zl ?_ | refine zq rfl ?_ | refine zI ?_ | refine zJ ?_ | refine zn ?_ | refine zu ?_ | refine zr ?_ | refine zg rfl (zh qD rfl) ?_ | refine zg rfl (zp rfl rfl rfl) ?_ | refine zG rfl rfl rfl rfl ?_ | refine zc rfl rfl rfl rfl (zh qD rfl) ?_)
  refine zm rfl (fun h=>by cases h) (fun _=>?_)
  repeat (first | refine zg rfl (zz qD hB12 rfl rfl rfl) ?_ | refine zg rfl (zz qD hB2 rfl rfl rfl) ?_ | refine zg rfl (ql hbt rfl rfl) ?_ | refine zc rfl rfl rfl rfl (zz qD hB12 rfl rfl rfl) ?_ | refine zd ?_ | refine WC.block ?_ | refine zb ?_ | refine ze ?_ | refine za ?_ | refine zo ?_ | refine zy ?_ | refine zt ?_ | refine zk ?_ | refine zf ?_ | refine zi ?_ | refine zj ?_ | refine zl ?_ | refine zq rfl ?_ | refine zI ?_ | refine zJ ?_ | refine zn ?_ | refine zu ?_ | refine zr ?_ | refine zg rfl (zh qD rfl) ?_ | refine zg rfl (zp rfl rfl rfl) ?_ | refine zG rfl rfl rfl rfl ?_ | refine zc rfl rfl rfl rfl (zh qD rfl) ?_)
  refine zm rfl (fun h=>by cases h) (fun _=>?_)
  repeat (first | refine zg rfl (zz qD hB12 rfl rfl rfl) ?_ | refine zg rfl (zz qD hB2 rfl rfl rfl) ?_ | refine zg rfl (ql hbt rfl rfl) ?_ | refine zc rfl rfl rfl rfl (zz qD hB12 rfl rfl rfl) ?_ | refine zd ?_ | refine WC.block ?_ | refine zb ?_ | refine ze ?_ | refine za ?_ | refine zo ?_ | refine zy ?_ | refine zt ?_ | refine zk ?_ | refine zf ?_ | refine zi ?_ | refine zj ?_ | refine zl ?_ | refine zq rfl ?_ | refine zI ?_ | refine zJ ?_ | refine zn ?_ | refine zu ?_ | refine zr ?_ | refine zg rfl (zh qD rfl) ?_ | refine zg rfl (zp rfl rfl rfl) ?_ | refine zG rfl rfl rfl rfl ?_ | refine zc rfl rfl rfl rfl (zh qD rfl) ?_)
  refine zm rfl (fun h=>by cases h) (fun _=>?_)
  repeat (first | refine zg rfl (zz qD hB12 rfl rfl rfl) ?_ | refine zg rfl (zz qD hB2 rfl rfl rfl) ?_ | refine zg rfl (ql hbt rfl rfl) ?_ | refine zc rfl rfl rfl rfl (zz qD hB12 rfl rfl rfl) ?_ | refine zd ?_ | refine WC.block ?_ | refine zb ?_ | refine ze ?_ | refine za ?_ | refine zo ?_ | refine zy ?_ | refine zt ?_ | refine zk ?_ | refine zf ?_ | refine zi ?_ | refine zj ?_ | refine zl ?_ | refine zq rfl ?_ | refine zI ?_ | refine zJ ?_ | refine zn ?_ | refine zu ?_ | refine zr ?_ | refine zg rfl (zh qD rfl) ?_ | refine zg rfl (zp rfl rfl rfl) ?_ | refine zG rfl rfl rfl rfl ?_ | refine zc rfl rfl rfl rfl (zh qD rfl) ?_)
  refine zx rfl rfl (cmp_fn A c la B cb lb w2 hA2 hB22 hDa hDb hCa hCb (by omega) (by omega)) ?_
  rintro _ w3 ⟨⟨n,rfl,ht⟩,hw3⟩
  have hw4:=hw3.symm
  subst hw4
  refine zx rfl rfl (sign_fn n w2) ?_
  rintro _ w4 ⟨rfl,hw5⟩
  have hw6:=hw5.symm
  subst hw6
  repeat (first | refine zd ?_ | refine WC.block ?_ | refine zb ?_ | refine ze ?_ | refine za ?_ | refine zo ?_ | refine zy ?_ | refine zt ?_ | refine zk ?_ | refine zf ?_ | refine zi ?_ | refine zj ?_ | refine zl ?_ | refine zq rfl ?_ | refine zI ?_ | refine zJ ?_ | refine zn ?_ | refine zu ?_ | refine zr ?_ | refine zg rfl (zh qD rfl) ?_ | refine zg rfl (zp rfl rfl rfl) ?_ | refine zG rfl rfl rfl rfl ?_ | refine zc rfl rfl rfl rfl (zh qD rfl) ?_)
  refine zD rfl rfl ⟨?_,hg12⟩
  simp only [cond_false]
  exact congrArg vi (tells_sign ht)
 ·repeat (first | refine zg rfl (zz qD hB12 rfl rfl rfl) ?_ | refine zg rfl (zz qD hB2 rfl rfl rfl) ?_ | refine zg rfl (ql hbt rfl rfl) ?_ | refine zc rfl rfl rfl rfl (zz qD hB12 rfl rfl rfl) ?_ | refine zd ?_ | refine WC.block ?_ | refine zb ?_ | refine ze ?_ | refine za ?_ | refine zo ?_ | refine zy ?_ | refine zt ?_ | refine zk ?_ | refine zf ?_ | refine zi ?_ | refine zj ?_ | refine zl ?_ | refine zq rfl ?_ | refine zI ?_ | refine zJ ?_ | refine zn ?_ | refine zu ?_ | refine zr ?_ | refine zg rfl (zh qD rfl) ?_ | refine zg rfl (zp rfl rfl rfl) ?_ | refine zG rfl rfl rfl rfl ?_ | refine zc rfl rfl rfl rfl (zh qD rfl) ?_)
  refine zm rfl (fun h=>by cases h) (fun _=>?_)
  repeat (first | refine zg rfl (zz qD hB12 rfl rfl rfl) ?_ | refine zg rfl (zz qD hB2 rfl rfl rfl) ?_ | refine zg rfl (ql hbt rfl rfl) ?_ | refine zc rfl rfl rfl rfl (zz qD hB12 rfl rfl rfl) ?_ | refine zd ?_ | refine WC.block ?_ | refine zb ?_ | refine ze ?_ | refine za ?_ | refine zo ?_ | refine zy ?_ | refine zt ?_ | refine zk ?_ | refine zf ?_ | refine zi ?_ | refine zj ?_ | refine zl ?_ | refine zq rfl ?_ | refine zI ?_ | refine zJ ?_ | refine zn ?_ | refine zu ?_ | refine zr ?_ | refine zg rfl (zh qD rfl) ?_ | refine zg rfl (zp rfl rfl rfl) ?_ | refine zG rfl rfl rfl rfl ?_ | refine zc rfl rfl rfl rfl (zh qD rfl) ?_)
  refine zm rfl (fun _=>?_) (fun h=>by cases h)
  repeat (first | refine zg rfl (zz qD hB12 rfl rfl rfl) ?_ | refine zg rfl (zz qD hB2 rfl rfl rfl) ?_ | refine zg rfl (ql hbt rfl rfl) ?_ | refine zc rfl rfl rfl rfl (zz qD hB12 rfl rfl rfl) ?_ | refine zd ?_ | refine WC.block ?_ | refine zb ?_ | refine ze ?_ | refine za ?_ | refine zo ?_ | refine zy ?_ | refine zt ?_ | refine zk ?_ | refine zf ?_ | refine zi ?_ | refine zj ?_ | refine zl ?_ | refine zq rfl ?_ | refine zI ?_ | refine zJ ?_ | refine zn ?_ | refine zu ?_ | refine zr ?_ | refine zg rfl (zh qD rfl) ?_ | refine zg rfl (zp rfl rfl rfl) ?_ | refine zG rfl rfl rfl rfl ?_ | refine zc rfl rfl rfl rfl (zh qD rfl) ?_)
  have hp:=val_pos hCb (hnb rfl)
  refine zD rfl rfl ⟨?_,hg12⟩
  simp only [cond_true,cond_false]
  rw [if_neg (by omega),if_pos (by omega)]
  rfl
 ·repeat (first | refine zg rfl (zz qD hB12 rfl rfl rfl) ?_ | refine zg rfl (zz qD hB2 rfl rfl rfl) ?_ | refine zg rfl (ql hbt rfl rfl) ?_ | refine zc rfl rfl rfl rfl (zz qD hB12 rfl rfl rfl) ?_ | refine zd ?_ | refine WC.block ?_ | refine zb ?_ | refine ze ?_ | refine za ?_ | refine zo ?_ | refine zy ?_ | refine zt ?_ | refine zk ?_ | refine zf ?_ | refine zi ?_ | refine zj ?_ | refine zl ?_ | refine zq rfl ?_ | refine zI ?_ | refine zJ ?_ | refine zn ?_ | refine zu ?_ | refine zr ?_ | refine zg rfl (zh qD rfl) ?_ | refine zg rfl (zp rfl rfl rfl) ?_ | refine zG rfl rfl rfl rfl ?_ | refine zc rfl rfl rfl rfl (zh qD rfl) ?_)
  refine zm rfl (fun _=>?_) (fun h=>by cases h)
  repeat (first | refine zg rfl (zz qD hB12 rfl rfl rfl) ?_ | refine zg rfl (zz qD hB2 rfl rfl rfl) ?_ | refine zg rfl (ql hbt rfl rfl) ?_ | refine zc rfl rfl rfl rfl (zz qD hB12 rfl rfl rfl) ?_ | refine zd ?_ | refine WC.block ?_ | refine zb ?_ | refine ze ?_ | refine za ?_ | refine zo ?_ | refine zy ?_ | refine zt ?_ | refine zk ?_ | refine zf ?_ | refine zi ?_ | refine zj ?_ | refine zl ?_ | refine zq rfl ?_ | refine zI ?_ | refine zJ ?_ | refine zn ?_ | refine zu ?_ | refine zr ?_ | refine zg rfl (zh qD rfl) ?_ | refine zg rfl (zp rfl rfl rfl) ?_ | refine zG rfl rfl rfl rfl ?_ | refine zc rfl rfl rfl rfl (zh qD rfl) ?_)
  have hp:=val_pos hCa (hna rfl)
  refine zD rfl rfl ⟨?_,hg12⟩
  simp only [cond_true,cond_false]
  rw [if_pos (by omega)]
  rfl
 ·repeat (first | refine zg rfl (zz qD hB12 rfl rfl rfl) ?_ | refine zg rfl (zz qD hB2 rfl rfl rfl) ?_ | refine zg rfl (ql hbt rfl rfl) ?_ | refine zc rfl rfl rfl rfl (zz qD hB12 rfl rfl rfl) ?_ | refine zd ?_ | refine WC.block ?_ | refine zb ?_ | refine ze ?_ | refine za ?_ | refine zo ?_ | refine zy ?_ | refine zt ?_ | refine zk ?_ | refine zf ?_ | refine zi ?_ | refine zj ?_ | refine zl ?_ | refine zq rfl ?_ | refine zI ?_ | refine zJ ?_ | refine zn ?_ | refine zu ?_ | refine zr ?_ | refine zg rfl (zh qD rfl) ?_ | refine zg rfl (zp rfl rfl rfl) ?_ | refine zG rfl rfl rfl rfl ?_ | refine zc rfl rfl rfl rfl (zh qD rfl) ?_)
  refine zm rfl (fun h=>by cases h) (fun _=>?_)
  repeat (first | refine zg rfl (zz qD hB12 rfl rfl rfl) ?_ | refine zg rfl (zz qD hB2 rfl rfl rfl) ?_ | refine zg rfl (ql hbt rfl rfl) ?_ | refine zc rfl rfl rfl rfl (zz qD hB12 rfl rfl rfl) ?_ | refine zd ?_ | refine WC.block ?_ | refine zb ?_ | refine ze ?_ | refine za ?_ | refine zo ?_ | refine zy ?_ | refine zt ?_ | refine zk ?_ | refine zf ?_ | refine zi ?_ | refine zj ?_ | refine zl ?_ | refine zq rfl ?_ | refine zI ?_ | refine zJ ?_ | refine zn ?_ | refine zu ?_ | refine zr ?_ | refine zg rfl (zh qD rfl) ?_ | refine zg rfl (zp rfl rfl rfl) ?_ | refine zG rfl rfl rfl rfl ?_ | refine zc rfl rfl rfl rfl (zh qD rfl) ?_)
  refine zm rfl (fun h=>by cases h) (fun _=>?_)
  repeat (first | refine zg rfl (zz qD hB12 rfl rfl rfl) ?_ | refine zg rfl (zz qD hB2 rfl rfl rfl) ?_ | refine zg rfl (ql hbt rfl rfl) ?_ | refine zc rfl rfl rfl rfl (zz qD hB12 rfl rfl rfl) ?_ | refine zd ?_ | refine WC.block ?_ | refine zb ?_ | refine ze ?_ | refine za ?_ | refine zo ?_ | refine zy ?_ | refine zt ?_ | refine zk ?_ | refine zf ?_ | refine zi ?_ | refine zj ?_ | refine zl ?_ | refine zq rfl ?_ | refine zI ?_ | refine zJ ?_ | refine zn ?_ | refine zu ?_ | refine zr ?_ | refine zg rfl (zh qD rfl) ?_ | refine zg rfl (zp rfl rfl rfl) ?_ | refine zG rfl rfl rfl rfl ?_ | refine zc rfl rfl rfl rfl (zh qD rfl) ?_)
  refine zm rfl (fun _=>?_) (fun h=>by cases h)
  repeat (first | refine zg rfl (zz qD hB12 rfl rfl rfl) ?_ | refine zg rfl (zz qD hB2 rfl rfl rfl) ?_ | refine zg rfl (ql hbt rfl rfl) ?_ | refine zc rfl rfl rfl rfl (zz qD hB12 rfl rfl rfl) ?_ | refine zd ?_ | refine WC.block ?_ | refine zb ?_ | refine ze ?_ | refine za ?_ | refine zo ?_ | refine zy ?_ | refine zt ?_ | refine zk ?_ | refine zf ?_ | refine zi ?_ | refine zj ?_ | refine zl ?_ | refine zq rfl ?_ | refine zI ?_ | refine zJ ?_ | refine zn ?_ | refine zu ?_ | refine zr ?_ | refine zg rfl (zh qD rfl) ?_ | refine zg rfl (zp rfl rfl rfl) ?_ | refine zG rfl rfl rfl rfl ?_ | refine zc rfl rfl rfl rfl (zh qD rfl) ?_)
  refine zx rfl rfl (cmp_fn B cb lb A c la w2 hB22 hA2 hDb hDa hCb hCa (by omega) (by omega)) ?_
  rintro _ w3 ⟨⟨n,rfl,ht⟩,hw3⟩
  have hw4:=hw3.symm
  subst hw4
  refine zx rfl rfl (sign_fn n w2) ?_
  rintro _ w4 ⟨rfl,hw5⟩
  have hw6:=hw5.symm
  subst hw6
  repeat (first | refine zd ?_ | refine WC.block ?_ | refine zb ?_ | refine ze ?_ | refine za ?_ | refine zo ?_ | refine zy ?_ | refine zt ?_ | refine zk ?_ | refine zf ?_ | refine zi ?_ | refine zj ?_ | refine zl ?_ | refine zq rfl ?_ | refine zI ?_ | refine zJ ?_ | refine zn ?_ | refine zu ?_ | refine zr ?_ | refine zg rfl (zh qD rfl) ?_ | refine zg rfl (zp rfl rfl rfl) ?_ | refine zG rfl rfl rfl rfl ?_ | refine zc rfl rfl rfl rfl (zh qD rfl) ?_)
  refine zD rfl rfl ⟨?_,hg12⟩
  simp only [cond_true]
  exact congrArg vi (tells_sign' ht)
end
 section
open Go Go.RowKit
attribute [local irreducible] WL WC WX WQ WK Yld Eff Ef0 Fn
theorem getD_setN_eq (l:List Nat) (j d:Nat) (h:j<l.length):(l.set j d).getD j 0=d:=by simp [List.getD,h]
theorem getD_setN_ne (l:List Nat) (j i d:Nat) (h:j≠i):(l.set j d).getD i 0=l.getD i 0:=by simp [List.getD,List.getElem?_set_ne h]
theorem Dg.set {l:List Nat} (h:Dg l) (j:Nat) {d:Nat} (hd:d<1000000000):Dg (l.set j d):=fun i=>by
 rcases Nat.lt_or_ge j l.length with hj | hj
 ·rcases Classical.em (j=i) with e | e
  ·subst e; rw [getD_setN_eq l j d hj]; exact hd
  ·rw [getD_setN_ne l j i d e]; exact h i
 ·rw [List.set_eq_of_length_le hj]; exact h i
end
 section
open Go Go.RowKit
attribute [local irreducible] WL WC WX WQ WK Yld Eff Ef0 Fn
end
 section
open Go Go.RowKit
attribute [local irreducible] WL WC WX WQ WK Yld Eff Ef0 Fn
theorem Dg.cons {l:List Nat} (h:Dg l) {d:Nat} (hd:d<1000000000):Dg (d :: l):=fun i=>by
 cases i with
 | zero=>simpa using hd
 | succ i=>simpa using h i
end
 section
open Go Go.RowKit
attribute [local irreducible] WL WC WX WQ WK Yld Eff Ef0 Fn
theorem conv_u64 (n:Int) (h1 : -9223372036854775808<=n) (h2:n<=9223372036854775807):IntKind.u64.wrap n=if n<0 then n+18446744073709551616 else n:=by
 split
 ·simp [IntKind.wrap,IntKind.bits,IntKind.signed]; omega
 ·simp [IntKind.wrap,IntKind.bits,IntKind.signed]; omega
theorem of_fn' (n:Int) (w:World) (h1 : -9223372036854775808<=n) (h2:n<=9223372036854775807) :
  Fn Tryz.prog 37 ⟨[.int .i64 n]⟩ w fun r w'=>Nm w' r n 3/\w.grownBy w' none/\Lies r (fun q=>w.heap.size<=q/\q<w'.heap.size):=by
 refine Fn.enter (by kernel_rfl) Tryz.func37 rfl Tryz.ntmps37 rfl ?_
 repeat (first | refine zd ?_ | refine WC.block ?_ | refine zb ?_ | refine ze ?_ | refine za ?_ | refine zo ?_ | refine zy ?_ | refine zt ?_ | refine zk ?_ | refine zf ?_ | refine zi ?_ | refine zj ?_ | refine zl ?_ | refine zq rfl ?_ | refine zI ?_ | refine zJ ?_ | refine zn ?_ | refine zu ?_ | refine zr ?_ | refine zg rfl (Yld.add rfl rfl (by simp only [In]; omega)) ?_ | refine zg rfl (Yld.sub rfl rfl (by simp only [In]; omega)) ?_ | refine zg rfl (zN rfl rfl (by simp only [In]; omega)) ?_ | refine zg rfl (zv qD rfl rfl rfl rfl) ?_ | refine zg rfl (zw qD rfl rfl rfl (by simp only [In]; omega)) ?_ | refine zg rfl (zE rfl rfl (by omega) (by omega) (by simp only [In]; omega)) ?_ | refine zg rfl (zF rfl rfl (by omega) (by omega)) ?_ | refine zg rfl (zP rfl rfl (by omega)) ?_ | refine zg rfl (zL rfl rfl (by omega)) ?_ | refine zg rfl (zh qD rfl) ?_ | refine zg rfl (zO qI rfl rfl rfl) ?_ | refine zg rfl (zH rfl rfl) ?_ | refine zg rfl (zC rfl rfl) ?_ | refine zg rfl (zp rfl rfl rfl) ?_ | refine zG rfl rfl rfl rfl ?_ | refine zc rfl rfl rfl rfl (Yld.add rfl rfl (by simp only [In]; omega)) ?_ | refine zc rfl rfl rfl rfl (Yld.sub rfl rfl (by simp only [In]; omega)) ?_ | refine zc rfl rfl rfl rfl (zN rfl rfl (by simp only [In]; omega)) ?_ | refine zc rfl rfl rfl rfl (zv qD rfl rfl rfl rfl) ?_ | refine zc rfl rfl rfl rfl (zw qD rfl rfl rfl (by simp only [In]; omega)) ?_ | refine zc rfl rfl rfl rfl (zE rfl rfl (by omega) (by omega) (by simp only [In]; omega)) ?_ | refine zc rfl rfl rfl rfl (zF rfl rfl (by omega) (by omega)) ?_ | refine zc rfl rfl rfl rfl (zP rfl rfl (by omega)) ?_ | refine zc rfl rfl rfl rfl (zL rfl rfl (by omega)) ?_ | refine zc rfl rfl rfl rfl (zh qD rfl) ?_ | refine zc rfl rfl rfl rfl (zO qI rfl rfl rfl) ?_ | refine zc rfl rfl rfl rfl (zH rfl rfl) ?_ | refine zc rfl rfl rfl rfl (zC rfl rfl) ?_ | refine zc rfl rfl rfl rfl (zp rfl rfl rfl) ?_)
 refine WL.alloc rfl zero75 (fun g w1 hB1 hg1 hl1=>?_)
 repeat (first | refine zd ?_ | refine WC.block ?_ | refine zb ?_ | refine ze ?_ | refine za ?_ | refine zo ?_ | refine zy ?_ | refine zt ?_ | refine zk ?_ | refine zf ?_ | refine zi ?_ | refine zj ?_ | refine zl ?_ | refine zq rfl ?_ | refine zI ?_ | refine zJ ?_ | refine zn ?_ | refine zu ?_ | refine zr ?_ | refine zg rfl (Yld.add rfl rfl (by simp only [In]; omega)) ?_ | refine zg rfl (Yld.sub rfl rfl (by simp only [In]; omega)) ?_ | refine zg rfl (zN rfl rfl (by simp only [In]; omega)) ?_ | refine zg rfl (zv qD rfl rfl rfl rfl) ?_ | refine zg rfl (zw qD rfl rfl rfl (by simp only [In]; omega)) ?_ | refine zg rfl (zE rfl rfl (by omega) (by omega) (by simp only [In]; omega)) ?_ | refine zg rfl (zF rfl rfl (by omega) (by omega)) ?_ | refine zg rfl (zP rfl rfl (by omega)) ?_ | refine zg rfl (zL rfl rfl (by omega)) ?_ | refine zg rfl (zh qD rfl) ?_ | refine zg rfl (zO qI rfl rfl rfl) ?_ | refine zg rfl (zH rfl rfl) ?_ | refine zg rfl (zC rfl rfl) ?_ | refine zg rfl (zp rfl rfl rfl) ?_ | refine zG rfl rfl rfl rfl ?_ | refine zc rfl rfl rfl rfl (Yld.add rfl rfl (by simp only [In]; omega)) ?_ | refine zc rfl rfl rfl rfl (Yld.sub rfl rfl (by simp only [In]; omega)) ?_ | refine zc rfl rfl rfl rfl (zN rfl rfl (by simp only [In]; omega)) ?_ | refine zc rfl rfl rfl rfl (zv qD rfl rfl rfl rfl) ?_ | refine zc rfl rfl rfl rfl (zw qD rfl rfl rfl (by simp only [In]; omega)) ?_ | refine zc rfl rfl rfl rfl (zE rfl rfl (by omega) (by omega) (by simp only [In]; omega)) ?_ | refine zc rfl rfl rfl rfl (zF rfl rfl (by omega) (by omega)) ?_ | refine zc rfl rfl rfl rfl (zP rfl rfl (by omega)) ?_ | refine zc rfl rfl rfl rfl (zL rfl rfl (by omega)) ?_ | refine zc rfl rfl rfl rfl (zh qD rfl) ?_ | refine zc rfl rfl rfl rfl (zO qI rfl rfl rfl) ?_ | refine zc rfl rfl rfl rfl (zH rfl rfl) ?_ | refine zc rfl rfl rfl rfl (zC rfl rfl) ?_ | refine zc rfl rfl rfl rfl (zp rfl rfl rfl) ?_)
 refine WC.merge [(3,.int .u64 ((n.natAbs:Nat):Int)),(0,.int .i64 n),(2,.pointer (some ⟨g,0,none⟩))] rfl (fun h Q' hQ=>?_) (fun h Q' hQ=>?_) ?_
 ·simp only [decide_eq_true_eq] at h
  have hc:=conv_u64 n h1 h2
  rw [if_pos h] at hc
  repeat (first | refine zd ?_ | refine WC.block ?_ | refine zb ?_ | refine ze ?_ | refine za ?_ | refine zo ?_ | refine zy ?_ | refine zt ?_ | refine zk ?_ | refine zf ?_ | refine zi ?_ | refine zj ?_ | refine zl ?_ | refine zq rfl ?_ | refine zI ?_ | refine zJ ?_ | refine zn ?_ | refine zu ?_ | refine zr ?_ | refine zg rfl (Yld.add rfl rfl (by simp only [In]; omega)) ?_ | refine zg rfl (Yld.sub rfl rfl (by simp only [In]; omega)) ?_ | refine zg rfl (zN rfl rfl (by simp only [In]; omega)) ?_ | refine zg rfl (zv qD rfl rfl rfl rfl) ?_ | refine zg rfl (zw qD rfl rfl rfl (by simp only [In]; omega)) ?_ | refine zg rfl (zE rfl rfl (by omega) (by omega) (by simp only [In]; omega)) ?_ | refine zg rfl (zF rfl rfl (by omega) (by omega)) ?_ | refine zg rfl (zP rfl rfl (by omega)) ?_ | refine zg rfl (zL rfl rfl (by omega)) ?_ | refine zg rfl (zh qD rfl) ?_ | refine zg rfl (zO qI rfl rfl rfl) ?_ | refine zg rfl (zH rfl rfl) ?_ | refine zg rfl (zC rfl rfl) ?_ | refine zg rfl (zp rfl rfl rfl) ?_ | refine zG rfl rfl rfl rfl ?_ | refine zc rfl rfl rfl rfl (Yld.add rfl rfl (by simp only [In]; omega)) ?_ | refine zc rfl rfl rfl rfl (Yld.sub rfl rfl (by simp only [In]; omega)) ?_ | refine zc rfl rfl rfl rfl (zN rfl rfl (by simp only [In]; omega)) ?_ | refine zc rfl rfl rfl rfl (zv qD rfl rfl rfl rfl) ?_ | refine zc rfl rfl rfl rfl (zw qD rfl rfl rfl (by simp only [In]; omega)) ?_ | refine zc rfl rfl rfl rfl (zE rfl rfl (by omega) (by omega) (by simp only [In]; omega)) ?_ | refine zc rfl rfl rfl rfl (zF rfl rfl (by omega) (by omega)) ?_ | refine zc rfl rfl rfl rfl (zP rfl rfl (by omega)) ?_ | refine zc rfl rfl rfl rfl (zL rfl rfl (by omega)) ?_ | refine zc rfl rfl rfl rfl (zh qD rfl) ?_ | refine zc rfl rfl rfl rfl (zO qI rfl rfl rfl) ?_ | refine zc rfl rfl rfl rfl (zH rfl rfl) ?_ | refine zc rfl rfl rfl rfl (zC rfl rfl) ?_ | refine zc rfl rfl rfl rfl (zp rfl rfl rfl) ?_)
  rw [hc]
  have hc2:IntKind.u64.wrap (0 - (n+18446744073709551616))=((n.natAbs:Nat):Int):=by
   simp [IntKind.wrap,IntKind.bits,IntKind.signed]; omega
  rw [hc2]
  exact WX.weaken (by repeat (first | exact qg | refine qb rfl ?_)) hQ
 ·simp only [decide_eq_false_iff_not] at h
  have hc:IntKind.u64.wrap n=((n.natAbs:Nat):Int):=by rw [conv_u64 n h1 h2,if_neg h]; omega
  rw [hc]
  repeat (first | refine zd ?_ | refine WC.block ?_ | refine zb ?_ | refine ze ?_ | refine za ?_ | refine zo ?_ | refine zy ?_ | refine zt ?_ | refine zk ?_ | refine zf ?_ | refine zi ?_ | refine zj ?_ | refine zl ?_ | refine zq rfl ?_ | refine zI ?_ | refine zJ ?_ | refine zn ?_ | refine zu ?_ | refine zr ?_ | refine zg rfl (Yld.add rfl rfl (by simp only [In]; omega)) ?_ | refine zg rfl (Yld.sub rfl rfl (by simp only [In]; omega)) ?_ | refine zg rfl (zN rfl rfl (by simp only [In]; omega)) ?_ | refine zg rfl (zv qD rfl rfl rfl rfl) ?_ | refine zg rfl (zw qD rfl rfl rfl (by simp only [In]; omega)) ?_ | refine zg rfl (zE rfl rfl (by omega) (by omega) (by simp only [In]; omega)) ?_ | refine zg rfl (zF rfl rfl (by omega) (by omega)) ?_ | refine zg rfl (zP rfl rfl (by omega)) ?_ | refine zg rfl (zL rfl rfl (by omega)) ?_ | refine zg rfl (zh qD rfl) ?_ | refine zg rfl (zO qI rfl rfl rfl) ?_ | refine zg rfl (zH rfl rfl) ?_ | refine zg rfl (zC rfl rfl) ?_ | refine zg rfl (zp rfl rfl rfl) ?_ | refine zG rfl rfl rfl rfl ?_ | refine zc rfl rfl rfl rfl (Yld.add rfl rfl (by simp only [In]; omega)) ?_ | refine zc rfl rfl rfl rfl (Yld.sub rfl rfl (by simp only [In]; omega)) ?_ | refine zc rfl rfl rfl rfl (zN rfl rfl (by simp only [In]; omega)) ?_ | refine zc rfl rfl rfl rfl (zv qD rfl rfl rfl rfl) ?_ | refine zc rfl rfl rfl rfl (zw qD rfl rfl rfl (by simp only [In]; omega)) ?_ | refine zc rfl rfl rfl rfl (zE rfl rfl (by omega) (by omega) (by simp only [In]; omega)) ?_ | refine zc rfl rfl rfl rfl (zF rfl rfl (by omega) (by omega)) ?_ | refine zc rfl rfl rfl rfl (zP rfl rfl (by omega)) ?_ | refine zc rfl rfl rfl rfl (zL rfl rfl (by omega)) ?_ | refine zc rfl rfl rfl rfl (zh qD rfl) ?_ | refine zc rfl rfl rfl rfl (zO qI rfl rfl rfl) ?_ | refine zc rfl rfl rfl rfl (zH rfl rfl) ?_ | refine zc rfl rfl rfl rfl (zC rfl rfl) ?_ | refine zc rfl rfl rfl rfl (zp rfl rfl rfl) ?_)
  exact WX.weaken (by repeat (first | exact qg | refine qb rfl ?_)) hQ
 repeat (first | refine zd ?_ | refine WC.block ?_ | refine zb ?_ | refine ze ?_ | refine za ?_ | refine zo ?_ | refine zy ?_ | refine zt ?_ | refine zk ?_ | refine zf ?_ | refine zi ?_ | refine zj ?_ | refine zl ?_ | refine zq rfl ?_ | refine zI ?_ | refine zJ ?_ | refine zn ?_ | refine zu ?_ | refine zr ?_ | refine zg rfl (Yld.add rfl rfl (by simp only [In]; omega)) ?_ | refine zg rfl (Yld.sub rfl rfl (by simp only [In]; omega)) ?_ | refine zg rfl (zN rfl rfl (by simp only [In]; omega)) ?_ | refine zg rfl (zv qD rfl rfl rfl rfl) ?_ | refine zg rfl (zw qD rfl rfl rfl (by simp only [In]; omega)) ?_ | refine zg rfl (zE rfl rfl (by omega) (by omega) (by simp only [In]; omega)) ?_ | refine zg rfl (zF rfl rfl (by omega) (by omega)) ?_ | refine zg rfl (zP rfl rfl (by omega)) ?_ | refine zg rfl (zL rfl rfl (by omega)) ?_ | refine zg rfl (zh qD rfl) ?_ | refine zg rfl (zO qI rfl rfl rfl) ?_ | refine zg rfl (zH rfl rfl) ?_ | refine zg rfl (zC rfl rfl) ?_ | refine zg rfl (zp rfl rfl rfl) ?_ | refine zG rfl rfl rfl rfl ?_ | refine zc rfl rfl rfl rfl (Yld.add rfl rfl (by simp only [In]; omega)) ?_ | refine zc rfl rfl rfl rfl (Yld.sub rfl rfl (by simp only [In]; omega)) ?_ | refine zc rfl rfl rfl rfl (zN rfl rfl (by simp only [In]; omega)) ?_ | refine zc rfl rfl rfl rfl (zv qD rfl rfl rfl rfl) ?_ | refine zc rfl rfl rfl rfl (zw qD rfl rfl rfl (by simp only [In]; omega)) ?_ | refine zc rfl rfl rfl rfl (zE rfl rfl (by omega) (by omega) (by simp only [In]; omega)) ?_ | refine zc rfl rfl rfl rfl (zF rfl rfl (by omega) (by omega)) ?_ | refine zc rfl rfl rfl rfl (zP rfl rfl (by omega)) ?_ | refine zc rfl rfl rfl rfl (zL rfl rfl (by omega)) ?_ | refine zc rfl rfl rfl rfl (zh qD rfl) ?_ | refine zc rfl rfl rfl rfl (zO qI rfl rfl rfl) ?_ | refine zc rfl rfl rfl rfl (zH rfl rfl) ?_ | refine zc rfl rfl rfl rfl (zC rfl rfl) ?_ | refine zc rfl rfl rfl rfl (zp rfl rfl rfl) ?_)
 generalize hU:n.natAbs=U
 have hU1:U<=9223372036854775808:=by omega
 refine WC.loop4 (S1:=Nat) (S2:=List Nat) (S3:=Option Addr) (S4:=Nat) (fun u _ _ _=>u)
  (fun u l A c=>[(3,.int .u64 (u:Int)),(4,.slice A l.length c),(0,.int .i64 n),(2,.pointer (some ⟨g,0,none⟩))])
  (fun u l A c w2=>u<=9223372036854775808/\Dg l/\l.length<=3/\u<1000000000 ^ (3 - l.length)/\val l+1000000000 ^ l.length*u=U/\Own vd w2 w1.heap.size 171 A c l/\w1.grownBy w2 none) U [] none 0
  ⟨hU1,Dg.nil,by simp,by simp only [List.length_nil]; omega,by simp [val],Own.nil _ _ _ _,jH _ _⟩ (by repeat (first | exact qg | refine qb rfl ?_)) (fun u l A c w2 ⟨hu,hD,hl,hp,hv,hO,hg2⟩=>?_)
 repeat (first | refine zd ?_ | refine WC.block ?_ | refine zb ?_ | refine ze ?_ | refine za ?_ | refine zo ?_ | refine zy ?_ | refine zt ?_ | refine zk ?_ | refine zf ?_ | refine zi ?_ | refine zj ?_ | refine zl ?_ | refine zq rfl ?_ | refine zI ?_ | refine zJ ?_ | refine zn ?_ | refine zu ?_ | refine zr ?_ | refine zg rfl (Yld.add rfl rfl (by simp only [In]; omega)) ?_ | refine zg rfl (Yld.sub rfl rfl (by simp only [In]; omega)) ?_ | refine zg rfl (zN rfl rfl (by simp only [In]; omega)) ?_ | refine zg rfl (zv qD rfl rfl rfl rfl) ?_ | refine zg rfl (zw qD rfl rfl rfl (by simp only [In]; omega)) ?_ | refine zg rfl (zE rfl rfl (by omega) (by omega) (by simp only [In]; omega)) ?_ | refine zg rfl (zF rfl rfl (by omega) (by omega)) ?_ | refine zg rfl (zP rfl rfl (by omega)) ?_ | refine zg rfl (zL rfl rfl (by omega)) ?_ | refine zg rfl (zh qD rfl) ?_ | refine zg rfl (zO qI rfl rfl rfl) ?_ | refine zg rfl (zH rfl rfl) ?_ | refine zg rfl (zC rfl rfl) ?_ | refine zg rfl (zp rfl rfl rfl) ?_ | refine zG rfl rfl rfl rfl ?_ | refine zc rfl rfl rfl rfl (Yld.add rfl rfl (by simp only [In]; omega)) ?_ | refine zc rfl rfl rfl rfl (Yld.sub rfl rfl (by simp only [In]; omega)) ?_ | refine zc rfl rfl rfl rfl (zN rfl rfl (by simp only [In]; omega)) ?_ | refine zc rfl rfl rfl rfl (zv qD rfl rfl rfl rfl) ?_ | refine zc rfl rfl rfl rfl (zw qD rfl rfl rfl (by simp only [In]; omega)) ?_ | refine zc rfl rfl rfl rfl (zE rfl rfl (by omega) (by omega) (by simp only [In]; omega)) ?_ | refine zc rfl rfl rfl rfl (zF rfl rfl (by omega) (by omega)) ?_ | refine zc rfl rfl rfl rfl (zP rfl rfl (by omega)) ?_ | refine zc rfl rfl rfl rfl (zL rfl rfl (by omega)) ?_ | refine zc rfl rfl rfl rfl (zh qD rfl) ?_ | refine zc rfl rfl rfl rfl (zO qI rfl rfl rfl) ?_ | refine zc rfl rfl rfl rfl (zH rfl rfl) ?_ | refine zc rfl rfl rfl rfl (zC rfl rfl) ?_ | refine zc rfl rfl rfl rfl (zp rfl rfl rfl) ?_)
 refine zm rfl (fun h=>?_) (fun h=>?_)
 ·simp only [decide_eq_true_eq] at h
  have hl3:l.length<3:=by
   rcases Nat.lt_or_ge l.length 3 with h3 | h3
   ·exact h3
   ·rw [show 3 - l.length=0 by omega] at hp; omega
  repeat (first | refine zd ?_ | refine WC.block ?_ | refine zb ?_ | refine ze ?_ | refine za ?_ | refine zo ?_ | refine zy ?_ | refine zt ?_ | refine zk ?_ | refine zf ?_ | refine zi ?_ | refine zj ?_ | refine zl ?_ | refine zq rfl ?_ | refine zI ?_ | refine zJ ?_ | refine zn ?_ | refine zu ?_ | refine zr ?_ | refine zg rfl (Yld.add rfl rfl (by simp only [In]; omega)) ?_ | refine zg rfl (Yld.sub rfl rfl (by simp only [In]; omega)) ?_ | refine zg rfl (zN rfl rfl (by simp only [In]; omega)) ?_ | refine zg rfl (zv qD rfl rfl rfl rfl) ?_ | refine zg rfl (zw qD rfl rfl rfl (by simp only [In]; omega)) ?_ | refine zg rfl (zE rfl rfl (by omega) (by omega) (by simp only [In]; omega)) ?_ | refine zg rfl (zF rfl rfl (by omega) (by omega)) ?_ | refine zg rfl (zP rfl rfl (by omega)) ?_ | refine zg rfl (zL rfl rfl (by omega)) ?_ | refine zg rfl (zh qD rfl) ?_ | refine zg rfl (zO qI rfl rfl rfl) ?_ | refine zg rfl (zH rfl rfl) ?_ | refine zg rfl (zC rfl rfl) ?_ | refine zg rfl (zp rfl rfl rfl) ?_ | refine zG rfl rfl rfl rfl ?_ | refine zc rfl rfl rfl rfl (Yld.add rfl rfl (by simp only [In]; omega)) ?_ | refine zc rfl rfl rfl rfl (Yld.sub rfl rfl (by simp only [In]; omega)) ?_ | refine zc rfl rfl rfl rfl (zN rfl rfl (by simp only [In]; omega)) ?_ | refine zc rfl rfl rfl rfl (zv qD rfl rfl rfl rfl) ?_ | refine zc rfl rfl rfl rfl (zw qD rfl rfl rfl (by simp only [In]; omega)) ?_ | refine zc rfl rfl rfl rfl (zE rfl rfl (by omega) (by omega) (by simp only [In]; omega)) ?_ | refine zc rfl rfl rfl rfl (zF rfl rfl (by omega) (by omega)) ?_ | refine zc rfl rfl rfl rfl (zP rfl rfl (by omega)) ?_ | refine zc rfl rfl rfl rfl (zL rfl rfl (by omega)) ?_ | refine zc rfl rfl rfl rfl (zh qD rfl) ?_ | refine zc rfl rfl rfl rfl (zO qI rfl rfl rfl) ?_ | refine zc rfl rfl rfl rfl (zH rfl rfl) ?_ | refine zc rfl rfl rfl rfl (zC rfl rfl) ?_ | refine zc rfl rfl rfl rfl (zp rfl rfl rfl) ?_)
  have hd:(u:Int) % 1000000000=((u % 1000000000:Nat):Int):=by omega
  have hq:(u:Int) / 1000000000=((u / 1000000000:Nat):Int):=by omega
  rw [hd]
  refine z5 (us:=[vd (u % 1000000000)]) qD rfl rfl rfl (by intro u hu; rw [List.mem_singleton] at hu; rw [hu]; rfl) rfl (by omega) (fun g3 w3 hL3 hg3 hl3=>?_)
  have hR3:Rd vd w3 (some ⟨g3,0,none⟩) 1 [u % 1000000000]:=Rd.ofBl' hL3 (by simp) (by simp [maxLen])
  have hO3:=hO.grown hg3
  have hz2:=hg2.size
  have hz3:=hg3.size
  refine z4 qD rfl rfl One.d hO3 rfl rfl hR3 rfl rfl (by simp only [List.length_cons,List.length_nil]; omega) (by simp only [maxLen,List.length_cons,List.length_nil]; omega) (by omega) (fun A4 c4 w4 hO4 hg4 hf4=>?_)
  repeat (first | refine zd ?_ | refine WC.block ?_ | refine zb ?_ | refine ze ?_ | refine za ?_ | refine zo ?_ | refine zy ?_ | refine zt ?_ | refine zk ?_ | refine zf ?_ | refine zi ?_ | refine zj ?_ | refine zl ?_ | refine zq rfl ?_ | refine zI ?_ | refine zJ ?_ | refine zn ?_ | refine zu ?_ | refine zr ?_ | refine zg rfl (Yld.add rfl rfl (by simp only [In]; omega)) ?_ | refine zg rfl (Yld.sub rfl rfl (by simp only [In]; omega)) ?_ | refine zg rfl (zN rfl rfl (by simp only [In]; omega)) ?_ | refine zg rfl (zv qD rfl rfl rfl rfl) ?_ | refine zg rfl (zw qD rfl rfl rfl (by simp only [In]; omega)) ?_ | refine zg rfl (zE rfl rfl (by omega) (by omega) (by simp only [In]; omega)) ?_ | refine zg rfl (zF rfl rfl (by omega) (by omega)) ?_ | refine zg rfl (zP rfl rfl (by omega)) ?_ | refine zg rfl (zL rfl rfl (by omega)) ?_ | refine zg rfl (zh qD rfl) ?_ | refine zg rfl (zO qI rfl rfl rfl) ?_ | refine zg rfl (zH rfl rfl) ?_ | refine zg rfl (zC rfl rfl) ?_ | refine zg rfl (zp rfl rfl rfl) ?_ | refine zG rfl rfl rfl rfl ?_ | refine zc rfl rfl rfl rfl (Yld.add rfl rfl (by simp only [In]; omega)) ?_ | refine zc rfl rfl rfl rfl (Yld.sub rfl rfl (by simp only [In]; omega)) ?_ | refine zc rfl rfl rfl rfl (zN rfl rfl (by simp only [In]; omega)) ?_ | refine zc rfl rfl rfl rfl (zv qD rfl rfl rfl rfl) ?_ | refine zc rfl rfl rfl rfl (zw qD rfl rfl rfl (by simp only [In]; omega)) ?_ | refine zc rfl rfl rfl rfl (zE rfl rfl (by omega) (by omega) (by simp only [In]; omega)) ?_ | refine zc rfl rfl rfl rfl (zF rfl rfl (by omega) (by omega)) ?_ | refine zc rfl rfl rfl rfl (zP rfl rfl (by omega)) ?_ | refine zc rfl rfl rfl rfl (zL rfl rfl (by omega)) ?_ | refine zc rfl rfl rfl rfl (zh qD rfl) ?_ | refine zc rfl rfl rfl rfl (zO qI rfl rfl rfl) ?_ | refine zc rfl rfl rfl rfl (zH rfl rfl) ?_ | refine zc rfl rfl rfl rfl (zC rfl rfl) ?_ | refine zc rfl rfl rfl rfl (zp rfl rfl rfl) ?_)
  rw [hq]
  refine WX.round4 (u / 1000000000) (l++[u % 1000000000]) A4 c4 ⟨by omega,hD.push (by omega),by simp; omega,?_,?_,hO4,gr_own (qG hg2 hg3) hO3 hg4 (Nat.le_refl _)⟩ (by omega) (by repeat (first | exact qg | refine qb rfl ?_))
  ·rw [show (l++[u % 1000000000]).length=l.length+1 by simp]
   rw [show 3 - l.length=(3 - (l.length+1))+1 by omega,Nat.pow_succ] at hp
   omega
  ·rw [val_push,List.length_append,List.length_singleton,Nat.pow_succ]
   have:u=u % 1000000000+1000000000*(u / 1000000000):=by omega
   generalize u % 1000000000=a at *
   generalize u / 1000000000=b at *
   subst this
   grind
 ·simp only [decide_eq_false_iff_not] at h
  obtain rfl:u=0:=by omega
  have hB2:=hB1.keep hg2 (by simp)
  repeat (first | refine zd ?_ | refine WC.block ?_ | refine zb ?_ | refine ze ?_ | refine za ?_ | refine zo ?_ | refine zy ?_ | refine zt ?_ | refine zk ?_ | refine zf ?_ | refine zi ?_ | refine zj ?_ | refine zl ?_ | refine zq rfl ?_ | refine zI ?_ | refine zJ ?_ | refine zn ?_ | refine zu ?_ | refine zr ?_ | refine zg rfl (Yld.add rfl rfl (by simp only [In]; omega)) ?_ | refine zg rfl (Yld.sub rfl rfl (by simp only [In]; omega)) ?_ | refine zg rfl (zN rfl rfl (by simp only [In]; omega)) ?_ | refine zg rfl (zv qD rfl rfl rfl rfl) ?_ | refine zg rfl (zw qD rfl rfl rfl (by simp only [In]; omega)) ?_ | refine zg rfl (zE rfl rfl (by omega) (by omega) (by simp only [In]; omega)) ?_ | refine zg rfl (zF rfl rfl (by omega) (by omega)) ?_ | refine zg rfl (zP rfl rfl (by omega)) ?_ | refine zg rfl (zL rfl rfl (by omega)) ?_ | refine zg rfl (zh qD rfl) ?_ | refine zg rfl (zO qI rfl rfl rfl) ?_ | refine zg rfl (zH rfl rfl) ?_ | refine zg rfl (zC rfl rfl) ?_ | refine zg rfl (zp rfl rfl rfl) ?_ | refine zG rfl rfl rfl rfl ?_ | refine zc rfl rfl rfl rfl (Yld.add rfl rfl (by simp only [In]; omega)) ?_ | refine zc rfl rfl rfl rfl (Yld.sub rfl rfl (by simp only [In]; omega)) ?_ | refine zc rfl rfl rfl rfl (zN rfl rfl (by simp only [In]; omega)) ?_ | refine zc rfl rfl rfl rfl (zv qD rfl rfl rfl rfl) ?_ | refine zc rfl rfl rfl rfl (zw qD rfl rfl rfl (by simp only [In]; omega)) ?_ | refine zc rfl rfl rfl rfl (zE rfl rfl (by omega) (by omega) (by simp only [In]; omega)) ?_ | refine zc rfl rfl rfl rfl (zF rfl rfl (by omega) (by omega)) ?_ | refine zc rfl rfl rfl rfl (zP rfl rfl (by omega)) ?_ | refine zc rfl rfl rfl rfl (zL rfl rfl (by omega)) ?_ | refine zc rfl rfl rfl rfl (zh qD rfl) ?_ | refine zc rfl rfl rfl rfl (zO qI rfl rfl rfl) ?_ | refine zc rfl rfl rfl rfl (zH rfl rfl) ?_ | refine zc rfl rfl rfl rfl (zC rfl rfl) ?_ | refine zc rfl rfl rfl rfl (zp rfl rfl rfl) ?_)
  refine zx rfl rfl (made_fn' (decide (n<0)) A c l w2 hO.rd hD (by omega)) ?_
  rintro r w8 ⟨hN,hg8,hLs⟩
  have hB8:=hB2.keep hg8 (by simp)
  obtain ⟨a,b,rfl,ha,hb⟩:=hN.agg
  refine zZ (vs:=[a,b]) qD rfl rfl rfl (by intro u hu; simp at hu; rcases hu with rfl | rfl <;> assumption) hB8 rfl rfl (fun w9 hB9 hg9=>?_)
  repeat (first | refine zd ?_ | refine WC.block ?_ | refine zb ?_ | refine ze ?_ | refine za ?_ | refine zo ?_ | refine zy ?_ | refine zt ?_ | refine zk ?_ | refine zf ?_ | refine zi ?_ | refine zj ?_ | refine zl ?_ | refine zq rfl ?_ | refine zI ?_ | refine zJ ?_ | refine zn ?_ | refine zu ?_ | refine zr ?_ | refine zg rfl (Yld.add rfl rfl (by simp only [In]; omega)) ?_ | refine zg rfl (Yld.sub rfl rfl (by simp only [In]; omega)) ?_ | refine zg rfl (zN rfl rfl (by simp only [In]; omega)) ?_ | refine zg rfl (zv qD rfl rfl rfl rfl) ?_ | refine zg rfl (zw qD rfl rfl rfl (by simp only [In]; omega)) ?_ | refine zg rfl (zE rfl rfl (by omega) (by omega) (by simp only [In]; omega)) ?_ | refine zg rfl (zF rfl rfl (by omega) (by omega)) ?_ | refine zg rfl (zP rfl rfl (by omega)) ?_ | refine zg rfl (zL rfl rfl (by omega)) ?_ | refine zg rfl (zh qD rfl) ?_ | refine zg rfl (zO qI rfl rfl rfl) ?_ | refine zg rfl (zH rfl rfl) ?_ | refine zg rfl (zC rfl rfl) ?_ | refine zg rfl (zp rfl rfl rfl) ?_ | refine zG rfl rfl rfl rfl ?_ | refine zc rfl rfl rfl rfl (Yld.add rfl rfl (by simp only [In]; omega)) ?_ | refine zc rfl rfl rfl rfl (Yld.sub rfl rfl (by simp only [In]; omega)) ?_ | refine zc rfl rfl rfl rfl (zN rfl rfl (by simp only [In]; omega)) ?_ | refine zc rfl rfl rfl rfl (zv qD rfl rfl rfl rfl) ?_ | refine zc rfl rfl rfl rfl (zw qD rfl rfl rfl (by simp only [In]; omega)) ?_ | refine zc rfl rfl rfl rfl (zE rfl rfl (by omega) (by omega) (by simp only [In]; omega)) ?_ | refine zc rfl rfl rfl rfl (zF rfl rfl (by omega) (by omega)) ?_ | refine zc rfl rfl rfl rfl (zP rfl rfl (by omega)) ?_ | refine zc rfl rfl rfl rfl (zL rfl rfl (by omega)) ?_ | refine zc rfl rfl rfl rfl (zh qD rfl) ?_ | refine zc rfl rfl rfl rfl (zO qI rfl rfl rfl) ?_ | refine zc rfl rfl rfl rfl (zH rfl rfl) ?_ | refine zc rfl rfl rfl rfl (zC rfl rfl) ?_ | refine zc rfl rfl rfl rfl (zp rfl rfl rfl) ?_)
  have hz:(bif decide (n<0) then -(val l:Int) else (val l:Int))=n:=by
   rcases Int.lt_or_le n 0 with h | h
   ·simp [h]; omega
   ·simp [Int.not_lt.mpr h]; omega
  rw [hz] at hN
  exact qi qD rfl rfl rfl hB9 rfl ⟨(hN.stored hB8 zero_no hg9).mono hl,gr_new (qG (qG hg1 hg2) hg8) hg9 hl1,fun _ _ _ _ e q hq=>⟨Nat.le_trans hg1.size (hO.lt (hLs _ _ _ _ e q hq)).1,Nat.lt_of_lt_of_le (hO.lt (hLs _ _ _ _ e q hq)).2 (Nat.le_trans hg8.size hg9.size)⟩⟩
end
 
section
open Go Go.RowKit
section
variable {P:Program} {N:Nat} {ops:Array Oper} {fl:Nat->Bool} {D:World->Prop} {n g:Nat} {K:Act->World->Prop} {Q:Post} {L:qO} {w:World} {f:Nat} {listed:Array Bool} {d:Nat} {op:Op} {ty:TypeId} {pos:String} {af:Array Edge} {gd:Option (Nat × Bool)}
structure HeadOk (ops:Array Oper) (n:Nat):Prop where
 sel:Region.noSelect ops=true
 sink:Region.sinkB .any ops n=true
 chain:Region.chainB .any ops n=true
 lt:n<ops.size
def WA (P:Program) (N:Nat) (ops:Array Oper) (fl:Nat->Bool) (D:World->Prop) (n g:Nat) (K:Act->World->Prop) (f:Nat) (listed:Array Bool) (L:qO) (w:World):Prop :=
 HeadOk ops n->HeadInv .any ops n listed->∀ a w1,Eqv w w1->D w1->Has N L a->anyT P .any ops fl D n (fun l' a' w'=>Region.seqB .any ops g n l'=true/\K a' w') f listed a w1
def WI (P:Program) (N:Nat) (ops:Array Oper) (fl:Nat->Bool) (D:World->Prop) (n g:Nat) (K:Act->World->Prop) (f:Nat) (listed:Array Bool) (L:qO) (w:World) (i:Nat):Prop :=
 HeadOk ops n->HeadInv .any ops n (listed.setIfInBounds i true)->∀ a w1,Eqv w w1->D w1->Has N L a->∃ o,ops[i]? = some o/\fl i=false/\sRun P ops D o a w1 fun a' w'=>anyT P .any ops fl D n (fun l' a' w'=>Region.seqB .any ops g n l'=true/\K a' w') f (listed.setIfInBounds i true) a' w'
theorem WA.y {v:Value} (k:Nat) (ho:ops[k]? = some ⟨some d,op,ty,pos,af,none⟩) (hf:(fl k && ((Region.ready .any ops listed).contains k && (Region.free .any ops listed k && Nat.blt k n)))=true) (hd:Nat.blt d N=true) (hy:∀ w',D w'->Yld P N w' ⟨some d,op,ty,pos,af,none⟩ L v)
  (h:WA P N ops fl D n g K f (listed.setIfInBounds k true) ((d,v) :: L) w):WA P N ops fl D n g K (f+1) listed L w:=fun ok inv a w1 e hw ha=>by
 simp only [Bool.and_eq_true] at hf
 obtain ⟨hfl,hr,hfr,hkn⟩:=hf
 have hr':k∈Region.ready .any ops listed:=by simpa using hr
 have hkn':k<n:=by simpa [Nat.blt_eq] using hkn
 exact float_firstT ho hfl (Region.noSelect_spec ok.sel) ok.sink ok.chain ok.lt hkn' (fun _ _ _ hL=>seqB_ready hL.1) f listed a w1 hw inv (Region.free_spec ho hfr) hr'
  (.inl ⟨by simp [Region.wanted],fun w' hw'=>hy w' hw' a w' (Eqv.refl _) ha⟩) (h ok (inv.set hr' hkn') _ _ e hw (ha.put hd v))
def AllL {α:Type} (p:α->Prop):List α->Prop
 | []=>True
 | [x]=>p x
 | x :: y :: l=>p x/\AllL p (y :: l)
theorem AllL.mem {α:Type} {p:α->Prop}:∀ {l:List α},AllL p l->∀ x∈l,p x
 | [],_,x,h=>by simp at h
 | [y],h,x,hx=>by simp at hx; subst hx; exact h
 | y :: z :: l,h,x,hx=>by
  rcases List.mem_cons.1 hx with rfl | hx
  ·exact h.1
  ·exact AllL.mem h.2 x hx
theorem WA.split (is:List Nat) (hr:Region.ready .any ops listed=is) (hc:(!is.isEmpty && is.all fun i=>Nat.blt i n)=true) (h:AllL (WI P N ops fl D n g K f listed L w) is):WA P N ops fl D n g K (f+1) listed L w:=fun ok inv a w1 e hw ha=>by
 simp only [Bool.and_eq_true] at hc
 refine ⟨fun h0=>?_,fun i hi=>?_⟩
 ·rw [hr] at h0; subst h0; simp at hc
 ·have hi':=hi
  rw [hr] at hi'
  have hin:i<n:=by have:=List.all_eq_true.1 hc.2 i hi'; simpa [Nat.blt_eq] using this
  obtain ⟨o,ho,hfl,hs⟩:=h.mem i hi' ok (inv.set hi hin) a w1 e hw ha
  exact ⟨hin,o,ho,.inr ⟨hfl,hs⟩⟩
theorem WI.put {i:Nat} {R:Value->World->Prop} (ho:ops[i]? = some ⟨some d,op,ty,pos,af,none⟩) (hf:fl i=false) (hd:Nat.blt d N=true) (hr:Eff P N w ⟨some d,op,ty,pos,af,none⟩ L R) (hD:∀ v w',R v w'->D w')
  (hk:∀ v w',R v w'->WA P N ops fl D n g K f (listed.setIfInBounds i true) ((d,v) :: L) w'):WI P N ops fl D n g K f listed L w i:=fun ok inv a w1 e hw ha=>by
 refine ⟨_,ho,hf,?_⟩
 unfold sRun
 rw [if_pos (by simp [Region.wanted])]
 obtain ⟨v,w',h,hR⟩:=hr a w1 e ha
 rw [h]
 exact ⟨hD v w' hR,hk v w' hR ok inv _ w' (Eqv.refl _) (hD v w' hR) (ha.put hd v)⟩
theorem WI.eff {i:Nat} {R:World->Prop} (ho:ops[i]? = some ⟨none,op,ty,pos,af,none⟩) (hf:fl i=false) (hr:Ef0 P N w ⟨none,op,ty,pos,af,none⟩ L R) (hD:∀ w',R w'->D w')
  (hk:∀ w',R w'->WA P N ops fl D n g K f (listed.setIfInBounds i true) L w'):WI P N ops fl D n g K f listed L w i:=fun ok inv a w1 e hw ha=>by
 refine ⟨_,ho,hf,?_⟩
 unfold sRun
 rw [if_pos (by simp [Region.wanted])]
 obtain ⟨w',h,hR⟩:=hr a w1 e ha
 rw [h]
 exact ⟨hD w' hR,hk w' hR ok inv _ w' (Eqv.refl _) (hD w' hR) ha⟩
theorem WI.call {i:Nat} {R:Value->World->Prop} {fn:FuncId} {as_:List Operand} {ts:Array TypeId} {vs:List Value} (ho:ops[i]? = some ⟨some d,.call ⟨.value (.func fn),⟨as_⟩,ts⟩,ty,pos,af,gd⟩) (hf:fl i=false) (hg:Wants N ops L gd) (hd:Nat.blt d N=true) (hv:opvs L as_=some vs) (hc:Fn P fn ⟨vs⟩ w R) (hD:∀ v w',R v w'->∀ w2,Eqv w' w2->D w2)
  (hk:∀ v w',R v w'->WA P N ops fl D n g K f (listed.setIfInBounds i true) ((d,v) :: L) w'):WI P N ops fl D n g K f listed L w i:=fun ok inv a w1 e hw ha=>by
 refine ⟨_,ho,hf,?_⟩
 unfold sRun
 rw [if_pos (Wants.wanted (o:=⟨some d,.call ⟨.value (.func fn),⟨as_⟩,ts⟩,ty,pos,af,gd⟩) hg ha),run_enter ha hv hc.1]
 refine (hc.2 w1 e).mono ?_
 rintro en w' ⟨v,w0,rfl,h0,hR⟩
 exact ⟨v,rfl,hD v w0 hR w' h0,hk v w0 hR ok inv _ w' h0 (hD v w0 hR w' h0) (ha.put hd v)⟩
end
end
 section
open Go Go.RowKit
attribute [local irreducible] WL WC WX WQ WK Yld Eff Ef0 Fn
theorem Nm.no {w:World} {a b:Value} {z:Int} {m:Nat} (h:Nm w (.agg ⟨[a,b]⟩) z m):∀ u∈[a,b],∀ x,u≠vd x:=by
 obtain ⟨neg,A,c,l,h1,_⟩:=h
 simp only [Value.agg.injEq,Array.mk.injEq,List.cons.injEq,and_true] at h1
 obtain ⟨rfl,rfl⟩:=h1
 intro u hu x
 simp only [List.mem_cons,List.not_mem_nil,or_false] at hu
 rcases hu with rfl | rfl <;> intro e <;> cases e
def Floor (x y q r:Int):Prop:=x=q*y+r/\((0<=r/\r<y)∨(y<r/\r<=0))
theorem Floor.ne {x y q r:Int} (h:Floor x y q r):y≠0:=by
 rcases h.2 with h | h <;> omega
end
 section
open Go Go.RowKit
attribute [local irreducible] WL WC WX WQ WK Yld Eff Ef0 Fn
end
 section
open Go Go.RowKit
attribute [local irreducible] WL WC WX WQ WK Yld Eff Ef0 Fn
end
 section
open Go Go.RowKit
attribute [local irreducible] WL WC WX WQ WK WJ Yld Eff Ef0 Fn
theorem getD_set_eqB (l:List UInt8) (j:Nat) (d:UInt8) (h:j<l.length):(l.set j d).getD j 0=d:=by simp [List.getD,h]
theorem getD_set_neB (l:List UInt8) (j i:Nat) (d:UInt8) (h:j≠i):(l.set j d).getD i 0=l.getD i 0:=by simp [List.getD,List.getElem?_set_ne h]
theorem gr_row {a b c:World} {row:Option Nat} (h:a.grownBy b row) (k:b.grownBy c row):a.grownBy c row:=qG h k
theorem rev_end (xs ys:List UInt8) (i:Nat) (hl:ys.length=xs.length) (hi:xs.length<=2*i+1) (h:∀ t,t<xs.length->ys.getD t 0=if t<i∨xs.length - i<=t then xs.getD (xs.length - 1 - t) 0 else xs.getD t 0):ys=xs.reverse:=by
 apply List.ext_getElem
 ·simp [hl]
 ·intro t h1 h2
  have h3:t<xs.length:=by omega
  have e:=h t h3
  rw [List.getElem_reverse]
  have e1:ys.getD t 0=ys[t]:=by simp [List.getD,h1]
  have e2:xs.getD (xs.length - 1 - t) 0=xs[xs.length - 1 - t]:=by simp [List.getD,(by omega:xs.length - 1 - t<xs.length)]
  rw [<-e1,<-e2,e]
  split
  ·rfl
  ·congr 1; omega
set_option maxHeartbeats 1000000 in
theorem reverse_fn (A:Option Addr) (c B:Nat) (xs:List UInt8) (w:World) (hO:Own vb w B 5 A c xs):Fn Tryz.prog 112 ⟨[.slice A xs.length c]⟩ w fun v w'=>v=.tuple #[]/\Own vb w' B 5 A c xs.reverse/\w.grownBy w' (blk A):=by
 have hlen:=hO.len
 simp only [maxLen] at hlen
 refine Fn.enter (by kernel_rfl) Tryz.func112 rfl Tryz.ntmps112 rfl ?_
 repeat (first | refine zd ?_ | refine WC.block ?_ | refine zb ?_ | refine ze ?_ | refine za ?_ | refine zo ?_ | refine zy ?_ | refine zt ?_ | refine zk ?_ | refine zf ?_ | refine zi ?_ | refine zj ?_ | refine zl ?_ | refine zq rfl ?_ | refine zI ?_ | refine zJ ?_ | refine zn ?_ | refine zu ?_ | refine zr ?_ | refine zg rfl (Yld.add rfl rfl (by simp only [In]; omega)) ?_ | refine zg rfl (Yld.sub rfl rfl (by simp only [In]; omega)) ?_ | refine zg rfl (zN rfl rfl (by simp only [In]; omega)) ?_ | refine zg rfl (zv qD rfl rfl rfl rfl) ?_ | refine zg rfl (zw qD rfl rfl rfl (by simp only [In]; omega)) ?_ | refine zg rfl (zE rfl rfl (by omega) (by omega) (by simp only [In]; omega)) ?_ | refine zg rfl (zF rfl rfl (by omega) (by omega)) ?_ | refine zg rfl (zP rfl rfl (by omega)) ?_ | refine zg rfl (zL rfl rfl (by omega)) ?_ | refine zg rfl (zh qD rfl) ?_ | refine zg rfl (zO qI rfl rfl rfl) ?_ | refine zg rfl (zH rfl rfl) ?_ | refine zg rfl (zC rfl rfl) ?_ | refine zg rfl (zp rfl rfl rfl) ?_ | refine zG rfl rfl rfl rfl ?_ | refine zc rfl rfl rfl rfl (Yld.add rfl rfl (by simp only [In]; omega)) ?_ | refine zc rfl rfl rfl rfl (Yld.sub rfl rfl (by simp only [In]; omega)) ?_ | refine zc rfl rfl rfl rfl (zN rfl rfl (by simp only [In]; omega)) ?_ | refine zc rfl rfl rfl rfl (zv qD rfl rfl rfl rfl) ?_ | refine zc rfl rfl rfl rfl (zw qD rfl rfl rfl (by simp only [In]; omega)) ?_ | refine zc rfl rfl rfl rfl (zE rfl rfl (by omega) (by omega) (by simp only [In]; omega)) ?_ | refine zc rfl rfl rfl rfl (zF rfl rfl (by omega) (by omega)) ?_ | refine zc rfl rfl rfl rfl (zP rfl rfl (by omega)) ?_ | refine zc rfl rfl rfl rfl (zL rfl rfl (by omega)) ?_ | refine zc rfl rfl rfl rfl (zh qD rfl) ?_ | refine zc rfl rfl rfl rfl (zO qI rfl rfl rfl) ?_ | refine zc rfl rfl rfl rfl (zH rfl rfl) ?_ | refine zc rfl rfl rfl rfl (zC rfl rfl) ?_ | refine zc rfl rfl rfl rfl (zp rfl rfl rfl) ?_)
 refine WC.loop2 (S1:=Nat) (S2:=List UInt8) (fun i _=>xs.length - i) (fun i _=>[(2,vi i),(3,.int .i64 ((xs.length:Int) - 1 - (i:Int))),(0,.slice A xs.length c)])
  (fun i ys w2=>ys.length=xs.length/\2*i<=xs.length+1/\(∀ t,t<xs.length->ys.getD t 0=if t<i∨xs.length - i<=t then xs.getD (xs.length - 1 - t) 0 else xs.getD t 0)/\Own vb w2 B 5 A c ys/\w.grownBy w2 (blk A))
  0 xs ⟨rfl,by omega,fun t ht=>by rw [if_neg (by omega)],hO,jH _ _⟩ (by rw [show (xs.length:Int) - 1 - ((0:Nat):Int)=(xs.length:Int) - 1 by omega]; repeat (first | exact qg | refine qb rfl ?_)) (fun i ys w2 ⟨hyl,hi,hy,hO2,hg2⟩=>?_)
 repeat (first | refine zd ?_ | refine WC.block ?_ | refine zb ?_ | refine ze ?_ | refine za ?_ | refine zo ?_ | refine zy ?_ | refine zt ?_ | refine zk ?_ | refine zf ?_ | refine zi ?_ | refine zj ?_ | refine zl ?_ | refine zq rfl ?_ | refine zI ?_ | refine zJ ?_ | refine zn ?_ | refine zu ?_ | refine zr ?_ | refine zg rfl (Yld.add rfl rfl (by simp only [In]; omega)) ?_ | refine zg rfl (Yld.sub rfl rfl (by simp only [In]; omega)) ?_ | refine zg rfl (zN rfl rfl (by simp only [In]; omega)) ?_ | refine zg rfl (zv qD rfl rfl rfl rfl) ?_ | refine zg rfl (zw qD rfl rfl rfl (by simp only [In]; omega)) ?_ | refine zg rfl (zE rfl rfl (by omega) (by omega) (by simp only [In]; omega)) ?_ | refine zg rfl (zF rfl rfl (by omega) (by omega)) ?_ | refine zg rfl (zP rfl rfl (by omega)) ?_ | refine zg rfl (zL rfl rfl (by omega)) ?_ | refine zg rfl (zh qD rfl) ?_ | refine zg rfl (zO qI rfl rfl rfl) ?_ | refine zg rfl (zH rfl rfl) ?_ | refine zg rfl (zC rfl rfl) ?_ | refine zg rfl (zp rfl rfl rfl) ?_ | refine zG rfl rfl rfl rfl ?_ | refine zc rfl rfl rfl rfl (Yld.add rfl rfl (by simp only [In]; omega)) ?_ | refine zc rfl rfl rfl rfl (Yld.sub rfl rfl (by simp only [In]; omega)) ?_ | refine zc rfl rfl rfl rfl (zN rfl rfl (by simp only [In]; omega)) ?_ | refine zc rfl rfl rfl rfl (zv qD rfl rfl rfl rfl) ?_ | refine zc rfl rfl rfl rfl (zw qD rfl rfl rfl (by simp only [In]; omega)) ?_ | refine zc rfl rfl rfl rfl (zE rfl rfl (by omega) (by omega) (by simp only [In]; omega)) ?_ | refine zc rfl rfl rfl rfl (zF rfl rfl (by omega) (by omega)) ?_ | refine zc rfl rfl rfl rfl (zP rfl rfl (by omega)) ?_ | refine zc rfl rfl rfl rfl (zL rfl rfl (by omega)) ?_ | refine zc rfl rfl rfl rfl (zh qD rfl) ?_ | refine zc rfl rfl rfl rfl (zO qI rfl rfl rfl) ?_ | refine zc rfl rfl rfl rfl (zH rfl rfl) ?_ | refine zc rfl rfl rfl rfl (zC rfl rfl) ?_ | refine zc rfl rfl rfl rfl (zp rfl rfl rfl) ?_)
 refine zm rfl (fun h=>?_) (fun h=>?_)
 ·simp only [decide_eq_true_eq] at h
  have hR2:=hO2.rd
  have hjt:((xs.length:Int) - 1 - (i:Int)).toNat=xs.length - 1 - i:=by omega
  repeat (first | refine zd ?_ | refine WC.block ?_ | refine zb ?_ | refine ze ?_ | refine za ?_ | refine zo ?_ | refine zy ?_ | refine zt ?_ | refine zk ?_ | refine zf ?_ | refine zi ?_ | refine zj ?_ | refine zl ?_ | refine zq rfl ?_ | refine zI ?_ | refine zJ ?_ | refine zn ?_ | refine zu ?_ | refine zr ?_ | refine zg rfl (Yld.add rfl rfl (by simp only [In]; omega)) ?_ | refine zg rfl (Yld.sub rfl rfl (by simp only [In]; omega)) ?_ | refine zg rfl (zN rfl rfl (by simp only [In]; omega)) ?_ | refine zg rfl (zv qD rfl rfl rfl rfl) ?_ | refine zg rfl (zw qD rfl rfl rfl (by simp only [In]; omega)) ?_ | refine zg rfl (zE rfl rfl (by omega) (by omega) (by simp only [In]; omega)) ?_ | refine zg rfl (zF rfl rfl (by omega) (by omega)) ?_ | refine zg rfl (zP rfl rfl (by omega)) ?_ | refine zg rfl (zL rfl rfl (by omega)) ?_ | refine zg rfl (zh qD rfl) ?_ | refine zg rfl (zO qI rfl rfl rfl) ?_ | refine zg rfl (zH rfl rfl) ?_ | refine zg rfl (zC rfl rfl) ?_ | refine zg rfl (zp rfl rfl rfl) ?_ | refine zG rfl rfl rfl rfl ?_ | refine zc rfl rfl rfl rfl (Yld.add rfl rfl (by simp only [In]; omega)) ?_ | refine zc rfl rfl rfl rfl (Yld.sub rfl rfl (by simp only [In]; omega)) ?_ | refine zc rfl rfl rfl rfl (zN rfl rfl (by simp only [In]; omega)) ?_ | refine zc rfl rfl rfl rfl (zv qD rfl rfl rfl rfl) ?_ | refine zc rfl rfl rfl rfl (zw qD rfl rfl rfl (by simp only [In]; omega)) ?_ | refine zc rfl rfl rfl rfl (zE rfl rfl (by omega) (by omega) (by simp only [In]; omega)) ?_ | refine zc rfl rfl rfl rfl (zF rfl rfl (by omega) (by omega)) ?_ | refine zc rfl rfl rfl rfl (zP rfl rfl (by omega)) ?_ | refine zc rfl rfl rfl rfl (zL rfl rfl (by omega)) ?_ | refine zc rfl rfl rfl rfl (zh qD rfl) ?_ | refine zc rfl rfl rfl rfl (zO qI rfl rfl rfl) ?_ | refine zc rfl rfl rfl rfl (zH rfl rfl) ?_ | refine zc rfl rfl rfl rfl (zC rfl rfl) ?_ | refine zc rfl rfl rfl rfl (zp rfl rfl rfl) ?_)
  refine WC.chainJ (fun k => !(Nat.beq k 13 || Nat.beq k 15)) (LD [7,11] (fun w'=>Rd vb w' A c ys)) jx (by kernel_rfl) (fun k w' e _=>jQ e hR2) ?_
  have hyl3:xs.length=(ys.set i (ys.getD (xs.length - 1 - i) 0)).length:=by simp [hyl]
  repeat (first | refine zA rfl rfl (fun _ _=>Yld.iaddrNW qD hR2 rfl rfl hyl.symm rfl (by omega)) ?_ | refine zA rfl rfl (fun _ _=>zB qD hR2 rfl rfl hyl.symm rfl (by omega) (by omega)) ?_ | refine zA rfl rfl (fun w' h=>zM 0 qD (h rfl) rfl rfl (by omega)) ?_ | refine zA rfl rfl (fun _ _=>Yld.add rfl rfl (by simp only [In]; omega)) ?_ | refine zA rfl rfl (fun _ _=>Yld.sub rfl rfl (by simp only [In]; omega)) ?_ | refine zA rfl rfl (fun _ _=>zN rfl rfl (by simp only [In]; omega)) ?_ | refine zA rfl rfl (fun _ _=>zv qD rfl rfl rfl rfl) ?_ | refine zA rfl rfl (fun _ _=>zw qD rfl rfl rfl (by simp only [In]; omega)) ?_ | refine zA rfl rfl (fun _ _=>zE rfl rfl (by omega) (by omega) (by simp only [In]; omega)) ?_ | refine zA rfl rfl (fun _ _=>zF rfl rfl (by omega) (by omega)) ?_ | refine zA rfl rfl (fun _ _=>zP rfl rfl (by omega)) ?_ | refine zA rfl rfl (fun _ _=>zL rfl rfl (by omega)) ?_ | refine zA rfl rfl (fun _ _=>zh qD rfl) ?_ | refine zA rfl rfl (fun _ _=>zO qI rfl rfl rfl) ?_ | refine zA rfl rfl (fun _ _=>zH rfl rfl) ?_ | refine zA rfl rfl (fun _ _=>zC rfl rfl) ?_ | refine zA rfl rfl (fun _ _=>zp rfl rfl rfl) ?_ | refine zS rfl rfl rfl rfl ?_ | refine WJ.gun rfl rfl rfl rfl ?_ | refine zU rfl (qF rfl rfl rfl) rfl (fun _ _=>Yld.add rfl rfl (by simp only [In]; omega)) ?_ | refine zU rfl (qF rfl rfl rfl) rfl (fun _ _=>Yld.sub rfl rfl (by simp only [In]; omega)) ?_ | refine zU rfl (qF rfl rfl rfl) rfl (fun _ _=>zN rfl rfl (by simp only [In]; omega)) ?_ | refine zU rfl (qF rfl rfl rfl) rfl (fun _ _=>zv qD rfl rfl rfl rfl) ?_ | refine zU rfl (qF rfl rfl rfl) rfl (fun _ _=>zw qD rfl rfl rfl (by simp only [In]; omega)) ?_ | refine zU rfl (qF rfl rfl rfl) rfl (fun _ _=>zE rfl rfl (by omega) (by omega) (by simp only [In]; omega)) ?_ | refine zU rfl (qF rfl rfl rfl) rfl (fun _ _=>zF rfl rfl (by omega) (by omega)) ?_ | refine zU rfl (qF rfl rfl rfl) rfl (fun _ _=>zP rfl rfl (by omega)) ?_ | refine zU rfl (qF rfl rfl rfl) rfl (fun _ _=>zL rfl rfl (by omega)) ?_ | refine zU rfl (qF rfl rfl rfl) rfl (fun _ _=>zh qD rfl) ?_)
  rw [hjt]
  refine qw rfl (qk (v:=ys.getD (xs.length - 1 - i) 0) one5 One.b hO2 rfl rfl (by omega)) (fun w' _=>qm (by kernel_rfl)) ?_
  rintro w3 ⟨hO3,hg3⟩
  repeat (first | refine zA rfl rfl (fun _ _=>Yld.iaddrNW qD hR2 rfl rfl hyl.symm rfl (by omega)) ?_ | refine zA rfl rfl (fun _ _=>zB qD hR2 rfl rfl hyl.symm rfl (by omega) (by omega)) ?_ | refine zA rfl rfl (fun _ _=>Yld.add rfl rfl (by simp only [In]; omega)) ?_ | refine zA rfl rfl (fun _ _=>Yld.sub rfl rfl (by simp only [In]; omega)) ?_ | refine zA rfl rfl (fun _ _=>zN rfl rfl (by simp only [In]; omega)) ?_ | refine zA rfl rfl (fun _ _=>zv qD rfl rfl rfl rfl) ?_ | refine zA rfl rfl (fun _ _=>zw qD rfl rfl rfl (by simp only [In]; omega)) ?_ | refine zA rfl rfl (fun _ _=>zE rfl rfl (by omega) (by omega) (by simp only [In]; omega)) ?_ | refine zA rfl rfl (fun _ _=>zF rfl rfl (by omega) (by omega)) ?_ | refine zA rfl rfl (fun _ _=>zP rfl rfl (by omega)) ?_ | refine zA rfl rfl (fun _ _=>zL rfl rfl (by omega)) ?_ | refine zA rfl rfl (fun _ _=>zh qD rfl) ?_ | refine zA rfl rfl (fun _ _=>zO qI rfl rfl rfl) ?_ | refine zA rfl rfl (fun _ _=>zH rfl rfl) ?_ | refine zA rfl rfl (fun _ _=>zC rfl rfl) ?_ | refine zA rfl rfl (fun _ _=>zp rfl rfl rfl) ?_ | refine zS rfl rfl rfl rfl ?_ | refine WJ.gun rfl rfl rfl rfl ?_ | refine zU rfl (qF rfl rfl rfl) rfl (fun _ _=>Yld.add rfl rfl (by simp only [In]; omega)) ?_ | refine zU rfl (qF rfl rfl rfl) rfl (fun _ _=>Yld.sub rfl rfl (by simp only [In]; omega)) ?_ | refine zU rfl (qF rfl rfl rfl) rfl (fun _ _=>zN rfl rfl (by simp only [In]; omega)) ?_ | refine zU rfl (qF rfl rfl rfl) rfl (fun _ _=>zv qD rfl rfl rfl rfl) ?_ | refine zU rfl (qF rfl rfl rfl) rfl (fun _ _=>zw qD rfl rfl rfl (by simp only [In]; omega)) ?_ | refine zU rfl (qF rfl rfl rfl) rfl (fun _ _=>zE rfl rfl (by omega) (by omega) (by simp only [In]; omega)) ?_ | refine zU rfl (qF rfl rfl rfl) rfl (fun _ _=>zF rfl rfl (by omega) (by omega)) ?_ | refine zU rfl (qF rfl rfl rfl) rfl (fun _ _=>zP rfl rfl (by omega)) ?_ | refine zU rfl (qF rfl rfl rfl) rfl (fun _ _=>zL rfl rfl (by omega)) ?_ | refine zU rfl (qF rfl rfl rfl) rfl (fun _ _=>zh qD rfl) ?_)
  rw [hjt]
  refine qw rfl (qk (v:=ys.getD i 0) one5 One.b hO3 rfl rfl (by simp; omega)) (fun w' _=>qm (by kernel_rfl)) ?_
  rintro w4 ⟨hO4,hg4⟩
  refine qh ?_
  repeat (first | refine zd ?_ | refine WC.block ?_ | refine zb ?_ | refine ze ?_ | refine za ?_ | refine zo ?_ | refine zy ?_ | refine zt ?_ | refine zk ?_ | refine zf ?_ | refine zi ?_ | refine zj ?_ | refine zl ?_ | refine zq rfl ?_ | refine zI ?_ | refine zJ ?_ | refine zn ?_ | refine zu ?_ | refine zr ?_ | refine zg rfl (Yld.add rfl rfl (by simp only [In]; omega)) ?_ | refine zg rfl (Yld.sub rfl rfl (by simp only [In]; omega)) ?_ | refine zg rfl (zN rfl rfl (by simp only [In]; omega)) ?_ | refine zg rfl (zv qD rfl rfl rfl rfl) ?_ | refine zg rfl (zw qD rfl rfl rfl (by simp only [In]; omega)) ?_ | refine zg rfl (zE rfl rfl (by omega) (by omega) (by simp only [In]; omega)) ?_ | refine zg rfl (zF rfl rfl (by omega) (by omega)) ?_ | refine zg rfl (zP rfl rfl (by omega)) ?_ | refine zg rfl (zL rfl rfl (by omega)) ?_ | refine zg rfl (zh qD rfl) ?_ | refine zg rfl (zO qI rfl rfl rfl) ?_ | refine zg rfl (zH rfl rfl) ?_ | refine zg rfl (zC rfl rfl) ?_ | refine zg rfl (zp rfl rfl rfl) ?_ | refine zG rfl rfl rfl rfl ?_ | refine zc rfl rfl rfl rfl (Yld.add rfl rfl (by simp only [In]; omega)) ?_ | refine zc rfl rfl rfl rfl (Yld.sub rfl rfl (by simp only [In]; omega)) ?_ | refine zc rfl rfl rfl rfl (zN rfl rfl (by simp only [In]; omega)) ?_ | refine zc rfl rfl rfl rfl (zv qD rfl rfl rfl rfl) ?_ | refine zc rfl rfl rfl rfl (zw qD rfl rfl rfl (by simp only [In]; omega)) ?_ | refine zc rfl rfl rfl rfl (zE rfl rfl (by omega) (by omega) (by simp only [In]; omega)) ?_ | refine zc rfl rfl rfl rfl (zF rfl rfl (by omega) (by omega)) ?_ | refine zc rfl rfl rfl rfl (zP rfl rfl (by omega)) ?_ | refine zc rfl rfl rfl rfl (zL rfl rfl (by omega)) ?_ | refine zc rfl rfl rfl rfl (zh qD rfl) ?_ | refine zc rfl rfl rfl rfl (zO qI rfl rfl rfl) ?_ | refine zc rfl rfl rfl rfl (zH rfl rfl) ?_ | refine zc rfl rfl rfl rfl (zC rfl rfl) ?_ | refine zc rfl rfl rfl rfl (zp rfl rfl rfl) ?_)
  have e1:(i:Int)+1=((i+1:Nat):Int):=by omega
  have e2:(xs.length:Int) - 1 - (i:Int) - 1=(xs.length:Int) - 1 - ((i+1:Nat):Int):=by omega
  rw [e1,e2]
  refine WX.round2 (i+1) ((ys.set i (ys.getD (xs.length - 1 - i) 0)).set (xs.length - 1 - i) (ys.getD i 0)) ⟨by simp [hyl],by omega,fun t ht=>?_,hO4,gr_row (gr_row hg2 hg3) hg4⟩ (by omega) (by repeat (first | exact qg | refine qb rfl ?_))
  have hy1:=hy i (by omega)
  have hy2:=hy (xs.length - 1 - i) (by omega)
  rw [if_neg (by omega)] at hy1 hy2
  rcases Classical.em (xs.length - 1 - i=t) with et | et
  ·subst et
   rw [getD_set_eqB _ _ _ (by simp; omega),if_pos (by omega),hy1]
   congr 1; omega
  ·rw [getD_set_neB _ _ _ _ et]
   rcases Classical.em (i=t) with et2 | et2
   ·subst et2
    rw [getD_set_eqB _ _ _ (by omega),if_pos (by omega),hy2]
   ·rw [getD_set_neB _ _ _ _ et2,hy t ht]
    by_cases hc:t<i∨xs.length - i<=t
    ·rw [if_pos hc,if_pos (by omega)]
    ·rw [if_neg hc,if_neg (by omega)]
 ·simp only [decide_eq_false_iff_not] at h
  repeat (first | refine zd ?_ | refine WC.block ?_ | refine zb ?_ | refine ze ?_ | refine za ?_ | refine zo ?_ | refine zy ?_ | refine zt ?_ | refine zk ?_ | refine zf ?_ | refine zi ?_ | refine zj ?_ | refine zl ?_ | refine zq rfl ?_ | refine zI ?_ | refine zJ ?_ | refine zn ?_ | refine zu ?_ | refine zr ?_ | refine zg rfl (Yld.add rfl rfl (by simp only [In]; omega)) ?_ | refine zg rfl (Yld.sub rfl rfl (by simp only [In]; omega)) ?_ | refine zg rfl (zN rfl rfl (by simp only [In]; omega)) ?_ | refine zg rfl (zv qD rfl rfl rfl rfl) ?_ | refine zg rfl (zw qD rfl rfl rfl (by simp only [In]; omega)) ?_ | refine zg rfl (zE rfl rfl (by omega) (by omega) (by simp only [In]; omega)) ?_ | refine zg rfl (zF rfl rfl (by omega) (by omega)) ?_ | refine zg rfl (zP rfl rfl (by omega)) ?_ | refine zg rfl (zL rfl rfl (by omega)) ?_ | refine zg rfl (zh qD rfl) ?_ | refine zg rfl (zO qI rfl rfl rfl) ?_ | refine zg rfl (zH rfl rfl) ?_ | refine zg rfl (zC rfl rfl) ?_ | refine zg rfl (zp rfl rfl rfl) ?_ | refine zG rfl rfl rfl rfl ?_ | refine zc rfl rfl rfl rfl (Yld.add rfl rfl (by simp only [In]; omega)) ?_ | refine zc rfl rfl rfl rfl (Yld.sub rfl rfl (by simp only [In]; omega)) ?_ | refine zc rfl rfl rfl rfl (zN rfl rfl (by simp only [In]; omega)) ?_ | refine zc rfl rfl rfl rfl (zv qD rfl rfl rfl rfl) ?_ | refine zc rfl rfl rfl rfl (zw qD rfl rfl rfl (by simp only [In]; omega)) ?_ | refine zc rfl rfl rfl rfl (zE rfl rfl (by omega) (by omega) (by simp only [In]; omega)) ?_ | refine zc rfl rfl rfl rfl (zF rfl rfl (by omega) (by omega)) ?_ | refine zc rfl rfl rfl rfl (zP rfl rfl (by omega)) ?_ | refine zc rfl rfl rfl rfl (zL rfl rfl (by omega)) ?_ | refine zc rfl rfl rfl rfl (zh qD rfl) ?_ | refine zc rfl rfl rfl rfl (zO qI rfl rfl rfl) ?_ | refine zc rfl rfl rfl rfl (zH rfl rfl) ?_ | refine zc rfl rfl rfl rfl (zC rfl rfl) ?_ | refine zc rfl rfl rfl rfl (zp rfl rfl rfl) ?_)
  have e:=rev_end xs ys i hyl (by omega) hy
  subst e
  exact qd rfl ⟨rfl,hO2,hg2⟩
end
 section
open Go Go.RowKit
attribute [local irreducible] WL WC WX WQ WK WJ Yld Eff Ef0 Fn
set_option maxHeartbeats 2000000 in
theorem text_fn (v:Value) (x:Int) (m:Nat) (w:World) (hN:Nm w v x m) (hm:m<=90000):Fn Tryz.prog 48 ⟨[v]⟩ w fun r w'=>r=vs (txt x)/\w.grownBy w' none:=by
 obtain ⟨neg,A,c,l,rfl,hR,hD,hC,hl,hn,hz⟩:=hN
 refine Fn.enter (by kernel_rfl) Tryz.func48 rfl Tryz.ntmps48 rfl ?_
 repeat (first | refine zd ?_ | refine WC.block ?_ | refine zb ?_ | refine ze ?_ | refine za ?_ | refine zo ?_ | refine zy ?_ | refine zt ?_ | refine zk ?_ | refine zf ?_ | refine zi ?_ | refine zj ?_ | refine zl ?_ | refine zq rfl ?_ | refine zI ?_ | refine zJ ?_ | refine zn ?_ | refine zu ?_ | refine zr ?_ | refine zg rfl (Yld.add rfl rfl (by simp only [In]; omega)) ?_ | refine zg rfl (Yld.sub rfl rfl (by simp only [In]; omega)) ?_ | refine zg rfl (zv qD rfl rfl rfl rfl) ?_ | refine zg rfl (zw qD rfl rfl rfl (by simp only [In]; omega)) ?_ | refine zg rfl (zE rfl rfl (by omega) (by omega) (by simp only [In]; omega)) ?_ | refine zg rfl (zF rfl rfl (by omega) (by omega)) ?_ | refine zg rfl (zh qD rfl) ?_ | refine zg rfl (zp rfl rfl rfl) ?_ | refine zG rfl rfl rfl rfl ?_ | refine zc rfl rfl rfl rfl (Yld.sub rfl rfl (by simp only [In]; omega)) ?_ | refine zc rfl rfl rfl rfl (zh qD rfl) ?_ | refine zc rfl rfl rfl rfl (zp rfl rfl rfl) ?_)
 refine qn (us:=[.bool neg,.slice A l.length c]) rfl rfl rfl (fun g1 w1 hB1 hg1 hl1=>?_)
 repeat (first | refine zg rfl (zz qD hB1 rfl rfl rfl) ?_ | refine zd ?_ | refine WC.block ?_ | refine zb ?_ | refine ze ?_ | refine za ?_ | refine zo ?_ | refine zy ?_ | refine zt ?_ | refine zk ?_ | refine zf ?_ | refine zi ?_ | refine zj ?_ | refine zl ?_ | refine zq rfl ?_ | refine zI ?_ | refine zJ ?_ | refine zn ?_ | refine zu ?_ | refine zr ?_ | refine zg rfl (Yld.add rfl rfl (by simp only [In]; omega)) ?_ | refine zg rfl (Yld.sub rfl rfl (by simp only [In]; omega)) ?_ | refine zg rfl (zv qD rfl rfl rfl rfl) ?_ | refine zg rfl (zw qD rfl rfl rfl (by simp only [In]; omega)) ?_ | refine zg rfl (zE rfl rfl (by omega) (by omega) (by simp only [In]; omega)) ?_ | refine zg rfl (zF rfl rfl (by omega) (by omega)) ?_ | refine zg rfl (zh qD rfl) ?_ | refine zg rfl (zp rfl rfl rfl) ?_ | refine zG rfl rfl rfl rfl ?_ | refine zc rfl rfl rfl rfl (Yld.sub rfl rfl (by simp only [In]; omega)) ?_ | refine zc rfl rfl rfl rfl (zh qD rfl) ?_ | refine zc rfl rfl rfl rfl (zp rfl rfl rfl) ?_)
 refine zm rfl (fun h=>?_) (fun h=>?_)
 ·simp only [decide_eq_true_eq] at h
  have hl0:l=[]:=List.length_eq_zero_iff.mp (by omega)
  have hx0:x=0:=by subst hl0; cases neg <;> simpa [val] using hz
  repeat (first | refine zd ?_ | refine WC.block ?_ | refine zb ?_ | refine ze ?_ | refine za ?_ | refine zo ?_ | refine zy ?_ | refine zt ?_ | refine zk ?_ | refine zf ?_ | refine zi ?_ | refine zj ?_ | refine zl ?_ | refine zq rfl ?_ | refine zI ?_ | refine zJ ?_ | refine zn ?_ | refine zu ?_ | refine zr ?_ | refine zg rfl (Yld.add rfl rfl (by simp only [In]; omega)) ?_ | refine zg rfl (Yld.sub rfl rfl (by simp only [In]; omega)) ?_ | refine zg rfl (zv qD rfl rfl rfl rfl) ?_ | refine zg rfl (zw qD rfl rfl rfl (by simp only [In]; omega)) ?_ | refine zg rfl (zE rfl rfl (by omega) (by omega) (by simp only [In]; omega)) ?_ | refine zg rfl (zF rfl rfl (by omega) (by omega)) ?_ | refine zg rfl (zh qD rfl) ?_ | refine zg rfl (zp rfl rfl rfl) ?_ | refine zG rfl rfl rfl rfl ?_ | refine zc rfl rfl rfl rfl (Yld.sub rfl rfl (by simp only [In]; omega)) ?_ | refine zc rfl rfl rfl rfl (zh qD rfl) ?_ | refine zc rfl rfl rfl rfl (zp rfl rfl rfl) ?_)
  exact zD rfl rfl ⟨by rw [hx0]; rfl,hg1⟩
 ·simp only [decide_eq_false_iff_not] at h
  have hl0:l≠[]:=fun e=>h (by rw [e]; rfl)
  have hpos:=val_pos hC hl0
  have hx0:x≠0:=by cases neg <;> simp at hz <;> omega
  have hR1:=hR.grown hg1
  repeat (first | refine zg rfl (zz qD hB1 rfl rfl rfl) ?_ | refine zd ?_ | refine WC.block ?_ | refine zb ?_ | refine ze ?_ | refine za ?_ | refine zo ?_ | refine zy ?_ | refine zt ?_ | refine zk ?_ | refine zf ?_ | refine zi ?_ | refine zj ?_ | refine zl ?_ | refine zq rfl ?_ | refine zI ?_ | refine zJ ?_ | refine zn ?_ | refine zu ?_ | refine zr ?_ | refine zg rfl (Yld.add rfl rfl (by simp only [In]; omega)) ?_ | refine zg rfl (Yld.sub rfl rfl (by simp only [In]; omega)) ?_ | refine zg rfl (zv qD rfl rfl rfl rfl) ?_ | refine zg rfl (zw qD rfl rfl rfl (by simp only [In]; omega)) ?_ | refine zg rfl (zE rfl rfl (by omega) (by omega) (by simp only [In]; omega)) ?_ | refine zg rfl (zF rfl rfl (by omega) (by omega)) ?_ | refine zg rfl (zh qD rfl) ?_ | refine zg rfl (zp rfl rfl rfl) ?_ | refine zG rfl rfl rfl rfl ?_ | refine zc rfl rfl rfl rfl (Yld.sub rfl rfl (by simp only [In]; omega)) ?_ | refine zc rfl rfl rfl rfl (zh qD rfl) ?_ | refine zc rfl rfl rfl rfl (zp rfl rfl rfl) ?_)
  refine WC.loop4 (S1:=Nat) (S2:=List UInt8) (S3:=Option Addr) (S4:=Nat) (fun i _ _ _=>l.length - i)
   (fun i b A' c'=>[(14,vi i),(13,.int .i64 (l.length:Int)),(12,.slice A l.length c),(3,.slice A' b.length c'),(1,.pointer (some ⟨g1,0,none⟩))])
   (fun i b A' c' w2=>i<=l.length/\b++dd (val (l.drop i))=dd (val l)/\b.length<=9*i/\Own vb w2 w1.heap.size 5 A' c' b/\w1.grownBy w2 none) 0 [] none 0 ⟨by omega,rfl,by simp,Own.nil _ _ _ _,jH _ _⟩ (by repeat (first | exact qg | refine qb rfl ?_)) (fun i b A' c' w2 ⟨hi,hb,hbl,hO,hg2⟩=>?_)
  have hR2:=hR1.grown hg2
  repeat (first | refine zd ?_ | refine WC.block ?_ | refine zb ?_ | refine ze ?_ | refine za ?_ | refine zo ?_ | refine zy ?_ | refine zt ?_ | refine zk ?_ | refine zf ?_ | refine zi ?_ | refine zj ?_ | refine zl ?_ | refine zq rfl ?_ | refine zI ?_ | refine zJ ?_ | refine zn ?_ | refine zu ?_ | refine zr ?_ | refine zg rfl (Yld.add rfl rfl (by simp only [In]; omega)) ?_ | refine zg rfl (Yld.sub rfl rfl (by simp only [In]; omega)) ?_ | refine zg rfl (zv qD rfl rfl rfl rfl) ?_ | refine zg rfl (zw qD rfl rfl rfl (by simp only [In]; omega)) ?_ | refine zg rfl (zE rfl rfl (by omega) (by omega) (by simp only [In]; omega)) ?_ | refine zg rfl (zF rfl rfl (by omega) (by omega)) ?_ | refine zg rfl (zh qD rfl) ?_ | refine zg rfl (zp rfl rfl rfl) ?_ | refine zG rfl rfl rfl rfl ?_ | refine zc rfl rfl rfl rfl (Yld.sub rfl rfl (by simp only [In]; omega)) ?_ | refine zc rfl rfl rfl rfl (zh qD rfl) ?_ | refine zc rfl rfl rfl rfl (zp rfl rfl rfl) ?_)
  refine zm rfl (fun h=>?_) (fun h=>?_)
  ·simp only [decide_eq_true_eq] at h
   have hxi:=hD i
   have hdc:=drop_cons' l i (by omega)
   have hyy:i+1<l.length↔0<val (l.drop (i+1)):=by
    have:=drop_pos hC (i+1)
    omega
   repeat (first | refine zg rfl (Yld.iaddrN qD hR2 rfl rfl rfl rfl (by omega)) ?_ | refine zg rfl (zM 0 qD hR2 rfl rfl (by omega)) ?_ | refine zd ?_ | refine WC.block ?_ | refine zb ?_ | refine ze ?_ | refine za ?_ | refine zo ?_ | refine zy ?_ | refine zt ?_ | refine zk ?_ | refine zf ?_ | refine zi ?_ | refine zj ?_ | refine zl ?_ | refine zq rfl ?_ | refine zI ?_ | refine zJ ?_ | refine zn ?_ | refine zu ?_ | refine zr ?_ | refine zg rfl (Yld.add rfl rfl (by simp only [In]; omega)) ?_ | refine zg rfl (Yld.sub rfl rfl (by simp only [In]; omega)) ?_ | refine zg rfl (zv qD rfl rfl rfl rfl) ?_ | refine zg rfl (zw qD rfl rfl rfl (by simp only [In]; omega)) ?_ | refine zg rfl (zE rfl rfl (by omega) (by omega) (by simp only [In]; omega)) ?_ | refine zg rfl (zF rfl rfl (by omega) (by omega)) ?_ | refine zg rfl (zh qD rfl) ?_ | refine zg rfl (zp rfl rfl rfl) ?_ | refine zG rfl rfl rfl rfl ?_ | refine zc rfl rfl rfl rfl (Yld.sub rfl rfl (by simp only [In]; omega)) ?_ | refine zc rfl rfl rfl rfl (zh qD rfl) ?_ | refine zc rfl rfl rfl rfl (zp rfl rfl rfl) ?_)
   generalize l.getD i 0=d at *
   generalize hY:val (l.drop (i+1))=y at *
   refine WC.loop5 (S1:=Nat) (S2:=Nat) (S3:=List UInt8) (S4:=Option Addr) (S5:=Nat) (fun k _ _ _ _=>9 - k)
    (fun k v b A' c'=>[(6,vi k),(5,vd v),(4,vi i),(14,vi i),(13,.int .i64 (l.length:Int)),(12,.slice A l.length c),(3,.slice A' b.length c'),(1,.pointer (some ⟨g1,0,none⟩))])
    (fun k v b A' c' w3=>k<=9/\v<10 ^ (9 - k)/\b++rest k v y=dd (val l)/\b.length<=9*i+k/\Own vb w3 w1.heap.size 5 A' c' b/\w1.grownBy w3 none) 0 d b A' c' ⟨by omega,by omega,by rw [<-rest_start d y hxi,<-hdc]; exact hb,by omega,hO,hg2⟩ (by repeat (first | exact qg | refine qb rfl ?_)) (fun k v b A' c' w3 ⟨hk,hv,hb3,hbl3,hO3,hg3⟩=>?_)
   have hB3:=hB1.keep hg3 (by simp)
   refine zd ?_
   refine WC.seqW [(32,.bool (decide (k<9/\(0<v∨0<y)))),(6,vi k),(5,vd v),(4,vi i),(14,vi i),(13,.int .i64 (l.length:Int)),(12,.slice A l.length c),(3,.slice A' b.length c'),(1,.pointer (some ⟨g1,0,none⟩))] (fun Q' hQ=>?_) ?_
   ·repeat (first | refine zd ?_ | refine WC.block ?_ | refine zb ?_ | refine ze ?_ | refine za ?_ | refine zo ?_ | refine zy ?_ | refine zt ?_ | refine zk ?_ | refine zf ?_ | refine zi ?_ | refine zj ?_ | refine zl ?_ | refine zq rfl ?_ | refine zI ?_ | refine zJ ?_ | refine zn ?_ | refine zu ?_ | refine zr ?_ | refine zg rfl (Yld.add rfl rfl (by simp only [In]; omega)) ?_ | refine zg rfl (Yld.sub rfl rfl (by simp only [In]; omega)) ?_ | refine zg rfl (zv qD rfl rfl rfl rfl) ?_ | refine zg rfl (zw qD rfl rfl rfl (by simp only [In]; omega)) ?_ | refine zg rfl (zE rfl rfl (by omega) (by omega) (by simp only [In]; omega)) ?_ | refine zg rfl (zF rfl rfl (by omega) (by omega)) ?_ | refine zg rfl (zh qD rfl) ?_ | refine zg rfl (zp rfl rfl rfl) ?_ | refine zG rfl rfl rfl rfl ?_ | refine zc rfl rfl rfl rfl (Yld.sub rfl rfl (by simp only [In]; omega)) ?_ | refine zc rfl rfl rfl rfl (zh qD rfl) ?_ | refine zc rfl rfl rfl rfl (zp rfl rfl rfl) ?_)
    rcases Nat.lt_or_ge k 9 with h9 | h9
    ·have e9:decide ((k:Int)<9)=true:=by simp; omega
     rw [e9]
     repeat (first | refine zc rfl rfl rfl rfl (zz qD hB3 rfl rfl rfl) ?_ | refine zd ?_ | refine WC.block ?_ | refine zb ?_ | refine ze ?_ | refine za ?_ | refine zo ?_ | refine zy ?_ | refine zt ?_ | refine zk ?_ | refine zf ?_ | refine zi ?_ | refine zj ?_ | refine zl ?_ | refine zq rfl ?_ | refine zI ?_ | refine zJ ?_ | refine zn ?_ | refine zu ?_ | refine zr ?_ | refine zg rfl (Yld.add rfl rfl (by simp only [In]; omega)) ?_ | refine zg rfl (Yld.sub rfl rfl (by simp only [In]; omega)) ?_ | refine zg rfl (zv qD rfl rfl rfl rfl) ?_ | refine zg rfl (zw qD rfl rfl rfl (by simp only [In]; omega)) ?_ | refine zg rfl (zE rfl rfl (by omega) (by omega) (by simp only [In]; omega)) ?_ | refine zg rfl (zF rfl rfl (by omega) (by omega)) ?_ | refine zg rfl (zh qD rfl) ?_ | refine zg rfl (zp rfl rfl rfl) ?_ | refine zG rfl rfl rfl rfl ?_ | refine zc rfl rfl rfl rfl (Yld.sub rfl rfl (by simp only [In]; omega)) ?_ | refine zc rfl rfl rfl rfl (zh qD rfl) ?_ | refine zc rfl rfl rfl rfl (zp rfl rfl rfl) ?_)
     rcases Nat.lt_or_ge (i+1) l.length with h8 | h8
     ·have e8:decide ((i:Int)<(l.length:Int) - 1)=true:=by simp; omega
      have ee:decide (k<9/\(0<v∨0<y))=true:=decide_eq_true ⟨h9,.inr (hyy.mp h8)⟩
      rw [e8]
      rw [ee] at hQ
      repeat (first | refine zd ?_ | refine WC.block ?_ | refine zb ?_ | refine ze ?_ | refine za ?_ | refine zo ?_ | refine zy ?_ | refine zt ?_ | refine zk ?_ | refine zf ?_ | refine zi ?_ | refine zj ?_ | refine zl ?_ | refine zq rfl ?_ | refine zI ?_ | refine zJ ?_ | refine zn ?_ | refine zu ?_ | refine zr ?_ | refine zg rfl (Yld.add rfl rfl (by simp only [In]; omega)) ?_ | refine zg rfl (Yld.sub rfl rfl (by simp only [In]; omega)) ?_ | refine zg rfl (zv qD rfl rfl rfl rfl) ?_ | refine zg rfl (zw qD rfl rfl rfl (by simp only [In]; omega)) ?_ | refine zg rfl (zE rfl rfl (by omega) (by omega) (by simp only [In]; omega)) ?_ | refine zg rfl (zF rfl rfl (by omega) (by omega)) ?_ | refine zg rfl (zh qD rfl) ?_ | refine zg rfl (zp rfl rfl rfl) ?_ | refine zG rfl rfl rfl rfl ?_ | refine zc rfl rfl rfl rfl (Yld.sub rfl rfl (by simp only [In]; omega)) ?_ | refine zc rfl rfl rfl rfl (zh qD rfl) ?_ | refine zc rfl rfl rfl rfl (zp rfl rfl rfl) ?_ | refine qu rfl rfl rfl rfl ?_)
      exact WX.weaken (by repeat (first | exact qg | refine qb rfl ?_)) hQ
     ·have e8:decide ((i:Int)<(l.length:Int) - 1)=false:=by simp; omega
      have hy0:¬ 0<y:=fun e=>by have:=hyy.mpr e; omega
      have ee:decide (k<9/\(0<v∨0<y))=decide ((0:Int)<(v:Int)):=by
       rw [decide_eq_decide]; omega
      rw [e8]
      rw [ee] at hQ
      repeat (first | refine zd ?_ | refine WC.block ?_ | refine zb ?_ | refine ze ?_ | refine za ?_ | refine zo ?_ | refine zy ?_ | refine zt ?_ | refine zk ?_ | refine zf ?_ | refine zi ?_ | refine zj ?_ | refine zl ?_ | refine zq rfl ?_ | refine zI ?_ | refine zJ ?_ | refine zn ?_ | refine zu ?_ | refine zr ?_ | refine zg rfl (Yld.add rfl rfl (by simp only [In]; omega)) ?_ | refine zg rfl (Yld.sub rfl rfl (by simp only [In]; omega)) ?_ | refine zg rfl (zv qD rfl rfl rfl rfl) ?_ | refine zg rfl (zw qD rfl rfl rfl (by simp only [In]; omega)) ?_ | refine zg rfl (zE rfl rfl (by omega) (by omega) (by simp only [In]; omega)) ?_ | refine zg rfl (zF rfl rfl (by omega) (by omega)) ?_ | refine zg rfl (zh qD rfl) ?_ | refine zg rfl (zp rfl rfl rfl) ?_ | refine zG rfl rfl rfl rfl ?_ | refine zc rfl rfl rfl rfl (Yld.sub rfl rfl (by simp only [In]; omega)) ?_ | refine zc rfl rfl rfl rfl (zh qD rfl) ?_ | refine zc rfl rfl rfl rfl (zp rfl rfl rfl) ?_ | refine qu rfl rfl rfl rfl ?_)
      exact WX.weaken (by repeat (first | exact qg | refine qb rfl ?_)) hQ
    ·have e9:decide ((k:Int)<9)=false:=by simp; omega
     have ee:decide (k<9/\(0<v∨0<y))=false:=decide_eq_false (by omega)
     rw [e9]
     rw [ee] at hQ
     repeat (first | refine zd ?_ | refine WC.block ?_ | refine zb ?_ | refine ze ?_ | refine za ?_ | refine zo ?_ | refine zy ?_ | refine zt ?_ | refine zk ?_ | refine zf ?_ | refine zi ?_ | refine zj ?_ | refine zl ?_ | refine zq rfl ?_ | refine zI ?_ | refine zJ ?_ | refine zn ?_ | refine zu ?_ | refine zr ?_ | refine zg rfl (Yld.add rfl rfl (by simp only [In]; omega)) ?_ | refine zg rfl (Yld.sub rfl rfl (by simp only [In]; omega)) ?_ | refine zg rfl (zv qD rfl rfl rfl rfl) ?_ | refine zg rfl (zw qD rfl rfl rfl (by simp only [In]; omega)) ?_ | refine zg rfl (zE rfl rfl (by omega) (by omega) (by simp only [In]; omega)) ?_ | refine zg rfl (zF rfl rfl (by omega) (by omega)) ?_ | refine zg rfl (zh qD rfl) ?_ | refine zg rfl (zp rfl rfl rfl) ?_ | refine zG rfl rfl rfl rfl ?_ | refine zc rfl rfl rfl rfl (Yld.sub rfl rfl (by simp only [In]; omega)) ?_ | refine zc rfl rfl rfl rfl (zh qD rfl) ?_ | refine zc rfl rfl rfl rfl (zp rfl rfl rfl) ?_ | refine qu rfl rfl rfl rfl ?_)
     exact WX.weaken (by repeat (first | exact qg | refine qb rfl ?_)) hQ
   ·repeat (first | refine zd ?_ | refine WC.block ?_ | refine zb ?_ | refine ze ?_ | refine za ?_ | refine zo ?_ | refine zy ?_ | refine zt ?_ | refine zk ?_ | refine zf ?_ | refine zi ?_ | refine zj ?_ | refine zl ?_ | refine zq rfl ?_ | refine zI ?_ | refine zJ ?_ | refine zn ?_ | refine zu ?_ | refine zr ?_ | refine zg rfl (Yld.add rfl rfl (by simp only [In]; omega)) ?_ | refine zg rfl (Yld.sub rfl rfl (by simp only [In]; omega)) ?_ | refine zg rfl (zv qD rfl rfl rfl rfl) ?_ | refine zg rfl (zw qD rfl rfl rfl (by simp only [In]; omega)) ?_ | refine zg rfl (zE rfl rfl (by omega) (by omega) (by simp only [In]; omega)) ?_ | refine zg rfl (zF rfl rfl (by omega) (by omega)) ?_ | refine zg rfl (zh qD rfl) ?_ | refine zg rfl (zp rfl rfl rfl) ?_ | refine zG rfl rfl rfl rfl ?_ | refine zc rfl rfl rfl rfl (Yld.sub rfl rfl (by simp only [In]; omega)) ?_ | refine zc rfl rfl rfl rfl (zh qD rfl) ?_ | refine zc rfl rfl rfl rfl (zp rfl rfl rfl) ?_)
    refine zm rfl (fun h'=>?_) (fun h'=>?_)
    ·have h':=of_decide_eq_true h'
     have hst:=rest_step k v y h'.1 h'.2
     have hv32:v<10 ^ 9:=Nat.lt_of_lt_of_le hv (Nat.pow_le_pow_right (by omega) (by omega))
     repeat (first | refine zd ?_ | refine WC.block ?_ | refine zb ?_ | refine ze ?_ | refine za ?_ | refine zo ?_ | refine zy ?_ | refine zt ?_ | refine zk ?_ | refine zf ?_ | refine zi ?_ | refine zj ?_ | refine zl ?_ | refine zq rfl ?_ | refine zI ?_ | refine zJ ?_ | refine zn ?_ | refine zu ?_ | refine zr ?_ | refine zg rfl (Yld.add rfl rfl (by simp only [In]; omega)) ?_ | refine zg rfl (Yld.sub rfl rfl (by simp only [In]; omega)) ?_ | refine zg rfl (zv qD rfl rfl rfl rfl) ?_ | refine zg rfl (zw qD rfl rfl rfl (by simp only [In]; omega)) ?_ | refine zg rfl (zE rfl rfl (by omega) (by omega) (by simp only [In]; omega)) ?_ | refine zg rfl (zF rfl rfl (by omega) (by omega)) ?_ | refine zg rfl (zh qD rfl) ?_ | refine zg rfl (zp rfl rfl rfl) ?_ | refine zG rfl rfl rfl rfl ?_ | refine zc rfl rfl rfl rfl (Yld.sub rfl rfl (by simp only [In]; omega)) ?_ | refine zc rfl rfl rfl rfl (zh qD rfl) ?_ | refine zc rfl rfl rfl rfl (zp rfl rfl rfl) ?_)
     have hd:(48:Int)+(v:Int) % 10=((dc v).toNat:Int):=by rw [dc_toNat]; omega
     have hq:(v:Int) / 10=((v / 10:Nat):Int):=by omega
     rw [hd]
     refine z5 (us:=[vb (dc v)]) qD rfl rfl rfl (by intro u hu; rw [List.mem_singleton] at hu; rw [hu]; rfl) rfl (by omega) (fun g4 w4 hL4 hg4 hl4=>?_)
     have hR4:Rd vb w4 (some ⟨g4,0,none⟩) 1 [dc v]:=Rd.ofBl' hL4 (by simp) (by simp [maxLen])
     have hO4:=hO3.grown hg4
     have hz3:=hg3.size
     have hz4:=hg4.size
     refine z4 qD rfl rfl One.b hO4 rfl rfl hR4 rfl rfl (by simp only [List.length_cons,List.length_nil]; omega) (by simp only [maxLen,List.length_cons,List.length_nil]; omega) (by omega) (fun A5 c5 w5 hO5 hg5 hf5=>?_)
     repeat (first | refine zd ?_ | refine WC.block ?_ | refine zb ?_ | refine ze ?_ | refine za ?_ | refine zo ?_ | refine zy ?_ | refine zt ?_ | refine zk ?_ | refine zf ?_ | refine zi ?_ | refine zj ?_ | refine zl ?_ | refine zq rfl ?_ | refine zI ?_ | refine zJ ?_ | refine zn ?_ | refine zu ?_ | refine zr ?_ | refine zg rfl (Yld.add rfl rfl (by simp only [In]; omega)) ?_ | refine zg rfl (Yld.sub rfl rfl (by simp only [In]; omega)) ?_ | refine zg rfl (zv qD rfl rfl rfl rfl) ?_ | refine zg rfl (zw qD rfl rfl rfl (by simp only [In]; omega)) ?_ | refine zg rfl (zE rfl rfl (by omega) (by omega) (by simp only [In]; omega)) ?_ | refine zg rfl (zF rfl rfl (by omega) (by omega)) ?_ | refine zg rfl (zh qD rfl) ?_ | refine zg rfl (zp rfl rfl rfl) ?_ | refine zG rfl rfl rfl rfl ?_ | refine zc rfl rfl rfl rfl (Yld.sub rfl rfl (by simp only [In]; omega)) ?_ | refine zc rfl rfl rfl rfl (zh qD rfl) ?_ | refine zc rfl rfl rfl rfl (zp rfl rfl rfl) ?_)
     rw [hq]
     refine WX.round5 (k+1) (v / 10) (b++[dc v]) A5 c5 ⟨by omega,?_,?_,by simp; omega,hO5,gr_own (qG hg3 hg4) hO4 hg5 (Nat.le_refl _)⟩ (by omega) (by repeat (first | exact qg | refine qb rfl ?_))
     ·rw [show 9 - k=(9 - (k+1))+1 by omega,Nat.pow_succ] at hv
      omega
     ·rw [List.append_assoc,<-hb3,hst]; rfl
    ·have h':=of_decide_eq_false h'
     have hen:=rest_end k v y hk hv h'
     repeat (first | refine zd ?_ | refine WC.block ?_ | refine zb ?_ | refine ze ?_ | refine za ?_ | refine zo ?_ | refine zy ?_ | refine zt ?_ | refine zk ?_ | refine zf ?_ | refine zi ?_ | refine zj ?_ | refine zl ?_ | refine zq rfl ?_ | refine zI ?_ | refine zJ ?_ | refine zn ?_ | refine zu ?_ | refine zr ?_ | refine zg rfl (Yld.add rfl rfl (by simp only [In]; omega)) ?_ | refine zg rfl (Yld.sub rfl rfl (by simp only [In]; omega)) ?_ | refine zg rfl (zv qD rfl rfl rfl rfl) ?_ | refine zg rfl (zw qD rfl rfl rfl (by simp only [In]; omega)) ?_ | refine zg rfl (zE rfl rfl (by omega) (by omega) (by simp only [In]; omega)) ?_ | refine zg rfl (zF rfl rfl (by omega) (by omega)) ?_ | refine zg rfl (zh qD rfl) ?_ | refine zg rfl (zp rfl rfl rfl) ?_ | refine zG rfl rfl rfl rfl ?_ | refine zc rfl rfl rfl rfl (Yld.sub rfl rfl (by simp only [In]; omega)) ?_ | refine zc rfl rfl rfl rfl (zh qD rfl) ?_ | refine zc rfl rfl rfl rfl (zp rfl rfl rfl) ?_)
     refine WX.round4 (i+1) b A' c' ⟨by omega,by rw [hY,<-hen]; exact hb3,by omega,hO3,hg3⟩ (by omega) (by repeat (first | exact qg | refine qb rfl ?_))
  ·simp only [decide_eq_false_iff_not] at h
   obtain rfl:i=l.length:=by omega
   rw [List.drop_eq_nil_of_le (Nat.le_refl _)] at hb
   have hb':b=dd (val l):=by simpa [val,dd_zero] using hb
   have hB2:=hB1.keep hg2 (by simp)
   repeat (first | refine zg rfl (zz qD hB2 rfl rfl rfl) ?_ | refine zd ?_ | refine WC.block ?_ | refine zb ?_ | refine ze ?_ | refine za ?_ | refine zo ?_ | refine zy ?_ | refine zt ?_ | refine zk ?_ | refine zf ?_ | refine zi ?_ | refine zj ?_ | refine zl ?_ | refine zq rfl ?_ | refine zI ?_ | refine zJ ?_ | refine zn ?_ | refine zu ?_ | refine zr ?_ | refine zg rfl (Yld.add rfl rfl (by simp only [In]; omega)) ?_ | refine zg rfl (Yld.sub rfl rfl (by simp only [In]; omega)) ?_ | refine zg rfl (zv qD rfl rfl rfl rfl) ?_ | refine zg rfl (zw qD rfl rfl rfl (by simp only [In]; omega)) ?_ | refine zg rfl (zE rfl rfl (by omega) (by omega) (by simp only [In]; omega)) ?_ | refine zg rfl (zF rfl rfl (by omega) (by omega)) ?_ | refine zg rfl (zh qD rfl) ?_ | refine zg rfl (zp rfl rfl rfl) ?_ | refine zG rfl rfl rfl rfl ?_ | refine zc rfl rfl rfl rfl (Yld.sub rfl rfl (by simp only [In]; omega)) ?_ | refine zc rfl rfl rfl rfl (zh qD rfl) ?_ | refine zc rfl rfl rfl rfl (zp rfl rfl rfl) ?_)
   have hval:x.natAbs=val l:=by cases neg <;> simp at hz <;> omega
   refine WC.mergeW (S:=List UInt8 × Option Addr × Nat) (fun s=>[(3,.slice s.2.1 s.1.length s.2.2)]) (fun s w'=>s.1=dd (val l)++(if x<0 then [45] else [])/\Own vb w' w1.heap.size 5 s.2.1 s.2.2 s.1/\w1.grownBy w' none) rfl (fun h Q' hQ=>?_) (fun h Q' hQ=>?_) ?_
   ·subst h
    have hneg:x<0:=by simp at hz; omega
    repeat (first | refine zd ?_ | refine WC.block ?_ | refine zb ?_ | refine ze ?_ | refine za ?_ | refine zo ?_ | refine zy ?_ | refine zt ?_ | refine zk ?_ | refine zf ?_ | refine zi ?_ | refine zj ?_ | refine zl ?_ | refine zq rfl ?_ | refine zI ?_ | refine zJ ?_ | refine zn ?_ | refine zu ?_ | refine zr ?_ | refine zg rfl (Yld.add rfl rfl (by simp only [In]; omega)) ?_ | refine zg rfl (Yld.sub rfl rfl (by simp only [In]; omega)) ?_ | refine zg rfl (zv qD rfl rfl rfl rfl) ?_ | refine zg rfl (zw qD rfl rfl rfl (by simp only [In]; omega)) ?_ | refine zg rfl (zE rfl rfl (by omega) (by omega) (by simp only [In]; omega)) ?_ | refine zg rfl (zF rfl rfl (by omega) (by omega)) ?_ | refine zg rfl (zh qD rfl) ?_ | refine zg rfl (zp rfl rfl rfl) ?_ | refine zG rfl rfl rfl rfl ?_ | refine zc rfl rfl rfl rfl (Yld.sub rfl rfl (by simp only [In]; omega)) ?_ | refine zc rfl rfl rfl rfl (zh qD rfl) ?_ | refine zc rfl rfl rfl rfl (zp rfl rfl rfl) ?_)
    refine z5 (us:=[vb 45]) qD rfl rfl rfl (by intro u hu; rw [List.mem_singleton] at hu; rw [hu]; rfl) rfl (by omega) (fun g4 w4 hL4 hg4 hl4=>?_)
    have hR4:Rd vb w4 (some ⟨g4,0,none⟩) 1 [45]:=Rd.ofBl' hL4 (by simp) (by simp [maxLen])
    have hO4:=hO.grown hg4
    have hz3:=hg2.size
    have hz4:=hg4.size
    refine z4 qD rfl rfl One.b hO4 rfl rfl hR4 rfl rfl (by simp only [List.length_cons,List.length_nil]; omega) (by simp only [maxLen,List.length_cons,List.length_nil]; omega) (by omega) (fun A5 c5 w5 hO5 hg5 hf5=>?_)
    repeat (first | refine zd ?_ | refine WC.block ?_ | refine zb ?_ | refine ze ?_ | refine za ?_ | refine zo ?_ | refine zy ?_ | refine zt ?_ | refine zk ?_ | refine zf ?_ | refine zi ?_ | refine zj ?_ | refine zl ?_ | refine zq rfl ?_ | refine zI ?_ | refine zJ ?_ | refine zn ?_ | refine zu ?_ | refine zr ?_ | refine zg rfl (Yld.add rfl rfl (by simp only [In]; omega)) ?_ | refine zg rfl (Yld.sub rfl rfl (by simp only [In]; omega)) ?_ | refine zg rfl (zv qD rfl rfl rfl rfl) ?_ | refine zg rfl (zw qD rfl rfl rfl (by simp only [In]; omega)) ?_ | refine zg rfl (zE rfl rfl (by omega) (by omega) (by simp only [In]; omega)) ?_ | refine zg rfl (zF rfl rfl (by omega) (by omega)) ?_ | refine zg rfl (zh qD rfl) ?_ | refine zg rfl (zp rfl rfl rfl) ?_ | refine zG rfl rfl rfl rfl ?_ | refine zc rfl rfl rfl rfl (Yld.sub rfl rfl (by simp only [In]; omega)) ?_ | refine zc rfl rfl rfl rfl (zh qD rfl) ?_ | refine zc rfl rfl rfl rfl (zp rfl rfl rfl) ?_)
    exact WX.weaken (by repeat (first | exact qg | refine qb rfl ?_)) (hQ (_,A5,c5) w5 ⟨by rw [if_pos hneg,hb'],hO5,gr_own (qG hg2 hg4) hO4 hg5 (Nat.le_refl _)⟩)
   ·subst h
    have hneg:¬ x<0:=by simp at hz; omega
    repeat (first | refine zd ?_ | refine WC.block ?_ | refine zb ?_ | refine ze ?_ | refine za ?_ | refine zo ?_ | refine zy ?_ | refine zt ?_ | refine zk ?_ | refine zf ?_ | refine zi ?_ | refine zj ?_ | refine zl ?_ | refine zq rfl ?_ | refine zI ?_ | refine zJ ?_ | refine zn ?_ | refine zu ?_ | refine zr ?_ | refine zg rfl (Yld.add rfl rfl (by simp only [In]; omega)) ?_ | refine zg rfl (Yld.sub rfl rfl (by simp only [In]; omega)) ?_ | refine zg rfl (zv qD rfl rfl rfl rfl) ?_ | refine zg rfl (zw qD rfl rfl rfl (by simp only [In]; omega)) ?_ | refine zg rfl (zE rfl rfl (by omega) (by omega) (by simp only [In]; omega)) ?_ | refine zg rfl (zF rfl rfl (by omega) (by omega)) ?_ | refine zg rfl (zh qD rfl) ?_ | refine zg rfl (zp rfl rfl rfl) ?_ | refine zG rfl rfl rfl rfl ?_ | refine zc rfl rfl rfl rfl (Yld.sub rfl rfl (by simp only [In]; omega)) ?_ | refine zc rfl rfl rfl rfl (zh qD rfl) ?_ | refine zc rfl rfl rfl rfl (zp rfl rfl rfl) ?_)
    exact WX.weaken (by repeat (first | exact qg | refine qb rfl ?_)) (hQ (_,A',c') w2 ⟨by rw [if_neg hneg,hb']; simp,hO,hg2⟩)
   ·rintro ⟨b2,A2,c2⟩ w3 ⟨he,hO3,hg3⟩
    simp only at he hO3
    repeat (first | refine zd ?_ | refine WC.block ?_ | refine zb ?_ | refine ze ?_ | refine za ?_ | refine zo ?_ | refine zy ?_ | refine zt ?_ | refine zk ?_ | refine zf ?_ | refine zi ?_ | refine zj ?_ | refine zl ?_ | refine zq rfl ?_ | refine zI ?_ | refine zJ ?_ | refine zn ?_ | refine zu ?_ | refine zr ?_ | refine zg rfl (Yld.add rfl rfl (by simp only [In]; omega)) ?_ | refine zg rfl (Yld.sub rfl rfl (by simp only [In]; omega)) ?_ | refine zg rfl (zv qD rfl rfl rfl rfl) ?_ | refine zg rfl (zw qD rfl rfl rfl (by simp only [In]; omega)) ?_ | refine zg rfl (zE rfl rfl (by omega) (by omega) (by simp only [In]; omega)) ?_ | refine zg rfl (zF rfl rfl (by omega) (by omega)) ?_ | refine zg rfl (zh qD rfl) ?_ | refine zg rfl (zp rfl rfl rfl) ?_ | refine zG rfl rfl rfl rfl ?_ | refine zc rfl rfl rfl rfl (Yld.sub rfl rfl (by simp only [In]; omega)) ?_ | refine zc rfl rfl rfl rfl (zh qD rfl) ?_ | refine zc rfl rfl rfl rfl (zp rfl rfl rfl) ?_)
    refine zx rfl rfl (reverse_fn A2 c2 _ b2 w3 hO3) ?_
    rintro _ w4 ⟨rfl,hO4,hg4⟩
    repeat (first | refine zg rfl (Yld.b2s qD hO4.rd rfl rfl rfl rfl (by simp)) ?_ | refine zd ?_ | refine WC.block ?_ | refine zb ?_ | refine ze ?_ | refine za ?_ | refine zo ?_ | refine zy ?_ | refine zt ?_ | refine zk ?_ | refine zf ?_ | refine zi ?_ | refine zj ?_ | refine zl ?_ | refine zq rfl ?_ | refine zI ?_ | refine zJ ?_ | refine zn ?_ | refine zu ?_ | refine zr ?_ | refine zg rfl (Yld.add rfl rfl (by simp only [In]; omega)) ?_ | refine zg rfl (Yld.sub rfl rfl (by simp only [In]; omega)) ?_ | refine zg rfl (zv qD rfl rfl rfl rfl) ?_ | refine zg rfl (zw qD rfl rfl rfl (by simp only [In]; omega)) ?_ | refine zg rfl (zE rfl rfl (by omega) (by omega) (by simp only [In]; omega)) ?_ | refine zg rfl (zF rfl rfl (by omega) (by omega)) ?_ | refine zg rfl (zh qD rfl) ?_ | refine zg rfl (zp rfl rfl rfl) ?_ | refine zG rfl rfl rfl rfl ?_ | refine zc rfl rfl rfl rfl (Yld.sub rfl rfl (by simp only [In]; omega)) ?_ | refine zc rfl rfl rfl rfl (zh qD rfl) ?_ | refine zc rfl rfl rfl rfl (zp rfl rfl rfl) ?_)
    refine zD rfl rfl ⟨?_,qG hg1 (gr_own hg3 hO3 hg4 (Nat.le_refl _))⟩
    unfold txt
    rw [if_neg hx0,hval,he,List.reverse_append]
    split <;> rfl
end
 
section
open Go Go.RowKit
def M_num_Num_Cmp (x:Int) (m:Nat) (y:Int) (k:Nat) (K:Int->Prop):Prop:=max m k<=900000/\K (if x<y then -1 else if y<x then 1 else 0)
theorem W_num_Num_Cmp {w:World} {a b c d:Value} {x y:Int} {m k:Nat} {K:Int->Prop} (h1:Nm w (.agg ⟨[a,b]⟩) x m) (h2:Nm w (.agg ⟨[c,d]⟩) y k) (H:M_num_Num_Cmp x m y k K):Fn Tryz.prog 105 ⟨[.agg ⟨[a,b]⟩,.agg ⟨[c,d]⟩]⟩ w (fun v w'=>w.grownBy w' none/\∃ r:Int,v=.int .i64 r/\K r) :=
 (ncmp_fn _ _ x y (max m k) w (h1.mono (by omega)) (h2.mono (by omega)) H.1).mono fun _ _ ⟨hv,hg⟩=>⟨hg,_,hv,H.2⟩
def M_num_Num_Text (x:Int) (m:Nat) (K:List UInt8->Prop):Prop:=m<=90000/\K (txt x)
theorem W_num_Num_Text {w:World} {a b:Value} {x:Int} {m:Nat} {K:List UInt8->Prop} (h1:Nm w (.agg ⟨[a,b]⟩) x m) (H:M_num_Num_Text x m K):Fn Tryz.prog 48 ⟨[.agg ⟨[a,b]⟩]⟩ w (fun v w'=>w.grownBy w' none/\∃ r:List UInt8,v=vs r/\K r) :=
 (text_fn _ x m w h1 H.1).mono fun _ _ ⟨hv,hg⟩=>⟨hg,_,hv,H.2⟩
theorem Nm.zero {w:World}:Nm w (.agg ⟨[.bool false,.slice none 0 0]⟩) 0 0:=⟨false,none,0,[],rfl,Rd.nil _ _ (by simp [maxLen]),fun i=>by simp,by simp [Can],by simp,(fun h=>by cases h),rfl⟩
end
 
section
open Go Go.RowKit
section
variable {P:Program} {N:Nat} {ops:Array Oper} {Q:Post} {L:qO} {w:World} {rest:List Oper} {d:Nat} {ty:TypeId} {pos:String} {af:Array Edge}
def Mth (P:Program) (t:TypeId) (u:Value) (m:String) (g:FuncId) (rv:Value):Prop:=∀ w,(method (P.types.size+Made.depth) t u m).run P w=.ok (g,rv) w
theorem qB {R:Value->World->Prop} {g:FuncId} {t:TypeId} {u rv:Value} {r:Operand} {m:String} {aa:List Operand} {ts:Array TypeId} {vs:List Value} (hd:Nat.blt d N=true) (hr:opv L r=some (.iface t u)) (hM:Mth P t u m g rv) (hv:opvs L aa=some vs) (hf:Fn P g ⟨rv :: vs⟩ w R)
  (hk:∀ v w',R v w'->WL P N ops Q rest ((d,v) :: L) w'):WL P N ops Q (⟨some d,.call ⟨.invoke r m,⟨aa⟩,ts⟩,ty,pos,af,none⟩ :: rest) L w:=fun a w1 e ha =>
 wpList_plain rfl fun K hK=>by
  have hm:(⟨aa⟩:Array Operand).map a.eval=⟨vs⟩:=by rw [<-ha.evs hv]; simp
  obtain ⟨hgo,hC⟩:=hf
  unfold goesIn at hgo
  split at hgo
  ·rename_i fn hfn
   simp only [Bool.and_eq_true,Bool.not_eq_true'] at hgo
   have hnone:fn.body.isNone=false:=by cases hb:fn.body <;> simp_all
   have hrun:(execOp a.eval ⟨some d,.call ⟨.invoke r m,⟨aa⟩,ts⟩,ty,pos,af,none⟩).run P w1=.ok (.enter g ⟨rv :: vs⟩) w1:=by
    have h1:=hM w1
    have e1:(#[Value.iface t u]++(⟨vs⟩:Array Value)).extract 1 (#[Value.iface t u]++(⟨vs⟩:Array Value)).size=⟨vs⟩:=by
     apply Array.ext'
     simp
    have e2:(#[Value.iface t u]++(⟨vs⟩:Array Value))[0]? = some (Value.iface t u):=by simp
    have e3 : #[rv]++(⟨vs⟩:Array Value)=⟨rv :: vs⟩:=by simp
    unfold execOp
    simp only [resolve,Sem.run_bind,Sem.run_pure,Result.andThen_ok,hm,ha.ev hr]
    simp only [invoke,e2,e1,callMethod,Sem.run_bind,program,Sem.run,Result.andThen_ok]
    rw [h1]
    simp only [Result.andThen_ok,e3,callFunc,Sem.run_bind,program,Sem.run,hfn,hgo.1,hnone,Bool.false_eq_true,if_false]
    simp
   unfold Oper.wp
   rw [hrun]
   refine (hC w1 e).mono ?_
   rintro en w' ⟨v,w0,rfl,h0,hR⟩
   exact hK _ _ (hk v w0 hR _ w' h0 (ha.put hd v))
  ·cases hgo
end
section
variable {P:Program} {N:Nat} {L:qO} {w:World} {ty:TypeId} {pos:String} {af:Array Edge}
theorem kh {ta tx:TypeId} {D:TypeDesc} {x:Operand} {v:OV} {u:Value} {dd:Option Tmp} (hu:P.underlying ta=some D) (hd:notIface D=true) (hx:opv L x=some v.1) (hv:v.1=.iface ta u):Yld P N w ⟨dd,.typeAssert x tx ta false,ty,pos,af,none⟩ L u:=fun a w1 _ ha=>by
 have hx':=ha.ev hx
 rw [hv] at hx'
 simp only [execOp,Instr.typeAssert,Sem.run_bind,run_underlying hu,hx',Result.andThen_ok]
 cases D <;> first | (simp [notIface] at hd; done) | simp
end
section
variable {P:Program} {N:Nat} {L:qO} {w:World} {ty:TypeId} {pos:String} {af:Array Edge} {dd:Option Tmp} {ta tx t':TypeId} {x:Operand} {u z:Value} {D:TypeDesc}
theorem assertNoX (hu:P.underlying ta=some D) (hd:notIface D=true) (hz:∀ w,(zeroValue ta).run P w=.ok z w) (hx:opv L x=some (.iface t' u)) (hn:Nat.beq t' ta=false):Yld P N w ⟨dd,.typeAssert x tx ta true,ty,pos,af,none⟩ L (.tuple #[z,.bool false]):=fun a w1 _ ha=>by
 have hx':=ha.ev hx
 have hne:t'≠ta:=Nat.ne_of_beq_eq_false hn
 simp only [execOp,Instr.typeAssert,Sem.run_bind,run_underlying hu,hx',Result.andThen_ok]
 cases D <;> first | (simp [notIface] at hd; done) | simp [hz,hne]
end
section
variable {P:Program} {N:Nat} {ops:Array Oper} {fl:Nat->Bool} {D:Nat->World->Prop} {Q:Post} {rest:List Oper} {k d:Nat} {L:qO} {w:World} {ty:TypeId} {pos:String} {af:Array Edge} {gd:Option (Nat × Bool)}
theorem WJ.callvw {R:Value->World->Prop} {g:FuncId} {x:Operand} {ao:List Operand} {ts:Array TypeId} {vs cs:List Value} (hf:fl k=false) (hg:Wants N ops L gd) (hd:Nat.blt d N=true) (hx:opv L x=some (.func (.func g) #[] ⟨cs⟩)) (hv:opvs L ao=some vs) (hc:Fn P g ⟨vs++cs⟩ w R) (hD:∀ v w',R v w'->∀ w2,Eqv w' w2->DD .any ops fl D k w2)
  (hk:∀ v w',R v w'->WJ P N ops fl D Q rest (k+1) ((d,v) :: L) w'):WJ P N ops fl D Q (⟨some d,.call ⟨.value x,⟨ao⟩,ts⟩,ty,pos,af,gd⟩ :: rest) k L w:=fun a w1 e ha=>by
 unfold wpJ
 rw [hf]
 show sRun _ _ _ _ _ _ _
 unfold sRun
 rw [if_pos (Wants.wanted (o:=⟨some d,.call ⟨.value x,⟨ao⟩,ts⟩,ty,pos,af,gd⟩) hg ha),show execOp a.eval ⟨some d,.call ⟨.value x,⟨ao⟩,ts⟩,ty,pos,af,gd⟩=execOp a.eval ⟨some d,.call ⟨.value x,⟨ao⟩,ts⟩,ty,pos,af,none⟩ from rfl,run_callv ha hc.1 hx hv]
 refine (hc.2 w1 e).mono ?_
 rintro en w' ⟨v,w0,rfl,h0,hR⟩
 exact ⟨v,rfl,hD v w0 hR w' h0,hk v w0 hR _ w' h0 (ha.put hd v)⟩
end
def jV:PV->Int
 | .nil=>0
 | .none=>1
 | .int _=>3
 | .str _=>4
 | .emp=>5
 | .tup _=>6
section
attribute [local irreducible] WL WC WX WQ WK WJ Yld Eff Ef0 Fn
theorem kindL_fn {w:World} {u:Value}:Fn Tryz.prog 256 ⟨[u]⟩ w (fun r w'=>w.grownBy w' none/\r=.int .i64 5):=by
 refine Fn.enter (by kernel_rfl) Tryz.func256 rfl Tryz.ntmps256 rfl ?_
 repeat refine zd ?_
 refine zb ?_
 refine zg rfl (zh qD rfl) ?_
 refine ze (za ?_)
 repeat refine zd ?_
 refine zb ?_
 refine zg rfl (zh qD rfl) ?_
 refine ze (za ?_)
 refine zt ?_
 exact zD rfl rfl ⟨jH _ _,rfl⟩
theorem kindT_fn {w:World} {u:Value}:Fn Tryz.prog 259 ⟨[u]⟩ w (fun r w'=>w.grownBy w' none/\r=.int .i64 6):=by
 refine Fn.enter (by kernel_rfl) Tryz.func259 rfl Tryz.ntmps259 rfl ?_
 repeat refine zd ?_
 refine zb ?_
 refine zg rfl (zh qD rfl) ?_
 refine ze (za ?_)
 repeat refine zd ?_
 refine zb ?_
 refine zg rfl (zh qD rfl) ?_
 refine ze (za ?_)
 refine zt ?_
 exact zD rfl rfl ⟨jH _ _,rfl⟩
theorem kindS_fn {w:World} {u:Value}:Fn Tryz.prog 260 ⟨[u]⟩ w (fun r w'=>w.grownBy w' none/\r=.int .i64 4):=by
 refine Fn.enter (by kernel_rfl) Tryz.func260 rfl Tryz.ntmps260 rfl ?_
 repeat refine zd ?_
 refine zb ?_
 refine zg rfl (zh qD rfl) ?_
 refine ze (za ?_)
 repeat refine zd ?_
 refine zb ?_
 refine zg rfl (zh qD rfl) ?_
 refine ze (za ?_)
 refine zt ?_
 exact zD rfl rfl ⟨jH _ _,rfl⟩
theorem kindI_fn {w:World} {a b:Value} (ha:a.oneCell'=true) (hb:b.oneCell'=true):Fn Tryz.prog 265 ⟨[.agg ⟨[a,b]⟩]⟩ w (fun r w'=>w.grownBy w' none/\r=.int .i64 3):=by
 refine Fn.enter (by kernel_rfl) Tryz.func265 rfl Tryz.ntmps265 rfl ?_
 repeat refine zd ?_
 refine zb ?_
 refine qn (us:=[a,b]) rfl rfl rfl (fun g1 w1 hB1 hg1 hl1=>?_)
 refine zg rfl (zh qD rfl) ?_
 refine ze (za ?_)
 repeat refine zd ?_
 refine zb ?_
 refine zg rfl (zh qD rfl) ?_
 refine ze (za ?_)
 refine zt ?_
 exact zD rfl rfl ⟨hg1,rfl⟩
theorem kindN_fn {w:World}:Fn Tryz.prog 266 ⟨[.agg ⟨[]⟩]⟩ w (fun r w'=>w.grownBy w' none/\r=.int .i64 1):=by
 refine Fn.enter (by kernel_rfl) Tryz.func266 rfl Tryz.ntmps266 rfl ?_
 repeat refine zd ?_
 refine zb ?_
 refine qn (us:=[]) rfl rfl rfl (fun g1 w1 hB1 hg1 hl1=>?_)
 refine zg rfl (zh qD rfl) ?_
 refine ze (za ?_)
 repeat refine zd ?_
 refine zb ?_
 refine zg rfl (zh qD rfl) ?_
 refine ze (za ?_)
 refine zt ?_
 exact zD rfl rfl ⟨hg1,rfl⟩
end
theorem qz {N:Nat} {ops:Array Oper} {Q:Post} {L:qO} {w w0:World} {rest:List Oper} {d:Nat} {ty:TypeId} {pos:String} {af:Array Edge} {r:Operand} {ts:Array TypeId} {v:OV} {F:Nat->Prop} {p:PV} (hd:Nat.blt d N=true) (h:RelD deV w0 [(v,F)] [p]) (hp:p≠.nil) (hr:opv L r=some v.1)
  (hk:∀ w',w.grownBy w' none->WL Tryz.prog N ops Q rest ((d,.int .i64 (jV p)) :: L) w'):WL Tryz.prog N ops Q (⟨some d,.call ⟨.invoke r "Kind",⟨[]⟩,ts⟩,ty,pos,af,none⟩ :: rest) L w:=by
 have h1:=h.one.1
 cases p with
 | nil=>exact absurd rfl hp
 | none =>
  have e:v.1=.iface 221 (.agg ⟨[]⟩):=h1
  rw [e] at hr
  exact qB hd hr (fun w=>by kernel_rfl) rfl kindN_fn (fun v' w' ⟨a,b⟩=>by subst b; exact hk w' a)
 | int z =>
  obtain ⟨a,b,e,_,ha,hb,_⟩:=VR.intOut h rfl
  rw [e] at hr
  exact qB hd hr (fun w=>by kernel_rfl) rfl (kindI_fn ha hb) (fun v' w' ⟨a,b⟩=>by subst b; exact hk w' a)
 | str s =>
  have e:v.1=.iface 169 (vs s):=h1
  rw [e] at hr
  exact qB hd hr (fun w=>by kernel_rfl) rfl (kindS_fn (u:=vs s)) (fun v' w' ⟨a,b⟩=>by subst b; exact hk w' a)
 | emp =>
  obtain ⟨g,A,c,e,_⟩:=VR.empOut h rfl
  rw [e] at hr
  exact qB hd hr (fun w=>by kernel_rfl) rfl (kindL_fn (u:=.pointer (some ⟨g,0,none⟩))) (fun v' w' ⟨a,b⟩=>by subst b; exact hk w' a)
 | tup l =>
  obtain ⟨g,A,c,hs,e,_⟩:=VR.tupOut h rfl
  rw [e] at hr
  exact qB hd hr (fun w=>by kernel_rfl) rfl (kindT_fn (u:=.pointer (some ⟨g,0,none⟩))) (fun v' w' ⟨a,b⟩=>by subst b; exact hk w' a)
end
 end Go.Proofs.YtjoepdjeekadcaaGreatDoor
